/- The reference reads two decimals. -/
import Derived.Test.YtijciakkfpjjbaaGreatDoorM2
import Derived.Lib.ItoaMem
import Derived.Test.YtijciakkfpjjbaaGreatDoorM1
import Derived.Deep.RegionHeld3
import Derived.Test.YtijciakkfpjjbaaGreatDoorSH
import Derived.Lib.AppendIntMem
import Derived.Test.YtijciakkfpjjbaaGreatDoorM0
import Derived.Deep.MidRow
import Derived.Laws.Tables
namespace Go.Proofs.YtijciakkfpjjbaaGreatDoor

theorem sgV_mul (b : Bool) (n k : Nat) : sgV b (n * k) = sgV b n * (k : Int) := by
 cases b
 ·show ((n * k : Nat) : Int) = (n : Int) * (k : Int)
  exact Int.natCast_mul n k
 ·show -((n * k : Nat) : Int) = -(n : Int) * (k : Int)
  rw [Int.natCast_mul, Int.neg_mul]
theorem sgV_not (b : Bool) (n : Nat) : sgV (!b) n = -sgV b n := by
 cases b
 ·rfl
 ·show (n : Int) = -(-(n : Int))
  omega
theorem sgV_zero {b : Bool} {n : Nat} : sgV b n = 0 ↔ n = 0 := by
 cases b
 ·show (n : Int) = 0 ↔ n = 0
  omega
 ·show -(n : Int) = 0 ↔ n = 0
  omega
/-- A decimal's number, by what the reference parsed, at more places. -/
theorem decN_sg {s : ByteArray} {neg : Bool} {a b : List UInt8} (h : DecS s neg a b) {mx : Nat} (h1 : b.length ≤ mx) (h2 : mx ≤ 20) : decN s = sgV neg (amtD (revD (a ++ b)) * bT ^ (mx - b.length)) * ((10 ^ (20 - mx) : Nat) : Int) := by
 rw [← sgV_mul, decN_of h, amt_revD, Nat.mul_assoc, show bT = 10 from rfl, ← Nat.pow_add, show mx - b.length + (20 - mx) = 20 - b.length by omega]
 rfl
/-- Which is the lesser, by the signed difference. -/
theorem cmpD_sg {s t : ByteArray} {n1 n2 : Bool} {a b c d : List UInt8} (hs : DecS s n1 a b) (ht : DecS t n2 c d) {ng : Bool} {o : Nat}
    (h : sgV ng o = sgV n1 (amtD (revD (a ++ b)) * bT ^ (max b.length d.length - b.length)) + sgV (!n2) (amtD (revD (c ++ d)) * bT ^ (max b.length d.length - d.length))) :
    cmpD s t = if o = 0 then 0 else if ng = true then -1 else 1 := by
 have hmx : max b.length d.length ≤ 20 := Nat.max_le.2 ⟨hs.lb.2, ht.lb.2⟩
 have e1 := decN_sg hs (Nat.le_max_left b.length d.length) hmx
 have e2 := decN_sg ht (Nat.le_max_right b.length d.length) hmx
 rw [sgV_not] at h
 generalize sgV n1 (amtD (revD (a ++ b)) * bT ^ (max b.length d.length - b.length)) = P at h e1
 generalize sgV n2 (amtD (revD (c ++ d)) * bT ^ (max b.length d.length - d.length)) = Q at h e2
 have hk : (0 : Int) < ((10 ^ (20 - max b.length d.length) : Nat) : Int) := by
  have : 0 < 10 ^ (20 - max b.length d.length) := Nat.pow_pos (by decide)
  omega
 generalize ((10 ^ (20 - max b.length d.length) : Nat) : Int) = K at e1 e2 hk
 have hlt : decN s < decN t ↔ P < Q := by rw [e1, e2]; exact Int.mul_lt_mul_right hk
 have hgt : decN t < decN s ↔ Q < P := by rw [e1, e2]; exact Int.mul_lt_mul_right hk
 unfold cmpD
 by_cases h0 : o = 0
 ·rw [if_pos h0]
  have hz := (sgV_zero (b := ng) (n := o)).2 h0
  rw [if_neg (fun h3 => by have := hlt.1 h3; omega), if_neg (fun h3 => by have := hgt.1 h3; omega)]
 ·rw [if_neg h0]
  cases ng with
  | true =>
   have h3 : sgV true o = -(o : Int) := rfl
   rw [if_pos rfl, if_pos (hlt.2 (by omega))]
  | false =>
   have h3 : sgV false o = (o : Int) := rfl
   rw [if_neg (show ¬ decN s < decN t from fun h4 => by have := hlt.1 h4; omega), if_pos (hgt.2 (by omega))]
   rfl
end Go.Proofs.YtijciakkfpjjbaaGreatDoor
namespace Go.Proofs.YtijciakkfpjjbaaGreatDoor

theorem zero_amt (O : List Nat) : zeroD O = decide (amtD O = 0) := by
 induction O with
 | nil => rfl
 | cons x r ih =>
  have h1 : zeroD (x :: r) = (x == 0 && zeroD r) := rfl
  rw [h1, ih, amt_cons]
  by_cases hx : x = 0
  ·subst hx
   by_cases hr : amtD r = 0
   ·rw [decide_eq_true hr, decide_eq_true (by omega)]
    rfl
   ·rw [decide_eq_false hr, decide_eq_false (by omega)]
    rfl
  ·have h2 : (x == 0) = false := beq_eq_false_iff_ne.2 hx
   have h3 : ¬ (x + 10 * amtD r = 0) := by omega
   rw [h2, decide_eq_false h3]
   rfl
end Go.Proofs.YtijciakkfpjjbaaGreatDoor
namespace Go.Proofs.YtijciakkfpjjbaaGreatDoor
open Go

theorem dec_value (u : Nat) : digV (Lib.decDigits u) = u := by
 induction u using Nat.strongRecOn with
 | _ u ih =>
  by_cases h : u < 10
  ·rw [Lib.decDigits, dif_pos h]
   show 0 * 10 + ((UInt8.ofNat (48 + u)).toNat - 48) = u
   rw [UInt8.toNat_ofNat', Nat.mod_eq_of_lt (by omega)]
   omega
  ·rw [Lib.decDigits, dif_neg h, dig_snoc, ih (u / 10) (by omega), UInt8.toNat_ofNat', Nat.mod_eq_of_lt (by omega)]
   omega
theorem dec_digits (u : Nat) : (Lib.decDigits u).all digB = true := by
 induction u using Nat.strongRecOn with
 | _ u ih =>
  by_cases h : u < 10
  ·rw [Lib.decDigits, dif_pos h, List.all_cons, List.all_nil, Bool.and_true, digB_iff, UInt8.toNat_ofNat', Nat.mod_eq_of_lt (by omega)]
   omega
  ·rw [Lib.decDigits, dif_neg h, List.all_append, ih (u / 10) (by omega), Bool.true_and, List.all_cons, List.all_nil, Bool.and_true, digB_iff, UInt8.toNat_ofNat', Nat.mod_eq_of_lt (by omega)]
   omega
theorem dec_head {u : Nat} (h0 : 0 < u) : ∃ c r, Lib.decDigits u = c :: r ∧ c ≠ 48 := by
 induction u using Nat.strongRecOn with
 | _ u ih =>
  by_cases h : u < 10
  ·rw [Lib.decDigits, dif_pos h]
   refine ⟨_, _, rfl, fun e => ?_⟩
   have := congrArg UInt8.toNat e
   rw [UInt8.toNat_ofNat', Nat.mod_eq_of_lt (by omega)] at this
   have h48 : (48 : UInt8).toNat = 48 := rfl
   omega
  ·obtain ⟨c, r, e, hc⟩ := ih (u / 10) (by omega) (by omega)
   rw [Lib.decDigits, dif_neg h, e]
   exact ⟨c, _, rfl, hc⟩
theorem dec_len {u : Nat} (h : u ≤ 9223372036854775808) : 1 ≤ (Lib.decDigits u).length ∧ (Lib.decDigits u).length ≤ 20 := by
 rw [Lib.decDigits_length]
 refine ⟨Lib.nDigits_pos u, ?_⟩
 rcases Nat.lt_or_ge 20 (Lib.nDigits u) with h1 | h1
 ·obtain ⟨k, hk⟩ : ∃ k, Lib.nDigits u = k + 1 := ⟨Lib.nDigits u - 1, by omega⟩
  exfalso
  have key : ∀ k u, Lib.nDigits u = k + 1 → 0 < k → 10 ^ k ≤ u := by
   intro k
   induction k with
   | zero => intro u _ h; omega
   | succ k ih =>
    intro u hu _
    have hb : ¬ u < 10 := fun h => by rw [Lib.nDigits_small h] at hu; omega
    rw [Lib.nDigits_big hb] at hu
    rw [Nat.pow_succ]
    rcases Nat.eq_zero_or_pos k with h0 | h0
    ·subst h0; omega
    ·have := ih (u / 10) (by omega) h0
     omega
  have h2 := key k u hk (by omega)
  have h3 : 10 ^ 20 ≤ 10 ^ k := Nat.pow_le_pow_right (by decide) (by omega)
  have h4 : (100000000000000000000 : Nat) = 10 ^ 20 := by decide
  omega
 ·exact h1
/-- A whole number's decimal. -/
def ofIntT (n : Int) : ByteArray := ⟨(Lib.itoa n ++ [46, 48]).toArray⟩
theorem itoa_abs (n : Int) : Lib.itoa n = cond (decide (n < 0)) [45] [] ++ Lib.decDigits n.natAbs := by
 unfold Lib.itoa
 by_cases h : n < 0
 ·rw [if_pos h, decide_eq_true h]; rfl
 ·rw [if_neg h, decide_eq_false h]
  have : n.toNat = n.natAbs := by omega
  rw [this]; rfl
theorem ofInt_shape {n : Int} (h0 : -9223372036854775808 ≤ n) (h1 : n ≤ 9223372036854775807) : DecS (ofIntT n) (decide (n < 0)) (Lib.decDigits n.natAbs) [48] where
 eq := by
  unfold ofIntT
  rw [itoa_abs]
  simp
 la := by
  have := dec_len (u := n.natAbs) (by omega)
  omega
 lb := ⟨Nat.le_refl _, by decide⟩
 da := dec_digits _
 db := by decide
/-- What it says. -/
theorem ten_twenty (u : Nat) : (u * 10 ^ 1 + 0) * 10 ^ 19 = u * 100000000000000000000 := by
 have e : (10 : Nat) ^ 1 * 10 ^ 19 = 100000000000000000000 := by decide
 rw [Nat.add_zero, Nat.mul_assoc, e]
theorem decN_ofInt {n : Int} (h0 : -9223372036854775808 ≤ n) (h1 : n ≤ 9223372036854775807) : decN (ofIntT n) = n * 100000000000000000000 := by
 have hz : digV [48] = 0 := rfl
 have hl : ([48] : List UInt8).length = 1 := rfl
 rw [decN_of (ofInt_shape h0 h1), dig_append, dec_value, hz, hl]
 have e19 : 20 - 1 = 19 := rfl
 rw [e19, ten_twenty]
 by_cases h : n < 0
 ·rw [decide_eq_true h, cond_true]
  have : (n.natAbs : Int) = -n := by omega
  omega
 ·rw [decide_eq_false h, cond_false]
  have : (n.natAbs : Int) = n := by omega
  omega
theorem high_of {D : List Nat} {n : Nat} (hl : D.length = n + 1) (h : n = 1 ∨ atD D n ≠ 0) : highF D 1 D.length = n + 1 := by
 rw [hl]
 show (if 1 + 1 < n + 1 ∧ atD D n = 0 then highF D 1 n else n + 1) = n + 1
 rcases h with h | h
 ·subst h; rfl
 ·rw [if_neg (fun h2 => h h2.2)]
theorem decB_ofInt {n : Int} (h0 : -9223372036854775808 ≤ n) (h1 : n ≤ 9223372036854775807) : decB (ofIntT n) = true := by
 have hs := ofInt_shape h0 h1
 have hp := dec_parse hs
 obtain ⟨a, ha⟩ : ∃ a, Lib.decDigits n.natAbs = a := ⟨_, rfl⟩
 rw [ha] at hs hp
 have hla := hs.la
 have hda := hs.da
 have hval : digV a = n.natAbs := by rw [← ha]; exact dec_value _
 have hhd : a.length = 1 ∨ a[0]'(by omega) ≠ 48 := by
  rcases Nat.eq_zero_or_pos n.natAbs with h | h
  ·left
   rw [h] at ha
   rw [← ha, Lib.decDigits_length, Lib.nDigits_small (by decide)]
  ·right
   obtain ⟨c, r, e, hc⟩ := dec_head h
   rw [ha] at e
   subst e
   exact hc
 have hDl : (revD (a ++ [48])).length = a.length + 1 := by rw [revD_length]; simp
 have hat : ∀ j, j < a.length → atD (revD (a ++ [48])) (a.length - j) = valU (a[j]!) := fun j hj => by
  rw [atD_rev _ (by simp; omega)]
  congr 1
  simp only [List.length_append, List.length_singleton]
  rw [getElem!_pos a j hj, List.getElem_append_left (by omega)]
  congr 1
  omega
 have hat0 : atD (revD (a ++ [48])) 0 = 0 := by
  rw [atD_rev _ (by simp)]
  simp [valU]
 have hhigh : highD (revD (a ++ [48])) 1 = a.length + 1 := by
  unfold highD
  rw [high_of hDl (by
   rcases hhd with h | h
   ·exact .inl h
   ·right
    have h2 := hat 0 (by omega)
    rw [Nat.sub_zero] at h2
    rw [h2]
    intro h3
    apply h
    have hb : digB (a[0]'(by omega)) = true := List.all_eq_true.1 hda _ (List.getElem_mem _)
    rw [digB_iff] at hb
    rw [getElem!_pos a 0 (by omega)] at h3
    unfold valU at h3
    apply UInt8.toNat_inj.1
    have h48 : (48 : UInt8).toNat = 48 := rfl
    omega)]
  exact Nat.max_eq_left (by omega)
 have hlow : lowD (revD (a ++ [48])) 1 = 1 := by
  show (if 0 < 1 ∧ atD (revD (a ++ [48])) 0 = 0 then lowF (revD (a ++ [48])) 1 0 1 else 0) = 1
  rw [if_pos ⟨by decide, hat0⟩]
  rfl
 have hdown : downD (revD (a ++ [48])) (a.length + 1) 1 = a := by
  apply List.ext_getElem
  ·rw [downD_length]; omega
  ·intro j h2 h3
   simp only [downD, List.getElem_map, List.getElem_range]
   rw [show a.length + 1 - 1 - j = a.length - j by omega, hat j h3, getElem!_pos a j h3]
   exact digU_val (List.all_eq_true.1 hda _ (List.getElem_mem _))
 have hzero : (decide (n < 0) && !zeroD (revD (a ++ [48]))) = decide (n < 0) := by
  by_cases h : n < 0
  ·have hne : ¬ digV (a ++ [48]) = 0 := by
     have hz : digV [48] = 0 := rfl
     rw [dig_append, hval, hz]
     show ¬ n.natAbs * 10 ^ 1 + 0 = 0
     omega
   rw [zero_amt, amt_revD, decide_eq_true h, decide_eq_false hne]
   rfl
  ·rw [decide_eq_false h]; rfl
 have hread : readT (ofIntT n) = (ofIntT n, 0) := by
  unfold readT
  rw [hp]
  have hl1 : ([48] : List UInt8).length = 1 := rfl
  simp only [hl1]
  have hout : formOut (revD (a ++ [48])) 1 = false := by
   unfold formOut
   rw [hhigh, hlow, decide_eq_false (by omega), decide_eq_false (by omega)]
   rfl
  rw [hout]
  simp only [cond_false]
  have hform : formT (decide (n < 0)) (revD (a ++ [48])) 1 = ofIntT n := by
   unfold formT ofIntT
   rw [hzero, hhigh, hlow, hdown, downD_nil, itoa_abs, ha]
   simp
  rw [hform]
 unfold decB
 rw [hread]
 simp
/-- Whole numbers by their decimals stand as they do. -/
theorem cmpD_ints {a b : Int} (ha0 : -9223372036854775808 ≤ a) (ha1 : a ≤ 9223372036854775807) (hb0 : -9223372036854775808 ≤ b) (hb1 : b ≤ 9223372036854775807) :
    cmpD (ofIntT a) (ofIntT b) = if a < b then -1 else if b < a then 1 else 0 := by
 unfold cmpD
 rw [decN_ofInt ha0 ha1, decN_ofInt hb0 hb1]
 by_cases h : a < b
 ·rw [if_pos (by omega), if_pos h]
 ·rw [if_neg (by omega), if_neg h]
  by_cases h2 : b < a
  ·rw [if_pos (by omega), if_pos h2]
  ·rw [if_neg (by omega), if_neg h2]
end Go.Proofs.YtijciakkfpjjbaaGreatDoor
namespace Go.Proofs.YtijciakkfpjjbaaGreatDoor
open Go Go.RowKit Go.Shelf Go.Lib

def bK (l : List UInt8) : ByteArray := ⟨l.toArray⟩
theorem bK_size (l : List UInt8) : (bK l).size = l.length := by simp [bK, ByteArray.size]
theorem bK_data (l : List UInt8) : (bK l).data.toList = l := rfl
theorem bK_toList (l : List UInt8) : (bK l).toList = l := Lib.toList_data (bK l)
theorem bK_app (a b : List UInt8) : bK a ++ bK b = bK (a ++ b) := by
 apply ByteArray.ext
 simp [bK, ByteArray.data_append]
theorem bK_take (a : List UInt8) {k : Nat} : (bK a).extract 0 k = bK (a.take k) := by
 apply ByteArray.ext
 simp [bK]
theorem bK_drop (a : List UInt8) {k n : Nat} (h : a.length = n) : (bK a).extract k n = bK (a.drop k) := by
 apply ByteArray.ext
 subst h
 simp [bK]
 exact List.take_of_length_le (by simp)
theorem repeat_zero (n : Nat) : Lib.repeatL [48] n = List.replicate n 48 := by
 induction n with
 | zero => rfl
 | succ n ih => simp [Lib.repeatL, ih, List.replicate_succ]
theorem padT_length (d : List UInt8) (sc : Nat) : (padT d sc).length = max d.length (sc + 1) := by
 unfold padT
 split
 ·simp; omega
 ·omega
theorem wholeT_le (d : List UInt8) (sc : Nat) : (wholeT d sc).length ≤ d.length + 1 := by
 unfold wholeT Lib.trimLeftS
 have h := (List.dropWhile_sublist ([48].contains ·) (l := (padT d sc).take ((padT d sc).length - sc))).length_le
 have := padT_length d sc
 rw [List.length_take] at h
 omega
theorem partT_le (d : List UInt8) (sc : Nat) : (partT d sc).length ≤ sc := by
 unfold partT Lib.trimRightS
 rw [List.length_reverse]
 have h := (List.dropWhile_sublist ([48].contains ·) (l := ((padT d sc).drop ((padT d sc).length - sc)).reverse)).length_le
 have := padT_length d sc
 rw [List.length_reverse, List.length_drop] at h
 omega
/-- What told hands back. -/
def ToldIs (neg : Bool) (d : List UInt8) (sc : Nat) (w : World) (e : Ending) (w' : World) : Prop := Below w.heap.size w w' ∧ e = .returned (.tuple #[.string (bK (toldT neg d sc).1), .int .i64 (toldT neg d sc).2])
set_option maxRecDepth 100000 in
set_option maxHeartbeats 2000000 in
theorem told_any (neg : Bool) (d : List UInt8) (sc : Nat) (hd : d.length ≤ 1000000) (hsc : sc ≤ 1000000) (w : World) :
    Calls Tryz.prog 176 #[.bool neg, .string (bK d), .int .i64 (sc : Int)] w (ToldIs neg d sc w) := by
 obtain ⟨n, Hn⟩ := name_itV d.length
 have hn : (bK d).size = n := by rw [bK_size]; exact Hn.out
 have hnb : n ≤ 1000000 := by rw [← Hn.out]; exact hd
 obtain ⟨D, HD⟩ := name_itV (bK d)
 obtain ⟨P, HP⟩ := name_itV (padT d sc)
 obtain ⟨Wl, HW⟩ := name_itV (wholeT d sc)
 obtain ⟨Pl, HPl⟩ := name_itV (partT d sc)
 have hPl := padT_length d sc
 have hWle := wholeT_le d sc
 have hple := partT_le d sc
 rw [HP.out, Hn.out] at hPl
 rw [HW.out, Hn.out] at hWle
 rw [HPl.out] at hple
 obtain ⟨K, HK⟩ := name_itV (P.length - sc)
 have hKb : K ≤ 1000001 := by rw [← HK.out]; omega
 have hw := Lib.hid (show Lib.trimLeftS (P.take K) [48] = Wl from by rw [← HW.out, ← HK.out, ← HP.out]; rfl)
 have hp := Lib.hid (show Lib.trimRightS (P.drop K) [48] = Pl from by rw [← HPl.out, ← HK.out, ← HP.out]; rfl)
 have htold := Lib.hid (show toldT neg d sc = (if 40 < Wl.length ∨ 20 < Pl.length then ([], 2)
  else if Wl = [] ∧ Pl = [] then ([48, 46, 48], 0)
  else ((if neg = true then [45] else []) ++ (if Wl = [] then [48] else Wl) ++ [46] ++ (if Pl = [] then [48] else Pl), 0)) from by unfold toldT; rw [HW.out, HPl.out])
 rw [HD.out]
 have hDs : D.size = n := by rw [← HD.out]; exact hn
 have HDs := Lib.hid hDs
 clear hn hDs hd
 go_enter Tryz.func176, Tryz.ntmps176
 go_upto_if 13 with fail
 go_cut [1] (fun s1 wx => s1 = .string (bK P) ∧ Below w.heap.size w wx)
 case first =>
  by_cases hle : n ≤ sc
  ·obtain ⟨c, hc⟩ : ∃ c : Nat, c = sc + 1 - n := ⟨_, rfl⟩
   have hrep := Lib.hid (repeat_any ⟨#[48]⟩ c w (by omega) (by rw [show (⟨#[48]⟩ : ByteArray).size = 1 from rfl, Nat.one_mul]; omega))
   have w1 : IntKind.i64.wrap ((sc : Int) + 1) = (sc : Int) + 1 := IntWalk.i64_in _ (by omega)
   have w2 : IntKind.i64.wrap ((sc : Int) + 1 - (D.size : Int)) = (c : Int) := by rw [HDs.out, IntWalk.i64_in _ (by omega)]; omega
   have e1 : D.size ≤ sc := by rw [HDs.out]; omega
   have e2 : (sc : Int) + 1 - (D.size : Int) = (c : Int) := by rw [HDs.out]; omega
   have hpd := Lib.hid (show bK (List.replicate c 48) ++ D = bK P from by
    rw [← HD.out, ← HP.out, bK_app]
    unfold padT
    rw [if_pos (by rw [Hn.out]; exact hle), Hn.out, hc])
   have hlist : (⟨#[48]⟩ : ByteArray).data.toList = [48] := rfl
   have hrep2 := hrep.out
   rw [hlist, repeat_zero] at hrep2
   have hrep3 := Lib.hid (show Calls Tryz.prog 186 #[.string ⟨#[48]⟩, .int .i64 (c : Int)] w fun e w' => e = .returned (.string (bK (List.replicate c 48))) ∧ Below w.heap.size w w' from hrep2)
   obtain ⟨Z, HZ⟩ := name_itV (bK (List.replicate c 48))
   have hZs : Z.size ≤ 1000001 := by rw [← HZ.out, bK_size, List.length_replicate]; omega
   rw [HZ.out] at hrep3 hpd
   have hadd : ∀ W : World, (Op.stringOp .add Z D).run Tryz.prog W = .ok (.string (Z ++ D)) W := fun W => run_string_add_sum W _ _ (by rw [HDs.out]; omega)
   clear hrep2 hrep hlist hc
   go_wp2_with fail; refine hrep3.out.mono ?_; rintro e w' ⟨rfl, hB⟩
   have HB := Lib.hid hB
   clear hB
   go_wp2_with fail
   go_meet
   exact ⟨by rw [hpd.out], HB.out⟩
  ·have e1 : ¬ D.size ≤ sc := by rw [HDs.out]; omega
   have hpd := Lib.hid (show D = bK P from by
    rw [← HD.out, ← HP.out]
    unfold padT
    rw [if_neg (by rw [Hn.out]; exact hle)])
   go_wp2_with fail
   go_meet
   exact ⟨by rw [hpd.out], Below.refl _ _⟩
 case rest =>
  obtain ⟨rfl, hB1⟩ := hcut
  have HB1 := Lib.hid hB1
  clear hB1
  rename World => w1
  obtain ⟨Pb, HPb⟩ := name_itV (bK P)
  have hPs : Pb.size = K + sc := by rw [← HPb.out, bK_size, ← HK.out]; omega
  have HPs := Lib.hid hPs
  have hslice1 := Lib.hid (show Pb.extract 0 K = bK (P.take K) from by rw [← HPb.out]; exact bK_take P)
  have hslice2 := Lib.hid (show Pb.extract K Pb.size = bK (P.drop K) from by rw [← HPb.out, bK_size]; exact bK_drop P rfl)
  rw [HPb.out]
  have w3 : IntKind.i64.wrap ((Pb.size : Int) - (sc : Int)) = (K : Int) := by rw [HPs.out, IntWalk.i64_in _ (by omega)]; omega
  have w4 : (0 : Int) ≤ (K : Int) := by omega
  have w5 : (K : Int) ≤ (Pb.size : Int) := by rw [HPs.out]; omega
  have w6 : ((K : Int)).toNat = K := rfl
  have htr := Lib.hid (fun (W : World) => show Calls Tryz.prog 187 #[.string (Pb.extract K Pb.size), .string ⟨#[48]⟩] W fun e w' => e = .returned (.string (bK Pl)) ∧ Below W.heap.size W w' from by
   have := trimRZero (Pb.extract K Pb.size) W (by rw [hslice2.out, bK_size, List.length_drop]; omega)
   rw [hslice2.out, bK_data, hp.out] at this
   rw [hslice2.out]
   exact this)
  clear hPs
  have p1 := Lib.hid (show Below w.heap.size w w1.drew from ⟨HB1.out.os, HB1.out.tape, HB1.out.output, HB1.out.size, HB1.out.block⟩)
  go_upto_region 3 with fail
  go_cut [8, 9] (fun s8 s9 wx => s8 = .string (bK (P.take K)) ∧ s9 = .string (bK Pl) ∧ Below w.heap.size w wx)
  case first =>
   go_region_held3 (fun w' => Below w.heap.size w w') (first | exact p1.out | exact HB1.out | exact HB2.out | (trace_state; fail))
    (first | (go_at_call 187; refine (htr.out _).mono ?_; rintro e w2 ⟨rfl, hb2⟩; have HB2 := Lib.hid (p1.out.trans (hb2.mono p1.out.size)); clear hb2))
   go_wp2_with fail
   go_meet
   exact ⟨by rw [hslice1.out], rfl, HB2.out⟩
  case rest =>
   obtain ⟨h8, h9, hB2⟩ := hcut
   have HB2 := Lib.hid hB2
   clear hB2
   rename World => w2
   have htl := Lib.hid (fun (W : World) => show Calls Tryz.prog 188 #[.string (bK (P.take K)), .string ⟨#[48]⟩] W fun e w' => e = .returned (.string (bK Wl)) ∧ Below W.heap.size W w' from by
    have := trimLZero (bK (P.take K)) W
    rw [bK_data, hw.out] at this
    exact this)
   obtain ⟨Tk, HTk⟩ := name_itV (bK (P.take K))
   rw [HTk.out] at htl h8
   subst h8 h9
   obtain ⟨wb, Hwb⟩ := name_itV (bK Wl)
   obtain ⟨pb, Hpb⟩ := name_itV (bK Pl)
   have hws : wb.size = Wl.length := by rw [← Hwb.out, bK_size]
   have hps : pb.size = Pl.length := by rw [← Hpb.out, bK_size]
   have hwt : wb.toList = Wl := by rw [← Hwb.out, bK_toList]
   have hpt : pb.toList = Pl := by rw [← Hpb.out, bK_toList]
   have HWS := Lib.hid hws
   have HPS := Lib.hid hps
   have HWT := Lib.hid hwt
   have HPT := Lib.hid hpt
   rw [Hwb.out] at htl
   rw [Hpb.out]
   have hwb2 : wb.size ≤ 1000001 := by rw [hws]; omega
   have hpb2 : pb.size ≤ 1000001 := by rw [hps]; omega
   clear hws hps hwt hpt w3 w4 w5 w6
   go_wp2_with fail; refine (htl.out _).mono ?_; rintro e w3 ⟨rfl, hb3⟩
   have HB3 := Lib.hid (HB2.out.trans (hb3.mono HB2.out.size))
   clear hb3
   by_cases hov : 40 < Wl.length ∨ 20 < Pl.length
   ·have ht := Lib.hid (show toldT neg d sc = ([], 2) from by rw [htold.out, if_pos hov])
    by_cases ho1 : 40 < wb.size
    ·have o1 : (40 : Int) < (wb.size : Int) := by omega
     go_wp2_with fail
     exact bodyPost_ret (v := .tuple #[.string ⟨#[]⟩, .int .i64 2]) (by simp [results, Tryz.results176, go_sem]) rfl ⟨HB3.out, by rw [ht.out]; rfl⟩
    ·have o1 : ¬ (40 : Int) < (wb.size : Int) := by omega
     have o2 : (20 : Int) < (pb.size : Int) := by rw [HPS.out]; rw [HWS.out] at ho1; omega
     go_wp2_with fail
     exact bodyPost_ret (v := .tuple #[.string ⟨#[]⟩, .int .i64 2]) (by simp [results, Tryz.results176, go_sem]) rfl ⟨HB3.out, by rw [ht.out]; rfl⟩
   ·have o1 : ¬ (40 : Int) < (wb.size : Int) := by rw [HWS.out]; omega
    have o2 : ¬ (20 : Int) < (pb.size : Int) := by rw [HPS.out]; omega
    by_cases hw0 : Wl = []
    ·have q1 : wb.toList = [] := by rw [HWT.out]; exact hw0
     by_cases hp0 : Pl = []
     ·have q2 : pb.toList = [] := by rw [HPT.out]; exact hp0
      have ht := Lib.hid (show toldT neg d sc = ([48, 46, 48], 0) from by rw [htold.out, if_neg hov, if_pos ⟨hw0, hp0⟩])
      clear hov hw0 hp0
      go_wp2_with fail
      exact bodyPost_ret (v := .tuple #[.string ⟨#[48, 46, 48]⟩, .int .i64 0]) (by simp [results, Tryz.results176, go_sem]) rfl ⟨HB3.out, by rw [ht.out]; rfl⟩
     ·have q2 : ¬ pb.toList = [] := by rw [HPT.out]; exact hp0
      have q2i : pb.toList.isEmpty = false := by rw [HPT.out]; simpa using hp0
      have ht := Lib.hid (show toldT neg d sc = ((if neg = true then [45] else []) ++ [48] ++ [46] ++ Pl, 0) from by rw [htold.out, if_neg hov, if_neg (fun h => hp0 h.2), if_pos hw0, if_neg hp0])
      clear hov hw0 hp0
      cases neg with
      | true =>
       have a1 : ∀ W : World, (Op.stringOp .add ⟨#[45]⟩ ⟨#[48]⟩).run Tryz.prog W = .ok (.string (⟨#[45]⟩ ++ ⟨#[48]⟩)) W := fun W => run_string_add_sum W _ _ (by decide)
       have a2 : ∀ W : World, (Op.stringOp .add (⟨#[45]⟩ ++ ⟨#[48]⟩) ⟨#[46]⟩).run Tryz.prog W = .ok (.string (⟨#[45]⟩ ++ ⟨#[48]⟩ ++ ⟨#[46]⟩)) W := fun W => run_string_add_sum W _ _ (by decide)
       have a3 : ∀ W : World, (Op.stringOp .add (⟨#[45]⟩ ++ ⟨#[48]⟩ ++ ⟨#[46]⟩) pb).run Tryz.prog W = .ok (.string (⟨#[45]⟩ ++ ⟨#[48]⟩ ++ ⟨#[46]⟩ ++ pb)) W := fun W => run_string_add_sum W _ _ (by rw [show ((⟨#[45]⟩ ++ ⟨#[48]⟩ ++ ⟨#[46]⟩ : ByteArray)).size = 3 from rfl]; omega)
       go_wp2_with fail
       exact bodyPost_ret (v := .tuple #[.string (⟨#[45]⟩ ++ ⟨#[48]⟩ ++ ⟨#[46]⟩ ++ pb), .int .i64 0]) (by simp [results, Tryz.results176, go_sem]) rfl ⟨HB3.out, by rw [ht.out, ← Hpb.out]; exact congrArg (fun z => Ending.returned (.tuple #[.string z, .int .i64 0])) (bK_app [45, 48, 46] Pl)⟩
      | false =>
       have a2 : ∀ W : World, (Op.stringOp .add ⟨#[48]⟩ ⟨#[46]⟩).run Tryz.prog W = .ok (.string (⟨#[48]⟩ ++ ⟨#[46]⟩)) W := fun W => run_string_add_sum W _ _ (by decide)
       have a3 : ∀ W : World, (Op.stringOp .add (⟨#[48]⟩ ++ ⟨#[46]⟩) pb).run Tryz.prog W = .ok (.string (⟨#[48]⟩ ++ ⟨#[46]⟩ ++ pb)) W := fun W => run_string_add_sum W _ _ (by rw [show ((⟨#[48]⟩ ++ ⟨#[46]⟩ : ByteArray)).size = 2 from rfl]; omega)
       go_wp2_with fail
       exact bodyPost_ret (v := .tuple #[.string (⟨#[48]⟩ ++ ⟨#[46]⟩ ++ pb), .int .i64 0]) (by simp [results, Tryz.results176, go_sem]) rfl ⟨HB3.out, by rw [ht.out, ← Hpb.out]; exact congrArg (fun z => Ending.returned (.tuple #[.string z, .int .i64 0])) (bK_app [48, 46] Pl)⟩
    ·have q1 : ¬ wb.toList = [] := by rw [HWT.out]; exact hw0
     have q1i : wb.toList.isEmpty = false := by rw [HWT.out]; simpa using hw0
     by_cases hp0 : Pl = []
     ·have q2 : pb.toList = [] := by rw [HPT.out]; exact hp0
      have ht := Lib.hid (show toldT neg d sc = ((if neg = true then [45] else []) ++ Wl ++ [46] ++ [48], 0) from by rw [htold.out, if_neg hov, if_neg (fun h => hw0 h.1), if_neg hw0, if_pos hp0])
      clear hov hw0 hp0
      cases neg with
      | true =>
       have a1 : ∀ W : World, (Op.stringOp .add ⟨#[45]⟩ wb).run Tryz.prog W = .ok (.string (⟨#[45]⟩ ++ wb)) W := fun W => run_string_add_sum W _ _ (by rw [show ((⟨#[45]⟩ : ByteArray)).size = 1 from rfl]; omega)
       have a2 : ∀ W : World, (Op.stringOp .add (⟨#[45]⟩ ++ wb) ⟨#[46]⟩).run Tryz.prog W = .ok (.string (⟨#[45]⟩ ++ wb ++ ⟨#[46]⟩)) W := fun W => run_string_add_sum W _ _ (by rw [ByteArray.size_append, show ((⟨#[45]⟩ : ByteArray)).size = 1 from rfl, show ((⟨#[46]⟩ : ByteArray)).size = 1 from rfl]; omega)
       have a3 : ∀ W : World, (Op.stringOp .add (⟨#[45]⟩ ++ wb ++ ⟨#[46]⟩) ⟨#[48]⟩).run Tryz.prog W = .ok (.string (⟨#[45]⟩ ++ wb ++ ⟨#[46]⟩ ++ ⟨#[48]⟩)) W := fun W => run_string_add_sum W _ _ (by rw [ByteArray.size_append, ByteArray.size_append, show ((⟨#[45]⟩ : ByteArray)).size = 1 from rfl, show ((⟨#[46]⟩ : ByteArray)).size = 1 from rfl, show ((⟨#[48]⟩ : ByteArray)).size = 1 from rfl]; omega)
       go_wp2_with fail
       exact bodyPost_ret (v := .tuple #[.string (⟨#[45]⟩ ++ wb ++ ⟨#[46]⟩ ++ ⟨#[48]⟩), .int .i64 0]) (by simp [results, Tryz.results176, go_sem]) rfl ⟨HB3.out, by rw [ht.out, ← Hwb.out]; exact congrArg (fun z => Ending.returned (.tuple #[.string z, .int .i64 0])) (by rw [← bK_app, ← bK_app, ← bK_app]; rfl)⟩
      | false =>
       have a2 : ∀ W : World, (Op.stringOp .add wb ⟨#[46]⟩).run Tryz.prog W = .ok (.string (wb ++ ⟨#[46]⟩)) W := fun W => run_string_add_sum W _ _ (by rw [show ((⟨#[46]⟩ : ByteArray)).size = 1 from rfl]; omega)
       have a3 : ∀ W : World, (Op.stringOp .add (wb ++ ⟨#[46]⟩) ⟨#[48]⟩).run Tryz.prog W = .ok (.string (wb ++ ⟨#[46]⟩ ++ ⟨#[48]⟩)) W := fun W => run_string_add_sum W _ _ (by rw [ByteArray.size_append, show ((⟨#[46]⟩ : ByteArray)).size = 1 from rfl, show ((⟨#[48]⟩ : ByteArray)).size = 1 from rfl]; omega)
       go_wp2_with fail
       exact bodyPost_ret (v := .tuple #[.string (wb ++ ⟨#[46]⟩ ++ ⟨#[48]⟩), .int .i64 0]) (by simp [results, Tryz.results176, go_sem]) rfl ⟨HB3.out, by rw [ht.out, ← Hwb.out]; exact congrArg (fun z => Ending.returned (.tuple #[.string z, .int .i64 0])) (by rw [if_neg (by decide), List.nil_append, ← bK_app, ← bK_app]; rfl)⟩
     ·have q2 : ¬ pb.toList = [] := by rw [HPT.out]; exact hp0
      have q2i : pb.toList.isEmpty = false := by rw [HPT.out]; simpa using hp0
      have ht := Lib.hid (show toldT neg d sc = ((if neg = true then [45] else []) ++ Wl ++ [46] ++ Pl, 0) from by rw [htold.out, if_neg hov, if_neg (fun h => hp0 h.2), if_neg hw0, if_neg hp0])
      clear hov hw0 hp0
      cases neg with
      | true =>
       have a1 : ∀ W : World, (Op.stringOp .add ⟨#[45]⟩ wb).run Tryz.prog W = .ok (.string (⟨#[45]⟩ ++ wb)) W := fun W => run_string_add_sum W _ _ (by rw [show ((⟨#[45]⟩ : ByteArray)).size = 1 from rfl]; omega)
       have a2 : ∀ W : World, (Op.stringOp .add (⟨#[45]⟩ ++ wb) ⟨#[46]⟩).run Tryz.prog W = .ok (.string (⟨#[45]⟩ ++ wb ++ ⟨#[46]⟩)) W := fun W => run_string_add_sum W _ _ (by rw [ByteArray.size_append, show ((⟨#[45]⟩ : ByteArray)).size = 1 from rfl, show ((⟨#[46]⟩ : ByteArray)).size = 1 from rfl]; omega)
       have a3 : ∀ W : World, (Op.stringOp .add (⟨#[45]⟩ ++ wb ++ ⟨#[46]⟩) pb).run Tryz.prog W = .ok (.string (⟨#[45]⟩ ++ wb ++ ⟨#[46]⟩ ++ pb)) W := fun W => run_string_add_sum W _ _ (by rw [ByteArray.size_append, ByteArray.size_append, show ((⟨#[45]⟩ : ByteArray)).size = 1 from rfl, show ((⟨#[46]⟩ : ByteArray)).size = 1 from rfl]; omega)
       go_wp2_with fail
       exact bodyPost_ret (v := .tuple #[.string (⟨#[45]⟩ ++ wb ++ ⟨#[46]⟩ ++ pb), .int .i64 0]) (by simp [results, Tryz.results176, go_sem]) rfl ⟨HB3.out, by rw [ht.out, ← Hwb.out, ← Hpb.out]; exact congrArg (fun z => Ending.returned (.tuple #[.string z, .int .i64 0])) (by rw [← bK_app, ← bK_app, ← bK_app]; rfl)⟩
      | false =>
       have a2 : ∀ W : World, (Op.stringOp .add wb ⟨#[46]⟩).run Tryz.prog W = .ok (.string (wb ++ ⟨#[46]⟩)) W := fun W => run_string_add_sum W _ _ (by rw [show ((⟨#[46]⟩ : ByteArray)).size = 1 from rfl]; omega)
       have a3 : ∀ W : World, (Op.stringOp .add (wb ++ ⟨#[46]⟩) pb).run Tryz.prog W = .ok (.string (wb ++ ⟨#[46]⟩ ++ pb)) W := fun W => run_string_add_sum W _ _ (by rw [ByteArray.size_append, show ((⟨#[46]⟩ : ByteArray)).size = 1 from rfl]; omega)
       go_wp2_with fail
       exact bodyPost_ret (v := .tuple #[.string (wb ++ ⟨#[46]⟩ ++ pb), .int .i64 0]) (by simp [results, Tryz.results176, go_sem]) rfl ⟨HB3.out, by rw [ht.out, ← Hwb.out, ← Hpb.out]; exact congrArg (fun z => Ending.returned (.tuple #[.string z, .int .i64 0])) (by rw [if_neg (by decide), List.nil_append, ← bK_app, ← bK_app]; rfl)⟩
end Go.Proofs.YtijciakkfpjjbaaGreatDoor
namespace Go.Proofs.YtijciakkfpjjbaaGreatDoor
open Go Go.RowKit Go.Shelf Go.Lib

/-- The library's own number that strings.Cut reads lies in its cell. -/
def GlobB (w : World) : Prop := ∃ m : Int, w.cell? ⟨Tryz.lays145_ren.g 1, 0, none⟩ = some (.int .i64 m)
theorem glob_under {w w' : World} (h : GlobB w) (hb : Below w.heap.size w w') : GlobB w' := by
 obtain ⟨m, hm⟩ := h
 refine ⟨m, (hb.cell (p := ⟨Tryz.lays145_ren.g 1, 0, none⟩) ?_).trans hm⟩
 refine Classical.byContradiction fun hn => ?_
 have : w.heap[Tryz.lays145_ren.g 1]? = none := Array.getElem?_eq_none (by simpa using hn)
 unfold World.cell? at hm
 simp only [this] at hm
 cases hm
theorem pre_of {s : ByteArray} (c : UInt8) : Lib.hasPrefix s.data.toList [c] = (s.data.toList.head? == some c) := by
 unfold Lib.hasPrefix
 cases s.data.toList with
 | nil => rfl
 | cons d l => simp [List.isPrefixOf, Bool.beq_eq_decide_eq, eq_comm]
def ProgIs (s : ByteArray) (w : World) (e : Ending) (w' : World) : Prop := Below w.heap.size w w' ∧ e = .returned (.tuple #[.string (readT s).1, .int .i64 (readT s).2])
theorem below_drewN {b : Nat} {w w' : World} (h : Below b w w') (m : Nat) : Below b w (w'.drewN m) := ⟨h.os, h.tape, h.output, h.size, h.block⟩

set_option maxRecDepth 100000 in
set_option maxHeartbeats 1000000 in
theorem progRead_any (s : ByteArray) (hs : s.size ≤ 100000) (w : World) (hg : GlobB w) : Calls Tryz.prog 163 #[.string s] w (ProgIs s w) := by
 obtain ⟨t, HT⟩ := name_itV (sgnT s)
 have ht : t.size ≤ 100000 := by rw [← HT.out]; exact Nat.le_trans (sgn_size s) hs
 obtain ⟨sb, HSB⟩ := name_itV (sgnB s)
 obtain ⟨c1, HC1⟩ := name_itV (Lib.cut t.data.toList [46]).1
 obtain ⟨c2, HC2⟩ := name_itV (Lib.cut t.data.toList [46]).2.1
 obtain ⟨c3, HC3⟩ := name_itV (Lib.cut t.data.toList [46]).2.2
 have hread := Lib.hid (show ((bK (progT s).1 : ByteArray), (progT s).2) = readT s from prog_read s)
 have hprog := Lib.hid (show progT s = (if numL c1 = true ∧ (c3 = true → numL c2 = true) then toldT sb (c1 ++ c2) c2.length else ([], 6)) from by
  unfold progT; simp only [HT.out, HSB.out, HC1.out, HC2.out, HC3.out])
 have hlen := Lib.hid (show c1.length + c2.length ≤ t.size from by
  rw [← HC1.out, ← HC2.out, ← data_len t]
  rcases split_dot t.data.toList with h | ⟨a, b, h, hab⟩
  ·rw [cut_no h]; simp
  ·rw [h, cut_yes hab]; simp)
 have hpm := Lib.hid (fun W : World => prefix_any s ⟨#[45]⟩ W)
 have hpp := Lib.hid (fun W : World => prefix_any s ⟨#[43]⟩ W)
 have hm1 := Lib.hid (show Lib.hasPrefix s.data.toList (⟨#[45]⟩ : ByteArray).data.toList = sb from by
  rw [← HSB.out]; exact pre_of 45)
 have hm2 := Lib.hid (show (sb || Lib.hasPrefix s.data.toList (⟨#[43]⟩ : ByteArray).data.toList) = sgnY s from by
  rw [← HSB.out, show Lib.hasPrefix s.data.toList (⟨#[43]⟩ : ByteArray).data.toList = (s.data.toList.head? == some 43) from pre_of 43]; rfl)
 obtain ⟨pp, HPP⟩ := name_itV (Lib.hasPrefix s.data.toList (⟨#[43]⟩ : ByteArray).data.toList)
 have hpm2 := Lib.hid (fun W : World => show Calls Tryz.prog 173 #[.string s, .string ⟨#[45]⟩] W fun e w' => e = .returned (.bool sb) ∧ w' = W from by have := hpm.out W; rwa [hm1.out] at this)
 have hpp2 := Lib.hid (fun W : World => show Calls Tryz.prog 173 #[.string s, .string ⟨#[43]⟩] W fun e w' => e = .returned (.bool pp) ∧ w' = W from by have := hpp.out W; rwa [HPP.out] at this)
 have hm3 := Lib.hid (show (sb || pp) = sgnY s from by rw [← HPP.out]; exact hm2.out)
 have hsx := Lib.hid (show t = cond (sb || pp) (s.extract 1 s.size) s from by rw [hm3.out, ← HT.out]; rfl)
 have hpos := Lib.hid (show (sb || pp) = true → 0 < s.size from by
  intro h
  rw [hm3.out] at h
  refine Classical.byContradiction fun h0 => ?_
  rw [(sgn_empty h0).2.1] at h; cases h)
 obtain ⟨m, hm⟩ := hg
 have HCT := Lib.hid (fun (W : World) (hW : W.cell? ⟨Tryz.lays145_ren.g 1, 0, none⟩ = some (.int .i64 m)) => show Calls Tryz.prog 174 #[.string t, .string ⟨#[46]⟩] W fun e w' => e = .returned (.tuple #[.string (bK c1), .string (bK c2), .bool c3]) ∧ ∃ n, w' = W.drewN n from by
  have := cut_any t ⟨#[46]⟩ m W (by omega) hW
  rw [show (⟨#[46]⟩ : ByteArray).data.toList = [46] from rfl, HC1.out, HC2.out, HC3.out] at this
  exact this)
 have HM := Lib.hid hm
 have HB0 := Lib.hid (Below.refl w.heap.size w)
 clear hm hpm hpp hm1 hm2 HPP HSB HT
 go_enter Tryz.func163, Tryz.ntmps163
 go_wp2_with fail; refine (hpm2.out _).mono ?_; rintro e w' ⟨rfl, rfl⟩
 go_upto_region 2 with fail
 go_cut [14] (fun s14 wx => s14 = .bool (sb || pp) ∧ wx = w')
 case first =>
  cases sb with
  | true =>
   go_wp2_with fail
   go_meet
   exact ⟨rfl, rfl⟩
  | false =>
   go_wp2_with fail; refine (hpp2.out _).mono ?_; rintro e w' ⟨rfl, rfl⟩
   go_wp2_with fail
   go_meet
   exact ⟨rfl, rfl⟩
 case rest =>
  obtain ⟨h14, rfl⟩ := hcut
  go_upto_if 14 with fail
  go_cut [0] (fun s0 wx => s0 = .string t ∧ wx = wc)
  case first =>
   obtain ⟨sy, HSY⟩ := name_itV (sb || pp)
   rw [HSY.out] at h14 hpos hsx
   subst h14
   cases sy with
   | true =>
    have hp1 := hpos.out rfl
    have hsx2 := Lib.hid (show s.extract 1 s.size = t from hsx.out.symm)
    have e1 : (1 : Int) ≤ (s.size : Int) := by omega
    go_wp2_with fail
    go_meet
    exact ⟨by rw [hsx2.out], rfl⟩
   | false =>
    have hsx2 := Lib.hid (show s = t from hsx.out.symm)
    go_wp2_with fail
    go_meet
    exact ⟨by rw [hsx2.out], rfl⟩
  case rest =>
   obtain ⟨rfl, rfl⟩ := hcut
   clear h14
   go_wp2_with fail; refine (HCT.out _ HM.out).mono ?_; rintro e w1 ⟨rfl, k, hw1⟩
   have HB1 := below_drewN HB0.out k
   rw [← hw1] at HB1
   have HB1 := Lib.hid HB1
   clear hw1
   have hl2 := hlen.out
   have hb2s : (bK c2).size = c2.length := bK_size c2
   obtain ⟨l2, HL2⟩ := name_itV c2.length
   rw [HL2.out] at hl2 hb2s
   have htold := Lib.hid (fun W : World => show Calls Tryz.prog 176 #[.bool sb, .string (bK c1 ++ bK c2), .int .i64 ((bK c2).size : Int)] W (ToldIs sb (c1 ++ c2) c2.length W) from by
    rw [bK_app, hb2s, ← HL2.out]
    exact told_any sb (c1 ++ c2) c2.length (by rw [List.length_append, HL2.out]; omega) (by rw [HL2.out]; omega) W)
   have hn1 := Lib.hid (fun W : World => show Calls Tryz.prog 175 #[.string (bK c1)] W (ToldB (numL c1) W) from by
    have := numeral_any (bK c1) W (by rw [bK_size]; omega)
    rwa [numT_eq, bK_data] at this)
   have hn2 := Lib.hid (fun W : World => show Calls Tryz.prog 175 #[.string (bK c2)] W (ToldB (numL c2) W) from by
    have := numeral_any (bK c2) W (by omega)
    rwa [numT_eq, bK_data] at this)
   have hadd : ∀ W : World, (Op.stringOp .add (bK c1) (bK c2)).run Tryz.prog W = .ok (.string (bK c1 ++ bK c2)) W := fun W => run_string_add_sum W _ _ (by rw [hb2s, bK_size]; omega)
   have hbad := Lib.hid (show ¬ (numL c1 = true ∧ (c3 = true → numL c2 = true)) → readT s = (⟨#[]⟩, 6) from fun h => by
    rw [← hread.out, hprog.out, if_neg h]; rfl)
   have hgood := Lib.hid (show (numL c1 = true ∧ (c3 = true → numL c2 = true)) → readT s = (bK (toldT sb (c1 ++ c2) c2.length).1, (toldT sb (c1 ++ c2) c2.length).2) from fun h => by
    rw [← hread.out, hprog.out, if_pos h])
   obtain ⟨x1, HX1⟩ := name_itV (numL c1)
   obtain ⟨x2, HX2⟩ := name_itV (numL c2)
   obtain ⟨b1, HBb1⟩ := name_itV (bK c1)
   obtain ⟨b2, HBb2⟩ := name_itV (bK c2)
   rw [HX1.out] at hn1 hbad hgood
   rw [HX2.out] at hn2 hbad hgood
   rw [HBb1.out] at hn1 hadd htold
   rw [HBb2.out] at hn2 hadd htold hb2s
   rw [HBb1.out, HBb2.out]
   clear hb2s
   cases x1 with
   | false =>
    have hr := Lib.hid (hbad.out (fun h => by cases h.1))
    go_wp2_with fail; refine (hn1.out _).mono ?_; rintro e w2 ⟨rfl, hb2⟩
    have HB2 := Lib.hid (HB1.out.trans (hb2.mono HB1.out.size))
    clear hb2
    go_wp2_with fail
    exact bodyPost_ret (v := .tuple #[.string ⟨#[]⟩, .int .i64 6]) (by simp [results, Tryz.results163, go_sem]) rfl ⟨HB2.out, by rw [hr.out]⟩
   | true =>
    cases c3 with
    | false =>
     have hr := Lib.hid (hgood.out ⟨rfl, fun h => by cases h⟩)
     go_wp2_with fail; refine (hn1.out _).mono ?_; rintro e w2 ⟨rfl, hb2⟩
     have HB2 := Lib.hid (HB1.out.trans (hb2.mono HB1.out.size))
     clear hb2
     go_wp2_with fail; refine (htold.out _).mono ?_; rintro e w3 ⟨hb3, rfl⟩
     have HB3 := Lib.hid (HB2.out.trans (hb3.mono HB2.out.size))
     clear hb3
     obtain ⟨r1, HR1⟩ := name_itV (bK (toldT sb (c1 ++ c2) c2.length).1)
     obtain ⟨r2, HR2⟩ := name_itV (toldT sb (c1 ++ c2) c2.length).2
     rw [HR1.out, HR2.out] at hr
     rw [HR1.out, HR2.out]
     go_wp2_with fail
     exact bodyPost_ret (v := .tuple #[.string r1, .int .i64 r2]) (by simp [results, Tryz.results163, go_sem]) rfl ⟨HB3.out, by rw [hr.out]⟩
    | true =>
     cases x2 with
     | false =>
      have hr := Lib.hid (hbad.out (fun h => by cases h.2 rfl))
      go_wp2_with fail; refine (hn1.out _).mono ?_; rintro e w2 ⟨rfl, hb2⟩
      have HB2 := Lib.hid (HB1.out.trans (hb2.mono HB1.out.size))
      clear hb2
      go_wp2_with fail; refine (hn2.out _).mono ?_; rintro e w3 ⟨rfl, hb3⟩
      have HB3 := Lib.hid (HB2.out.trans (hb3.mono HB2.out.size))
      clear hb3
      go_wp2_with fail
      exact bodyPost_ret (v := .tuple #[.string ⟨#[]⟩, .int .i64 6]) (by simp [results, Tryz.results163, go_sem]) rfl ⟨HB3.out, by rw [hr.out]⟩
     | true =>
      have hr := Lib.hid (hgood.out ⟨rfl, fun h => rfl⟩)
      go_wp2_with fail; refine (hn1.out _).mono ?_; rintro e w2 ⟨rfl, hb2⟩
      have HB2 := Lib.hid (HB1.out.trans (hb2.mono HB1.out.size))
      clear hb2
      go_wp2_with fail; refine (hn2.out _).mono ?_; rintro e w3 ⟨rfl, hb3⟩
      have HB3 := Lib.hid (HB2.out.trans (hb3.mono HB2.out.size))
      clear hb3
      go_wp2_with fail; refine (htold.out _).mono ?_; rintro e w4 ⟨hb4, rfl⟩
      have HB4 := Lib.hid (HB3.out.trans (hb4.mono HB3.out.size))
      clear hb4
      obtain ⟨r1, HR1⟩ := name_itV (bK (toldT sb (c1 ++ c2) c2.length).1)
      obtain ⟨r2, HR2⟩ := name_itV (toldT sb (c1 ++ c2) c2.length).2
      rw [HR1.out, HR2.out] at hr
      rw [HR1.out, HR2.out]
      go_wp2_with fail
      exact bodyPost_ret (v := .tuple #[.string r1, .int .i64 r2]) (by simp [results, Tryz.results163, go_sem]) rfl ⟨HB4.out, by rw [hr.out]⟩

/-- A text that is read as itself has 62 bytes at most. -/
theorem told_le (neg : Bool) (d : List UInt8) (sc : Nat) : (toldT neg d sc).1.length ≤ 62 := by
 unfold toldT
 split
 ·simp
 ·split
  ·simp
  ·rename_i h _
   have h1 : (wholeT d sc).length ≤ 40 := by omega
   have h2 : (partT d sc).length ≤ 20 := by omega
   simp only [List.length_append]
   have e1 : (if neg = true then [(45 : UInt8)] else []).length ≤ 1 := by split <;> simp
   have e2 : (if wholeT d sc = [] then [(48 : UInt8)] else wholeT d sc).length ≤ 40 := by split; exact (by decide); exact h1
   have e3 : (if partT d sc = [] then [(48 : UInt8)] else partT d sc).length ≤ 20 := by split; exact (by decide); exact h2
   simp only [List.length_cons, List.length_nil]
   omega
theorem dec_long {s : ByteArray} (h : 62 < s.size) : decB s = false := by
 unfold decB
 rw [← prog_read s]
 have h1 : decide ((⟨(progT s).1.toArray⟩ : ByteArray) = s) = false := decide_eq_false fun e => by
  have h2 : (progT s).1.length ≤ 62 := by
   unfold progT
   simp only
   split
   ·exact told_le _ _ _
   ·simp
  rw [← e] at h
  simp [ByteArray.size] at h
  omega
 simp only [h1, Bool.and_false]
set_option maxRecDepth 100000 in
set_option maxHeartbeats 1000000 in
theorem dec_any (s : ByteArray) (hs : s.size ≤ 9223372036854775807) (w : World) (hg : GlobB w) : Calls Tryz.prog 130 #[.string s] w (ToldB (decB s) w) := by
 go_enter Tryz.func130, Tryz.ntmps130
 by_cases hl : 62 < s.size
 ·have hd := Lib.hid (dec_long hl)
  have e1 : (62 : Int) < (s.size : Int) := by omega
  go_wp2_with fail
  go_ret
  exact ⟨ret_b hd.out.symm, Below.refl _ _⟩
 ·have e1 : ¬ (62 : Int) < (s.size : Int) := by omega
  have hrd := Lib.hid (progRead_any s (by omega) w hg)
  go_wp2_with fail
  refine hrd.out.mono ?_
  rintro e w1 ⟨hb, rfl⟩
  have HB := Lib.hid hb
  obtain ⟨r1, H1⟩ := name_itV (readT s).1
  obtain ⟨r2, H2⟩ := name_itV (readT s).2
  rw [H1.out, H2.out]
  have hd := Lib.hid (show decB s = (decide (r2 = 0) && decide (r1 = s)) from by unfold decB; rw [H1.out, H2.out])
  clear hb
  by_cases h2 : r2 = 0
  ·have hf := Lib.hid (show (r1.toList == s.toList) = decB s from by
     rw [hd.out, decide_eq_true h2]
     by_cases h1 : r1 = s
     ·rw [decide_eq_true h1, h1]; simp
     ·rw [decide_eq_false h1, strV_ne h1]; rfl)
   clear H2
   subst h2
   go_wp2_with fail
   go_ret
   exact ⟨ret_b hf.out, HB.out⟩
  ·have hf := Lib.hid (show false = decB s from by rw [hd.out, decide_eq_false h2]; rfl)
   go_wp2_with fail
   go_ret
   exact ⟨ret_b hf.out, HB.out⟩
end Go.Proofs.YtijciakkfpjjbaaGreatDoor
namespace Go.Proofs.YtijciakkfpjjbaaGreatDoor
open Go Go.RowKit Go.Sort

def GlobT (w : World) : Prop := Lib.TabIs Tryz.prog w "internal/strconv.uint64pow10" .u64 Lib.pow10Tab
theorem below_grow (w : World) (k : Nat) (os : Array Obj) : Below w.heap.size w (grow (w.drewN k) os) :=
 ⟨rfl, rfl, rfl, by unfold grow; simp, fun i hi => by
  unfold grow
  show (w.heap ++ os)[i]? = w.heap[i]?
  exact Array.getElem?_append_left hi⟩
set_option maxRecDepth 100000 in
set_option maxHeartbeats 1000000 in
theorem format_any (n : Int) (h0 : -9223372036854775808 ≤ n) (h1 : n ≤ 9223372036854775807) (w : World) (ht : GlobT w) :
    Calls Tryz.prog 182 #[.int .i64 n, .int .i64 10] w fun e w' => e = .returned (.string ⟨(Lib.itoa n).toArray⟩) ∧ Below w.heap.size w w' :=
 (Any.strconv_FormatInt_10 Tryz.laysM173 n h0 h1 w ht).mono fun e w' ⟨h1, k, os, h2⟩ => ⟨h1, by rw [h2]; exact below_grow w k os⟩
theorem globT_under {w w' : World} (h : GlobT w) (hb : Below w.heap.size w w') : GlobT w' := Lib.tabBelow_of_tabIs h w' hb
theorem ofIntT_bK (n : Int) : ofIntT n = bK (Lib.itoa n ++ [46, 48]) := rfl
theorem itoa_len {n : Int} (h0 : -9223372036854775808 ≤ n) (h1 : n ≤ 9223372036854775807) : (Lib.itoa n).length ≤ 21 := by
 rw [itoa_abs, List.length_append]
 have h2 := (dec_len (u := n.natAbs) (by omega)).2
 by_cases h : n < 0
 ·rw [decide_eq_true h]
  simp only [cond_true, List.length_singleton]
  omega
 ·rw [decide_eq_false h]
  simp only [cond_false, List.length_nil]
  omega
def OfIs (n : Int) (w : World) (e : Ending) (w' : World) : Prop := e = .returned (.string (ofIntT n)) ∧ Below w.heap.size w w'
set_option maxRecDepth 100000 in
set_option maxHeartbeats 1000000 in
theorem ofInt_any (n : Int) (h0 : -9223372036854775808 ≤ n) (h1 : n ≤ 9223372036854775807) (w : World) (ht : GlobT w) :
    Calls Tryz.prog 172 #[.int .i64 n] w (OfIs n w) := by
 have hfo := Lib.hid (format_any n h0 h1 w ht)
 have hadd : ∀ W : World, (Op.stringOp .add (bK (Lib.itoa n)) ⟨#[46, 48]⟩).run Tryz.prog W = .ok (.string (ofIntT n)) W := fun W => by
  have e : ofIntT n = bK (Lib.itoa n) ++ (⟨#[46, 48]⟩ : ByteArray) := by
   rw [ofIntT_bK, ← bK_app]
   rfl
  rw [e]
  exact run_string_add_sum W _ _ (by rw [bK_size]; have := itoa_len h0 h1; show _ + 2 ≤ _; omega)
 have e2 : (⟨(Lib.itoa n).toArray⟩ : ByteArray) = bK (Lib.itoa n) := rfl
 rw [e2] at hfo
 obtain ⟨t1, H1⟩ := name_itV (bK (Lib.itoa n))
 obtain ⟨t2, H2⟩ := name_itV (ofIntT n)
 have HE := Lib.hid (show ∀ w', Below w.heap.size w w' → OfIs n w (.returned (.string t2)) w' from fun w' hb => ⟨by rw [H2.out], hb⟩)
 rw [H1.out] at hfo hadd
 rw [H2.out] at hadd
 clear ht h0 h1 e2
 go_enter Tryz.func172, Tryz.ntmps172
 go_wp2_with fail
 refine hfo.out.mono ?_
 rintro e w1 ⟨rfl, hb⟩
 have HB := Lib.hid hb
 clear hb
 go_wp2_with fail
 go_ret
 exact HE.out _ HB.out
/-- What the reference reads off, digit by digit: the number left, the digits told. -/
theorem dec_step (u : Nat) : Lib.decDigits u = if u < 10 then [UInt8.ofNat (48 + u)] else Lib.decDigits (u / 10) ++ [UInt8.ofNat (48 + u % 10)] := by
 rw [Lib.decDigits]
 by_cases h : u < 10
 ·rw [dif_pos h, if_pos h]
 ·rw [dif_neg h, if_neg h]
theorem one_conv (c : UInt8) (W : World) : (convert 153 9 (.slice (some ⟨W.heap.size, 0, none⟩) 1 1)).run Tryz.prog (W.alloc (.cells #[.int .u8 (c.toNat : Int)] 5)) = .ok (.string (bK [c])) (W.alloc (.cells #[.int .u8 (c.toNat : Int)] 5)) := by
 have he : Tryz.prog.underlying 5 = some (.int .u8) := by kernel_rfl
 have hd : Tryz.prog.underlying 9 = some .string := by kernel_rfl
 exact run_convert_bytes_back _ 153 9 5 ⟨W.heap.size, 0, none⟩ 1 [c] Tryz.underlying153 he hd (Lib.bytes_of_row (heap_alloc_new W _) rfl)
/-- Behind some digits. -/
structure OfM (w : World) (n : Int) (neg : Bool) (u : Nat) (mm : Int) (l : List UInt8) (wx : World) : Prop where
 sg : mm = if neg = true then -(u : Int) else (u : Int)
 ng : neg = decide (n < 0)
 dg : Lib.decDigits n.natAbs = Lib.decDigits u ++ l
 le : u ≤ 9223372036854775808
 ll : l.length ≤ 20
 hb : Below w.heap.size w wx
theorem mod_neg (u : Nat) : Int.tmod (-(u : Int)) 10 = -((u % 10 : Nat) : Int) := by
 rw [Int.neg_tmod]
 rfl
theorem div_neg (u : Nat) : Int.tdiv (-(u : Int)) 10 = -((u / 10 : Nat) : Int) := by
 rw [Int.neg_tdiv]
 rfl
set_option maxRecDepth 100000 in
set_option maxHeartbeats 2000000 in
theorem refOfInt_any (n : Int) (h0 : -9223372036854775808 ≤ n) (h1 : n ≤ 9223372036854775807) (w : World) :
    Calls Tryz.prog 82 #[.int .i64 n] w (OfIs n w) := by
 have hlen := (dec_len (u := n.natAbs) (by omega)).2
 have HMO := Lib.hid (show OfM w n (decide (n < 0)) n.natAbs n [] w from {
  sg := by
   by_cases h : n < 0
   ·rw [decide_eq_true h, if_pos rfl]; omega
   ·rw [decide_eq_false h, if_neg Bool.false_ne_true]; omega
  ng := rfl
  dg := by simp
  le := by omega
  ll := by simp
  hb := Below.refl _ _ })
 have HLEN := Lib.hid hlen
 obtain ⟨neg, Hneg⟩ := name_itV (decide (n < 0))
 rw [Hneg.out] at HMO
 clear hlen
 go_enter Tryz.func82, Tryz.ntmps82
 go_wp2_with fail
 go_loopw [3, 4] (fun s3 s4 wx => ∃ (u : Nat) (l : List UInt8) (mm : Int), s3 = .string (bK l) ∧ s4 = .int .i64 mm ∧ Hid (OfM w n neg u mm l wx)) (fun _ s4 _ => (intOf s4).natAbs)
 case atStart => exact ⟨n.natAbs, [], n, rfl, rfl, HMO⟩
 case round =>
  obtain ⟨u, l, mm, rfl, rfl, hM⟩ := hrel
  obtain ⟨d, Hd⟩ := name_itV (u % 10)
  obtain ⟨q, Hq⟩ := name_itV (u / 10)
  obtain ⟨c, Hc⟩ := name_itV (UInt8.ofNat (48 + d))
  have hd9 : d ≤ 9 := by rw [← Hd.out]; omega
  have hql : q ≤ 9223372036854775808 := by rw [← Hq.out]; have := hM.out.le; omega
  have hcn : c.toNat = 48 + d := by rw [← Hc.out, UInt8.toNat_ofNat', Nat.mod_eq_of_lt (by omega)]
  obtain ⟨ad, Had⟩ := name_itV (c.toNat)
  have had : ad = 48 + d := by rw [← Had.out, hcn]
  have hcv := Lib.hid (fun W : World => one_conv c W)
  have hadd : ∀ W : World, (Op.stringOp .add (bK [c]) (bK l)).run Tryz.prog W = .ok (.string (bK (c :: l))) W := fun W => by
   have e : bK (c :: l) = bK [c] ++ bK l := by rw [bK_app]; rfl
   rw [e]
   exact run_string_add_sum W _ _ (by rw [bK_size, bK_size]; have := hM.out.ll; simp; omega)
  have v1 : IntKind.i64.wrap (48 + (d : Int)) = (ad : Int) := by rw [IntWalk.i64_in _ (by omega), had]; push_cast; rfl
  have v2 : IntKind.u8.wrap (ad : Int) = (ad : Int) := IntWalk.u8_in _ (by omega)
  have v3 : (48 : Int) + (d : Int) = (ad : Int) := by rw [had]; push_cast; rfl
  have hadl : ad ≤ 57 := by omega
  rw [Had.out] at hcv
  clear had hcn
  obtain ⟨qq, Hqq⟩ := name_itV (if neg = true then -(q : Int) else (q : Int))
  obtain ⟨kk, Hkk⟩ := name_itV (if neg = true then -(d : Int) else (d : Int))
  have r1 : Int.tmod mm 10 = kk := by
   rw [hM.out.sg, ← Hkk.out, ← Hd.out]
   cases neg
   ·rfl
   ·exact mod_neg u
  have r2 : Int.tdiv mm 10 = qq := by
   rw [hM.out.sg, ← Hqq.out, ← Hq.out]
   cases neg
   ·rfl
   ·exact div_neg u
  have r3 : IntKind.i64.wrap qq = qq := IntWalk.i64_in _ (by
   rw [← Hqq.out]
   have := hM.out.le
   have := Hq.out
   split <;> omega)
  have HSTEP := Lib.hid (show ∀ wy, Below w.heap.size w wy → q ≠ 0 → OfM w n neg q qq (c :: l) wy from fun wy hb hq => {
   sg := Hqq.out.symm
   ng := hM.out.ng
   dg := by
    have h9 := dec_step u
    rw [if_neg (by have := Hq.out; omega), Hq.out, Hd.out, Hc.out] at h9
    rw [hM.out.dg, h9, List.append_assoc]
    rfl
   le := hql
   ll := by
    have h9 := hM.out.dg
    have h8 := dec_step u
    rw [if_neg (by have := Hq.out; omega), Hq.out, Hd.out, Hc.out] at h8
    rw [h8] at h9
    have h7 := congrArg List.length h9
    have h6 := HLEN.out
    simp only [List.length_append, List.length_singleton] at h7
    simp only [List.length_cons]
    omega
   hb := hb })
  have HLAST := Lib.hid (show q = 0 → Lib.decDigits n.natAbs = c :: l from fun hq => by
   have h9 := dec_step u
   have hu : u < 10 := by have := Hq.out; omega
   rw [if_pos hu] at h9
   rw [hM.out.dg, h9, ← Hc.out, ← Hd.out, Nat.mod_eq_of_lt hu]
   rfl)
  have v1' : True := trivial
  have hcw := hcv.out wr
  by_cases hkk : kk < 0
  ·have n1 : -kk = (d : Int) := by
     rw [← Hkk.out] at hkk ⊢
     cases neg
     ·simp at hkk
      omega
     ·simp
   have n2 : IntKind.i64.wrap (-kk) = (d : Int) := by rw [n1]; exact IntWalk.i64_in _ (by omega)
   by_cases hq : q = 0
   ·have e8 : (qq == 0) = true := by rw [← Hqq.out, hq]; cases neg <;> rfl
    have hb := Lib.hid (show Below w.heap.size w (wr.alloc (.cells #[.int .u8 (ad : Int)] 5)) from hM.out.hb.alloc hM.out.hb.size _)
    have HL := Lib.hid (HLAST.out hq)
    have hit := Lib.hid (itoa_abs n)
    rw [HL.out, ← hM.out.ng] at hit
    have hof := Lib.hid (ofIntT_bK n)
    rw [hit.out] at hof
    have hll := hM.out.ll
    have hx1 := Lib.hid (hM.out.ng)
    clear hq v1' hM
    cases neg with
    | true =>
     have hn : n < 0 := of_decide_eq_true hx1.out.symm
     have ha1 : ∀ W : World, (Op.stringOp .add ⟨#[45]⟩ (bK (c :: l))).run Tryz.prog W = .ok (.string (bK (45 :: c :: l))) W := fun W => by
      have e : bK (45 :: c :: l) = (⟨#[45]⟩ : ByteArray) ++ bK (c :: l) := by
       have := bK_app [45] (c :: l)
       exact this.symm
      rw [e]
      exact run_string_add_sum W _ _ (by rw [bK_size]; show 1 + _ ≤ _; simp; omega)
     have ha2 : ∀ W : World, (Op.stringOp .add (bK (45 :: c :: l)) ⟨#[46, 48]⟩).run Tryz.prog W = .ok (.string (ofIntT n)) W := fun W => by
      have e : ofIntT n = bK (45 :: c :: l) ++ (⟨#[46, 48]⟩ : ByteArray) := by
       rw [hof.out]
       have := bK_app (45 :: c :: l) [46, 48]
       exact this.symm
      rw [e]
      exact run_string_add_sum W _ _ (by rw [bK_size]; show _ + 2 ≤ _; simp; omega)
     go_wp2_with fail
     go_ret
     exact ⟨rfl, hb.out⟩
    | false =>
     have hn : ¬ n < 0 := of_decide_eq_false hx1.out.symm
     have ha2 : ∀ W : World, (Op.stringOp .add (bK (c :: l)) ⟨#[46, 48]⟩).run Tryz.prog W = .ok (.string (ofIntT n)) W := fun W => by
      have e : ofIntT n = bK (c :: l) ++ (⟨#[46, 48]⟩ : ByteArray) := by
       rw [hof.out]
       have := bK_app (c :: l) [46, 48]
       exact this.symm
      rw [e]
      exact run_string_add_sum W _ _ (by rw [bK_size]; show _ + 2 ≤ _; simp; omega)
     go_wp2_with fail
     go_ret
     exact ⟨rfl, hb.out⟩
   ·have e8 : (qq == 0) = false := by
      rw [← Hqq.out]
      cases neg
      ·simp; omega
      ·simp; omega
    have hst := Lib.hid (HSTEP.out (wr.alloc (.cells #[.int .u8 (ad : Int)] 5)) (hM.out.hb.alloc hM.out.hb.size _) hq)
    have hme := Lib.hid (show qq.natAbs < mm.natAbs from by
     rw [← Hqq.out, hM.out.sg]
     have := Hq.out
     split <;> omega)
    clear hq
    go_wp2_with fail
    go_roundw
    case measure => simpa [intOf] using hme.out
    case rel => exact ⟨q, c :: l, qq, rfl, rfl, hst⟩
  ·have n3 : kk = (d : Int) := by
     rw [← Hkk.out] at hkk ⊢
     cases neg
     ·rfl
     ·simp at hkk
      simp
      omega
   rw [n3] at r1
   have n4 : ¬ (d : Int) < 0 := by omega
   clear hkk n3
   by_cases hq : q = 0
   ·have e8 : (qq == 0) = true := by rw [← Hqq.out, hq]; cases neg <;> rfl
    have hb := Lib.hid (show Below w.heap.size w (wr.alloc (.cells #[.int .u8 (ad : Int)] 5)) from hM.out.hb.alloc hM.out.hb.size _)
    have HL := Lib.hid (HLAST.out hq)
    have hit := Lib.hid (itoa_abs n)
    rw [HL.out, ← hM.out.ng] at hit
    have hof := Lib.hid (ofIntT_bK n)
    rw [hit.out] at hof
    have hll := hM.out.ll
    have hx1 := Lib.hid (hM.out.ng)
    clear hq v1' hM
    cases neg with
    | true =>
     have hn : n < 0 := of_decide_eq_true hx1.out.symm
     have ha1 : ∀ W : World, (Op.stringOp .add ⟨#[45]⟩ (bK (c :: l))).run Tryz.prog W = .ok (.string (bK (45 :: c :: l))) W := fun W => by
      have e : bK (45 :: c :: l) = (⟨#[45]⟩ : ByteArray) ++ bK (c :: l) := by
       have := bK_app [45] (c :: l)
       exact this.symm
      rw [e]
      exact run_string_add_sum W _ _ (by rw [bK_size]; show 1 + _ ≤ _; simp; omega)
     have ha2 : ∀ W : World, (Op.stringOp .add (bK (45 :: c :: l)) ⟨#[46, 48]⟩).run Tryz.prog W = .ok (.string (ofIntT n)) W := fun W => by
      have e : ofIntT n = bK (45 :: c :: l) ++ (⟨#[46, 48]⟩ : ByteArray) := by
       rw [hof.out]
       have := bK_app (45 :: c :: l) [46, 48]
       exact this.symm
      rw [e]
      exact run_string_add_sum W _ _ (by rw [bK_size]; show _ + 2 ≤ _; simp; omega)
     go_wp2_with fail
     go_ret
     exact ⟨rfl, hb.out⟩
    | false =>
     have hn : ¬ n < 0 := of_decide_eq_false hx1.out.symm
     have ha2 : ∀ W : World, (Op.stringOp .add (bK (c :: l)) ⟨#[46, 48]⟩).run Tryz.prog W = .ok (.string (ofIntT n)) W := fun W => by
      have e : ofIntT n = bK (c :: l) ++ (⟨#[46, 48]⟩ : ByteArray) := by
       rw [hof.out]
       have := bK_app (c :: l) [46, 48]
       exact this.symm
      rw [e]
      exact run_string_add_sum W _ _ (by rw [bK_size]; show _ + 2 ≤ _; simp; omega)
     go_wp2_with fail
     go_ret
     exact ⟨rfl, hb.out⟩
   ·have e8 : (qq == 0) = false := by
      rw [← Hqq.out]
      cases neg
      ·simp; omega
      ·simp; omega
    have hst := Lib.hid (HSTEP.out (wr.alloc (.cells #[.int .u8 (ad : Int)] 5)) (hM.out.hb.alloc hM.out.hb.size _) hq)
    have hme := Lib.hid (show qq.natAbs < mm.natAbs from by
     rw [← Hqq.out, hM.out.sg]
     have := Hq.out
     split <;> omega)
    clear hq
    go_wp2_with fail
    go_roundw
    case measure => simpa [intOf] using hme.out
    case rel => exact ⟨q, c :: l, qq, rfl, rfl, hst⟩
end Go.Proofs.YtijciakkfpjjbaaGreatDoor
namespace Go.Proofs.YtijciakkfpjjbaaGreatDoor
open Go Go.RowKit

structure Boxed (p : Prop) : Prop where
 out : p
section
variable {P : Program} {md : Region.Mode} {ops : Array Oper} {Q : Exit → Act → World → Prop} {S : World → Prop} {fuel : Nat} {listed : Array Bool} {a : Act} {w : World}
/-- Operation number i of a region, as it is run. -/
def runsTo (P : Program) (ops : Array Oper) (i : Nat) (a : Act) (w : World) (v : Value) : Prop :=
 match ops[i]? with
 | some o => (execOp a.eval o).run P w = .ok (.value v) w
 | none => False
def wpAt (P : Program) (ops : Array Oper) (i : Nat) (a : Act) (w : World) (K : Act → World → Prop) (Q : Exit → Act → World → Prop) : Prop :=
 match ops[i]? with
 | some o => Oper.wp P o a w K Q
 | none => False
def wantedNo (ops : Array Oper) (i : Nat) (a : Act) : Option Bool := ops[i]?.map fun o => Region.wanted o (yielded ops a.tmps)
theorem take_want (i d : Nat) (v : Value) (hd : ops[i]?.map (·.dst) = some (some d)) (hw : wantedNo ops i a = some true) (hs : Region.noSelect ops = true) (hf : Region.free md ops listed i = true) (hr : (Region.ready md ops listed).contains i = true)
    (hQ : ∀ c a w, Q (.panic c) (a.put (some d) v) w → Q (.panic c) a w) (hS : S w) (hv : ∀ w, S w → runsTo P ops i a w v)
    (h : S w → Boxed (wpAnyH P md ops Q S fuel (listed.setIfInBounds i true) (a.put (some d) v) w)) : Boxed (wpAnyH P md ops Q S (fuel + 1) listed a w) := by
 unfold wantedNo at hw
 cases ho : ops[i]? with
 | none => rw [ho] at hd; cases hd
 | some o =>
  rw [ho] at hd hw
  simp only [Option.map_some, Option.some.injEq] at hd hw
  exact ⟨wpAnyH_take ho hs hf hr (fun c a w h => hQ c a w (by rw [← hd]; exact h)) (.inl ⟨hw, fun w hw => by have := hv w hw; unfold runsTo at this; rw [ho] at this; exact this⟩) hS (by rw [hd]; exact (h hS).out)⟩
theorem take_call (i : Nat) (hr : Region.ready md ops listed = [i]) (hw : wantedNo ops i a = some true)
    (h : ∀ K' : Act → World → Prop, Shut (∀ a w, S w → (S w → Boxed (wpAnyH P md ops Q S fuel (listed.setIfInBounds i true) a w)) → K' a w) → wpAt P ops i a w K' Q) : Boxed (wpAnyH P md ops Q S (fuel + 1) listed a w) := by
 unfold wantedNo at hw
 cases ho : ops[i]? with
 | none => rw [ho] at hw; cases hw
 | some o =>
  rw [ho] at hw
  simp only [Option.map_some, Option.some.injEq] at hw
  refine ⟨wpAnyH_ready hr (by simp) (AllReadyH.cons ho (fun K hK => ?_) AllReadyH.nil)⟩
  rw [if_pos hw]
  have := h K (fun a w hS hB => hK.out a w hS (fun hS => (hB hS).out))
  unfold wpAt at this
  rw [ho] at this
  exact this
theorem take_two (i j : Nat) (hr : Region.ready md ops listed = [i, j]) (hwi : wantedNo ops i a = some true) (hwj : wantedNo ops j a = some true)
    (hi : ∀ K' : Act → World → Prop, Shut (∀ a w, S w → (S w → Boxed (wpAnyH P md ops Q S fuel (listed.setIfInBounds i true) a w)) → K' a w) → wpAt P ops i a w K' Q)
    (hj : ∀ K' : Act → World → Prop, Shut (∀ a w, S w → (S w → Boxed (wpAnyH P md ops Q S fuel (listed.setIfInBounds j true) a w)) → K' a w) → wpAt P ops j a w K' Q) : Boxed (wpAnyH P md ops Q S (fuel + 1) listed a w) := by
 unfold wantedNo at hwi hwj
 cases hoi : ops[i]? with
 | none => rw [hoi] at hwi; cases hwi
 | some o =>
  cases hoj : ops[j]? with
  | none => rw [hoj] at hwj; cases hwj
  | some p =>
   rw [hoi] at hwi
   rw [hoj] at hwj
   simp only [Option.map_some, Option.some.injEq] at hwi hwj
   refine ⟨wpAnyH_ready hr (by simp) (AllReadyH.cons hoi (fun K hK => ?_) (AllReadyH.cons hoj (fun K hK => ?_) AllReadyH.nil))⟩
   ·rw [if_pos hwi]
    have := hi K (fun a w hS hB => hK.out a w hS (fun hS => (hB hS).out))
    unfold wpAt at this
    rw [hoi] at this
    exact this
   ·rw [if_pos hwj]
    have := hj K (fun a w hS hB => hK.out a w hS (fun hS => (hB hS).out))
    unfold wpAt at this
    rw [hoj] at this
    exact this
end
end Go.Proofs.YtijciakkfpjjbaaGreatDoor
namespace Go.Proofs.YtijciakkfpjjbaaGreatDoor
open Go Go.RowKit

theorem turn_cells {S : Nat → Prop} {a : World} (g : Nat) (hp : a.heap.size ≤ g ∨ S g) (vs : List Value) : ∀ (o : Nat) {w : World}, Turn S a w → Turn S a (w.setCells g o vs) := by
 induction vs with
 | nil => intro o w h; exact h
 | cons v r ih => intro o w h; exact ih (o + 1) (h.setCell (p := ⟨g, o, none⟩) hp v)
theorem cells_heap {g : Nat} {T : TypeId} (vs : List Value) : ∀ (o : Nat) {w : World} {c : Array Value}, w.heap[g]? = some (.cells c T (0, 0)) →
    ∃ c' : Array Value, (w.setCells g o vs).heap[g]? = some (.cells c' T (0, 0)) ∧ c'.size = c.size ∧ ∀ j, c'[j]? = if o ≤ j ∧ j < o + vs.length ∧ j < c.size then vs[j - o]? else c[j]? := by
 induction vs with
 | nil =>
  intro o w c h
  refine ⟨c, h, rfl, fun j => ?_⟩
  rw [if_neg (by simp; omega)]
 | cons v r ih =>
  intro o w c h
  obtain ⟨c', h1, h2, h3⟩ := ih (o + 1) (heap_setCell_same w g o c T v h)
  rw [Array.size_setIfInBounds] at h2
  refine ⟨c', h1, h2, fun j => ?_⟩
  rw [h3 j, Array.size_setIfInBounds, List.length_cons]
  by_cases e : j = o
  ·subst e
   rw [if_neg (by omega), Array.getElem?_setIfInBounds, if_pos rfl]
   by_cases hlt : j < c.size
   ·rw [if_pos hlt, if_pos ⟨Nat.le_refl _, by omega, hlt⟩, Nat.sub_self]
    rfl
   ·rw [if_neg hlt, if_neg (by omega), Array.getElem?_eq_none (by omega)]
  ·by_cases hin : o + 1 ≤ j ∧ j < o + 1 + r.length ∧ j < c.size
   ·rw [if_pos hin, if_pos ⟨by omega, by omega, hin.2.2⟩]
    obtain ⟨t, ht⟩ : ∃ t, j - o = t + 1 := ⟨j - o - 1, by omega⟩
    rw [ht, List.getElem?_cons_succ]
    congr 1
    omega
   ·rw [if_neg hin, if_neg (by omega), Array.getElem?_setIfInBounds, if_neg (fun e2 => e e2.symm)]
theorem cells_whole {w : World} {g : Nat} {T : TypeId} {c c' : Array Value} (h : w.heap[g]? = some (.cells c T (0, 0))) (hl : c'.size = c.size) : (w.setCells g 0 c'.toList).heap[g]? = some (.cells c' T (0, 0)) := by
 obtain ⟨d, h1, h2, h3⟩ := cells_heap c'.toList 0 h
 rw [h1]
 congr 2
 apply Array.ext_getElem?
 intro j
 rw [h3 j, Array.length_toList, Nat.zero_add, Nat.sub_zero, Array.getElem?_toList]
 by_cases hj : j < c.size
 ·rw [if_pos ⟨Nat.zero_le _, by omega, hj⟩]
 ·rw [if_neg (fun h => hj h.2.2), Array.getElem?_eq_none (by omega), Array.getElem?_eq_none (by omega)]
theorem range_row {w : World} {g : Nat} {c : Array Value} {T : TypeId} {fr : Nat × Nat} (h : w.heap[g]? = some (.cells c T fr)) : w.rangeAt g 0 c.toList := fun j v hv => by
 rw [Nat.zero_add]
 exact (cell_of_row w g j c T fr h).trans (by rw [← Array.getElem?_toList]; exact hv)
theorem there_row {w : World} {g : Nat} {c : Array Value} {T : TypeId} {n : Nat} (h : w.heap[g]? = some (.cells c T (0, 0))) (hn : n ≤ c.size) : w.there g 0 n := fun j hj => by
 rw [Nat.zero_add]
 exact ⟨by rw [cell_of_row w g j c T _ h, Array.getElem?_eq_getElem (by omega)]; rfl, frozen_of_row _ _ _ _ _ h⟩
theorem ld_run {P : Program} {w : World} {g : Nat} {c : Array Value} {T : TypeId} {fr : Nat × Nat} (h : w.heap[g]? = some (.cells c T fr)) (ty : TypeId) (d : TypeDesc) (hu : P.underlying ty = some d) (hd : d.isRow = true) (hi : (P.info? ty).map (·.size) = some c.size) :
    (Instr.loadAt ty (.pointer (some ⟨g, 0, none⟩))).run P w = .ok (.agg c) w := by
 have := run_loadAt_mid (P := P) w g 0 ty c.toList d (range_row h) hu hd (by rw [Array.length_toList]; exact hi)
 rwa [Array.toArray_toList] at this
section
variable {P : Program} {ops : Array Oper} {rest : List Oper} {op : Oper} {a : Act} {w : World} {Q : Exit → Act → World → Prop}
/-- A whole block is stored. -/
theorem st_row (hgd : op.guard = none) (ty : TypeId) (x y : Operand) (ho : op.op = .store ty x y) (g : Nat) (c c' : Array Value) (T : TypeId) (hx : a.eval x = .pointer (some ⟨g, 0, none⟩)) (hy : a.eval y = .agg c')
    (hg : w.heap[g]? = some (.cells c T (0, 0))) (hl : c'.size = c.size) (hi : (P.info? ty).map (·.size) = some c'.size) (h1 : c'.all (·.oneCell') = true)
    (h : ∀ w', w'.heap[g]? = some (.cells c' T (0, 0)) → Turn (fun b => b = g) w w' → wpList P ops Q rest (a.put op.dst undef) w') : wpList P ops Q (op :: rest) a w :=
 wpList_store_mid hgd ty x y ho g 0 c' hx hy (there_row hg (by omega)) hi h1 (h _ (cells_whole hg hl) (turn_cells (S := fun b => b = g) g (.inr rfl) _ 0 (Turn.refl _ w)))
/-- At the operation of a destination. -/
theorem at_dst (d : Option Nat) {o1 : Op} {o2 : TypeId} {o3 : String} {o4 : Array Edge} {o5 : Option (Nat × Bool)} (h : wpList P ops Q (⟨d, o1, o2, o3, o4, o5⟩ :: rest) a w) : wpList P ops Q (⟨d, o1, o2, o3, o4, o5⟩ :: rest) a w := h
/-- At the store to what a temporary points to. -/
theorem at_st (t : Nat) {ty o2 : TypeId} {y : Operand} {d : Option Nat} {o3 : String} {o4 : Array Edge} {o5 : Option (Nat × Bool)} (h : wpList P ops Q (⟨d, .store ty (.tmp t) y, o2, o3, o4, o5⟩ :: rest) a w) : wpList P ops Q (⟨d, .store ty (.tmp t) y, o2, o3, o4, o5⟩ :: rest) a w := h
/-- A range is loaded. -/
theorem ld_arm (hgd : op.guard = none) (ty : TypeId) (x : Operand) (ho : op.op = .load ty x) (b o : Nat) (hx : a.eval x = .pointer (some ⟨b, o, none⟩)) (c : Array Value) (d : TypeDesc) (hc : w.rangeAt b o c.toList)
    (hu : P.underlying ty = some d) (hd : d.isRow = true) (hi : (P.info? ty).map (·.size) = some c.size) (h : wpList P ops Q rest (a.put op.dst (.agg c)) w) : wpList P ops Q (op :: rest) a w :=
 wpList_load_mid hgd ty x ho b o hx c.toList d hc hu hd (by rw [Array.length_toList]; exact hi) (by rw [Array.toArray_toList]; exact h)
/-- As it is met in a drawn region. -/
theorem st_rowW {K : Act → World → Prop} (ty : TypeId) (x y : Operand) (ho : op.op = .store ty x y) (g : Nat) (c c' : Array Value) (T : TypeId) (hx : a.eval x = .pointer (some ⟨g, 0, none⟩)) (hy : a.eval y = .agg c')
    (hg : w.heap[g]? = some (.cells c T (0, 0))) (hl : c'.size = c.size) (hi : (P.info? ty).map (·.size) = some c'.size) (h1 : c'.all (·.oneCell') = true)
    (h : ∀ w', w'.heap[g]? = some (.cells c' T (0, 0)) → Turn (fun b => b = g) w w' → K (a.put op.dst undef) w') : op.wp P a w K Q :=
 wp_store_mid ty x y ho g 0 c' hx hy (there_row hg (by omega)) hi h1 (h _ (cells_whole hg hl) (turn_cells (S := fun b => b = g) g (.inr rfl) _ 0 (Turn.refl _ w)))
theorem build_arm (hgd : op.guard = none) (ty : TypeId) (parts : Array (Nat × Operand)) (ho : op.op = .build ty parts) (ps : Array (Nat × Value)) (hps : (parts.map fun (i, x) => (i, a.eval x)) = ps) (v : Value) (hv : (Instr.build ty ps).run P w = .ok v w) (h : wpList P ops Q rest (a.put op.dst v) w) : wpList P ops Q (op :: rest) a w :=
 wpList_plain hgd fun _ hK => by
  unfold Oper.wp execOp
  simp only [ho]
  have e : (Instr.build ty (parts.map fun (i, x) => (i, a.eval x))).run P w = .ok v w := by rw [hps]; exact hv
  simp only [Sem.run_bind, Sem.run_pure, e, Result.andThen_ok]
  exact hK _ _ h
theorem val_of {m : Sem Value} {v : Value} (h : m.run P w = .ok v w) : (do pure (Next.value (← m)) : Sem Next).run P w = .ok (.value v) w := by
 simp [h]
end
theorem Turn.heap {S : Nat → Prop} {w w' : World} {g : Nat} {o : Obj} (ht : Turn S w w') (h : w.heap[g]? = some o) (hS : ¬ S g) : w'.heap[g]? = some o := (ht.block g (blk_lt h) hS).trans h
end Go.Proofs.YtijciakkfpjjbaaGreatDoor
namespace Go.Proofs.YtijciakkfpjjbaaGreatDoor
open Go Go.RowKit

/-- Two decimals, read. -/
def TwoIs (n1 n2 : Bool) (D E : List Nat) (S1 S2 : Nat) (w : World) (e : Ending) (w' : World) : Prop :=
 ∃ A ca B cb, e = .returned (.tuple #[.agg #[.bool n1, .slice A D.length ca, .int .i64 (S1 : Int)], .agg #[.bool n2, .slice B E.length cb, .int .i64 (S2 : Int)], .bool true]) ∧ Below w.heap.size w w' ∧ IntsAt w' A D ∧ IntsAt w' B E
theorem ints_far {w : World} {A : Option Addr} {D : List Nat} (h : IntsAt w A D) (h2 : 2 ≤ D.length) {z : Nat} {T : TypeId} {fr : Nat × Nat} {x : Bool} {B : Option Addr} {l c : Nat} {n : Int} (hz : w.heap[z]? = some (.cells #[.bool x, .slice B l c, .int .i64 n] T fr)) : ∀ ad, A = some ad → ad.block ≠ z := by
 intro ad hA e
 obtain ⟨ad0, h0, _, c0⟩ := h 0 D[0] (List.getElem?_eq_getElem (by omega))
 obtain ⟨ad1, h1, _, c1⟩ := h 1 D[1] (List.getElem?_eq_getElem (by omega))
 rw [hA] at h0 h1
 injection h0 with h0
 injection h1 with h1
 subst h0
 subst h1
 obtain ⟨b, o, sp⟩ := ad
 subst e
 have key : ∀ i v, World.cell? w ((⟨b, o, sp⟩ : Addr).add i) = some v → (#[Value.bool x, .slice B l c, .int .i64 n] : Array Value)[o + i]? = some v := fun i v hv => by
  have hb : ((⟨b, o, sp⟩ : Addr).add i).block = b := by unfold Addr.add; split <;> rfl
  have ho : ((⟨b, o, sp⟩ : Addr).add i).off = o + i := by
   unfold Addr.add
   split
   ·rename_i hi; rw [hi]; rfl
   ·rfl
  unfold World.cell? at hv
  rw [hb, hz] at hv
  simp only at hv
  rw [ho] at hv
  split at hv
  ·cases hv
  ·exact hv
 have k0 := key 0 _ c0
 have k1 := key 1 _ c1
 have l0 := (Array.getElem?_eq_some_iff.1 k0).1
 have l1 := (Array.getElem?_eq_some_iff.1 k1).1
 simp only [List.size_toArray, List.length_cons, List.length_nil] at l0 l1
 rcases (by omega : o = 0 ∨ o = 1) with e | e
 ·subst e; simp at k0
 ·subst e; simp at k0
theorem IntsAt.turn2 {w w' : World} {S : Nat → Prop} {A : Option Addr} {D : List Nat} (h : IntsAt w A D) (ht : Turn S w w') (hf : ∀ ad, A = some ad → ¬ S ad.block) : IntsAt w' A D := fun i x hx => by
 obtain ⟨ad, hA, hl, hc⟩ := h i x hx
 have hb : (ad.add i).block = ad.block := by unfold Addr.add; split <;> rfl
 exact ⟨ad, hA, Nat.lt_of_lt_of_le hl ht.size, (ht.cell (p := ad.add i) hl (by rw [hb]; exact hf ad hA)).trans hc⟩
set_option maxRecDepth 100000 in
set_option maxHeartbeats 8000000 in
theorem two_any (s t : ByteArray) (hs : decB s = true) (ht : decB t = true) (hsl : s.size ≤ 1000) (htl : t.size ≤ 1000) (n1 n2 : Bool) (D E : List Nat) (S1 S2 : Nat) (hD2 : 2 ≤ D.length) (hE2 : 2 ≤ E.length) (hp : parseT s = some (n1, D, S1)) (hq : parseT t = some (n2, E, S2)) (w : World) :
    Calls Tryz.prog 79 #[.string s, .string t] w (TwoIs n1 n2 D E S1 S2 w) := by
 have HP := Lib.hid hp
 have HQ := Lib.hid hq
 have HDS := Lib.hid (fun (W : World) => refDec_any s (by omega) W)
 have HDT := Lib.hid (fun (W : World) => refDec_any t (by omega) W)
 rw [hs] at HDS
 rw [ht] at HDT
 obtain ⟨z, Hz⟩ := name_itV w.heap.size
 obtain ⟨w1, HW1⟩ := name_itV ((w.alloc (.cells #[.bool false, .slice none 0 0, .int .i64 0] 117)).alloc (.cells #[.bool false, .slice none 0 0, .int .i64 0] 117))
 have HB1 := Lib.hid (show Below w.heap.size w w1 from by rw [← HW1.out]; exact two_new w _ _)
 have HX1 := Lib.hid (show w1.heap[z]? = some (.cells #[.bool false, .slice none 0 0, .int .i64 0] 117 (0, 0)) from by
  rw [← HW1.out, ← Hz.out, Below.heap_alloc _ _ _ (by simp)]
  exact heap_alloc_new w _)
 have HY1 := Lib.hid (show w1.heap[z + 1]? = some (.cells #[.bool false, .slice none 0 0, .int .i64 0] 117 (0, 0)) from by
  rw [← HW1.out, ← Hz.out]
  have := heap_alloc_new (w.alloc (.cells #[.bool false, .slice none 0 0, .int .i64 0] 117)) (.cells #[.bool false, .slice none 0 0, .int .i64 0] 117)
  simpa using this)
 have hpa := Lib.hid (fun (W : World) => parsed_any s (by omega) W)
 have hpb := Lib.hid (fun (W : World) => parsed_any t (by omega) W)
 clear hs ht hp hq
 obtain ⟨n, Hn⟩ := name_itV D.length
 obtain ⟨m, Hm⟩ := name_itV E.length
 go_enter Tryz.func79, Tryz.ntmps79
 go_upto_region 1 with fail
 rw [HW1.out, Hz.out]
 go_wp2_with fail
 refine (hpa.out w1).mono ?_
 rintro e w2 ⟨hb2, hm2⟩
 rw [HP.out] at hm2
 obtain ⟨A, ca, rfl, hi2⟩ := hm2
 rw [Hn.out]
 have HB2 := Lib.hid (HB1.out.trans (hb2.mono HB1.out.size))
 have HB12 := Lib.hid hb2
 have HI2 := Lib.hid hi2
 obtain ⟨za, Hza⟩ := name_itV w2.heap.size
 obtain ⟨w3, HW3⟩ := name_itV (w2.alloc (.cells #[.bool n1, .slice A n ca, .int .i64 (S1 : Int)] 117))
 have HB23 := Lib.hid (show Below w2.heap.size w2 w3 from by rw [← HW3.out]; exact (Below.refl _ _).alloc (Nat.le_refl _) _)
 have HA3 := Lib.hid (show w3.heap[za]? = some (.cells #[.bool n1, .slice A n ca, .int .i64 (S1 : Int)] 117 (0, 0)) from by rw [← HW3.out, ← Hza.out]; exact heap_alloc_new w2 _)
 clear hb2 hi2
 go_upto_region 2 with fail
 rw [HW3.out, Hza.out]
 go_wp2_with fail
 refine (hpb.out w3).mono ?_
 rintro e w4 ⟨hb4, hm4⟩
 rw [HQ.out] at hm4
 obtain ⟨B, cb, rfl, hi4⟩ := hm4
 rw [Hm.out]
 have HB34 := Lib.hid hb4
 have HI4 := Lib.hid hi4
 obtain ⟨zb, Hzb⟩ := name_itV w4.heap.size
 obtain ⟨w5, HW5⟩ := name_itV (w4.alloc (.cells #[.bool n2, .slice B m cb, .int .i64 (S2 : Int)] 117))
 have HB45 := Lib.hid (show Below w4.heap.size w4 w5 from by rw [← HW5.out]; exact (Below.refl _ _).alloc (Nat.le_refl _) _)
 have HV5 := Lib.hid (show w5.heap[zb]? = some (.cells #[.bool n2, .slice B m cb, .int .i64 (S2 : Int)] 117 (0, 0)) from by rw [← HW5.out, ← Hzb.out]; exact heap_alloc_new w4 _)
 have HB35 := Lib.hid (HB34.out.trans (HB45.out.mono HB34.out.size))
 have HA5 := Lib.hid ((HB35.out.block za (blk_lt HA3.out)).trans HA3.out)
 have HB25 := Lib.hid (HB23.out.trans (HB35.out.mono HB23.out.size))
 have HB15 := Lib.hid (HB12.out.trans (HB25.out.mono HB12.out.size))
 have HX5 := Lib.hid ((HB15.out.block z (blk_lt HX1.out)).trans HX1.out)
 have HY5 := Lib.hid ((HB15.out.block (z + 1) (blk_lt HY1.out)).trans HY1.out)
 have HI25 := Lib.hid (HI2.out.under HB25.out)
 have HI45 := Lib.hid (HI4.out.under HB45.out)
 have HB5 := Lib.hid (HB1.out.trans (HB15.out.mono HB1.out.size))
 have hne := Lib.hid (show z + 1 < za ∧ za < zb from ⟨by have h1 := blk_lt HY1.out; have h2 := HB12.out.size; have := Hza.out; omega, by have h1 := blk_lt HA3.out; have h2 := HB34.out.size; have := Hzb.out; omega⟩)
 clear hb4 hi4
 go_upto_region 3 with fail
 rw [HW5.out, Hzb.out]
 obtain ⟨e1, He1⟩ : ∃ c : Array Value, Hid (#[.bool n1, .slice A n ca, .int .i64 (S1 : Int)] = c) := ⟨_, Lib.hid rfl⟩
 obtain ⟨e2, He2⟩ : ∃ c : Array Value, Hid (#[.bool n2, .slice B m cb, .int .i64 (S2 : Int)] = c) := ⟨_, Lib.hid rfl⟩
 have Q1 := Lib.hid (show e1.size = 3 from by rw [← He1.out]; kernel_rfl)
 have Q2 := Lib.hid (show e2.size = 3 from by rw [← He2.out]; kernel_rfl)
 have O1 := Lib.hid (show e1.all (·.oneCell') = true from by rw [← He1.out]; kernel_rfl)
 have O2 := Lib.hid (show e2.all (·.oneCell') = true from by rw [← He2.out]; kernel_rfl)
 have HA5 := Lib.hid HA5.out
 have HV5 := Lib.hid HV5.out
 rw [He1.out] at HA5
 rw [He2.out] at HV5
 have s1 := Lib.hid (show w5.drew.heap[za]? = some (.cells e1 117 (0, 0)) ∧ w5.drew.heap[zb]? = some (.cells e2 117 (0, 0)) from ⟨HA5.out, HV5.out⟩)
 refine wp_region_held_drew (S := fun W' => W'.heap[za]? = some (.cells e1 117 (0, 0)) ∧ W'.heap[zb]? = some (.cells e2 117 (0, 0))) (by kernel_rfl) s1.out (fun hHeld => ?_)
 refine Boxed.out ?_
 refine take_want 0 21 (.agg e1) (by kernel_rfl) (by rfl) (by kernel_rfl) (by kernel_rfl) (by kernel_rfl) (fun _ _ _ h => h) hHeld (fun w hSw => ?_) (fun hHeld => ?_)
 ·exact val_of (ld_run hSw.1 117 _ Tryz.underlying117 rfl (by rw [Q1.out]; kernel_rfl))
 simp only [Act.put, List.setIfInBounds_toArray, List.set_cons_zero, List.set_cons_succ]
 refine take_want 1 22 (.agg e2) (by kernel_rfl) (by rfl) (by kernel_rfl) (by kernel_rfl) (by kernel_rfl) (fun _ _ _ h => h) hHeld (fun w hSw => ?_) (fun hHeld => ?_)
 ·exact val_of (ld_run hSw.2 117 _ Tryz.underlying117 rfl (by rw [Q2.out]; kernel_rfl))
 simp only [Act.put, List.setIfInBounds_toArray, List.set_cons_zero, List.set_cons_succ]
 refine take_want 2 23 (.bool true) (by kernel_rfl) (by rfl) (by kernel_rfl) (by kernel_rfl) (by kernel_rfl) (fun _ _ _ h => h) hHeld (fun w hSw => ?_) (fun hHeld => ?_)
 ·unfold runsTo
  go_simp
 simp only [Act.put, List.setIfInBounds_toArray, List.set_cons_zero, List.set_cons_succ]
 refine take_want 3 24 (.bool true) (by kernel_rfl) (by rfl) (by kernel_rfl) (by kernel_rfl) (by kernel_rfl) (fun _ _ _ h => h) hHeld (fun w hSw => ?_) (fun hHeld => ?_)
 ·unfold runsTo
  go_simp
 simp only [Act.put, List.setIfInBounds_toArray, List.set_cons_zero, List.set_cons_succ]
 refine take_want 4 25 (.bool true) (by kernel_rfl) (by rfl) (by kernel_rfl) (by kernel_rfl) (by kernel_rfl) (fun _ _ _ h => h) hHeld (fun w hSw => ?_) (fun hHeld => ?_)
 ·unfold runsTo
  go_simp
 simp only [Act.put, List.setIfInBounds_toArray, List.set_cons_zero, List.set_cons_succ]
 refine take_want 5 26 (.bool true) (by kernel_rfl) (by rfl) (by kernel_rfl) (by kernel_rfl) (by kernel_rfl) (fun _ _ _ h => h) hHeld (fun w hSw => ?_) (fun hHeld => ?_)
 ·unfold runsTo
  go_simp
 simp only [Act.put, List.setIfInBounds_toArray, List.set_cons_zero, List.set_cons_succ]
 refine take_want 6 27 (.bool true) (by kernel_rfl) (by rfl) (by kernel_rfl) (by kernel_rfl) (by kernel_rfl) (fun _ _ _ h => h) hHeld (fun w hSw => ?_) (fun hHeld => ?_)
 ·unfold runsTo
  go_simp
 simp only [Act.put, List.setIfInBounds_toArray, List.set_cons_zero, List.set_cons_succ]
 refine take_want 7 28 (.string s) (by kernel_rfl) (by rfl) (by kernel_rfl) (by kernel_rfl) (by kernel_rfl) (fun _ _ _ h => h) hHeld (fun w hSw => ?_) (fun hHeld => ?_)
 ·unfold runsTo
  go_simp
 simp only [Act.put, List.setIfInBounds_toArray, List.set_cons_zero, List.set_cons_succ]
 refine take_call 8 (by kernel_rfl) (by rfl) (fun K hK => ?_)
 change Oper.wp _ ⟨some 29, _, _, _, _, _⟩ _ _ _ _
 go_simp
 refine (HDS.out w5.drew).mono ?_
 rintro e w6 ⟨rfl, hb6⟩
 have HB56 := Lib.hid (show Below w5.heap.size w5 w6 from below_of_dr hb6)
 have HS6 := Lib.hid (show w6.heap[za]? = some (.cells e1 117 (0, 0)) ∧ w6.heap[zb]? = some (.cells e2 117 (0, 0)) from ⟨(HB56.out.block za (blk_lt HA5.out)).trans HA5.out, (HB56.out.block zb (blk_lt HV5.out)).trans HV5.out⟩)
 clear hb6
 dsimp only
 refine hK.out _ _ HS6.out (fun hHeld => ?_)
 clear hK K
 try simp only [Act.put, List.setIfInBounds_toArray, List.set_cons_zero, List.set_cons_succ]
 refine take_want 9 30 (.bool true) (by kernel_rfl) (by rfl) (by kernel_rfl) (by kernel_rfl) (by kernel_rfl) (fun _ _ _ h => h) hHeld (fun w hSw => ?_) (fun hHeld => ?_)
 ·unfold runsTo
  go_simp
 simp only [Act.put, List.setIfInBounds_toArray, List.set_cons_zero, List.set_cons_succ]
 refine take_want 10 31 (.bool true) (by kernel_rfl) (by rfl) (by kernel_rfl) (by kernel_rfl) (by kernel_rfl) (fun _ _ _ h => h) hHeld (fun w hSw => ?_) (fun hHeld => ?_)
 ·unfold runsTo
  go_simp
 simp only [Act.put, List.setIfInBounds_toArray, List.set_cons_zero, List.set_cons_succ]
 refine take_want 11 32 (.string t) (by kernel_rfl) (by rfl) (by kernel_rfl) (by kernel_rfl) (by kernel_rfl) (fun _ _ _ h => h) hHeld (fun w hSw => ?_) (fun hHeld => ?_)
 ·unfold runsTo
  go_simp
 simp only [Act.put, List.setIfInBounds_toArray, List.set_cons_zero, List.set_cons_succ]
 refine take_call 12 (by kernel_rfl) (by rfl) (fun K hK => ?_)
 change Oper.wp _ ⟨some 33, _, _, _, _, _⟩ _ _ _ _
 go_simp
 refine (HDT.out w6).mono ?_
 rintro e w7 ⟨rfl, hb7⟩
 have HB57 := Lib.hid (HB56.out.trans (hb7.mono HB56.out.size))
 have HS7 := Lib.hid (show w7.heap[za]? = some (.cells e1 117 (0, 0)) ∧ w7.heap[zb]? = some (.cells e2 117 (0, 0)) from ⟨(HB57.out.block za (blk_lt HA5.out)).trans HA5.out, (HB57.out.block zb (blk_lt HV5.out)).trans HV5.out⟩)
 have HX7 := Lib.hid ((HB57.out.block z (blk_lt HX5.out)).trans HX5.out)
 have HY7 := Lib.hid ((HB57.out.block (z + 1) (blk_lt HY5.out)).trans HY5.out)
 have HI7 := Lib.hid (HI25.out.under HB57.out)
 have HJ7 := Lib.hid (HI45.out.under HB57.out)
 clear hb7
 dsimp only
 refine hK.out _ _ HS7.out (fun hHeld => ?_)
 clear hK K
 try simp only [Act.put, List.setIfInBounds_toArray, List.set_cons_zero, List.set_cons_succ]
 refine take_want 13 34 (.bool true) (by kernel_rfl) (by rfl) (by kernel_rfl) (by kernel_rfl) (by kernel_rfl) (fun _ _ _ h => h) hHeld (fun w hSw => ?_) (fun hHeld => ?_)
 ·unfold runsTo
  go_simp
 simp only [Act.put, List.setIfInBounds_toArray, List.set_cons_zero, List.set_cons_succ]
 refine take_call 14 (by kernel_rfl) (by rfl) (fun K hK => ?_)
 change Oper.wp _ ⟨none, _, _, _, _, _⟩ _ _ _ _
 refine st_rowW 117 _ _ rfl z #[.bool false, .slice none 0 0, .int .i64 0] e1 117 rfl rfl HX7.out Q1.out (by rw [Q1.out]; kernel_rfl) O1.out ?_
 intro w8 hg8 ht8
 have HS8 := Lib.hid (show w8.heap[za]? = some (.cells e1 117 (0, 0)) ∧ w8.heap[zb]? = some (.cells e2 117 (0, 0)) from ⟨ht8.heap HS7.out.1 (show ¬ za = z by have := hne.out; omega), ht8.heap HS7.out.2 (show ¬ zb = z by have := hne.out; omega)⟩)
 have HO8 := Lib.hid (ht8.heap HY7.out (show ¬ z + 1 = z by omega))
 refine hK.out _ _ HS8.out (fun hHeld => ?_)
 clear hK K
 try simp only [Act.put]
 refine take_call 15 (by kernel_rfl) (by rfl) (fun K hK => ?_)
 change Oper.wp _ ⟨none, _, _, _, _, _⟩ _ _ _ _
 refine st_rowW 117 _ _ rfl (z + 1) #[.bool false, .slice none 0 0, .int .i64 0] e2 117 rfl rfl HO8.out Q2.out (by rw [Q2.out]; kernel_rfl) O2.out ?_
 intro w9 hg9 ht9
 have HS9 := Lib.hid (show w9.heap[za]? = some (.cells e1 117 (0, 0)) ∧ w9.heap[zb]? = some (.cells e2 117 (0, 0)) from ⟨ht9.heap HS8.out.1 (show ¬ za = z + 1 by have := hne.out; omega), ht9.heap HS8.out.2 (show ¬ zb = z + 1 by have := hne.out; omega)⟩)
 have HA9 := Lib.hid (ht9.heap hg8 (show ¬ z = z + 1 by omega))
 have HV9 := Lib.hid hg9
 have HT9 := Lib.hid (show Turn (fun b => b = z ∨ b = z + 1) w7 w9 from (ht8.mono (fun b _ h => .inl h)).trans (ht9.mono (fun b _ h => .inr h)))
 refine hK.out _ _ HS9.out (fun hHeld => ?_)
 clear hK K hg8 ht8 hg9 ht9
 try simp only [Act.put]
 refine take_want 16 6 (.bool true) (by kernel_rfl) (by rfl) (by kernel_rfl) (by kernel_rfl) (by kernel_rfl) (fun _ _ _ h => h) hHeld (fun w hSw => ?_) (fun hHeld => ?_)
 ·unfold runsTo
  go_simp
 simp only [Act.put, List.setIfInBounds_toArray, List.set_cons_zero, List.set_cons_succ]
 refine ⟨wpAnyH_done (by kernel_rfl) ?_ _⟩
 clear hHeld
 go_wp2_with fail
 have hl1 := run_loadVar_row (P := Tryz.prog) w9 z 117 117 e1 (0, 0) _ HA9.out Tryz.underlying117 rfl (by rw [Q1.out]; kernel_rfl)
 have hl2 := run_loadVar_row (P := Tryz.prog) w9 (z + 1) 117 117 e2 (0, 0) _ HV9.out Tryz.underlying117 rfl (by rw [Q2.out]; kernel_rfl)
 refine bodyPost_ret (v := .tuple #[.agg e1, .agg e2, .bool true]) (by simp [results, Tryz.results79, asAddr, hl1, hl2]) rfl ⟨A, ca, B, cb, by rw [← He1.out, ← He2.out, Hn.out, Hm.out], ?_, ?_, ?_⟩
 ·exact HB5.out.trans ((HB57.out.mono HB5.out.size).trans (HT9.out.below (fun b _ h => by have := Hz.out; omega) (Nat.le_trans HB5.out.size HB57.out.size)))
 ·exact HI7.out.turn2 HT9.out (fun ad hA h => by
    rcases h with h | h
    ·exact ints_far HI7.out hD2 HX7.out ad hA h
    ·exact ints_far HI7.out hD2 HY7.out ad hA h)
 ·exact HJ7.out.turn2 HT9.out (fun ad hA h => by
    rcases h with h | h
    ·exact ints_far HJ7.out hE2 HX7.out ad hA h
    ·exact ints_far HJ7.out hE2 HY7.out ad hA h)
end Go.Proofs.YtijciakkfpjjbaaGreatDoor
