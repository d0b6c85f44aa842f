/- Bytes that are read: take, number8, count, text. -/
import Derived.Test.YtdhnmgndekncpaaDoorVO
namespace Go.Proofs.YtdhnmgndekncpaaDoor
open Go Go.RowKit Go.Maps Go.WideMaps

/-- The bytes R lie where the slice s leads, in block G. -/
def BRd (w : World) (G : Nat) (s : Value) (R : List UInt8) : Prop :=
  ∃ ad cap, s = .slice (some ad) R.length cap ∧ R.length ≤ cap ∧ ad.block = G ∧ ∀ i c, R[i]? = some c → w.cell? (ad.add i) = some (.int .u8 (c.toNat : Int))
theorem BRd.keep {w w' : World} {G : Nat} {s : Value} {R : List UInt8} (h : BRd w G s R) (hk : w'.heap[G]? = w.heap[G]?) : BRd w' G s R := by
  obtain ⟨ad, cap, e, hc, hb, hr⟩ := h
  exact ⟨ad, cap, e, hc, hb, fun i c hi => (World.cell?_of_block (by rw [block_of_add, hb]; exact hk)).trans (hr i c hi)⟩
/-- What take hands back, and what is left. -/
def TakeB (rb G : Nat) (M R : List UInt8) (w : World) (e : Ending) (w' : World) : Prop :=
  ∃ s1 s2, e = .returned s1 ∧ w' = w.setCell ⟨rb, 0, none⟩ s2 ∧ BRd w G s1 M ∧ BRd w G s2 R
set_option maxRecDepth 100000 in
set_option maxHeartbeats 1000000 in
theorem take_any (rb G : Nat) (s : Value) (M R : List UInt8) (n : Nat) (w : World) (hn : M.length = n) (hlen : M.length + R.length ≤ 100000000) (hs : BRd w G s (M ++ R)) (hrb : w.heap[rb]? = some (.cells #[s, .bool false] 131 (0, 0))) :
    Calls Tryd.prog 73 #[.pointer (some ⟨rb, 0, none⟩), .int .i64 (n : Int)] w (TakeB rb G M R w) := by
  obtain ⟨ad, cap, rfl, hcap, hG, hc⟩ := hs
  obtain ⟨m, Hm⟩ := name_itV (M ++ R).length
  have hmn : n ≤ m ∧ m ≤ 100000000 := by rw [← Hm.out, List.length_append]; omega
  obtain ⟨hmn, hmb⟩ := hmn
  have hR := Lib.hid (show R.length = m - n from by rw [← Hm.out, List.length_append]; omega)
  have hN := Lib.hid hn
  rw [Hm.out] at hrb hcap
  have HC := Lib.hid hc
  have c0 : w.cell? ⟨rb, 0, none⟩ = some (.slice (some ad) m cap) := Lib.cell_of_heap hrb 0
  have f0 : w.frozen? ⟨rb, 0, none⟩ = false := Lib.frozen_of_heap hrb 0
  have HM := Lib.hid (show BRd w G (.slice (some ad) n cap) M from ⟨ad, cap, by rw [hN.out], by rw [hn]; omega, hG, fun i c hi => HC.out i c (by rw [List.getElem?_append_left (List.getElem?_eq_some_iff.1 hi).1]; exact hi)⟩)
  have e1 : ¬ (m : Int) < (n : Int) := by omega
  have e2 : (0 : Int) ≤ (n : Int) := by omega
  have e3 : (n : Int) ≤ (m : Int) := by omega
  have e4 : (n : Int) ≤ (cap : Int) := by omega
  clear hc hn
  by_cases hcn : cap = n
  · have HR := Lib.hid (show BRd w G (.slice (some ad) (m - n) 0) R from ⟨ad, 0, by rw [hR.out], by rw [hR.out]; omega, hG, fun i c hi => by
      have h1 := (List.getElem?_eq_some_iff.1 hi).1
      have := hR.out; omega⟩)
    rw [hcn] at HM
    go_enter Tryd.func73, Tryd.ntmps73
    go_wp2_with fail
    go_ret
    exact ⟨_, _, rfl, rfl, HM.out, HR.out⟩
  · have hadd := Lib.hid (fun i : Nat => add_of_add ad n i)
    have HR := Lib.hid (show BRd w G (.slice (some (ad.add n)) (m - n) (cap - n)) R from ⟨ad.add n, cap - n, by rw [hR.out], by rw [hR.out]; omega, by rw [block_of_add, hG], fun i c hi => by
      rw [hadd.out]
      exact HC.out (n + i) c (by rw [List.getElem?_append_right (by rw [hN.out]; omega), hN.out, show n + i - n = i by omega]; exact hi)⟩)
    go_enter Tryd.func73, Tryd.ntmps73
    go_wp2_with fail
    go_ret
    exact ⟨_, _, rfl, rfl, HM.out, HR.out⟩

/-- The number that bytes say, the highest first. -/
def valN (l : List UInt8) : Nat := l.foldl (fun a c => a * 256 + c.toNat) 0
theorem valN_snoc (l : List UInt8) (c : UInt8) : valN (l ++ [c]) = valN l * 256 + c.toNat := by unfold valN; rw [List.foldl_append]; rfl
theorem valN_lt' (l : List UInt8) : ∀ a : Nat, l.foldl (fun a c => a * 256 + c.toNat) a < (a + 1) * 256 ^ l.length := by
  induction l with
  | nil => intro a; simp
  | cons c l ih =>
    intro a
    have h := ih (a * 256 + c.toNat)
    have hc := c.toNat_lt
    rw [List.foldl_cons, List.length_cons, Nat.pow_succ]
    refine Nat.lt_of_lt_of_le h ?_
    rw [Nat.mul_comm (256 ^ l.length) 256, ← Nat.mul_assoc]
    exact Nat.mul_le_mul_right _ (by omega)
theorem valN_lt (l : List UInt8) : valN l < 256 ^ l.length := by
  have h := valN_lt' l 0
  rw [Nat.zero_add, Nat.one_mul] at h
  exact h
theorem beN_succ (W m : Nat) : beN (W + 1) m = beN W (m / 256) ++ [UInt8.ofNat (m % 256)] := by
  unfold beN
  rw [List.range_succ, List.map_append]
  congr 1
  · refine List.map_congr_left (fun j hj => ?_)
    have hj : j < W := List.mem_range.1 hj
    have h1 : m / 2 ^ (8 * (W + 1 - 1 - j)) = m / 256 / 2 ^ (8 * (W - 1 - j)) := by
      rw [Nat.div_div_eq_div_mul, show 8 * (W + 1 - 1 - j) = 8 + 8 * (W - 1 - j) by omega, Nat.pow_add]
    rw [h1]
  · simp
theorem valN_be (W : Nat) : ∀ m, m < 256 ^ W → valN (beN W m) = m := by
  induction W with
  | zero => intro m h; simp at h; subst h; rfl
  | succ W ih =>
    intro m h
    rw [beN_succ, valN_snoc, ih _ (by rw [Nat.pow_succ] at h; omega), UInt8.toNat_ofNat']
    have : m % 256 % 2 ^ 8 = m % 256 := Nat.mod_eq_of_lt (Nat.mod_lt _ (by decide))
    rw [this]
    omega
theorem or_byte (a c : Nat) (ha : a < 72057594037927936) (hc : c < 256) : bits .or .u64 ((a * 256 : Nat) : Int) (c : Int) = ((a * 256 + c : Nat) : Int) := by
  rw [u64_or_nat _ _ (by omega) (by omega)]
  have := Nat.shiftLeft_add_eq_or_of_lt (a := a) (i := 8) (b := c) hc
  rw [Nat.shiftLeft_eq] at this
  rw [← this]
set_option maxRecDepth 100000 in
set_option maxHeartbeats 1000000 in
theorem number_any (G : Nat) (s : Value) (M : List UInt8) (w : World) (hn : M.length ≤ 8) (hs : BRd w G s M) :
    Calls Tryd.prog 74 #[s] w fun e w' => e = .returned (.int .u64 ((valN M : Nat) : Int)) ∧ w' = w := by
  obtain ⟨ad, cap, rfl, hcap, hG, hc⟩ := hs
  obtain ⟨n, Hn⟩ := name_itV M.length
  rw [Hn.out] at hn hcap ⊢
  have HC := Lib.hid hc
  clear hc
  go_enter Tryd.func74, Tryd.ntmps74
  go_wp2_with fail
  go_loop [3, 8] (fun s3 s8 => ∃ k : Nat, k ≤ n ∧ s3 = .int .u64 ((valN (M.take k) : Nat) : Int) ∧ s8 = .int .i64 (k : Nat)) (fun _ s8 => n - (intOf s8).toNat)
  case atStart => exact ⟨0, by omega, rfl, rfl⟩
  case round =>
    obtain ⟨k, hk, rfl, rfl⟩ := hrel
    by_cases hlt : k < n
    · obtain ⟨c, hc⟩ : ∃ c, M[k]? = some c := ⟨M[k]'(by rw [Hn.out]; exact hlt), List.getElem?_eq_getElem _⟩
      have h0 := HC.out k c hc
      have hv := Lib.hid (show valN (M.take (k + 1)) = valN (M.take k) * 256 + c.toNat from by rw [take_oneMore hc, valN_snoc])
      have hb := valN_lt (M.take k)
      have hkl : (M.take k).length ≤ 7 := by rw [List.length_take]; omega
      have hb2 : valN (M.take k) < 72057594037927936 := Nat.lt_of_lt_of_le hb (Nat.le_trans (Nat.pow_le_pow_right (by decide) hkl) (by decide))
      obtain ⟨a, Ha⟩ := name_itV (valN (M.take k))
      obtain ⟨z, Hz⟩ := name_itV c.toNat
      have hz : z < 256 := by rw [← Hz.out]; exact c.toNat_lt
      rw [Ha.out] at hv hb2
      rw [Hz.out] at hv h0
      rw [Ha.out]
      obtain ⟨a2, Ha2⟩ := name_itV (a * 256)
      have h1 : IntKind.u64.wrap ((a : Int) * 256) = (a2 : Int) := by rw [IntWalk.u64_in _ (by omega), ← Ha2.out]; push_cast; rfl
      have h2 : IntKind.u64.wrap (z : Int) = (z : Int) := IntWalk.u64_in _ (by omega)
      have h3 : bits .or .u64 (a2 : Int) (z : Int) = ((a2 + z : Nat) : Int) := by rw [← Ha2.out]; exact or_byte a z hb2 hz
      have h4 : (a : Int) * 256 = (a2 : Int) := by rw [← Ha2.out]; push_cast; rfl
      have q1 : (0 : Int) ≤ k := by omega
      have q2 : (k : Int) < n := by omega
      clear hc hb
      go_wp2_with fail
      go_round
      case rel => exact ⟨k + 1, by omega, by rw [hv.out, ← Ha2.out]; push_cast; rfl, by go_num⟩
      case measure => simp [intOf]; omega
    · have hke : k = n := by omega
      have hv := Lib.hid (show valN (M.take k) = valN M from by rw [List.take_of_length_le (by rw [Hn.out]; omega)])
      subst hke
      go_wp2_with fail
      go_ret
      exact ⟨by rw [← hv.out]; rfl, rfl⟩

/-- A reader over the bytes R: its struct lies in block rb. -/
def Rdr (w : World) (rb G : Nat) (R : List UInt8) : Prop := ∃ s, BRd w G s R ∧ w.heap[rb]? = some (.cells #[s, .bool false] 131 (0, 0))
theorem Rdr.keep {w w' : World} {rb G : Nat} {R : List UInt8} (h : Rdr w rb G R) (hG : w'.heap[G]? = w.heap[G]?) (hr : w'.heap[rb]? = w.heap[rb]?) : Rdr w' rb G R := by
  obtain ⟨s, h1, h2⟩ := h
  exact ⟨s, h1.keep hG, hr.trans h2⟩
theorem Rdr.lt {w : World} {rb G : Nat} {R : List UInt8} (h : Rdr w rb G R) : rb < w.heap.size := by
  obtain ⟨s, _, h2⟩ := h
  exact (Array.getElem?_eq_some_iff.1 h2).1
theorem rdr_set {w : World} {rb G : Nat} {s s2 : Value} {R' : List UInt8} (hne : G ≠ rb) (h : w.heap[rb]? = some (.cells #[s, .bool false] 131 (0, 0))) (h2 : BRd w G s2 R') : Rdr (w.setCell ⟨rb, 0, none⟩ s2) rb G R' :=
  ⟨s2, h2.keep (Below.heap_setCell _ _ _ _ hne), heap_setCell_same _ rb 0 _ _ _ h⟩
/-- What is read of a reader: the answer; what is left; nothing else turned but the reader. -/
def ReadV (rb G : Nat) (R : List UInt8) (a : Value) (w : World) (e : Ending) (w' : World) : Prop := e = .returned a ∧ Rdr w' rb G R ∧ Turn (fun b => b = rb) w w' ∧ w'.heap.size = w.heap.size
set_option maxRecDepth 100000 in
set_option maxHeartbeats 1000000 in
theorem count_any (rb G : Nat) (m most : Nat) (R : List UInt8) (w : World) (hm : m ≤ most) (hmost : most ≤ 10000000) (hR : R.length ≤ 90000000) (hne : G ≠ rb) (h : Rdr w rb G (beN 4 m ++ R)) :
    Calls Tryd.prog 76 #[.pointer (some ⟨rb, 0, none⟩), .int .i64 (most : Int)] w (ReadV rb G R (.int .i64 (m : Int)) w) := by
  obtain ⟨s, hs, hb⟩ := h
  have htk := Lib.hid (take_any rb G s (beN 4 m) R 4 w (beN_length 4 m) (by rw [beN_length]; omega) hs hb)
  have HB := Lib.hid hb
  have hv : valN (beN 4 m) = m := valN_be 4 m (by omega)
  have HV := Lib.hid hv
  have w1 : IntKind.u64.wrap (most : Int) = (most : Int) := IntWalk.u64_in _ (by omega)
  have w2 : IntKind.i64.wrap (m : Int) = (m : Int) := IntWalk.i64_in _ (by omega)
  have e1 : ¬ (most : Int) < (m : Int) := by omega
  have e2 : ¬ most < m := by omega
  clear hs hb hv
  go_enter Tryd.func76, Tryd.ntmps76
  go_wp2_with fail
  refine htk.out.mono ?_
  rintro e w3 ⟨s1, s2, rfl, hw3, h1, h2⟩
  have HR := Lib.hid (rdr_set hne HB.out h2)
  have HT := Lib.hid (show Turn (fun b => b = rb) w w3 ∧ w3.heap.size = w.heap.size from by rw [hw3]; exact ⟨(Turn.refl (fun b => b = rb) w).setCell (p := ⟨rb, 0, none⟩) (.inr rfl) s2, by simp⟩)
  rw [← hw3] at HR
  have hnm := Lib.hid (number_any G s1 (beN 4 m) w3 (by rw [beN_length]; omega) (h1.keep (HT.out.1.block G (by
    obtain ⟨ad, cap, _, _, hG, hc⟩ := h1
    have := hc 0 _ (by rw [List.getElem?_eq_getElem (by rw [beN_length]; omega)])
    refine Classical.byContradiction fun hn => ?_
    have hz : w.heap[(ad.add 0).block]? = none := Array.getElem?_eq_none (by rw [block_of_add, hG]; omega)
    unfold World.cell? at this
    simp only [hz] at this
    cases this) hne)))
  rw [HV.out] at hnm
  clear h1 h2 hw3
  go_wp2_with fail
  refine hnm.out.mono ?_
  rintro e w4 ⟨rfl, rfl⟩
  go_wp2_with fail
  go_ret
  exact ⟨rfl, HR.out, HT.out.1, HT.out.2⟩
set_option maxRecDepth 100000 in
set_option maxHeartbeats 1000000 in
theorem rtext_any (rb G : Nat) (t : ByteArray) (R : List UInt8) (w : World) (ht : t.size ≤ 1048576) (hR : R.length ≤ 80000000) (hne : G ≠ rb) (h : Rdr w rb G (textE t ++ R)) :
    Calls Tryd.prog 75 #[.pointer (some ⟨rb, 0, none⟩)] w (ReadV rb G R (.string t) w) := by
  have hct := Lib.hid (count_any rb G t.size 1048576 (t.data.toList ++ R) w ht (by decide) (by rw [List.length_append, data_len]; omega) hne (by unfold textE at h; rwa [List.append_assoc] at h))
  clear h
  go_enter Tryd.func75, Tryd.ntmps75
  go_wp2_with fail
  refine hct.out.mono ?_
  rintro e w1 ⟨rfl, hr1, ht1, hz1⟩
  obtain ⟨s, hs, hb⟩ := hr1
  have HT1 := Lib.hid ht1
  have HZ1 := Lib.hid hz1
  have htk := Lib.hid (take_any rb G s t.data.toList R t.size w1 (data_len t) (by rw [data_len]; omega) hs hb)
  have HB := Lib.hid hb
  clear hs hb ht1 hz1
  go_wp2_with fail
  refine htk.out.mono ?_
  rintro e w3 ⟨s1, s2, rfl, hw3, h1, h2⟩
  have hR3 := Lib.hid (rdr_set hne HB.out h2)
  rw [← hw3] at hR3
  have HT := Lib.hid (show Turn (fun b => b = rb) w1 w3 ∧ w3.heap.size = w1.heap.size from by rw [hw3]; exact ⟨(Turn.refl (fun b => b = rb) w1).setCell (p := ⟨rb, 0, none⟩) (.inr rfl) s2, by simp⟩)
  have hb3 : w3.cell? ⟨rb, 1, none⟩ = some (.bool false) := by
    obtain ⟨s', _, h4⟩ := hR3.out
    exact Lib.cell_of_heap h4 1
  have h13 : BRd w3 G s1 t.data.toList := by
    rw [hw3]; exact h1.keep (Below.heap_setCell _ _ _ _ hne)
  have hcv : (convert 106 9 s1).run Tryd.prog w3 = .ok (.string t) w3 := by
    obtain ⟨ad, cap, rfl, hcap, hG, hc⟩ := h13
    have := run_convert_bytes_back w3 106 9 5 ad cap t.data.toList Tryd.underlying106 (by kernel_rfl) (by kernel_rfl) (fun j hj => hc j _ (List.getElem?_eq_getElem hj)) (P := Tryd.prog)
    rw [this]
  clear h1 h2 hw3 h13
  go_wp2_with fail
  go_ret
  exact ⟨rfl, hR3.out, (HT1.out.trans HT.out.1), by rw [HT.out.2, HZ1.out]⟩
end Go.Proofs.YtdhnmgndekncpaaDoor
