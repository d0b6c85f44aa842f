/- A value read back out of its bytes: reader.value. Printed by gen_VQ.py. -/
import Derived.Test.YtdhnmgndekncpaaDoorVP
namespace Go.Proofs.YtdhnmgndekncpaaDoor
open Go Go.RowKit Go.Maps Go.WideMaps

mutual
/-- Are a value's numbers whole numbers of 64 bits? -/
def i64V : Val → Prop
  | .mk _ _ n _ _ l => (-9223372036854775808 ≤ n ∧ n ≤ 9223372036854775807) ∧ i64L l
def i64L : List Val → Prop
  | [] => True
  | v :: r => i64V v ∧ i64L r
end
theorem i64_mem {l : List Val} (h : i64L l) {v : Val} (hv : v ∈ l) : i64V v := by
  induction l with
  | nil => cases hv
  | cons a r ih =>
    simp only [i64L] at h
    rcases List.mem_cons.1 hv with rfl | hv
    · exact h.1
    · exact ih h.2 hv
theorem cmp_form {k : Int} {b : Bool} {n : Int} {t x : ByteArray} {l : List Val} {b' : Bool} {n' : Int} {t' x' : ByteArray} (h : cmpB k b n t x l b' n' t' x' = true) : b = b' ∧ n = n' ∧ t = t' ∧ x = x' ∧ (l = [] ∨ k = 5) := by
  unfold cmpB at h
  simp only [Bool.and_eq_true, decide_eq_true_iff, Bool.or_eq_true, beq_iff_eq] at h
  exact ⟨h.1, h.2.1, h.2.2.1, h.2.2.2.1, h.2.2.2.2.imp List.eq_nil_of_length_eq_zero id⟩
theorem i64_back (n : Int) (h : -9223372036854775808 ≤ n ∧ n ≤ 9223372036854775807) : IntKind.i64.wrap (((n % 18446744073709551616).toNat : Nat) : Int) = n := by
  have h1 := Int.emod_nonneg n (show (18446744073709551616 : Int) ≠ 0 by decide)
  rw [Int.toNat_of_nonneg h1]
  by_cases hn : 0 ≤ n
  · rw [Int.emod_eq_of_lt hn (by omega)]
    exact IntWalk.i64_in _ (by omega)
  · have h2 : n % 18446744073709551616 = n + 18446744073709551616 := by omega
    rw [h2]
    unfold IntKind.wrap
    have e1 : (2 ^ IntKind.i64.bits : Int) = 18446744073709551616 := rfl
    have e2 : (2 ^ (IntKind.i64.bits - 1) : Int) = 9223372036854775808 := rfl
    simp only [e1, e2, show IntKind.i64.signed = true from rfl, Bool.true_and, decide_eq_true_iff]
    split <;> omega


/-- A value being read: the answer's block, the value's block, the reader. -/
structure DecM (w : World) (h rb G : Nat) (R : List UInt8) (k : Int) (b : Bool) (n : Int) (t x : ByteArray) (l : List Val) (s : Value) (wr : World) : Prop where
  turn : Turn (fun z => z = rb) w wr
  zero : wr.heap[h]? = some (.cells #[.int .i64 0, .bool false, .int .i64 0, .string ⟨#[]⟩, .string ⟨#[]⟩, .slice none 0 0] 84 (0, 0))
  val : wr.heap[h + 1]? = some (.cells #[.int .i64 k, .bool b, .int .i64 n, .string t, .string x, s] 84 (0, 0))
  rdr : Rdr wr rb G R
  own : LOwn wr (fun z => h + 2 ≤ z ∧ z < wr.heap.size) l s
  size : h + 2 ≤ wr.heap.size
  low : w.heap.size ≤ h
  far : rb < h ∧ G < h
section
variable {w : World} {h rb G : Nat} {R : List UInt8} {k : Int} {b : Bool} {n : Int} {t x : ByteArray} {l : List Val} {s : Value} {wr : World}
theorem DecM.on (c : DecM w h rb G R k b n t x l s wr) {R2 : List UInt8} {w2 : World} (ht : Turn (fun z => z = rb) wr w2) (hr : Rdr w2 rb G R2) : DecM w h rb G R2 k b n t x l s w2 := by
  have hf := c.far
  have hs := c.size
  refine ⟨c.turn.trans ht, (ht.block h (by omega) (by omega)).trans c.zero, (ht.block (h + 1) (by omega) (by omega)).trans c.val, hr, (c.own.turn ht (fun z hz e => by omega)).mono (fun z hz => ⟨hz.1, Nat.lt_of_lt_of_le hz.2 ht.size⟩), Nat.le_trans hs ht.size, c.low, hf⟩
theorem DecM.set (c : DecM w h rb G R k b n t x l s wr) (j : Nat) (v : Value) {b2 : Bool} {n2 : Int} {t2 x2 : ByteArray}
    (e : (#[.int .i64 k, .bool b, .int .i64 n, .string t, .string x, s] : Array Value).setIfInBounds j v = #[.int .i64 k, .bool b2, .int .i64 n2, .string t2, .string x2, s]) : DecM w h rb G R k b2 n2 t2 x2 l s (wr.setCell ⟨h + 1, j, none⟩ v) := by
  have hf := c.far
  have hs := c.size
  have hl := c.low
  refine ⟨c.turn.setCell (p := ⟨h + 1, j, none⟩) (.inl (by show w.heap.size ≤ h + 1; omega)) v, (Below.heap_setCell _ _ _ _ (by show h ≠ h + 1; omega)).trans c.zero, by rw [← e]; exact heap_setCell_same _ _ j _ _ v c.val, c.rdr.keep (Below.heap_setCell _ _ _ _ (by show G ≠ h + 1; omega)) (Below.heap_setCell _ _ _ _ (by show rb ≠ h + 1; omega)),
    (c.own.turn ((Turn.refl (fun z => z = h + 1) wr).setCell (p := ⟨h + 1, j, none⟩) (.inr rfl) v) (fun z hz e => by omega)).mono (fun z hz => by simpa using hz), by simpa using hs, hl, hf⟩
theorem DecM.below (c : DecM w h rb G R k b n t x l s wr) {w2 : World} (hb : Below wr.heap.size wr w2) : DecM w h rb G R k b n t x l s w2 := by
  have hf := c.far
  have hs := c.size
  exact c.on ((Turn.of_below hb).mono (fun i hi h => by omega)) (c.rdr.keep (hb.block G (by omega)) (hb.block rb (by omega)))
end
/-- What is read of a reader that stands at a value's bytes. -/
def DecV (v : Val) (rb G : Nat) (R : List UInt8) (w : World) (e : Ending) (w' : World) : Prop :=
  ∃ s, e = .returned (.agg (cellsV v s)) ∧ Rdr w' rb G R ∧ Turn (fun z => z = rb) w w' ∧ LOwn w' (fun z => w.heap.size ≤ z ∧ z < w'.heap.size) v.list s
theorem one_be (c : UInt8) : ([c] : List UInt8).length = 1 := rfl
theorem at_whole_thing (y : Value) (w : World) : (Instr.typeAssert (.iface 136 y) 20 138 true).run Tryd.prog w = .ok (.tuple #[.int .i64 0, .bool false]) w := by kernel_rfl
theorem at_broken_words (y : Value) (w : World) : (Instr.typeAssert (.iface 139 y) 20 141 true).run Tryd.prog w = .ok (.tuple #[.string ⟨#[]⟩, .bool false]) w := by kernel_rfl
theorem rdr_bad {w : World} {rb G : Nat} {R : List UInt8} (hne : G ≠ rb) (h : Rdr w rb G R) : Rdr (w.setCell ⟨rb, 1, none⟩ (.bool false)) rb G R := by
  obtain ⟨s, h1, h2⟩ := h
  exact ⟨s, h1.keep (Below.heap_setCell _ _ _ _ hne), heap_setCell_same _ rb 1 _ _ _ h2⟩
theorem dec_size {s : ByteArray} (h : decB s = true) : s.size ≤ 1048576 := by
  rcases Nat.lt_or_ge 62 s.size with h2 | h2
  · rw [dec_long h2] at h; cases h
  · omega
theorem iri_size {s : ByteArray} (h : iriB s = true) : s.size ≤ 1048576 := by
  unfold iriB at h
  simp only [Bool.and_eq_true, decide_eq_true_iff] at h
  exact h.1.2
theorem nameB_size {s : ByteArray} (h : nameB s = true) : s.size ≤ 1048576 := by
  unfold nameB at h
  simp only [Bool.and_eq_true, decide_eq_true_iff] at h
  omega
theorem form_0 {b : Bool} {n : Int} {t x : ByteArray} {l : List Val} {d : Nat} (h : mayV (.mk 0 b n t x l) d = true) : n = 0 ∧ b = false ∧ t = ⟨#[]⟩ ∧ x = ⟨#[]⟩ ∧ l = [] := by
  rw [may_0] at h
  have h := cmp_form h
  exact ⟨h.2.1, h.1, h.2.2.1, h.2.2.2.1, h.2.2.2.2.elim id (fun e => by cases e)⟩
theorem form_1 {b : Bool} {n : Int} {t x : ByteArray} {l : List Val} {d : Nat} (h : mayV (.mk 1 b n t x l) d = true) : n = 0 ∧ t = ⟨#[]⟩ ∧ x = ⟨#[]⟩ ∧ l = [] := by
  rw [may_1] at h
  have h := cmp_form h
  exact ⟨h.2.1, h.2.2.1, h.2.2.2.1, h.2.2.2.2.elim id (fun e => by cases e)⟩
theorem form_2 {b : Bool} {n : Int} {t x : ByteArray} {l : List Val} {d : Nat} (h : mayV (.mk 2 b n t x l) d = true) : b = false ∧ t = ⟨#[]⟩ ∧ x = ⟨#[]⟩ ∧ l = [] := by
  rw [may_2] at h
  have h := cmp_form h
  exact ⟨h.1, h.2.2.1, h.2.2.2.1, h.2.2.2.2.elim id (fun e => by cases e)⟩
theorem form_3 {b : Bool} {n : Int} {t x : ByteArray} {l : List Val} {d : Nat} (h : mayV (.mk 3 b n t x l) d = true) : b = false ∧ n = 0 ∧ x = ⟨#[]⟩ ∧ l = [] ∧ t.size ≤ 1048576 := by
  rw [may_3] at h
  have h2 := Bool.and_eq_true_iff.1 h
  have h := cmp_form h2.2
  exact ⟨h.1, h.2.1, h.2.2.2.1, h.2.2.2.2.elim id (fun e => by cases e), dec_size h2.1⟩
theorem form_6 {b : Bool} {n : Int} {t x : ByteArray} {l : List Val} {d : Nat} (h : mayV (.mk 6 b n t x l) d = true) : b = false ∧ t = ⟨#[]⟩ ∧ x = ⟨#[]⟩ ∧ l = [] := by
  rw [may_6] at h
  have h2 := Bool.and_eq_true_iff.1 h
  have h := cmp_form h2.2
  exact ⟨h.1, h.2.2.1, h.2.2.2.1, h.2.2.2.2.elim id (fun e => by cases e)⟩
theorem form_7 {b : Bool} {n : Int} {t x : ByteArray} {l : List Val} {d : Nat} (h : mayV (.mk 7 b n t x l) d = true) : b = false ∧ t = ⟨#[]⟩ ∧ x = ⟨#[]⟩ ∧ l = [] := by
  rw [may_7] at h
  have h2 := Bool.and_eq_true_iff.1 h
  have h := cmp_form h2.2
  exact ⟨h.1, h.2.2.1, h.2.2.2.1, h.2.2.2.2.elim id (fun e => by cases e)⟩
theorem form_4 {b : Bool} {n : Int} {t x : ByteArray} {l : List Val} {d : Nat} (h : mayV (.mk 4 b n t x l) d = true) : b = false ∧ n = 0 ∧ x = ⟨#[]⟩ ∧ l = [] ∧ t.size ≤ 1048576 := by
  rw [may_4] at h
  have h2 := Bool.and_eq_true_iff.1 h
  have h := cmp_form h2.2
  exact ⟨h.1, h.2.1, h.2.2.2.1, h.2.2.2.2.elim id (fun e => by cases e), of_decide_eq_true h2.1⟩
theorem form_8 {b : Bool} {n : Int} {t x : ByteArray} {l : List Val} {d : Nat} (h : mayV (.mk 8 b n t x l) d = true) : b = false ∧ n = 0 ∧ x = ⟨#[]⟩ ∧ l = [] ∧ t.size ≤ 1048576 := by
  rw [may_8] at h
  have h2 := Bool.and_eq_true_iff.1 h
  have h := cmp_form h2.2
  exact ⟨h.1, h.2.1, h.2.2.2.1, h.2.2.2.2.elim id (fun e => by cases e), iri_size h2.1⟩
theorem form_9 {b : Bool} {n : Int} {t x : ByteArray} {l : List Val} {d : Nat} (h : mayV (.mk 9 b n t x l) d = true) : b = false ∧ n = 0 ∧ x = ⟨#[]⟩ ∧ l = [] ∧ t.size ≤ 1048576 := by
  rw [may_9] at h
  have h2 := Bool.and_eq_true_iff.1 h
  have h := cmp_form h2.2
  exact ⟨h.1, h.2.1, h.2.2.2.1, h.2.2.2.2.elim id (fun e => by cases e), nameB_size h2.1⟩
theorem form_10 {b : Bool} {n : Int} {t x : ByteArray} {l : List Val} {d : Nat} (h : mayV (.mk 10 b n t x l) d = true) : b = false ∧ n = 0 ∧ l = [] ∧ t.size ≤ 1048576 ∧ x.size ≤ 1048576 := by
  rw [may_10] at h
  have h2 := Bool.and_eq_true_iff.1 h
  have h3 := Bool.and_eq_true_iff.1 h2.2
  have h := cmp_form h3.2
  exact ⟨h.1, h.2.1, h.2.2.2.2.elim id (fun e => by cases e), of_decide_eq_true h2.1, iri_size h3.1⟩
theorem form_5 {b : Bool} {n : Int} {t x : ByteArray} {l : List Val} {d : Nat} (h : mayV (.mk 5 b n t x l) d = true) : b = false ∧ n = 0 ∧ t = ⟨#[]⟩ ∧ x = ⟨#[]⟩ ∧ l.length ≤ 4096 ∧ d < 60 ∧ mayL l (d + 1) = true := by
  rw [may_5] at h
  have h2 := Bool.and_eq_true_iff.1 h
  have h3 := Bool.and_eq_true_iff.1 h2.2
  have h4 := Bool.and_eq_true_iff.1 h3.2
  have h := cmp_form h4.2
  exact ⟨h.1, h.2.1, h.2.2.1, h.2.2.2.1, of_decide_eq_true h2.1, of_decide_eq_true h3.1, h4.1⟩

set_option maxRecDepth 100000 in
set_option maxHeartbeats 8000000 in
theorem rvalue_any (N : Nat) : ∀ (v : Val) (_ : sizeV v < N) (d : Nat) (_ : d ≤ 60) (_ : mayV v d = true) (_ : i64V v) (rb G : Nat) (R : List UInt8) (w : World) (_ : 200 * sizeV v + R.length ≤ 40000000) (_ : G ≠ rb) (_ : G < w.heap.size) (_ : Rdr w rb G (encV v ++ R)),
    Calls Tryd.prog 66 #[.pointer (some ⟨rb, 0, none⟩), .int .i64 (d : Int)] w (DecV v rb G R w) := by
  induction N with
  | zero => exact fun _ h => absurd h (Nat.not_lt_zero _)
  | succ N ih =>
    intro v hN d hd hmay h64 rb G R w hL hne hG hrd
    have IH := Lib.hid ih
    have HMAY := Lib.hid hmay
    have H64 := Lib.hid h64
    have hk := may_kind hmay
    have hel := encV_length v
    cases v with
    | mk k b n t x l =>
    have hts : t.size + x.size + 200 * sizeL l + R.length ≤ 40000000 ∧ sizeL l < N ∧ l.length ≤ sizeL l := by
      simp only [sizeV] at hL hN
      have := len_le_size l
      omega
    obtain ⟨hts, hlN, hll⟩ := hts
    obtain ⟨c, Hc⟩ := name_itV (UInt8.ofNat k.toNat)
    simp only [Val.kind] at hk
    have hck : (c.toNat : Int) = k := by
      rw [← Hc.out, UInt8.toNat_ofNat']
      have : k.toNat % 2 ^ 8 = k.toNat := Nat.mod_eq_of_lt (by omega)
      rw [this]; omega
    obtain ⟨body, Hbody⟩ : ∃ body, encV (.mk k b n t x l) = c :: body := by unfold encV; rw [Hc.out]; exact ⟨_, rfl⟩
    have hbl : body.length ≤ 40000000 := by rw [Hbody, List.length_cons] at hel; omega
    have hRb : (body ++ R).length ≤ 80000000 := by rw [List.length_append]; omega
    rw [Hbody] at hrd
    have HBODY := Lib.hid Hbody
    obtain ⟨h, Hh⟩ := name_itV w.heap.size
    have hrl := hrd.lt
    have HRD := Lib.hid hrd
    clear ih hmay h64 hel hrd Hbody hN
    have hw0 := Lib.hid (fun o : Obj => show Below w.heap.size w (w.alloc o) from (Below.refl _ _).alloc (Nat.le_refl _) _)
    obtain ⟨w0, Hw0⟩ := name_itV (w.alloc (.cells #[.int .i64 0, .bool false, .int .i64 0, .string ⟨#[]⟩, .string ⟨#[]⟩, .slice none 0 0] 84))
    have hb0 := Lib.hid (show Below w.heap.size w w0 from by rw [← Hw0.out]; exact hw0.out _)
    have hblk := Lib.hid (show w0.heap[h]? = some (.cells #[.int .i64 0, .bool false, .int .i64 0, .string ⟨#[]⟩, .string ⟨#[]⟩, .slice none 0 0] 84 (0, 0)) from by rw [← Hw0.out, ← Hh.out]; exact heap_alloc_new w _)
    have hz0 : w0.heap.size = h + 1 := by rw [← Hw0.out, ← Hh.out]; simp
    have hGh : G < h := by rw [← Hh.out]; exact hG
    have hrh : rb < h := by rw [← Hh.out]; exact hrl
    have hrd0 : Rdr w0 rb G (c :: (body ++ R)) := HRD.out.keep (hb0.out.block G hG) (hb0.out.block rb hrl)
    obtain ⟨s0, hs0, hb00⟩ := hrd0
    have htk := Lib.hid (take_any rb G s0 [c] (body ++ R) 1 w0 rfl (by rw [one_be]; omega) hs0 hb00)
    have HB00 := Lib.hid hb00
    have HZ0 := Lib.hid hz0
    clear hs0 hb00 hz0
    go_enter Tryd.func66, Tryd.ntmps66
    go_upto_region 1 with fail
    rw [Hw0.out, Hh.out]
    go_wp2_with fail
    refine htk.out.mono ?_
    rintro e w1 ⟨s1, s2, rfl, hw1, hr1, hr2⟩
    have hR1 := rdr_set hne HB00.out hr2
    rw [← hw1] at hR1
    have ht1 : Turn (fun z => z = rb) w0 w1 := by rw [hw1]; exact (Turn.refl (fun z => z = rb) w0).setCell (p := ⟨rb, 0, none⟩) (.inr rfl) s2
    have hz1 : w1.heap.size = h + 1 := by rw [hw1]; simpa using HZ0.out
    obtain ⟨ad, cp, rfl, hcp, hadG, hcc⟩ := hr1
    have k0 : w1.cell? (ad.add 0) = some (.int .u8 (c.toNat : Int)) := by
      refine (World.cell?_of_block ?_).trans (hcc 0 c rfl)
      rw [hw1]; exact Below.heap_setCell _ _ _ _ (by rw [block_of_add, hadG]; exact hne)
    have k1 : w1.cell? ad = some (.int .u8 (c.toNat : Int)) := k0
    rw [hck] at k0 k1
    have hlen1 : ([c] : List UInt8).length = 1 := rfl
    rw [hlen1]
    have wk : IntKind.i64.wrap k = k := IntWalk.i64_in _ (by omega)
    have HR1 := Lib.hid hR1
    have HT1 := Lib.hid ht1
    have HZ1 := Lib.hid hz1
    clear hR1 ht1 hz1 hw1 hr2 hcc hcp hck hlen1
    go_upto_region 2 with fail
    obtain ⟨w2, Hw2⟩ := name_itV (w1.alloc (.cells #[.int .i64 k, .bool false, .int .i64 0, .string ⟨#[]⟩, .string ⟨#[]⟩, .slice none 0 0] 84))
    have hb2 := Lib.hid (show Below w1.heap.size w1 w2 from by rw [← Hw2.out]; exact (Below.refl _ _).alloc (Nat.le_refl _) _)
    have hdm := Lib.hid (show DecM w h rb G (body ++ R) k false 0 ⟨#[]⟩ ⟨#[]⟩ [] (.slice none 0 0) w2 from by
      have hz1 := HZ1.out
      refine ⟨?_, ?_, ?_, HR1.out.keep (hb2.out.block G (by omega)) (hb2.out.block rb (by omega)), LOwn.nil _ _, ?_, Nat.le_of_eq Hh.out, hrh, hGh⟩
      · exact ((Turn.of_below hb0.out).mono (fun i hi hx => by omega)).trans (HT1.out.trans ((Turn.of_below hb2.out).mono (fun i hi hx => by omega)))
      · exact (hb2.out.block h (by omega)).trans ((HT1.out.block h (by rw [HZ0.out]; omega) (by omega)).trans hblk.out)
      · rw [← hz1, ← Hw2.out]; exact heap_alloc_new w1 _
      · rw [← Hw2.out]; simp; omega)
    rw [HZ1.out, Hw2.out]
    clear k0 k1 hb2 hb0 HR1 HT1 hblk htk HB00
    have y1 : w2.cell? ⟨rb, 1, none⟩ = some (.bool false) := by obtain ⟨s', _, h4⟩ := hdm.out.rdr; exact Lib.cell_of_heap h4 1
    have x0 : w2.cell? ⟨h + 1, 0, none⟩ = some (.int .i64 k) := Lib.cell_of_heap hdm.out.val 0
    have x1 : w2.cell? ⟨h + 1, 1, none⟩ = some (.bool false) := Lib.cell_of_heap hdm.out.val 1
    have x2 : w2.cell? ⟨h + 1, 2, none⟩ = some (.int .i64 0) := Lib.cell_of_heap hdm.out.val 2
    have x3 : w2.cell? ⟨h + 1, 3, none⟩ = some (.string ⟨#[]⟩) := Lib.cell_of_heap hdm.out.val 3
    have x4 : w2.cell? ⟨h + 1, 4, none⟩ = some (.string ⟨#[]⟩) := Lib.cell_of_heap hdm.out.val 4
    have x5 : w2.cell? ⟨h + 1, 5, none⟩ = some (.slice none 0 0) := Lib.cell_of_heap hdm.out.val 5
    have z0 : ¬ (60 : Int) < (d : Int) := by omega
    have HP := Lib.hid (fun W => part_any (.mk k false 0 ⟨#[]⟩ ⟨#[]⟩ []) (.slice none 0 0) W)
    obtain ⟨pv, HPV⟩ := name_itV (partV (.mk k false 0 ⟨#[]⟩ ⟨#[]⟩ []) (.slice none 0 0))
    unfold PartIs cellsV at HP
    rw [HPV.out] at HP
    simp only [Val.kind, Val.truth, Val.num, Val.text, Val.extra] at HP
    go_wp2_with fail
    refine (HP.out _).mono ?_
    rintro e w3 ⟨rfl, hb3⟩
    have HD := Lib.hid (hdm.out.below hb3)
    clear hb3 hdm x0 x1 x2 x3 x4 x5 y1 HP
    have f1 : w3.frozen? ⟨h + 1, 1, none⟩ = false := Lib.frozen_of_heap HD.out.val 1
    have f2 : w3.frozen? ⟨h + 1, 2, none⟩ = false := Lib.frozen_of_heap HD.out.val 2
    have f3 : w3.frozen? ⟨h + 1, 3, none⟩ = false := Lib.frozen_of_heap HD.out.val 3
    have f4 : w3.frozen? ⟨h + 1, 4, none⟩ = false := Lib.frozen_of_heap HD.out.val 4
    go_upto_block 0 with fail
    go_cut [] (fun wx => Hid (∃ s, DecM w h rb G R k b n t x l s wx))
    case first =>

      by_cases h0 : k = 0
      · subst h0
        have hpv : pv = .iface 151 (.agg #[]) := by rw [← HPV.out]; rfl
        subst hpv
        obtain ⟨rfl, rfl, rfl, rfl, rfl⟩ := form_0 HMAY.out
        have hev := HBODY.out
        unfold encV at hev
        rw [Hc.out] at hev
        have hev : body = [] := by injection hev with _ hev; exact hev.symm
        subst hev
        have a_boolean := at_none_boolean (.agg #[])
        have a_whole := at_none_whole (.agg #[])
        have a_thing := at_none_thing (.agg #[])
        have a_broken := at_none_broken (.agg #[])
        have a_words := at_none_words (.agg #[])
        have a_literal := at_none_literal (.agg #[])
        have a_list := at_none_list (.agg #[])
        clear HPV HBODY
        go_wp2_with fail
        go_meet
        exact Lib.hid ⟨_, HD.out⟩
      · have e0 : ((k : Int) == 0) = false := beq_eq_false_iff_ne.2 h0
        by_cases h1 : k = 1
        · subst h1
          have hpv : pv = .iface 134 (.bool false) := by rw [← HPV.out]; rfl
          subst hpv
          obtain ⟨rfl, rfl, rfl, rfl⟩ := form_1 HMAY.out
          have hev := HBODY.out
          unfold encV at hev
          rw [Hc.out] at hev
          have hev : body = [if b = true then 1 else 0] := by injection hev with _ hev; exact hev.symm
          subst hev
          have a_boolean := at_boolean_boolean (.bool false)
          clear HPV HBODY
          obtain ⟨zc, Hzc⟩ := name_itV (if b = true then (1 : UInt8) else 0)
          rw [Hzc.out] at HD
          have hz1 : zc.toNat ≤ 1 := by rw [← Hzc.out]; cases b <;> decide
          have hzb : ((zc.toNat : Int) == 1) = b := by rw [← Hzc.out]; cases b <;> rfl
          obtain ⟨sr, hsr, hrb⟩ := HD.out.rdr
          have htk := Lib.hid (take_any rb G sr [zc] R 1 w3 rfl (by rw [one_be]; omega) hsr hrb)
          have HRB := Lib.hid hrb
          clear hsr hrb
          go_wp2_with fail
          refine htk.out.mono ?_
          rintro e w4 ⟨s3, s4, rfl, hw4, h3, h4⟩
          have HR4 := Lib.hid (rdr_set hne HRB.out h4)
          rw [← hw4] at HR4
          have HT4 := Lib.hid (show Turn (fun z => z = rb) w3 w4 from by rw [hw4]; exact (Turn.refl (fun z => z = rb) w3).setCell (p := ⟨rb, 0, none⟩) (.inr rfl) s4)
          have HD4 := Lib.hid (HD.out.on HT4.out HR4.out)
          obtain ⟨ad3, cp3, rfl, hcp3, had3, hcc3⟩ := h3
          have j0 : w4.cell? (ad3.add 0) = some (.int .u8 (zc.toNat : Int)) := by
            refine (World.cell?_of_block ?_).trans (hcc3 0 zc rfl)
            rw [hw4]; exact Below.heap_setCell _ _ _ _ (by rw [block_of_add, had3]; exact hne)
          have j1 : w4.cell? ad3 = some (.int .u8 (zc.toNat : Int)) := j0
          obtain ⟨z, Hz⟩ := name_itV zc.toNat
          rw [Hz.out] at j0 j1 hzb hz1
          have hlen3 : ([zc] : List UInt8).length = 1 := rfl
          rw [hlen3]
          clear f1 f2 f3 f4 hcp3 hcc3 hlen3 HR4 hw4 h4
          have f1 : w4.frozen? ⟨h + 1, 1, none⟩ = false := Lib.frozen_of_heap HD4.out.val 1
          have x1 : w4.cell? ⟨h + 1, 1, none⟩ = some (.bool false) := Lib.cell_of_heap HD4.out.val 1
          have HD5 := Lib.hid (HD4.out.set 1 (.bool b) (b2 := b) (n2 := 0) (t2 := ⟨#[]⟩) (x2 := ⟨#[]⟩) rfl)
          obtain ⟨w5, Hw5⟩ := name_itV (w4.setCell ⟨h + 1, 1, none⟩ (.bool b))
          rw [Hw5.out] at HD5
          go_upto_region 9 with fail
          rw [Hw5.out]
          have y1 : w5.cell? ⟨rb, 1, none⟩ = some (.bool false) := by obtain ⟨s9, _, h9⟩ := HD5.out.rdr; exact Lib.cell_of_heap h9 1
          have y2 : w5.frozen? ⟨rb, 1, none⟩ = false := by obtain ⟨s9, _, h9⟩ := HD5.out.rdr; exact Lib.frozen_of_heap h9 1
          have hz2 : ¬ (1 : Int) < (z : Int) := by omega
          clear f1 x1 hzb
          go_wp2_with fail
          go_meet
          exact Lib.hid ⟨_, HD5.out.on ((Turn.refl (fun z => z = rb) w5).setCell (p := ⟨rb, 1, none⟩) (.inr rfl) _) (rdr_bad hne HD5.out.rdr)⟩
        · have e1 : ((k : Int) == 1) = false := beq_eq_false_iff_ne.2 h1
          by_cases h2 : k = 2
          · subst h2
            have hpv : pv = .iface 136 (.int .i64 0) := by rw [← HPV.out]; rfl
            subst hpv
            obtain ⟨rfl, rfl, rfl, rfl⟩ := form_2 HMAY.out
            have hev := HBODY.out
            unfold encV at hev
            rw [Hc.out] at hev
            have hev : body = beN 8 (n % 18446744073709551616).toNat := by injection hev with _ hev; exact hev.symm
            subst hev
            have a_boolean := at_whole_boolean (.int .i64 0)
            have a_whole := at_whole_whole (.int .i64 0)
            have a_thing := at_whole_thing (.int .i64 0)
            clear HPV HBODY
            obtain ⟨m, Hm⟩ := name_itV (n % 18446744073709551616).toNat
            have h64n := H64.out
            simp only [i64V] at h64n
            have hmb : m < 256 ^ 8 := by rw [← Hm.out]; have := Int.emod_lt_of_pos n (show (0 : Int) < 18446744073709551616 by decide); have h8 : (256 : Nat) ^ 8 = 18446744073709551616 := (by decide); omega
            have hback : IntKind.i64.wrap (m : Int) = n := by rw [← Hm.out]; exact i64_back n h64n.1
            rw [Hm.out] at HD
            obtain ⟨sr, hsr, hrb⟩ := HD.out.rdr
            have htk := Lib.hid (take_any rb G sr (beN 8 m) R 8 w3 (beN_length 8 m) (by rw [beN_length]; omega) hsr hrb)
            have HRB := Lib.hid hrb
            clear hsr hrb h64n
            go_wp2_with fail
            refine htk.out.mono ?_
            rintro e w4 ⟨s3, s4, rfl, hw4, h3, h4⟩
            have HR4 := Lib.hid (rdr_set hne HRB.out h4)
            rw [← hw4] at HR4
            have HT4 := Lib.hid (show Turn (fun z => z = rb) w3 w4 from by rw [hw4]; exact (Turn.refl (fun z => z = rb) w3).setCell (p := ⟨rb, 0, none⟩) (.inr rfl) s4)
            have HD4 := Lib.hid (HD.out.on HT4.out HR4.out)
            have hnm := Lib.hid (number_any G s3 (beN 8 m) w4 (by rw [beN_length]; omega) (h3.keep (by rw [hw4]; exact Below.heap_setCell _ _ _ _ hne)))
            rw [valN_be 8 m hmb] at hnm
            clear f1 f2 f3 f4 h3 h4 hw4 HR4
            have f2 : w4.frozen? ⟨h + 1, 2, none⟩ = false := Lib.frozen_of_heap HD4.out.val 2
            have x2 : w4.cell? ⟨h + 1, 2, none⟩ = some (.int .i64 0) := Lib.cell_of_heap HD4.out.val 2
            go_wp2_with fail
            refine hnm.out.mono ?_
            rintro e w5 ⟨rfl, rfl⟩
            go_wp2_with fail
            go_meet
            exact Lib.hid ⟨_, HD4.out.set 2 _ rfl⟩
          · have e2 : ((k : Int) == 2) = false := beq_eq_false_iff_ne.2 h2
            by_cases h6 : k = 6
            · subst h6
              have hpv : pv = .iface 138 (.int .i64 0) := by rw [← HPV.out]; rfl
              subst hpv
              obtain ⟨rfl, rfl, rfl, rfl⟩ := form_6 HMAY.out
              have hev := HBODY.out
              unfold encV at hev
              rw [Hc.out] at hev
              have hev : body = beN 8 (n % 18446744073709551616).toNat := by injection hev with _ hev; exact hev.symm
              subst hev
              have a_boolean := at_thing_boolean (.int .i64 0)
              have a_whole := at_thing_whole (.int .i64 0)
              have a_thing := at_thing_thing (.int .i64 0)
              clear HPV HBODY
              obtain ⟨m, Hm⟩ := name_itV (n % 18446744073709551616).toNat
              have h64n := H64.out
              simp only [i64V] at h64n
              have hmb : m < 256 ^ 8 := by rw [← Hm.out]; have := Int.emod_lt_of_pos n (show (0 : Int) < 18446744073709551616 by decide); have h8 : (256 : Nat) ^ 8 = 18446744073709551616 := (by decide); omega
              have hback : IntKind.i64.wrap (m : Int) = n := by rw [← Hm.out]; exact i64_back n h64n.1
              rw [Hm.out] at HD
              obtain ⟨sr, hsr, hrb⟩ := HD.out.rdr
              have htk := Lib.hid (take_any rb G sr (beN 8 m) R 8 w3 (beN_length 8 m) (by rw [beN_length]; omega) hsr hrb)
              have HRB := Lib.hid hrb
              clear hsr hrb h64n
              go_wp2_with fail
              refine htk.out.mono ?_
              rintro e w4 ⟨s3, s4, rfl, hw4, h3, h4⟩
              have HR4 := Lib.hid (rdr_set hne HRB.out h4)
              rw [← hw4] at HR4
              have HT4 := Lib.hid (show Turn (fun z => z = rb) w3 w4 from by rw [hw4]; exact (Turn.refl (fun z => z = rb) w3).setCell (p := ⟨rb, 0, none⟩) (.inr rfl) s4)
              have HD4 := Lib.hid (HD.out.on HT4.out HR4.out)
              have hnm := Lib.hid (number_any G s3 (beN 8 m) w4 (by rw [beN_length]; omega) (h3.keep (by rw [hw4]; exact Below.heap_setCell _ _ _ _ hne)))
              rw [valN_be 8 m hmb] at hnm
              clear f1 f2 f3 f4 h3 h4 hw4 HR4
              have f2 : w4.frozen? ⟨h + 1, 2, none⟩ = false := Lib.frozen_of_heap HD4.out.val 2
              have x2 : w4.cell? ⟨h + 1, 2, none⟩ = some (.int .i64 0) := Lib.cell_of_heap HD4.out.val 2
              go_wp2_with fail
              refine hnm.out.mono ?_
              rintro e w5 ⟨rfl, rfl⟩
              go_wp2_with fail
              go_meet
              exact Lib.hid ⟨_, HD4.out.set 2 _ rfl⟩
            · have e6 : ((k : Int) == 6) = false := beq_eq_false_iff_ne.2 h6
              by_cases h7 : k = 7
              · subst h7
                have hpv : pv = .iface 138 (.int .i64 0) := by rw [← HPV.out]; rfl
                subst hpv
                obtain ⟨rfl, rfl, rfl, rfl⟩ := form_7 HMAY.out
                have hev := HBODY.out
                unfold encV at hev
                rw [Hc.out] at hev
                have hev : body = beN 8 (n % 18446744073709551616).toNat := by injection hev with _ hev; exact hev.symm
                subst hev
                have a_boolean := at_thing_boolean (.int .i64 0)
                have a_whole := at_thing_whole (.int .i64 0)
                have a_thing := at_thing_thing (.int .i64 0)
                clear HPV HBODY
                obtain ⟨m, Hm⟩ := name_itV (n % 18446744073709551616).toNat
                have h64n := H64.out
                simp only [i64V] at h64n
                have hmb : m < 256 ^ 8 := by rw [← Hm.out]; have := Int.emod_lt_of_pos n (show (0 : Int) < 18446744073709551616 by decide); have h8 : (256 : Nat) ^ 8 = 18446744073709551616 := (by decide); omega
                have hback : IntKind.i64.wrap (m : Int) = n := by rw [← Hm.out]; exact i64_back n h64n.1
                rw [Hm.out] at HD
                obtain ⟨sr, hsr, hrb⟩ := HD.out.rdr
                have htk := Lib.hid (take_any rb G sr (beN 8 m) R 8 w3 (beN_length 8 m) (by rw [beN_length]; omega) hsr hrb)
                have HRB := Lib.hid hrb
                clear hsr hrb h64n
                go_wp2_with fail
                refine htk.out.mono ?_
                rintro e w4 ⟨s3, s4, rfl, hw4, h3, h4⟩
                have HR4 := Lib.hid (rdr_set hne HRB.out h4)
                rw [← hw4] at HR4
                have HT4 := Lib.hid (show Turn (fun z => z = rb) w3 w4 from by rw [hw4]; exact (Turn.refl (fun z => z = rb) w3).setCell (p := ⟨rb, 0, none⟩) (.inr rfl) s4)
                have HD4 := Lib.hid (HD.out.on HT4.out HR4.out)
                have hnm := Lib.hid (number_any G s3 (beN 8 m) w4 (by rw [beN_length]; omega) (h3.keep (by rw [hw4]; exact Below.heap_setCell _ _ _ _ hne)))
                rw [valN_be 8 m hmb] at hnm
                clear f1 f2 f3 f4 h3 h4 hw4 HR4
                have f2 : w4.frozen? ⟨h + 1, 2, none⟩ = false := Lib.frozen_of_heap HD4.out.val 2
                have x2 : w4.cell? ⟨h + 1, 2, none⟩ = some (.int .i64 0) := Lib.cell_of_heap HD4.out.val 2
                go_wp2_with fail
                refine hnm.out.mono ?_
                rintro e w5 ⟨rfl, rfl⟩
                go_wp2_with fail
                go_meet
                exact Lib.hid ⟨_, HD4.out.set 2 _ rfl⟩
              · have e7 : ((k : Int) == 7) = false := beq_eq_false_iff_ne.2 h7
                by_cases h3 : k = 3
                · subst h3
                  have hpv : pv = .iface 139 (.string ⟨#[]⟩) := by rw [← HPV.out]; rfl
                  subst hpv
                  obtain ⟨rfl, rfl, rfl, rfl, hq4⟩ := form_3 HMAY.out
                  have hev := HBODY.out
                  unfold encV at hev
                  rw [Hc.out] at hev
                  have hev : body = textE t := by injection hev with _ hev; exact hev.symm
                  subst hev
                  have a_boolean := at_broken_boolean (.string ⟨#[]⟩)
                  have a_whole := at_broken_whole (.string ⟨#[]⟩)
                  have a_thing := at_broken_thing (.string ⟨#[]⟩)
                  have a_broken := at_broken_broken (.string ⟨#[]⟩)
                  have a_words := at_broken_words (.string ⟨#[]⟩)
                  clear HPV HBODY
                  have htx := Lib.hid (rtext_any rb G t R w3 (by omega) (by omega) hne HD.out.rdr)
                  go_wp2_with fail
                  refine htx.out.mono ?_
                  rintro e w4 ⟨rfl, hr4, ht4, _⟩
                  have HD4 := Lib.hid (HD.out.on ht4 hr4)
                  clear f1 f2 f3 f4 hr4 ht4
                  have f3 : w4.frozen? ⟨h + 1, 3, none⟩ = false := Lib.frozen_of_heap HD4.out.val 3
                  have x3 : w4.cell? ⟨h + 1, 3, none⟩ = some (.string ⟨#[]⟩) := Lib.cell_of_heap HD4.out.val 3
                  go_wp2_with fail
                  go_meet
                  exact Lib.hid ⟨_, HD4.out.set 3 _ rfl⟩
                · have e3 : ((k : Int) == 3) = false := beq_eq_false_iff_ne.2 h3
                  by_cases h4 : k = 4
                  · subst h4
                    have hpv : pv = .iface 141 (.string ⟨#[]⟩) := by rw [← HPV.out]; rfl
                    subst hpv
                    obtain ⟨rfl, rfl, rfl, rfl, hq4⟩ := form_4 HMAY.out
                    have hev := HBODY.out
                    unfold encV at hev
                    rw [Hc.out] at hev
                    have hev : body = textE t := by injection hev with _ hev; exact hev.symm
                    subst hev
                    have a_boolean := at_words_boolean (.string ⟨#[]⟩)
                    have a_whole := at_words_whole (.string ⟨#[]⟩)
                    have a_thing := at_words_thing (.string ⟨#[]⟩)
                    have a_broken := at_words_broken (.string ⟨#[]⟩)
                    have a_words := at_words_words (.string ⟨#[]⟩)
                    clear HPV HBODY
                    have htx := Lib.hid (rtext_any rb G t R w3 (by omega) (by omega) hne HD.out.rdr)
                    go_wp2_with fail
                    refine htx.out.mono ?_
                    rintro e w4 ⟨rfl, hr4, ht4, _⟩
                    have HD4 := Lib.hid (HD.out.on ht4 hr4)
                    clear f1 f2 f3 f4 hr4 ht4
                    have f3 : w4.frozen? ⟨h + 1, 3, none⟩ = false := Lib.frozen_of_heap HD4.out.val 3
                    have x3 : w4.cell? ⟨h + 1, 3, none⟩ = some (.string ⟨#[]⟩) := Lib.cell_of_heap HD4.out.val 3
                    go_wp2_with fail
                    go_meet
                    exact Lib.hid ⟨_, HD4.out.set 3 _ rfl⟩
                  · have e4 : ((k : Int) == 4) = false := beq_eq_false_iff_ne.2 h4
                    by_cases h8 : k = 8
                    · subst h8
                      have hpv : pv = .iface 141 (.string ⟨#[]⟩) := by rw [← HPV.out]; rfl
                      subst hpv
                      obtain ⟨rfl, rfl, rfl, rfl, hq4⟩ := form_8 HMAY.out
                      have hev := HBODY.out
                      unfold encV at hev
                      rw [Hc.out] at hev
                      have hev : body = textE t := by injection hev with _ hev; exact hev.symm
                      subst hev
                      have a_boolean := at_words_boolean (.string ⟨#[]⟩)
                      have a_whole := at_words_whole (.string ⟨#[]⟩)
                      have a_thing := at_words_thing (.string ⟨#[]⟩)
                      have a_broken := at_words_broken (.string ⟨#[]⟩)
                      have a_words := at_words_words (.string ⟨#[]⟩)
                      clear HPV HBODY
                      have htx := Lib.hid (rtext_any rb G t R w3 (by omega) (by omega) hne HD.out.rdr)
                      go_wp2_with fail
                      refine htx.out.mono ?_
                      rintro e w4 ⟨rfl, hr4, ht4, _⟩
                      have HD4 := Lib.hid (HD.out.on ht4 hr4)
                      clear f1 f2 f3 f4 hr4 ht4
                      have f3 : w4.frozen? ⟨h + 1, 3, none⟩ = false := Lib.frozen_of_heap HD4.out.val 3
                      have x3 : w4.cell? ⟨h + 1, 3, none⟩ = some (.string ⟨#[]⟩) := Lib.cell_of_heap HD4.out.val 3
                      go_wp2_with fail
                      go_meet
                      exact Lib.hid ⟨_, HD4.out.set 3 _ rfl⟩
                    · have e8 : ((k : Int) == 8) = false := beq_eq_false_iff_ne.2 h8
                      by_cases h9 : k = 9
                      · subst h9
                        have hpv : pv = .iface 141 (.string ⟨#[]⟩) := by rw [← HPV.out]; rfl
                        subst hpv
                        obtain ⟨rfl, rfl, rfl, rfl, hq4⟩ := form_9 HMAY.out
                        have hev := HBODY.out
                        unfold encV at hev
                        rw [Hc.out] at hev
                        have hev : body = textE t := by injection hev with _ hev; exact hev.symm
                        subst hev
                        have a_boolean := at_words_boolean (.string ⟨#[]⟩)
                        have a_whole := at_words_whole (.string ⟨#[]⟩)
                        have a_thing := at_words_thing (.string ⟨#[]⟩)
                        have a_broken := at_words_broken (.string ⟨#[]⟩)
                        have a_words := at_words_words (.string ⟨#[]⟩)
                        clear HPV HBODY
                        have htx := Lib.hid (rtext_any rb G t R w3 (by omega) (by omega) hne HD.out.rdr)
                        go_wp2_with fail
                        refine htx.out.mono ?_
                        rintro e w4 ⟨rfl, hr4, ht4, _⟩
                        have HD4 := Lib.hid (HD.out.on ht4 hr4)
                        clear f1 f2 f3 f4 hr4 ht4
                        have f3 : w4.frozen? ⟨h + 1, 3, none⟩ = false := Lib.frozen_of_heap HD4.out.val 3
                        have x3 : w4.cell? ⟨h + 1, 3, none⟩ = some (.string ⟨#[]⟩) := Lib.cell_of_heap HD4.out.val 3
                        go_wp2_with fail
                        go_meet
                        exact Lib.hid ⟨_, HD4.out.set 3 _ rfl⟩
                      · have e9 : ((k : Int) == 9) = false := beq_eq_false_iff_ne.2 h9
                        by_cases h10 : k = 10
                        · subst h10
                          have hpv : pv = .iface 143 (.agg #[.string ⟨#[]⟩, .string ⟨#[]⟩]) := by rw [← HPV.out]; rfl
                          subst hpv
                          obtain ⟨rfl, rfl, rfl, hq3, hq4⟩ := form_10 HMAY.out
                          have hev := HBODY.out
                          unfold encV at hev
                          rw [Hc.out] at hev
                          have hev : body = textE t ++ textE x := by injection hev with _ hev; exact hev.symm
                          subst hev
                          have a_boolean := at_literal_boolean (.agg #[.string ⟨#[]⟩, .string ⟨#[]⟩])
                          have a_whole := at_literal_whole (.agg #[.string ⟨#[]⟩, .string ⟨#[]⟩])
                          have a_thing := at_literal_thing (.agg #[.string ⟨#[]⟩, .string ⟨#[]⟩])
                          have a_broken := at_literal_broken (.agg #[.string ⟨#[]⟩, .string ⟨#[]⟩])
                          have a_words := at_literal_words (.agg #[.string ⟨#[]⟩, .string ⟨#[]⟩])
                          have a_literal := at_literal_literal (.agg #[.string ⟨#[]⟩, .string ⟨#[]⟩])
                          clear HPV HBODY
                          have htx := Lib.hid (rtext_any rb G t (textE x ++ R) w3 (by omega) (by have := textE_length x; rw [List.length_append]; omega) hne (by have := HD.out.rdr; rwa [List.append_assoc] at this))
                          go_wp2_with fail
                          refine htx.out.mono ?_
                          rintro e w4 ⟨rfl, hr4, ht4, _⟩
                          have HD4 := Lib.hid (HD.out.on ht4 hr4)
                          clear f1 f2 f3 f4 hr4 ht4
                          have f3 : w4.frozen? ⟨h + 1, 3, none⟩ = false := Lib.frozen_of_heap HD4.out.val 3
                          have x3 : w4.cell? ⟨h + 1, 3, none⟩ = some (.string ⟨#[]⟩) := Lib.cell_of_heap HD4.out.val 3
                          have HD5 := Lib.hid (HD4.out.set 3 (.string t) (b2 := false) (n2 := 0) (t2 := t) (x2 := ⟨#[]⟩) rfl)
                          obtain ⟨w5, Hw5⟩ := name_itV (w4.setCell ⟨h + 1, 3, none⟩ (.string t))
                          rw [Hw5.out] at HD5
                          have hty := Lib.hid (rtext_any rb G x R w5 (by omega) (by omega) hne HD5.out.rdr)
                          go_upto_region 16 with fail
                          rw [Hw5.out]
                          clear f3 x3
                          go_wp2_with fail
                          refine hty.out.mono ?_
                          rintro e w6 ⟨rfl, hr6, ht6, _⟩
                          have HD6 := Lib.hid (HD5.out.on ht6 hr6)
                          have f4 : w6.frozen? ⟨h + 1, 4, none⟩ = false := Lib.frozen_of_heap HD6.out.val 4
                          have x4 : w6.cell? ⟨h + 1, 4, none⟩ = some (.string ⟨#[]⟩) := Lib.cell_of_heap HD6.out.val 4
                          go_wp2_with fail
                          go_meet
                          exact Lib.hid ⟨_, HD6.out.set 4 _ rfl⟩
                        · have e10 : ((k : Int) == 10) = false := beq_eq_false_iff_ne.2 h10
                          by_cases h5 : k = 5
                          · subst h5
                            have hpv : pv = .iface 144 (.slice none 0 0) := by rw [← HPV.out]; rfl
                            subst hpv
                            obtain ⟨rfl, rfl, rfl, rfl, hq4, hq5, hq6⟩ := form_5 HMAY.out
                            have hev := HBODY.out
                            unfold encV at hev
                            rw [Hc.out] at hev
                            have hev : body = beN 4 l.length ++ encL l := by injection hev with _ hev; exact hev.symm
                            subst hev
                            have a_boolean := at_list_boolean (.slice none 0 0)
                            have a_whole := at_list_whole (.slice none 0 0)
                            have a_thing := at_list_thing (.slice none 0 0)
                            have a_broken := at_list_broken (.slice none 0 0)
                            have a_words := at_list_words (.slice none 0 0)
                            have a_literal := at_list_literal (.slice none 0 0)
                            have a_list := at_list_list (.slice none 0 0)
                            clear HPV HBODY
                            have HML := Lib.hid hq6
                            obtain ⟨ln, HLN⟩ := name_itV l.length
                            rw [HLN.out] at HD hq4 hll
                            have hel := encL_length l
                            have hct := Lib.hid (count_any rb G ln 4096 (encL l ++ R) w3 hq4 (by decide) (by rw [List.length_append]; omega) hne (by have := HD.out.rdr; rwa [List.append_assoc] at this))
                            clear hq6 hel
                            go_wp2_with fail
                            refine hct.out.mono ?_
                            rintro e w4 ⟨rfl, hr4, ht4, _⟩
                            have HD4 := Lib.hid (HD.out.on ht4 hr4)
                            clear hr4 ht4 f1 f2 f3 f4
                            go_wp2_with fail
                            go_loopw [84] (fun s84 wr => ∃ i : Nat, i ≤ ln ∧ s84 = .int .i64 (i : Nat) ∧ Hid (∃ s, DecM w h rb G (encL (l.drop i) ++ R) 5 false 0 ⟨#[]⟩ ⟨#[]⟩ (l.take i) s wr)) (fun s84 _ => ln - (intOf s84).toNat)
                            case atStart => exact ⟨0, by omega, rfl, Lib.hid ⟨_, HD4.out⟩⟩
                            case round =>
                              obtain ⟨i, hi, rfl, hex⟩ := hrel
                              obtain ⟨si, hdr⟩ := hex.out
                              have HDR := Lib.hid hdr
                              clear hex hdr
                              by_cases hlt : i < ln
                              · obtain ⟨y, hy⟩ : ∃ y, l[i]? = some y := ⟨l[i]'(by rw [HLN.out]; exact hlt), List.getElem?_eq_getElem _⟩
                                have hmem := List.mem_of_getElem? hy
                                have hmy : mayV y (d + 1) = true := by have := HML.out; rw [mayL_all, List.all_eq_true] at this; exact this y hmem
                                have h6y : i64V y := by have := H64.out; simp only [i64V] at this; exact i64_mem this.2 hmem
                                have hszy := sizeV_mem hmem
                                have hdrop : encL (l.drop i) = encV y ++ encL (l.drop (i + 1)) := by
                                  obtain ⟨hil, hye⟩ := List.getElem?_eq_some_iff.1 hy
                                  rw [List.drop_eq_getElem_cons hil, hye]; simp [encL]
                                have hbnd : 200 * sizeV y + (encL (l.drop (i + 1)) ++ R).length ≤ 40000000 := by
                                  have h1 := encL_length (l.drop (i + 1))
                                  have h2 := sizeL_append (l.take (i + 1)) (l.drop (i + 1))
                                  rw [List.take_append_drop] at h2
                                  have h3 := take_oneMore hy
                                  rw [h3, sizeL_append] at h2
                                  simp only [sizeL] at h2
                                  rw [List.length_append]; omega
                                have htk := Lib.hid (take_oneMore hy)
                                have htl : (l.take i).length = i := by rw [List.length_take, HLN.out]; omega
                                have HTL := Lib.hid htl
                                obtain ⟨R2, HR2⟩ := name_itV (encL (l.drop (i + 1)) ++ R)
                                rw [HR2.out] at hbnd
                                have HDd := Lib.hid (HDR.out.on ((Turn.refl (fun z => z = rb) wr).drew) (HDR.out.rdr.keep (w' := wr.drew) rfl rfl))
                                have hrdd : Rdr wr.drew rb G (encV y ++ R2) := by have := HDd.out.rdr; rw [hdrop, List.append_assoc, HR2.out] at this; exact this
                                have hszr : h + 2 ≤ wr.drew.heap.size := HDd.out.size
                                obtain ⟨d1, Hd1⟩ := name_itV (d + 1)
                                have hih := Lib.hid (IH.out y (by omega) (d + 1) (by omega) hmy h6y rb G R2 wr.drew hbnd hne (by omega) hrdd)
                                rw [Hd1.out] at hih
                                have w1d : IntKind.i64.wrap ((d : Int) + 1) = (d1 : Int) := by rw [IntWalk.i64_in _ (by omega), ← Hd1.out]; push_cast; rfl
                                have w2d : (d : Int) + 1 = (d1 : Int) := by rw [← Hd1.out]; push_cast; rfl
                                have w3d : IntKind.i64.wrap ((i : Int) + 1) = (i : Int) + 1 := IntWalk.i64_in _ (by omega)
                                have wd0 : (0 : Int) ≤ (d1 : Int) := by omega
                                have wd1 : IntKind.i64.wrap (d1 : Int) = (d1 : Int) := IntWalk.i64_in _ (by omega)
                                have y1r : wr.cell? ⟨rb, 1, none⟩ = some (.bool false) := by obtain ⟨s9, _, h9⟩ := HDR.out.rdr; exact Lib.cell_of_heap h9 1
                                obtain ⟨yk, yb, yn, yt, yx, yl⟩ := y
                                obtain ⟨Ai, ci, rfl⟩ := HDR.out.own.form
                                have c5a : wr.drew.cell? ⟨h + 1, 5, none⟩ = some (.slice Ai (l.take i).length ci) := Lib.cell_of_heap HDd.out.val 5
                                rw [htl] at c5a
                                have hdd := HDd.out.own
                                rw [htl] at hdd
                                have HOWN := Lib.hid hdd
                                clear hdd
                                clear hmem hmy h6y hszy hdrop hbnd hrdd htl hy
                                go_upto_block 2 with fail
                                go_cut [] (fun wx => Hid (∃ s, DecM w h rb G R2 5 false 0 ⟨#[]⟩ ⟨#[]⟩ (l.take (i + 1)) s wx))
                                case first =>
                                  obtain ⟨i0, hi0, hz0a, hz1a, hz2a⟩ := info_parts infoVal
                                  go_wp2_with fail
                                  go_region_law (first | (refine step_append_lies _ rfl _ _ 77 rfl 0 84 i0 (.agg #[.int .i64 0, .bool false, .int .i64 0, .string ⟨#[]⟩, .string ⟨#[]⟩, .slice none 0 0]) 6 80 Tryd.underlying77 hi0 hz0a hz1a hz2a rfl (by decide) (.slice Ai i ci) i (flatV cs i) rfl (by exact HROW5.out.alloc _) ⟨w5.heap.size, 0, none⟩ 1 1 [.int .i64 yk, .bool yb, .int .i64 yn, .string yt, .string yx, .slice Ay lyn cy] rfl rfl (World.news_of_block (cs := #[.int .i64 yk, .bool yb, .int .i64 yn, .string yt, .string yx, .slice Ay lyn cy]) (by exact NB.out)) HONE.out (by omega) (by unfold maxLen; omega) (by omega) (Nat.zero_le _) (w5.heap.size + 1) (by exact HS5.out) (fun g6 cp6 w6 ho6 hg6 hl6 _ => ?_); have HO6 := Lib.hid ho6; have HG6 := Lib.hid (show w5.grownBy w6 (Value.slice Ai i ci).ownBlock from grown_after (w := w5) (o := .cells #[.int .i64 yk, .bool yb, .int .i64 yn, .string yt, .string yx, .slice Ay lyn cy] 84) ⟨hg6.os, hg6.tape, hg6.output, hg6.size, hg6.block⟩); have HL6 := Lib.hid (show (Value.slice Ai i ci).ownBlock = some g6 ∨ g6 = w5.heap.size + 1 from hl6); have HC6 := Lib.hid ((HG6.out.block (h + 1) (by have := HSZ5.out; omega) (fun e => by have := HFW.out (h + 1) e.symm; omega)).trans HV5.out); have f6 : w6.frozen? ⟨h + 1, 5, none⟩ = false := Lib.frozen_of_heap HC6.out 5; have d6 : w6.cell? ⟨h + 1, 5, none⟩ = some (.slice Ai i ci) := Lib.cell_of_heap HC6.out 5; clear ho6 hg6 hl6) | (go_simp; go_at_call 66; (with_reducible refine hih.out.mono ?_); rintro e w5 ⟨sy, rfl, hr5, ht5, ho5⟩; obtain ⟨Ay, cy, rfl⟩ := ho5.form; obtain ⟨lyn, Hlyn⟩ := name_itV yl.length; unfold cellsV; simp only [Val.kind, Val.truth, Val.num, Val.text, Val.extra, Val.list]; rw [Hlyn.out]; have HT5 := Lib.hid ht5; have HR5 := Lib.hid hr5; have HO5 := Lib.hid ho5; have HSZ5 := Lib.hid (show h + 2 ≤ w5.heap.size from Nat.le_trans hszr ht5.size); obtain ⟨cs, Fs, hrow, h6c, hFw, hFs, hdis, hrc⟩ := HOWN.out.turn ht5 (fun z hz e => by omega); rw [HTL.out] at hrow; have HROW5 := Lib.hid hrow; have HFW := Lib.hid (show ∀ g, (Value.slice Ai i ci).ownBlock = some g → h + 2 ≤ g ∧ g < wr.drew.heap.size from fun g hg => hFw g hg); have HCS := Lib.hid (And.intro h6c (And.intro hFw (And.intro hFs (And.intro hdis hrc)))); have HV5 := Lib.hid ((ht5.block (h + 1) (by omega) (by omega)).trans HDd.out.val); rw [HTL.out] at HV5; have c5b : w5.cell? ⟨h + 1, 5, none⟩ = some (.slice Ai i ci) := Lib.cell_of_heap HV5.out 5; have c5c : (w5.alloc (.cells #[.int .i64 yk, .bool yb, .int .i64 yn, .string yt, .string yx, .slice Ay lyn cy] 84)).cell? ⟨h + 1, 5, none⟩ = some (.slice Ai i ci) := (((Below.refl w5.heap.size w5).alloc (Nat.le_refl _) _).cell (p := ⟨h + 1, 5, none⟩) (by have := HSZ5.out; show h + 1 < _; omega)).trans c5b; have HONE := Lib.hid (show ∀ u ∈ ([.int .i64 yk, .bool yb, .int .i64 yn, .string yt, .string yx, .slice Ay lyn cy] : List Value), u.oneCell' = true from one_val (.mk yk yb yn yt yx yl) Ay lyn cy); have NB := Lib.hid (heap_alloc_new w5 (.cells #[.int .i64 yk, .bool yb, .int .i64 yn, .string yt, .string yx, .slice Ay lyn cy] 84)); have HS5 := Lib.hid (show (w5.alloc (.cells #[.int .i64 yk, .bool yb, .int .i64 yn, .string yt, .string yx, .slice Ay lyn cy] 84)).heap.size = w5.heap.size + 1 by simp); clear hrow h6c hFw hFs hdis hrc ht5 hr5 ho5))
                                  all_goals go_wp2_with fail
                                  all_goals (refine Met.intro ?_; go_step; (repeat apply Exists.intro); refine ⟨?_, rfl⟩)
                                  all_goals
                                    obtain ⟨h6c, hFw, hFs, hdis, hrc⟩ := HCS.out
                                    have ho6 := HO6.out
                                    have hxl5 := HO5.out
                                    have hs6 := HG6.out.size
                                    have hlo := HDR.out.low
                                    have hsz5 := HSZ5.out
                                    have hdrs : wr.drew.heap.size ≤ w5.heap.size := HT5.out.size
                                    have hg6 : g6 < w6.heap.size := (ho6.lt g6 rfl).2
                                    have hsn := own_snoc (w5 := w5) (w6 := w6) (F := fun z => h + 2 ≤ z ∧ z < wr.drew.heap.size) (G := fun z => wr.drew.heap.size ≤ z ∧ z < w5.heap.size) (l := l.take i) (x := .mk yk yb yn yt yx yl) (s := .slice Ai i ci) (sx := .slice Ay yl.length cy) (g4 := g6) (c4 := cp6) (cs := cs) (Fs := Fs) h6c hFw hFs hdis hrc hxl5
                                      (fun z hz hz2 => by obtain ⟨_, q1⟩ := hz; obtain ⟨q2, _⟩ := hz2; omega) (fun z hz => by obtain ⟨_, q1⟩ := hz; omega) (fun z hz => hz.2) (by
                                        rw [HTL.out]
                                        unfold cellsV
                                        simp only [Val.kind, Val.truth, Val.num, Val.text, Val.extra]
                                        rw [Hlyn.out]
                                        exact ho6) HG6.out (by rcases HL6.out with e | e; exact .inl e; exact .inr (by omega))
                                    rw [HTL.out] at hsn
                                    have hownb : ∀ z, some z = (Value.slice Ai i ci).ownBlock → h + 2 ≤ z := fun z hz => (HFW.out z hz.symm).1
                                    have hTs : Turn (fun z => some z = (Value.slice Ai i ci).ownBlock ∨ z = h + 1) w5 (w6.setCell ⟨h + 1, 5, none⟩ (.slice (some ⟨g6, 0, none⟩) (i + 1) cp6)) :=
                                      ((Turn.of_grown HG6.out).mono (fun z _ hz => .inl hz)).trans (((Turn.refl (fun z => z = h + 1) w6).setCell (p := ⟨h + 1, 5, none⟩) (.inr rfl) _).mono (fun z _ hz => .inr hz))
                                    have hkeep : ∀ z, z < h + 1 → (w6.setCell ⟨h + 1, 5, none⟩ (.slice (some ⟨g6, 0, none⟩) (i + 1) cp6)).heap[z]? = w5.heap[z]? := fun z hz => hTs.block z (by omega) (fun hx => by
                                      rcases hx with hx | hx
                                      · have := hownb z hx; omega
                                      · omega)
                                    have hD5 := HDd.out.on HT5.out HR5.out
                                    refine Lib.hid ⟨.slice (some ⟨g6, 0, none⟩) (i + 1) cp6, hD5.turn.andThen hTs (fun z hz hx => ?_), (hkeep h (by omega)).trans hD5.zero, heap_setCell_same w6 (h + 1) 5 _ _ _ HC6.out, HR5.out.keep (hkeep G (by omega)) (hkeep rb (by omega)), ?_, by simpa using Nat.le_trans hsz5 hs6, hlo, hD5.far⟩
                                    · rcases hx with hx | hx
                                      · have := hownb z hx; omega
                                      · omega
                                    · rw [htk.out]
                                      refine (hsn.turn ((Turn.refl (fun z => z = h + 1) w6).setCell (p := ⟨h + 1, 5, none⟩) (.inr rfl) _) (fun z hz e => ?_)).mono (fun z hz => ?_)
                                      · rcases hz with hz | hz | hz
                                        · omega
                                        · omega
                                        · rcases HL6.out with q | q
                                          · have := hownb g6 q.symm; omega
                                          · omega
                                      · rw [World.size_setCell]
                                        rcases hz with hz | hz | hz
                                        · exact ⟨hz.1, by omega⟩
                                        · exact ⟨by omega, by omega⟩
                                        · subst hz
                                          rcases HL6.out with q | q
                                          · exact ⟨hownb z q.symm, hg6⟩
                                          · exact ⟨by omega, hg6⟩
                                case rest =>
                                  have HN := Lib.hid hcut.out
                                  clear hcut
                                  go_wp2_with fail
                                  go_roundw
                                  case rel =>
                                    refine ⟨i + 1, by omega, by go_num, Lib.hid ?_⟩
                                    rw [HR2.out]
                                    exact HN.out
                                  case measure => simp [intOf]; omega
                              · have hie : i = ln := by omega
                                have hd0 : l.drop i = [] := List.drop_eq_nil_of_le (by rw [HLN.out]; omega)
                                have ht0 : l.take i = l := List.take_of_length_le (by rw [HLN.out]; omega)
                                have HE := Lib.hid (show DecM w h rb G R 5 false 0 ⟨#[]⟩ ⟨#[]⟩ l si wr from by have := HDR.out; rw [hd0, ht0] at this; unfold encL at this; exact this)
                                clear hie hd0 ht0
                                go_wp2_with fail
                                go_meet
                                exact Lib.hid ⟨_, HE.out⟩
                          · omega
    case rest =>
      obtain ⟨s, hd⟩ := hcut.out
      have HD2 := Lib.hid hd
      clear hd hcut HD f1 f2 f3 f4
      have x0 : wc.cell? ⟨h + 1, 0, none⟩ = some (.int .i64 k) := Lib.cell_of_heap HD2.out.val 0
      have x1 : wc.cell? ⟨h + 1, 1, none⟩ = some (.bool b) := Lib.cell_of_heap HD2.out.val 1
      have x2 : wc.cell? ⟨h + 1, 2, none⟩ = some (.int .i64 n) := Lib.cell_of_heap HD2.out.val 2
      have x3 : wc.cell? ⟨h + 1, 3, none⟩ = some (.string t) := Lib.cell_of_heap HD2.out.val 3
      have x4 : wc.cell? ⟨h + 1, 4, none⟩ = some (.string x) := Lib.cell_of_heap HD2.out.val 4
      have x5 : wc.cell? ⟨h + 1, 5, none⟩ = some s := Lib.cell_of_heap HD2.out.val 5
      have v0 : wc.cell? ⟨h, 0, none⟩ = some (.int .i64 0) := Lib.cell_of_heap HD2.out.zero 0
      have v1 : wc.cell? ⟨h, 1, none⟩ = some (.bool false) := Lib.cell_of_heap HD2.out.zero 1
      have v2 : wc.cell? ⟨h, 2, none⟩ = some (.int .i64 0) := Lib.cell_of_heap HD2.out.zero 2
      have v3 : wc.cell? ⟨h, 3, none⟩ = some (.string ⟨#[]⟩) := Lib.cell_of_heap HD2.out.zero 3
      have v4 : wc.cell? ⟨h, 4, none⟩ = some (.string ⟨#[]⟩) := Lib.cell_of_heap HD2.out.zero 4
      have v5 : wc.cell? ⟨h, 5, none⟩ = some (.slice none 0 0) := Lib.cell_of_heap HD2.out.zero 5
      have g0 : wc.frozen? ⟨h, 0, none⟩ = false := Lib.frozen_of_heap HD2.out.zero 0
      have g1 : wc.frozen? ⟨h, 1, none⟩ = false := Lib.frozen_of_heap HD2.out.zero 1
      have g2 : wc.frozen? ⟨h, 2, none⟩ = false := Lib.frozen_of_heap HD2.out.zero 2
      have g3 : wc.frozen? ⟨h, 3, none⟩ = false := Lib.frozen_of_heap HD2.out.zero 3
      have g4 : wc.frozen? ⟨h, 4, none⟩ = false := Lib.frozen_of_heap HD2.out.zero 4
      have g5 : wc.frozen? ⟨h, 5, none⟩ = false := Lib.frozen_of_heap HD2.out.zero 5
      obtain ⟨As, cs, rfl⟩ := HD2.out.own.form
      obtain ⟨ln, HLN⟩ := name_itV l.length
      rw [HLN.out] at x5
      go_wp2_with fail
      refine bodyPost_ret (v := .agg #[.int .i64 k, .bool b, .int .i64 n, .string t, .string x, .slice As ln cs]) (by simp [results, Tryd.results66, go_sem, v0, v1, v2, v3, v4, v5]) rfl ⟨.slice As l.length cs, by rw [HLN.out]; rfl, ?_, ?_, ?_⟩
      · have hT6 := set6_turn wc h 0 (.int .i64 k) (.bool b) (.int .i64 n) (.string t) (.string x) (.slice As ln cs)
        have hs := HD2.out.size
        exact HD2.out.rdr.keep (hT6.block G (by omega) (by omega)) (hT6.block rb (by omega) (by omega))
      · have hT6 := set6_turn wc h 0 (.int .i64 k) (.bool b) (.int .i64 n) (.string t) (.string x) (.slice As ln cs)
        have hlo := HD2.out.low
        exact HD2.out.turn.andThen hT6 (fun i hi e => by omega)
      · have hT6 := set6_turn wc h 0 (.int .i64 k) (.bool b) (.int .i64 n) (.string t) (.string x) (.slice As ln cs)
        have hlo := HD2.out.low
        exact (HD2.out.own.turn hT6 (fun z hz e => by omega)).mono (fun z hz => ⟨by omega, Nat.lt_of_lt_of_le hz.2 hT6.size⟩)
end Go.Proofs.YtdhnmgndekncpaaDoor
