/- May a value be: the reference's may. Printed by gen_VL.py. -/
import Derived.Test.YtmhjbicbdahllaaGreatDoorVK
namespace Go.Proofs.YtmhjbicbdahllaaGreatDoor
open Go Go.RowKit

theorem eqN0 (n : Int) : decide (n = 0) = !(n != 0) := by by_cases h : n = 0 <;> simp [h]
theorem eqT0 (t : ByteArray) : decide (t = ⟨#[]⟩) = !(!t.toList.isEmpty) := by
  rw [Bool.not_not]
  by_cases h : t = ⟨#[]⟩
  · rw [decide_eq_true h, h, Lib.toList_data]; rfl
  · rw [decide_eq_false h]
    cases he : t.toList with
    | nil => exact absurd (by apply ByteArray.ext; rw [← Array.toList_inj]; rw [← Lib.toList_data, he]) h
    | cons a l => rfl
theorem eqL0 (n : Nat) : decide (n = 0) = !decide (0 < n) := by by_cases h : n = 0 <;> simp [h]; omega
theorem cmp_bare (k : Int) (b : Bool) (n : Int) (t x : ByteArray) (l : List Val) (hk : decide (k = 5) = false) : cmpB k b n t x l false 0 ⟨#[]⟩ ⟨#[]⟩ = (!b && (!(n != 0) && (!(!t.toList.isEmpty) && (!(!x.toList.isEmpty) && !decide (0 < l.length))))) := by
  unfold cmpB; rw [eqN0, eqT0, eqT0, eqL0, hk]; cases b <;> simp
theorem cmp_b (k : Int) (b : Bool) (n : Int) (t x : ByteArray) (l : List Val) (hk : decide (k = 5) = false) : cmpB k b n t x l b 0 ⟨#[]⟩ ⟨#[]⟩ = (!(n != 0) && (!(!t.toList.isEmpty) && (!(!x.toList.isEmpty) && !decide (0 < l.length)))) := by
  unfold cmpB; rw [eqN0, eqT0, eqT0, eqL0, hk]; cases b <;> simp
theorem cmp_n (k : Int) (b : Bool) (n : Int) (t x : ByteArray) (l : List Val) (hk : decide (k = 5) = false) : cmpB k b n t x l false n ⟨#[]⟩ ⟨#[]⟩ = (!b && (!(!t.toList.isEmpty) && (!(!x.toList.isEmpty) && !decide (0 < l.length)))) := by
  unfold cmpB; rw [eqT0, eqT0, eqL0, hk]; cases b <;> simp
theorem cmp_t (k : Int) (b : Bool) (n : Int) (t x : ByteArray) (l : List Val) (hk : decide (k = 5) = false) : cmpB k b n t x l false 0 t ⟨#[]⟩ = (!b && (!(n != 0) && (!(!x.toList.isEmpty) && !decide (0 < l.length)))) := by
  unfold cmpB; rw [eqN0, eqT0, eqL0, hk]; cases b <;> simp
theorem cmp_tx (k : Int) (b : Bool) (n : Int) (t x : ByteArray) (l : List Val) (hk : decide (k = 5) = false) : cmpB k b n t x l false 0 t x = (!b && (!(n != 0) && !decide (0 < l.length))) := by
  unfold cmpB; rw [eqN0, eqL0, hk]; cases b <;> simp
theorem cmp_5 (b : Bool) (n : Int) (t x : ByteArray) (l : List Val) : cmpB 5 b n t x l false 0 ⟨#[]⟩ ⟨#[]⟩ = (!b && (!(n != 0) && (!(!t.toList.isEmpty) && !(!x.toList.isEmpty)))) := by
  unfold cmpB; rw [eqN0, eqT0, eqT0]; cases b <;> simp

set_option maxRecDepth 100000 in
set_option maxHeartbeats 8000000 in
theorem may_any (N : Nat) : ∀ (v : Val) (_ : sizeV v < N) (_ : sizeV v ≤ 10000000000) (d : Nat) (_ : d ≤ 60) (F : Nat → Prop) (u : Value) (w : World) (_ : ∀ g, F g → g < w.heap.size) (_ : VRd w F v u),
    Calls Tryz.prog 122 #[u, .int .i64 (d : Int)] w (ToldB (mayV v d) w) := by
  induction N with
  | zero => exact fun _ h => absurd h (Nat.not_lt_zero _)
  | succ N ih =>
    intro v hN hs d hd F u w hF hv
    obtain ⟨A, cap, rfl, hcap, hl⟩ := hv.inv
    have IH := Lib.hid ih
    have HL := Lib.hid hl
    have HF := Lib.hid hF
    clear ih hl hF hv
    obtain ⟨mv, HMV⟩ := name_itV (mayV v d)
    rw [HMV.out]
    cases v with
    | mk k b n t x l =>
    unfold cellsV
    simp only [Val.kind, Val.truth, Val.num, Val.text, Val.extra, Val.list] at HL hcap ⊢
    have hts : t.size ≤ 1000000000000 ∧ x.size ≤ 1000000000000 ∧ l.length ≤ 10000000000 ∧ sizeL l < N ∧ sizeL l ≤ 10000000000 := by
      simp only [sizeV] at hs hN
      have := len_le_size l
      omega
    obtain ⟨hts, hxs, hll, hlN, hls⟩ := hts
    clear hN hs
    obtain ⟨ln, HLN⟩ := name_itV l.length
    rw [HLN.out] at HL hcap hll ⊢
    have z0 : ¬ (60 : Int) < (d : Int) := by omega
    obtain ⟨bn, Hbn⟩ := name_itV (n != 0)
    obtain ⟨bt, Hbt⟩ := name_itV (!t.toList.isEmpty)
    obtain ⟨bx, Hbx⟩ := name_itV (!x.toList.isEmpty)
    obtain ⟨bl, Hbl⟩ := name_itV (decide (0 < ln))
    obtain ⟨w0, Hw0⟩ := name_itV (w.alloc (.cells #[.int .i64 k, .bool b, .int .i64 n, .string t, .string x, .slice A ln cap] 55))
    obtain ⟨h, Hh⟩ := name_itV w.heap.size
    have hb0 := Lib.hid (show Below w.heap.size w w0 from by rw [← Hw0.out]; exact (Below.refl _ _).alloc (Nat.le_refl _) _)
    have hblk := Lib.hid (show w0.heap[h]? = some (.cells #[.int .i64 k, .bool b, .int .i64 n, .string t, .string x, .slice A ln cap] 55 (0, 0)) from by rw [← Hw0.out, ← Hh.out]; exact heap_alloc_new w _)
    have hhs := Lib.hid (show h < w0.heap.size from by rw [← Hw0.out, ← Hh.out]; simp)
    go_enter Tryz.func122, Tryz.ntmps122
    go_upto_block 0 with fail
    rw [Hw0.out, Hh.out, Hbn.out, Hbt.out, Hbx.out, Hbl.out]
    have c2 : w0.cell? ⟨h, 2, none⟩ = some (.int .i64 n) := Lib.cell_of_heap hblk.out 2
    have c3 : w0.cell? ⟨h, 3, none⟩ = some (.string t) := Lib.cell_of_heap hblk.out 3
    have c4 : w0.cell? ⟨h, 4, none⟩ = some (.string x) := Lib.cell_of_heap hblk.out 4
    have c5 : w0.cell? ⟨h, 5, none⟩ = some (.slice A ln cap) := Lib.cell_of_heap hblk.out 5
    by_cases h0 : k = 0
    · subst h0
      have hmv := Lib.hid (show mv = (!b && (!bn && (!bt && (!bx && !bl)))) from by rw [← HMV.out, may_0, cmp_bare 0 b n t x l rfl, Hbn.out, Hbt.out, Hbx.out, HLN.out, Hbl.out])
      clear HMV
      cases b with
      | true =>
        have hmf := Lib.hid (show false = mv from by rw [hmv.out]; simp)
        go_wp2_with fail
        go_ret
        exact ⟨ret_b hmf.out, hb0.out⟩
      | false =>
        cases bn with
        | true =>
          have hmf := Lib.hid (show false = mv from by rw [hmv.out]; simp)
          go_wp2_with fail
          go_ret
          exact ⟨ret_b hmf.out, hb0.out⟩
        | false =>
          cases bt with
          | true =>
            have hmf := Lib.hid (show false = mv from by rw [hmv.out]; simp)
            go_wp2_with fail
            go_ret
            exact ⟨ret_b hmf.out, hb0.out⟩
          | false =>
            cases bx with
            | true =>
              have hmf := Lib.hid (show false = mv from by rw [hmv.out]; simp)
              go_wp2_with fail
              go_ret
              exact ⟨ret_b hmf.out, hb0.out⟩
            | false =>
              cases bl with
              | true =>
                have hmf := Lib.hid (show false = mv from by rw [hmv.out]; simp)
                go_wp2_with fail
                go_ret
                exact ⟨ret_b hmf.out, hb0.out⟩
              | false =>
                have hmf := Lib.hid (show true = mv from by rw [hmv.out]; simp)
                go_wp2_with fail
                go_ret
                exact ⟨ret_b hmf.out, hb0.out⟩
    · have e0 : ((k : Int) == 0) = false := beq_eq_false_iff_ne.2 h0
      by_cases h1 : k = 1
      · subst h1
        have hmv := Lib.hid (show mv = (!bn && (!bt && (!bx && !bl))) from by rw [← HMV.out, may_1, cmp_b 1 b n t x l rfl, Hbn.out, Hbt.out, Hbx.out, HLN.out, Hbl.out])
        clear HMV
        cases bn with
        | true =>
          have hmf := Lib.hid (show false = mv from by rw [hmv.out]; simp)
          go_wp2_with fail
          go_ret
          exact ⟨ret_b hmf.out, hb0.out⟩
        | false =>
          cases bt with
          | true =>
            have hmf := Lib.hid (show false = mv from by rw [hmv.out]; simp)
            go_wp2_with fail
            go_ret
            exact ⟨ret_b hmf.out, hb0.out⟩
          | false =>
            cases bx with
            | true =>
              have hmf := Lib.hid (show false = mv from by rw [hmv.out]; simp)
              go_wp2_with fail
              go_ret
              exact ⟨ret_b hmf.out, hb0.out⟩
            | false =>
              cases bl with
              | true =>
                have hmf := Lib.hid (show false = mv from by rw [hmv.out]; simp)
                go_wp2_with fail
                go_ret
                exact ⟨ret_b hmf.out, hb0.out⟩
              | false =>
                have hmf := Lib.hid (show true = mv from by rw [hmv.out]; simp)
                go_wp2_with fail
                go_ret
                exact ⟨ret_b hmf.out, hb0.out⟩
      · have e1 : ((k : Int) == 1) = false := beq_eq_false_iff_ne.2 h1
        by_cases h2 : k = 2
        · subst h2
          have hmv := Lib.hid (show mv = (!b && (!bt && (!bx && !bl))) from by rw [← HMV.out, may_2, cmp_n 2 b n t x l rfl, Hbt.out, Hbx.out, HLN.out, Hbl.out])
          clear HMV
          cases b with
          | true =>
            have hmf := Lib.hid (show false = mv from by rw [hmv.out]; simp)
            go_wp2_with fail
            go_ret
            exact ⟨ret_b hmf.out, hb0.out⟩
          | false =>
            cases bt with
            | true =>
              have hmf := Lib.hid (show false = mv from by rw [hmv.out]; simp)
              go_wp2_with fail
              go_ret
              exact ⟨ret_b hmf.out, hb0.out⟩
            | false =>
              cases bx with
              | true =>
                have hmf := Lib.hid (show false = mv from by rw [hmv.out]; simp)
                go_wp2_with fail
                go_ret
                exact ⟨ret_b hmf.out, hb0.out⟩
              | false =>
                cases bl with
                | true =>
                  have hmf := Lib.hid (show false = mv from by rw [hmv.out]; simp)
                  go_wp2_with fail
                  go_ret
                  exact ⟨ret_b hmf.out, hb0.out⟩
                | false =>
                  have hmf := Lib.hid (show true = mv from by rw [hmv.out]; simp)
                  go_wp2_with fail
                  go_ret
                  exact ⟨ret_b hmf.out, hb0.out⟩
        · have e2 : ((k : Int) == 2) = false := beq_eq_false_iff_ne.2 h2
          by_cases h3 : k = 3
          · subst h3
            have hmv := Lib.hid (show mv = (decB t && (!b && (!bn && (!bx && !bl)))) from by rw [← HMV.out, may_3, cmp_t 3 b n t x l rfl, Hbn.out, Hbx.out, HLN.out, Hbl.out])
            clear HMV
            cases b with
            | true =>
              have hmf := Lib.hid (show false = mv from by rw [hmv.out]; simp)
              go_wp2_with fail
              go_ret
              exact ⟨ret_b hmf.out, hb0.out⟩
            | false =>
              cases bn with
              | true =>
                have hmf := Lib.hid (show false = mv from by rw [hmv.out]; simp)
                go_wp2_with fail
                go_ret
                exact ⟨ret_b hmf.out, hb0.out⟩
              | false =>
                cases bx with
                | true =>
                  have hmf := Lib.hid (show false = mv from by rw [hmv.out]; simp)
                  go_wp2_with fail
                  go_ret
                  exact ⟨ret_b hmf.out, hb0.out⟩
                | false =>
                  cases bl with
                  | true =>
                    have hmf := Lib.hid (show false = mv from by rw [hmv.out]; simp)
                    go_wp2_with fail
                    go_ret
                    exact ⟨ret_b hmf.out, hb0.out⟩
                  | false =>
                    have hcl := Lib.hid (refDec_any t (by omega) w0)
                    obtain ⟨r, Hr⟩ := name_itV (decB t)
                    rw [Hr.out] at hcl hmv
                    cases r with
                    | false =>
                      have hmf := Lib.hid (show false = mv from by rw [hmv.out]; simp)
                      go_wp2_with fail; refine hcl.out.mono ?_; rintro e w2 ⟨rfl, hb2⟩
                      have HB2 := Lib.hid (hb0.out.trans (hb2.mono hb0.out.size))
                      clear hb2
                      go_wp2_with fail
                      go_ret
                      exact ⟨ret_b hmf.out, HB2.out⟩
                    | true =>
                      have hmf := Lib.hid (show true = mv from by rw [hmv.out]; simp)
                      go_wp2_with fail; refine hcl.out.mono ?_; rintro e w2 ⟨rfl, hb2⟩
                      have HB2 := Lib.hid (hb0.out.trans (hb2.mono hb0.out.size))
                      clear hb2
                      go_wp2_with fail
                      go_ret
                      exact ⟨ret_b hmf.out, HB2.out⟩
          · have e3 : ((k : Int) == 3) = false := beq_eq_false_iff_ne.2 h3
            by_cases h4 : k = 4
            · subst h4
              have hmv := Lib.hid (show mv = (decide (t.size ≤ 1048576) && (!b && (!bn && (!bx && !bl)))) from by rw [← HMV.out, may_4, cmp_t 4 b n t x l rfl, Hbn.out, Hbx.out, HLN.out, Hbl.out])
              clear HMV
              cases b with
              | true =>
                have hmf := Lib.hid (show false = mv from by rw [hmv.out]; simp)
                go_wp2_with fail
                go_ret
                exact ⟨ret_b hmf.out, hb0.out⟩
              | false =>
                cases bn with
                | true =>
                  have hmf := Lib.hid (show false = mv from by rw [hmv.out]; simp)
                  go_wp2_with fail
                  go_ret
                  exact ⟨ret_b hmf.out, hb0.out⟩
                | false =>
                  cases bx with
                  | true =>
                    have hmf := Lib.hid (show false = mv from by rw [hmv.out]; simp)
                    go_wp2_with fail
                    go_ret
                    exact ⟨ret_b hmf.out, hb0.out⟩
                  | false =>
                    cases bl with
                    | true =>
                      have hmf := Lib.hid (show false = mv from by rw [hmv.out]; simp)
                      go_wp2_with fail
                      go_ret
                      exact ⟨ret_b hmf.out, hb0.out⟩
                    | false =>
                      by_cases ht0 : t.size ≤ 1048576
                      · have z1 : (t.size : Int) ≤ 1048576 := by omega
                        rw [decide_eq_true ht0] at hmv
                        have hmf := Lib.hid (show true = mv from by rw [hmv.out]; simp)
                        go_wp2_with fail
                        go_ret
                        exact ⟨ret_b hmf.out, hb0.out⟩
                      · have z1 : ¬ (t.size : Int) ≤ 1048576 := by omega
                        rw [decide_eq_false ht0] at hmv
                        have hmf := Lib.hid (show false = mv from by rw [hmv.out]; simp)
                        go_wp2_with fail
                        go_ret
                        exact ⟨ret_b hmf.out, hb0.out⟩
            · have e4 : ((k : Int) == 4) = false := beq_eq_false_iff_ne.2 h4
              by_cases h8 : k = 8
              · subst h8
                have hmv := Lib.hid (show mv = (iriB t && (!b && (!bn && (!bx && !bl)))) from by rw [← HMV.out, may_8, cmp_t 8 b n t x l rfl, Hbn.out, Hbx.out, HLN.out, Hbl.out])
                clear HMV
                cases b with
                | true =>
                  have hmf := Lib.hid (show false = mv from by rw [hmv.out]; simp)
                  go_wp2_with fail
                  go_ret
                  exact ⟨ret_b hmf.out, hb0.out⟩
                | false =>
                  cases bn with
                  | true =>
                    have hmf := Lib.hid (show false = mv from by rw [hmv.out]; simp)
                    go_wp2_with fail
                    go_ret
                    exact ⟨ret_b hmf.out, hb0.out⟩
                  | false =>
                    cases bx with
                    | true =>
                      have hmf := Lib.hid (show false = mv from by rw [hmv.out]; simp)
                      go_wp2_with fail
                      go_ret
                      exact ⟨ret_b hmf.out, hb0.out⟩
                    | false =>
                      cases bl with
                      | true =>
                        have hmf := Lib.hid (show false = mv from by rw [hmv.out]; simp)
                        go_wp2_with fail
                        go_ret
                        exact ⟨ret_b hmf.out, hb0.out⟩
                      | false =>
                        have hcl := Lib.hid (refIri_any t w0)
                        obtain ⟨r, Hr⟩ := name_itV (iriB t)
                        rw [Hr.out] at hcl hmv
                        cases r with
                        | false =>
                          have hmf := Lib.hid (show false = mv from by rw [hmv.out]; simp)
                          go_wp2_with fail; refine hcl.out.mono ?_; rintro e w2 ⟨rfl, rfl⟩
                          go_wp2_with fail
                          go_ret
                          exact ⟨ret_b hmf.out, hb0.out⟩
                        | true =>
                          have hmf := Lib.hid (show true = mv from by rw [hmv.out]; simp)
                          go_wp2_with fail; refine hcl.out.mono ?_; rintro e w2 ⟨rfl, rfl⟩
                          go_wp2_with fail
                          go_ret
                          exact ⟨ret_b hmf.out, hb0.out⟩
              · have e8 : ((k : Int) == 8) = false := beq_eq_false_iff_ne.2 h8
                by_cases h9 : k = 9
                · subst h9
                  have hmv := Lib.hid (show mv = (nameB t && (!b && (!bn && (!bx && !bl)))) from by rw [← HMV.out, may_9, cmp_t 9 b n t x l rfl, Hbn.out, Hbx.out, HLN.out, Hbl.out])
                  clear HMV
                  cases b with
                  | true =>
                    have hmf := Lib.hid (show false = mv from by rw [hmv.out]; simp)
                    go_wp2_with fail
                    go_ret
                    exact ⟨ret_b hmf.out, hb0.out⟩
                  | false =>
                    cases bn with
                    | true =>
                      have hmf := Lib.hid (show false = mv from by rw [hmv.out]; simp)
                      go_wp2_with fail
                      go_ret
                      exact ⟨ret_b hmf.out, hb0.out⟩
                    | false =>
                      cases bx with
                      | true =>
                        have hmf := Lib.hid (show false = mv from by rw [hmv.out]; simp)
                        go_wp2_with fail
                        go_ret
                        exact ⟨ret_b hmf.out, hb0.out⟩
                      | false =>
                        cases bl with
                        | true =>
                          have hmf := Lib.hid (show false = mv from by rw [hmv.out]; simp)
                          go_wp2_with fail
                          go_ret
                          exact ⟨ret_b hmf.out, hb0.out⟩
                        | false =>
                          have hcl := Lib.hid (refName_any t w0)
                          obtain ⟨r, Hr⟩ := name_itV (nameB t)
                          rw [Hr.out] at hcl hmv
                          cases r with
                          | false =>
                            have hmf := Lib.hid (show false = mv from by rw [hmv.out]; simp)
                            go_wp2_with fail; refine hcl.out.mono ?_; rintro e w2 ⟨rfl, rfl⟩
                            go_wp2_with fail
                            go_ret
                            exact ⟨ret_b hmf.out, hb0.out⟩
                          | true =>
                            have hmf := Lib.hid (show true = mv from by rw [hmv.out]; simp)
                            go_wp2_with fail; refine hcl.out.mono ?_; rintro e w2 ⟨rfl, rfl⟩
                            go_wp2_with fail
                            go_ret
                            exact ⟨ret_b hmf.out, hb0.out⟩
                · have e9 : ((k : Int) == 9) = false := beq_eq_false_iff_ne.2 h9
                  by_cases h5 : k = 5
                  · subst h5
                    have hmv := Lib.hid (show mv = (decide (ln ≤ 4096) && (decide (d < 60) && (mayL l (d + 1) && (!b && (!bn && (!bt && !bx)))))) from by rw [← HMV.out, may_5, cmp_5 b n t x l, Hbn.out, Hbt.out, Hbx.out, HLN.out])
                    clear HMV
                    cases b with
                    | true =>
                      have hmf := Lib.hid (show false = mv from by rw [hmv.out]; simp)
                      go_wp2_with fail
                      go_ret
                      exact ⟨ret_b hmf.out, hb0.out⟩
                    | false =>
                      cases bn with
                      | true =>
                        have hmf := Lib.hid (show false = mv from by rw [hmv.out]; simp)
                        go_wp2_with fail
                        go_ret
                        exact ⟨ret_b hmf.out, hb0.out⟩
                      | false =>
                        cases bt with
                        | true =>
                          have hmf := Lib.hid (show false = mv from by rw [hmv.out]; simp)
                          go_wp2_with fail
                          go_ret
                          exact ⟨ret_b hmf.out, hb0.out⟩
                        | false =>
                          cases bx with
                          | true =>
                            have hmf := Lib.hid (show false = mv from by rw [hmv.out]; simp)
                            go_wp2_with fail
                            go_ret
                            exact ⟨ret_b hmf.out, hb0.out⟩
                          | false =>
                            by_cases hl1 : ln ≤ 4096
                            · have z1 : ¬ (4096 : Int) < (ln : Int) := by omega
                              rw [decide_eq_true hl1] at hmv
                              obtain ⟨d1, Hd1⟩ := name_itV (d + 1)
                              have hd1 : d1 ≤ 61 := by rw [← Hd1.out]; omega
                              have w1 : IntKind.i64.wrap ((d : Int) + 1) = (d1 : Int) := by rw [IntWalk.i64_in _ (by omega), ← Hd1.out]; push_cast; rfl
                              have w2 : (d : Int) + 1 = (d1 : Int) := by rw [← Hd1.out]; push_cast; rfl
                              by_cases hd2 : d < 60
                              · have z2 : ¬ (60 : Int) < (d1 : Int) := by rw [← w2]; omega
                                rw [decide_eq_true hd2, Hd1.out] at hmv
                                have hmv2 := Lib.hid (show mv = mayL l d1 from by rw [hmv.out]; simp)
                                clear hmv hd2
                                go_wp2_with fail
                                go_loopw [10] (fun s10 wr => ∃ i : Nat, i ≤ ln ∧ s10 = .int .i64 (i : Nat) ∧ Hid (((l.take i).all fun v => mayV v d1) = true) ∧ Hid (Below w0.heap.size w0 wr)) (fun s10 _ => ln - (intOf s10).toNat)
                                case atStart => exact ⟨0, by omega, rfl, Lib.hid (by simp), Lib.hid (Below.refl _ _)⟩
                                case round =>
                                  obtain ⟨i, hi, rfl, hall, hB⟩ := hrel
                                  have HBw := Lib.hid (hb0.out.trans (hB.out.mono hb0.out.size))
                                  have r5 : wr.cell? ⟨h, 5, none⟩ = some (.slice A ln cap) := Lib.cell_of_heap ((hB.out.block h hhs.out).trans hblk.out) 5
                                  by_cases hlt : i < ln
                                  · obtain ⟨y, hy⟩ : ∃ y, l[i]? = some y := ⟨l[i]'(by rw [HLN.out]; exact hlt), List.getElem?_eq_getElem _⟩
                                    have HR := Lib.hid (HL.out.under HBw.out HF.out)
                                    obtain ⟨ad, s, rfl, hFa, ⟨B, capy, rfl, hcapy, hly⟩, hvy, e0, e1, e2, e3, e4, e5⟩ := HR.out.cellsAt hy
                                    have HY := Lib.hid hy
                                    have hmem := Lib.hid (List.mem_of_getElem? hy)
                                    have hsy := sizeV_mem hmem.out
                                    have hih := Lib.hid (IH.out y (by omega) (by omega) d1 (by omega) F _ wr (fun g hg => Nat.lt_of_lt_of_le (HF.out g hg) HBw.out.size) hvy)
                                    unfold cellsV at hih
                                    have hmore := Lib.hid (fun (h : mayV y d1 = true) => show ((l.take (i + 1)).all fun v => mayV v d1) = true from by
                                      rw [take_oneMore HY.out, List.all_append, hall.out]; simp [h])
                                    have hstop := Lib.hid (fun (h : mayV y d1 = false) => show mayL l d1 = false from by
                                      rw [mayL_all, List.all_eq_false]
                                      exact ⟨y, hmem.out, by simp [h]⟩)
                                    obtain ⟨r, Hr⟩ := name_itV (mayV y d1)
                                    rw [Hr.out] at hih hmore hstop
                                    have q1 : (0 : Int) ≤ i := by omega
                                    have q2 : (i : Int) < ln := by omega
                                    clear hy hly hvy hFa hsy
                                    go_wp2_with fail
                                    refine hih.out.mono ?_
                                    rintro e w2 ⟨rfl, hb2⟩
                                    have HB2 := Lib.hid (hB.out.trans (hb2.mono hB.out.size))
                                    clear hb2
                                    cases r with
                                    | true =>
                                      have HM := Lib.hid (hmore.out rfl)
                                      have w3 : IntKind.i64.wrap ((i : Int) + 1) = (i : Int) + 1 := IntWalk.i64_in _ (by omega)
                                      go_wp2_with fail
                                      go_roundw
                                      case rel => exact ⟨i + 1, by omega, by go_num, HM, HB2⟩
                                      case measure => simp [intOf]; omega
                                    | false =>
                                      have HS := Lib.hid (show false = mv from by rw [hmv2.out, hstop.out rfl])
                                      have HB3 := Lib.hid (hb0.out.trans (HB2.out.mono hb0.out.size))
                                      go_wp2_with fail
                                      go_ret
                                      exact ⟨ret_b HS.out, HB3.out⟩
                                  · have hie : i = ln := by omega
                                    have HS := Lib.hid (show true = mv from by
                                      have := hall.out
                                      rw [List.take_of_length_le (by rw [hie, HLN.out]; exact Nat.le_refl _)] at this
                                      rw [hmv2.out, mayL_all]; exact this.symm)
                                    clear hie
                                    go_wp2_with fail
                                    go_ret
                                    exact ⟨ret_b HS.out, HBw.out⟩
                              · have z2 : (60 : Int) < (d1 : Int) := by rw [← w2]; omega
                                rw [decide_eq_false hd2] at hmv
                                have hmf := Lib.hid (show false = mv from by rw [hmv.out]; simp)
                                go_wp2_with fail
                                go_ret
                                exact ⟨ret_b hmf.out, hb0.out⟩
                            · have z1 : (4096 : Int) < (ln : Int) := by omega
                              rw [decide_eq_false hl1] at hmv
                              have hmf := Lib.hid (show false = mv from by rw [hmv.out]; simp)
                              go_wp2_with fail
                              go_ret
                              exact ⟨ret_b hmf.out, hb0.out⟩
                  · have e5 : ((k : Int) == 5) = false := beq_eq_false_iff_ne.2 h5
                    by_cases h6 : k = 6
                    · subst h6
                      have hmv := Lib.hid (show mv = (decide (0 ≤ n) && (!b && (!bt && (!bx && !bl)))) from by rw [← HMV.out, may_6, cmp_n 6 b n t x l rfl, Hbt.out, Hbx.out, HLN.out, Hbl.out])
                      clear HMV
                      cases b with
                      | true =>
                        have hmf := Lib.hid (show false = mv from by rw [hmv.out]; simp)
                        go_wp2_with fail
                        go_ret
                        exact ⟨ret_b hmf.out, hb0.out⟩
                      | false =>
                        by_cases hn0 : 0 ≤ n
                        · rw [decide_eq_true hn0] at hmv
                          cases bt with
                          | true =>
                            have hmf := Lib.hid (show false = mv from by rw [hmv.out]; simp)
                            go_wp2_with fail
                            go_ret
                            exact ⟨ret_b hmf.out, hb0.out⟩
                          | false =>
                            cases bx with
                            | true =>
                              have hmf := Lib.hid (show false = mv from by rw [hmv.out]; simp)
                              go_wp2_with fail
                              go_ret
                              exact ⟨ret_b hmf.out, hb0.out⟩
                            | false =>
                              cases bl with
                              | true =>
                                have hmf := Lib.hid (show false = mv from by rw [hmv.out]; simp)
                                go_wp2_with fail
                                go_ret
                                exact ⟨ret_b hmf.out, hb0.out⟩
                              | false =>
                                have hmf := Lib.hid (show true = mv from by rw [hmv.out]; simp)
                                go_wp2_with fail
                                go_ret
                                exact ⟨ret_b hmf.out, hb0.out⟩
                        · rw [decide_eq_false hn0] at hmv
                          have hmf := Lib.hid (show false = mv from by rw [hmv.out]; simp)
                          go_wp2_with fail
                          go_ret
                          exact ⟨ret_b hmf.out, hb0.out⟩
                    · have e6 : ((k : Int) == 6) = false := beq_eq_false_iff_ne.2 h6
                      by_cases h7 : k = 7
                      · subst h7
                        have hmv := Lib.hid (show mv = (decide (0 ≤ n) && (!b && (!bt && (!bx && !bl)))) from by rw [← HMV.out, may_7, cmp_n 7 b n t x l rfl, Hbt.out, Hbx.out, HLN.out, Hbl.out])
                        clear HMV
                        cases b with
                        | true =>
                          have hmf := Lib.hid (show false = mv from by rw [hmv.out]; simp)
                          go_wp2_with fail
                          go_ret
                          exact ⟨ret_b hmf.out, hb0.out⟩
                        | false =>
                          by_cases hn0 : 0 ≤ n
                          · rw [decide_eq_true hn0] at hmv
                            cases bt with
                            | true =>
                              have hmf := Lib.hid (show false = mv from by rw [hmv.out]; simp)
                              go_wp2_with fail
                              go_ret
                              exact ⟨ret_b hmf.out, hb0.out⟩
                            | false =>
                              cases bx with
                              | true =>
                                have hmf := Lib.hid (show false = mv from by rw [hmv.out]; simp)
                                go_wp2_with fail
                                go_ret
                                exact ⟨ret_b hmf.out, hb0.out⟩
                              | false =>
                                cases bl with
                                | true =>
                                  have hmf := Lib.hid (show false = mv from by rw [hmv.out]; simp)
                                  go_wp2_with fail
                                  go_ret
                                  exact ⟨ret_b hmf.out, hb0.out⟩
                                | false =>
                                  have hmf := Lib.hid (show true = mv from by rw [hmv.out]; simp)
                                  go_wp2_with fail
                                  go_ret
                                  exact ⟨ret_b hmf.out, hb0.out⟩
                          · rw [decide_eq_false hn0] at hmv
                            have hmf := Lib.hid (show false = mv from by rw [hmv.out]; simp)
                            go_wp2_with fail
                            go_ret
                            exact ⟨ret_b hmf.out, hb0.out⟩
                      · have e7 : ((k : Int) == 7) = false := beq_eq_false_iff_ne.2 h7
                        by_cases h10 : k = 10
                        · subst h10
                          have hmv := Lib.hid (show mv = (decide (t.size ≤ 1048576) && (iriB x && (!b && (!bn && !bl)))) from by rw [← HMV.out, may_10, cmp_tx 10 b n t x l rfl, Hbn.out, HLN.out, Hbl.out])
                          clear HMV
                          cases b with
                          | true =>
                            have hmf := Lib.hid (show false = mv from by rw [hmv.out]; simp)
                            go_wp2_with fail
                            go_ret
                            exact ⟨ret_b hmf.out, hb0.out⟩
                          | false =>
                            cases bn with
                            | true =>
                              have hmf := Lib.hid (show false = mv from by rw [hmv.out]; simp)
                              go_wp2_with fail
                              go_ret
                              exact ⟨ret_b hmf.out, hb0.out⟩
                            | false =>
                              cases bl with
                              | true =>
                                have hmf := Lib.hid (show false = mv from by rw [hmv.out]; simp)
                                go_wp2_with fail
                                go_ret
                                exact ⟨ret_b hmf.out, hb0.out⟩
                              | false =>
                                by_cases ht0 : t.size ≤ 1048576
                                · have z1 : (t.size : Int) ≤ 1048576 := by omega
                                  rw [decide_eq_true ht0] at hmv
                                  have hcl := Lib.hid (refIri_any x w0)
                                  obtain ⟨r, Hr⟩ := name_itV (iriB x)
                                  rw [Hr.out] at hcl hmv
                                  cases r with
                                  | false =>
                                    have hmf := Lib.hid (show false = mv from by rw [hmv.out]; simp)
                                    go_wp2_with fail; refine hcl.out.mono ?_; rintro e w2 ⟨rfl, rfl⟩
                                    go_wp2_with fail
                                    go_ret
                                    exact ⟨ret_b hmf.out, hb0.out⟩
                                  | true =>
                                    have hmf := Lib.hid (show true = mv from by rw [hmv.out]; simp)
                                    go_wp2_with fail; refine hcl.out.mono ?_; rintro e w2 ⟨rfl, rfl⟩
                                    go_wp2_with fail
                                    go_ret
                                    exact ⟨ret_b hmf.out, hb0.out⟩
                                · have z1 : ¬ (t.size : Int) ≤ 1048576 := by omega
                                  rw [decide_eq_false ht0] at hmv
                                  have hmf := Lib.hid (show false = mv from by rw [hmv.out]; simp)
                                  go_wp2_with fail
                                  go_ret
                                  exact ⟨ret_b hmf.out, hb0.out⟩
                        · have e10 : ((k : Int) == 10) = false := beq_eq_false_iff_ne.2 h10
                          have hmf := Lib.hid (show false = mv from by rw [← HMV.out]; unfold mayV; simp only [h0, h1, h2, h3, h4, h8, h9, h5, h6, h7, h10, if_false])
                          clear h0 h1 h2 h3 h4 h8 h9 h5 h6 h7 h10
                          go_wp2_with fail
                          go_ret
                          exact ⟨ret_b hmf.out, hb0.out⟩

set_option maxRecDepth 100000 in
set_option maxHeartbeats 1000000 in
theorem refMay_any (v : Val) (hs : sizeV v ≤ 10000000000) (F : Nat → Prop) (u : Value) (w : World) (hF : ∀ g, F g → g < w.heap.size) (hv : VRd w F v u) :
    Calls Tryz.prog 96 #[u] w (ToldB (mayV v 0) w) := by
  obtain ⟨A, cap, hu, hcap, hl⟩ := hv.inv
  have hck := Lib.hid (fun o : Obj => may_any (sizeV v + 1) v (by omega) hs 0 (by omega) F u (w.alloc o) (fun g hg => by have := hF g hg; simp; omega) (hv.under ((Below.refl _ _).alloc (Nat.le_refl _) _) hF))
  subst hu
  obtain ⟨s, HS⟩ := name_itV (Value.slice A v.list.length cap)
  obtain ⟨mv, HMV⟩ := name_itV (mayV v 0)
  rw [HMV.out] at hck
  rw [HMV.out]
  rw [HS.out] at hck ⊢
  clear hl hcap
  cases v with
  | mk k b n t x l =>
  unfold cellsV at hck ⊢
  simp only [Val.kind, Val.truth, Val.num, Val.text, Val.extra] at hck ⊢
  clear hv hF
  go_enter Tryz.func96, Tryz.ntmps96
  go_wp2_with fail
  refine (hck.out _).mono ?_
  rintro e w1 ⟨rfl, hb⟩
  have HB := Lib.hid (((Below.refl w.heap.size w).alloc (Nat.le_refl _) (.cells #[.int .i64 k, .bool b, .int .i64 n, .string t, .string x, s] 55)).trans (hb.mono (by simp)))
  clear hb
  go_wp2_with fail
  go_ret
  exact ⟨rfl, HB.out⟩
end Go.Proofs.YtmhjbicbdahllaaGreatDoor
