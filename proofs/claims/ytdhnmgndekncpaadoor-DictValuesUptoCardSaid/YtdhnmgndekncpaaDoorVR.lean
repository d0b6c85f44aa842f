/- Unlike values have unlike bytes; Decode. Printed by gen_VR.py. -/
import Derived.Test.YtdhnmgndekncpaaDoorVQ
namespace Go.Proofs.YtdhnmgndekncpaaDoor
open Go Go.RowKit Go.Maps Go.WideMaps

theorem be_inj {W a b : Nat} {R S : List UInt8} (ha : a < 256 ^ W) (hb : b < 256 ^ W) (h : beN W a ++ R = beN W b ++ S) : a = b ∧ R = S := by
  obtain ⟨h1, h2⟩ := List.append_inj h (by rw [beN_length, beN_length])
  refine ⟨?_, h2⟩
  have := congrArg valN h1
  rwa [valN_be W a ha, valN_be W b hb] at this
theorem text_inj {s t : ByteArray} {R S : List UInt8} (hs : s.size ≤ 1048576) (ht : t.size ≤ 1048576) (h : textE s ++ R = textE t ++ S) : s = t ∧ R = S := by
  unfold textE at h
  rw [List.append_assoc, List.append_assoc] at h
  obtain ⟨h1, h2⟩ := be_inj (by omega) (by omega) h
  obtain ⟨h3, h4⟩ := List.append_inj h2 (by rw [data_len, data_len, h1])
  exact ⟨by apply ByteArray.ext; exact Array.toList_inj.1 h3, h4⟩
theorem kind_inj {a b : Int} (ha : 0 ≤ a ∧ a ≤ 10) (hb : 0 ≤ b ∧ b ≤ 10) (h : UInt8.ofNat a.toNat = UInt8.ofNat b.toNat) : a = b := by
  have := congrArg UInt8.toNat h
  rw [UInt8.toNat_ofNat', UInt8.toNat_ofNat'] at this
  have h1 : a.toNat % 2 ^ 8 = a.toNat := Nat.mod_eq_of_lt (by omega)
  have h2 : b.toNat % 2 ^ 8 = b.toNat := Nat.mod_eq_of_lt (by omega)
  rw [h1, h2] at this
  omega
theorem num_inj {n m : Int} {R S : List UInt8} (hn : -9223372036854775808 ≤ n ∧ n ≤ 9223372036854775807) (hm : -9223372036854775808 ≤ m ∧ m ≤ 9223372036854775807) (h : beN 8 (n % 18446744073709551616).toNat ++ R = beN 8 (m % 18446744073709551616).toNat ++ S) : n = m ∧ R = S := by
  have h8 : (256 : Nat) ^ 8 = 18446744073709551616 := by decide
  have l1 := Int.emod_lt_of_pos n (show (0 : Int) < 18446744073709551616 by decide)
  have l2 := Int.emod_lt_of_pos m (show (0 : Int) < 18446744073709551616 by decide)
  obtain ⟨h1, h2⟩ := be_inj (by omega) (by omega) h
  refine ⟨?_, h2⟩
  have h3 := i64_back n hn
  rw [h1, i64_back m hm] at h3
  exact h3.symm
theorem enc_inj (N : Nat) : ∀ (v u : Val) (_ : sizeV v < N) (d : Nat) (_ : mayV v d = true) (_ : mayV u d = true) (_ : i64V v) (_ : i64V u) (R S : List UInt8) (_ : encV v ++ R = encV u ++ S), v = u ∧ R = S := by
  induction N with
  | zero => exact fun _ _ h => absurd h (Nat.not_lt_zero _)
  | succ N ih =>
    intro v u hN d hv hu h1 h2 R S h
    have hkv := may_kind hv
    have hku := may_kind hu
    cases v with
    | mk k b n t x l =>
    cases u with
    | mk k2 b2 n2 t2 x2 l2 =>
    simp only [Val.kind] at hkv hku
    unfold encV at h
    simp only [List.cons_append] at h
    obtain ⟨hk, h⟩ := List.cons_eq_cons.1 h
    have hk := kind_inj hkv hku hk
    subst hk
    simp only [i64V] at h1 h2
    by_cases h0 : k = 0
    · subst h0
      obtain ⟨rfl, rfl, rfl, rfl, rfl⟩ := form_0 hv
      obtain ⟨rfl, rfl, rfl, rfl, rfl⟩ := form_0 hu
      clear hkv hku
      have h : ([] : List UInt8) ++ R = [] ++ S := h
      exact ⟨rfl, h⟩
    · have e0 := h0
      by_cases h1 : k = 1
      · subst h1
        obtain ⟨rfl, rfl, rfl, rfl⟩ := form_1 hv
        obtain ⟨rfl, rfl, rfl, rfl⟩ := form_1 hu
        clear hkv hku
        have h : ([if b = true then 1 else 0] : List UInt8) ++ R = [if b2 = true then 1 else 0] ++ S := h
        obtain ⟨hb, hR⟩ := List.cons_eq_cons.1 h
        have hb : b = b2 := by cases b <;> cases b2 <;> first | rfl | (exact absurd hb (by decide))
        exact ⟨by rw [hb], hR⟩
      · have e1 := h1
        by_cases h2 : k = 2
        · subst h2
          obtain ⟨rfl, rfl, rfl, rfl⟩ := form_2 hv
          obtain ⟨rfl, rfl, rfl, rfl⟩ := form_2 hu
          clear hkv hku
          have h : beN 8 (n % 18446744073709551616).toNat ++ R = beN 8 (n2 % 18446744073709551616).toNat ++ S := h
          obtain ⟨hn, hR⟩ := num_inj h1.1 h2.1 h
          exact ⟨by rw [hn], hR⟩
        · have e2 := h2
          by_cases h6 : k = 6
          · subst h6
            obtain ⟨rfl, rfl, rfl, rfl⟩ := form_6 hv
            obtain ⟨rfl, rfl, rfl, rfl⟩ := form_6 hu
            clear hkv hku
            have h : beN 8 (n % 18446744073709551616).toNat ++ R = beN 8 (n2 % 18446744073709551616).toNat ++ S := h
            obtain ⟨hn, hR⟩ := num_inj h1.1 h2.1 h
            exact ⟨by rw [hn], hR⟩
          · have e6 := h6
            by_cases h7 : k = 7
            · subst h7
              obtain ⟨rfl, rfl, rfl, rfl⟩ := form_7 hv
              obtain ⟨rfl, rfl, rfl, rfl⟩ := form_7 hu
              clear hkv hku
              have h : beN 8 (n % 18446744073709551616).toNat ++ R = beN 8 (n2 % 18446744073709551616).toNat ++ S := h
              obtain ⟨hn, hR⟩ := num_inj h1.1 h2.1 h
              exact ⟨by rw [hn], hR⟩
            · have e7 := h7
              by_cases h3 : k = 3
              · subst h3
                obtain ⟨rfl, rfl, rfl, rfl, q1⟩ := form_3 hv
                obtain ⟨rfl, rfl, rfl, rfl, q2⟩ := form_3 hu
                clear hkv hku
                have h : textE t ++ R = textE t2 ++ S := h
                obtain ⟨ht, hR⟩ := text_inj q1 q2 h
                exact ⟨by rw [ht], hR⟩
              · have e3 := h3
                by_cases h4 : k = 4
                · subst h4
                  obtain ⟨rfl, rfl, rfl, rfl, q1⟩ := form_4 hv
                  obtain ⟨rfl, rfl, rfl, rfl, q2⟩ := form_4 hu
                  clear hkv hku
                  have h : textE t ++ R = textE t2 ++ S := h
                  obtain ⟨ht, hR⟩ := text_inj q1 q2 h
                  exact ⟨by rw [ht], hR⟩
                · have e4 := h4
                  by_cases h8 : k = 8
                  · subst h8
                    obtain ⟨rfl, rfl, rfl, rfl, q1⟩ := form_8 hv
                    obtain ⟨rfl, rfl, rfl, rfl, q2⟩ := form_8 hu
                    clear hkv hku
                    have h : textE t ++ R = textE t2 ++ S := h
                    obtain ⟨ht, hR⟩ := text_inj q1 q2 h
                    exact ⟨by rw [ht], hR⟩
                  · have e8 := h8
                    by_cases h9 : k = 9
                    · subst h9
                      obtain ⟨rfl, rfl, rfl, rfl, q1⟩ := form_9 hv
                      obtain ⟨rfl, rfl, rfl, rfl, q2⟩ := form_9 hu
                      clear hkv hku
                      have h : textE t ++ R = textE t2 ++ S := h
                      obtain ⟨ht, hR⟩ := text_inj q1 q2 h
                      exact ⟨by rw [ht], hR⟩
                    · have e9 := h9
                      by_cases h10 : k = 10
                      · subst h10
                        obtain ⟨rfl, rfl, rfl, q1, p1⟩ := form_10 hv
                        obtain ⟨rfl, rfl, rfl, q2, p2⟩ := form_10 hu
                        clear hkv hku
                        have h : textE t ++ textE x ++ R = textE t2 ++ textE x2 ++ S := h
                        rw [List.append_assoc, List.append_assoc] at h
                        obtain ⟨ht, h⟩ := text_inj q1 q2 h
                        obtain ⟨hx, hR⟩ := text_inj p1 p2 h
                        exact ⟨by rw [ht, hx], hR⟩
                      · have e10 := h10
                        by_cases h5 : k = 5
                        · subst h5
                          obtain ⟨rfl, rfl, rfl, rfl, q1, _, p1⟩ := form_5 hv
                          obtain ⟨rfl, rfl, rfl, rfl, q2, _, p2⟩ := form_5 hu
                          clear hkv hku
                          have h : beN 4 l.length ++ encL l ++ R = beN 4 l2.length ++ encL l2 ++ S := h
                          rw [List.append_assoc, List.append_assoc] at h
                          obtain ⟨hl, h⟩ := be_inj (by omega) (by omega) h
                          have key : ∀ (a c : List Val), sizeL a < N → a.length = c.length → mayL a (d + 1) = true → mayL c (d + 1) = true → i64L a → i64L c → ∀ R S : List UInt8, encL a ++ R = encL c ++ S → a = c ∧ R = S := by
                            intro a
                            induction a with
                            | nil =>
                              intro c _ hc _ _ _ _ R S h
                              have : c = [] := List.eq_nil_of_length_eq_zero hc.symm
                              subst this
                              exact ⟨rfl, h⟩
                            | cons y a iha =>
                              intro c hs hc ma mc ia ic R S h
                              cases c with
                              | nil => cases hc
                              | cons z c =>
                                simp only [mayL, Bool.and_eq_true] at ma mc
                                simp only [i64L] at ia ic
                                simp only [encL, List.append_assoc] at h
                                simp only [sizeL] at hs
                                obtain ⟨e1, h⟩ := ih y z (by omega) (d + 1) ma.1 mc.1 ia.1 ic.1 _ _ h
                                obtain ⟨e2, h⟩ := iha c (by omega) (by simpa using hc) ma.2 mc.2 ia.2 ic.2 _ _ h
                                exact ⟨by rw [e1, e2], h⟩
                          obtain ⟨hl, hR⟩ := key l l2 (by simp only [sizeV] at hN; omega) hl p1 p2 h1.2 h2.2 R S h
                          exact ⟨by rw [hl], hR⟩
                        · omega
theorem enc_eq {v u : Val} (hv : mayV v 0 = true) (hu : mayV u 0 = true) (h1 : i64V v) (h2 : i64V u) (h : encV v = encV u) : v = u :=
  (enc_inj (sizeV v + 1) v u (by omega) 0 hv hu h1 h2 [] [] (by rw [List.append_nil, List.append_nil, h])).1

/-- What Decode hands back of a value's bytes. -/
def DecIs (v : Val) (w : World) (e : Ending) (w' : World) : Prop := ∃ s, e = .returned (.tuple #[.agg (cellsV v s), .int .i64 0]) ∧ Below w.heap.size w w' ∧ LOwn w' (fun z => w.heap.size ≤ z ∧ z < w'.heap.size) v.list s
set_option maxRecDepth 100000 in
set_option maxHeartbeats 2000000 in
theorem decode_any (v : Val) (hs : sizeV v ≤ 200000) (hm : mayV v 0 = true) (h64 : i64V v) (G : Nat) (s : Value) (w : World) (hG : G < w.heap.size) (hsb : BRd w G s (encV v)) (hg : GlobB w) :
    Calls Tryd.prog 60 #[s] w (DecIs v w) := by
  obtain ⟨ad, cp, rfl, hcp, hadG, hcc⟩ := hsb
  obtain ⟨en, Hen⟩ := name_itV (encV v).length
  rw [Hen.out] at hcp ⊢
  obtain ⟨h, Hh⟩ := name_itV w.heap.size
  have hb0 := Lib.hid (fun o : Obj => show Below w.heap.size w (w.alloc o) from (Below.refl _ _).alloc (Nat.le_refl _) _)
  obtain ⟨w0, Hw0⟩ := name_itV ((w.alloc (.cells #[.int .i64 0, .bool false, .int .i64 0, .string ⟨#[]⟩, .string ⟨#[]⟩, .slice none 0 0] 84)).alloc (.cells #[.slice (some ad) en cp, .bool false] 131))
  have hb0 := Lib.hid (show Below w.heap.size w w0 from by rw [← Hw0.out]; exact (hb0.out _).alloc (by simp) _)
  have hz0 : w0.heap.size = h + 2 := by rw [← Hw0.out, ← Hh.out]; simp
  have hbr := Lib.hid (show w0.heap[h + 1]? = some (.cells #[.slice (some ad) en cp, .bool false] 131 (0, 0)) from by
    rw [← Hw0.out, ← Hh.out]
    have := heap_alloc_new (w.alloc (.cells #[.int .i64 0, .bool false, .int .i64 0, .string ⟨#[]⟩, .string ⟨#[]⟩, .slice none 0 0] 84)) (.cells #[.slice (some ad) en cp, .bool false] 131)
    rwa [show (w.alloc (.cells #[.int .i64 0, .bool false, .int .i64 0, .string ⟨#[]⟩, .string ⟨#[]⟩, .slice none 0 0] 84)).heap.size = w.heap.size + 1 by simp] at this)
  have hbz := Lib.hid (show w0.heap[h]? = some (.cells #[.int .i64 0, .bool false, .int .i64 0, .string ⟨#[]⟩, .string ⟨#[]⟩, .slice none 0 0] 84 (0, 0)) from by
    rw [← Hw0.out, ← Hh.out, Below.heap_alloc _ _ _ (by simp)]
    exact heap_alloc_new w _)
  have hGh : G < h := by rw [← Hh.out]; exact hG
  have hrd : Rdr w0 (h + 1) G (encV v ++ []) := ⟨_, ⟨ad, cp, by rw [List.append_nil, Hen.out], by rw [List.append_nil, Hen.out]; exact hcp, hadG, fun i c hi => by
    rw [List.append_nil] at hi
    exact (World.cell?_of_block (by rw [block_of_add, hadG]; exact hb0.out.block G hG)).trans (hcc i c hi)⟩, hbr.out⟩
  have hrv := Lib.hid (rvalue_any (sizeV v + 1) v (by omega) 0 (by omega) hm h64 (h + 1) G [] w0 (by simp; omega) (by omega) (by omega) hrd)
  have HG := Lib.hid hg
  clear hcc hrd hg
  go_enter Tryd.func60, Tryd.ntmps60
  go_upto_region 2 with fail
  rw [Hw0.out, Hh.out]
  go_wp2_with fail
  refine hrv.out.mono ?_
  rintro e w1 ⟨s1, rfl, hr1, ht1, ho1⟩
  have hho1 : w.heap.size ≤ h := Nat.le_of_eq Hh.out
  obtain ⟨A1, c1, rfl⟩ := ho1.form
  have hbw : Below w.heap.size w w1 := hb0.out.trans (ht1.below (B := w.heap.size) (fun i hi e => by omega) hb0.out.size)
  have hz1 : h + 2 ≤ w1.heap.size := by have := ht1.size; omega
  have hzr := Lib.hid ((ht1.block h (by omega) (by omega)).trans hbz.out)
  obtain ⟨k, b, n, t, x, l⟩ := v
  unfold cellsV
  simp only [Val.kind, Val.truth, Val.num, Val.text, Val.extra, Val.list] at ho1 ⊢
  obtain ⟨ln, HLN⟩ := name_itV l.length
  rw [HLN.out]
  obtain ⟨h5, Hh5⟩ := name_itV w1.heap.size
  obtain ⟨w2, Hw2⟩ := name_itV (w1.alloc (.cells #[.int .i64 k, .bool b, .int .i64 n, .string t, .string x, .slice A1 ln c1] 84))
  have hb2 := Lib.hid (show Below w1.heap.size w1 w2 from by rw [← Hw2.out]; exact (Below.refl _ _).alloc (Nat.le_refl _) _)
  have hblk := Lib.hid (show w2.heap[h5]? = some (.cells #[.int .i64 k, .bool b, .int .i64 n, .string t, .string x, .slice A1 ln c1] 84 (0, 0)) from by rw [← Hw2.out, ← Hh5.out]; exact heap_alloc_new w1 _)
  have hz2 : w2.heap.size = h5 + 1 := by rw [← Hw2.out, ← Hh5.out]; simp
  have hh5 : h + 2 ≤ h5 := by rw [← Hh5.out]; exact hz1
  have hz15 : w1.heap.size = h5 := Hh5.out
  have hr2 := hr1.keep (hb2.out.block G (by omega)) (hb2.out.block (h + 1) (by omega))
  obtain ⟨sr, hsr, hrr⟩ := hr2
  obtain ⟨adr, cpr, rfl, _, _, _⟩ := hsr
  have hl0 : ([] : List UInt8).length = 0 := rfl
  rw [hl0] at hrr
  have ho2 := Lib.hid ((ho1.turn (Turn.of_below hb2.out) (fun z hz e => by omega)).mono (F' := fun z => h ≤ z ∧ z < w2.heap.size ∧ z ≠ h ∧ z ≠ h5) (fun z hz => by omega))
  have hrd2 := Lib.hid (show VRd w2 (fun z => h ≤ z ∧ z < w2.heap.size ∧ z ≠ h ∧ z ≠ h5) (.mk k b n t x l) (.agg #[.int .i64 k, .bool b, .int .i64 n, .string t, .string x, .slice A1 ln c1]) from by
    rw [← HLN.out]
    exact (VOwn.of_list (v := .mk k b n t x l) ho2.out).rd)
  have HBW2 := Lib.hid (hbw.trans (hb2.out.mono hbw.size))
  have hck := Lib.hid (check_any (.mk k b n t x l) (by omega) _ _ w2 (fun z hz => hz.2.1) hrd2.out (glob_under HG.out HBW2.out))
  rw [hm] at hck
  have x0 : w2.cell? ⟨h5, 0, none⟩ = some (.int .i64 k) := Lib.cell_of_heap hblk.out 0
  have x1 : w2.cell? ⟨h5, 1, none⟩ = some (.bool b) := Lib.cell_of_heap hblk.out 1
  have x2 : w2.cell? ⟨h5, 2, none⟩ = some (.int .i64 n) := Lib.cell_of_heap hblk.out 2
  have x3 : w2.cell? ⟨h5, 3, none⟩ = some (.string t) := Lib.cell_of_heap hblk.out 3
  have x4 : w2.cell? ⟨h5, 4, none⟩ = some (.string x) := Lib.cell_of_heap hblk.out 4
  have x5 : w2.cell? ⟨h5, 5, none⟩ = some (.slice A1 ln c1) := Lib.cell_of_heap hblk.out 5
  have y0 : w2.cell? ⟨h + 1, 0, none⟩ = some (.slice (some adr) 0 cpr) := Lib.cell_of_heap hrr 0
  have y1 : w2.cell? ⟨h + 1, 1, none⟩ = some (.bool false) := Lib.cell_of_heap hrr 1
  have hzr2 := Lib.hid ((hb2.out.block h (by omega)).trans hzr.out)
  clear hr1 ht1 ho1 hrr hbw hz1 hl0 hm hz15
  go_upto_region 3 with fail
  rw [Hw2.out, Hh5.out]
  go_wp2_with fail
  refine hck.out.mono ?_
  rintro e w3 ⟨rfl, hb3⟩
  have HB3 := Lib.hid hb3
  have hblk3 := Lib.hid ((hb3.block h5 (by omega)).trans hblk.out)
  have hzr3 := Lib.hid ((hb3.block h (by omega)).trans hzr2.out)
  clear x0 x1 x2 x3 x4 x5 y0 y1 hb3
  have x0 : w3.cell? ⟨h5, 0, none⟩ = some (.int .i64 k) := Lib.cell_of_heap hblk3.out 0
  have x1 : w3.cell? ⟨h5, 1, none⟩ = some (.bool b) := Lib.cell_of_heap hblk3.out 1
  have x2 : w3.cell? ⟨h5, 2, none⟩ = some (.int .i64 n) := Lib.cell_of_heap hblk3.out 2
  have x3 : w3.cell? ⟨h5, 3, none⟩ = some (.string t) := Lib.cell_of_heap hblk3.out 3
  have x4 : w3.cell? ⟨h5, 4, none⟩ = some (.string x) := Lib.cell_of_heap hblk3.out 4
  have x5 : w3.cell? ⟨h5, 5, none⟩ = some (.slice A1 ln c1) := Lib.cell_of_heap hblk3.out 5
  have v0 : w3.cell? ⟨h, 0, none⟩ = some (.int .i64 0) := Lib.cell_of_heap hzr3.out 0
  have v1 : w3.cell? ⟨h, 1, none⟩ = some (.bool false) := Lib.cell_of_heap hzr3.out 1
  have v2 : w3.cell? ⟨h, 2, none⟩ = some (.int .i64 0) := Lib.cell_of_heap hzr3.out 2
  have v3 : w3.cell? ⟨h, 3, none⟩ = some (.string ⟨#[]⟩) := Lib.cell_of_heap hzr3.out 3
  have v4 : w3.cell? ⟨h, 4, none⟩ = some (.string ⟨#[]⟩) := Lib.cell_of_heap hzr3.out 4
  have v5 : w3.cell? ⟨h, 5, none⟩ = some (.slice none 0 0) := Lib.cell_of_heap hzr3.out 5
  have g0 : w3.frozen? ⟨h, 0, none⟩ = false := Lib.frozen_of_heap hzr3.out 0
  have g1 : w3.frozen? ⟨h, 1, none⟩ = false := Lib.frozen_of_heap hzr3.out 1
  have g2 : w3.frozen? ⟨h, 2, none⟩ = false := Lib.frozen_of_heap hzr3.out 2
  have g3 : w3.frozen? ⟨h, 3, none⟩ = false := Lib.frozen_of_heap hzr3.out 3
  have g4 : w3.frozen? ⟨h, 4, none⟩ = false := Lib.frozen_of_heap hzr3.out 4
  have g5 : w3.frozen? ⟨h, 5, none⟩ = false := Lib.frozen_of_heap hzr3.out 5
  go_wp2_with fail
  refine bodyPost_ret (v := .tuple #[.agg #[.int .i64 k, .bool b, .int .i64 n, .string t, .string x, .slice A1 ln c1], .int .i64 0]) (by simp [results, Tryd.results60, go_sem, v0, v1, v2, v3, v4, v5]) rfl ⟨.slice A1 l.length c1, by rw [HLN.out]; rfl, ?_, ?_⟩
  · have hT6 := set6_turn w3 h 0 (.int .i64 k) (.bool b) (.int .i64 n) (.string t) (.string x) (.slice A1 ln c1)
    have h1 : Below w.heap.size w w3 := HBW2.out.trans (HB3.out.mono HBW2.out.size)
    exact h1.trans (hT6.below (B := w.heap.size) (fun i hi e => by omega) h1.size)
  · have hT6 := set6_turn w3 h 0 (.int .i64 k) (.bool b) (.int .i64 n) (.string t) (.string x) (.slice A1 ln c1)
    have hs3 := HB3.out.size
    have hs6 := hT6.size
    have hho := Hh.out
    exact ((ho2.out.turn (Turn.of_below HB3.out) (fun z hz e => by omega)).turn hT6 (fun z hz e => hz.2.2.1 e)).mono (fun z hz => by
      obtain ⟨q1, q2, _⟩ := hz
      exact ⟨by omega, Nat.lt_of_lt_of_le (Nat.lt_of_lt_of_le q2 hs3) hs6⟩)
end Go.Proofs.YtdhnmgndekncpaaDoor
