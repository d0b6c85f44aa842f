/- Walk of blank. -/
import Derived.Test.YtngdilbfhpcfgaaGreatDoorXE
import Derived.Test.YtngdilbfhpcfgaaGreatDoorXA
set_option linter.unusedSimpArgs false
set_option linter.unusedVariables false
/- Walk of blank of package lex: printed by a small program. -/
namespace Go.Proofs.YtngdilbfhpcfgaaGreatDoor
set_option maxRecDepth 100000
open Go.RowKit

theorem wp_scope_head {P : Program} {a : Act} {w : World} {Q : Exit → Act → World → Prop} {r : Code} (l : Nat) (J : Act → World → Prop) (μ : Act → World → Nat)
    (hf : findLabel (.seq (.label l) r) l = some (.seq .skip r)) (h0 : J a w)
    (pass : ∀ a w, J a w → r.wp P (Exit.jump l (fun a' w' => J a' w' ∧ μ a' w' < μ a w) Q) a w) : (Code.scope (.seq (.label l) r)).wp P Q a w := by
  refine wp_scope_jumps l J μ hf (wp_seq (wp_label (wp_mono (pass a w h0) ?_))) (fun a w h => wp_seq (wp_skip ?_))
  · intro e a' w' h
    cases e with
    | goto l' => exact ⟨h.1, h.2.1⟩
    | _ => exact h
  · exact pass a w h

/-- The place that a lexer's cell holds. -/
def curAt (b : Nat) (w : World) : Nat := match w.cell? ⟨b, 2, none⟩ with
  | some (.int _ n) => n.toNat
  | _ => 0

/-- The lexer's place is another one; draws apart all else is as it was. -/
def Moved (b : Nat) (w w' : World) (q : Nat) : Prop := ∃ j, w' = (w.drewN j).setCell ⟨b, 2, none⟩ (.int .i64 q)

theorem setCell_twice (w : World) (a : Addr) (x y : Value) : (w.setCell a x).setCell a y = w.setCell a y := by
  unfold World.setCell
  congr 1
  apply Array.ext
  · simp
  · intro i h1 h2
    simp only [Array.getElem_modify]
    split
    · rename_i e
      subst e
      have h3 : a.block < w.heap.size := by simpa using h2
      generalize w.heap[a.block]'h3 = o
      cases o <;> simp
      split <;> simp
    · rfl
theorem setCell_id {w : World} {b i : Nat} {v : Value} (h : w.cell? ⟨b, i, none⟩ = some v) : w.setCell ⟨b, i, none⟩ v = w := by
  unfold World.setCell
  have : w.heap.modify b (fun
      | .cells c elem frozen => .cells (if (⟨b, i, none⟩ : Addr).spot.isSome then c else c.setIfInBounds (⟨b, i, none⟩ : Addr).off v) elem frozen
      | o => o) = w.heap := by
    apply Array.ext
    · simp
    · intro k h1 h2
      simp only [Array.getElem_modify]
      split
      · rename_i e
        subst e
        unfold World.cell? at h
        simp only [Array.getElem?_eq_getElem h2] at h
        revert h
        generalize w.heap[b]'h2 = o
        intro h
        match o, h with
        | .cells c t f, h =>
          have h' : c[i]? = some v := h
          have hs : c.setIfInBounds i v = c := by
            apply Array.ext_getElem?
            intro m
            rw [Array.getElem?_setIfInBounds]
            split
            · rename_i e
              subst e
              split
              · exact h'.symm
              · rename_i hn
                rw [Array.getElem?_eq_none (by omega)] at h'
                cases h'
            · rfl
          exact congrArg (fun z => Obj.cells z t f) hs
      · rfl
  exact Eq.trans (congrArg (fun h => ({ w with heap := h } : World)) this) rfl

theorem drewN_set (w : World) (j n : Nat) (a : Addr) (x : Value) : ((w.drewN j).setCell a x).drewN n = (w.drewN (j + n)).setCell a x := by
  rw [← World.drewN_drewN]
  rfl
theorem Moved.same {b : Nat} {w : World} {q : Nat} (h : w.cell? ⟨b, 2, none⟩ = some (.int .i64 q)) : Moved b w w q := ⟨0, (setCell_id (w := w.drewN 0) h).symm⟩
theorem Moved.on {b : Nat} {w w' : World} {q r : Nat} (h : Moved b w w' q) (n : Nat) : Moved b w ((w'.drewN n).setCell ⟨b, 2, none⟩ (.int .i64 r)) r := by
  obtain ⟨j, rfl⟩ := h
  refine ⟨j + n, ?_⟩
  rw [drewN_set, setCell_twice]
theorem Moved.on_ {b : Nat} {w w' : World} {q : Nat} (h : Moved b w w' q) (n r : Nat) (z : Int) (hz : z = r) : Moved b w ((w'.drewN n).setCell ⟨b, 2, none⟩ (.int .i64 z)) r := by
  subst hz
  exact h.on n
theorem Moved.drewN {b : Nat} {w w' : World} {q : Nat} (h : Moved b w w' q) (n : Nat) : Moved b w (w'.drewN n) q := by
  obtain ⟨j, rfl⟩ := h
  exact ⟨j + n, drewN_set _ _ _ _ _⟩
theorem Moved.facts {b : Nat} {s : ByteArray} {w w' : World} {q p : Nat} (hw : Moved b w w' q) (hl : LexAt w b s p) (hf : w.frozen? ⟨b, 2, none⟩ = false) : LexAt w' b s q ∧ w'.frozen? ⟨b, 2, none⟩ = false := by
  obtain ⟨j, rfl⟩ := hw
  obtain ⟨h0, h2⟩ := hl
  refine ⟨⟨?_, ?_⟩, ?_⟩ <;> simp [go_sem, h0, h2, hf]

theorem u8_ne {c : UInt8} {n : Nat} (hn : n < 256) (h : (c.toNat : Int) ≠ n) : c ≠ UInt8.ofNat n := by
  rintro rfl
  apply h
  rw [UInt8.toNat_ofNat', Nat.mod_eq_of_lt (by omega)]

theorem skip_stop {l : List UInt8} {i : Nat} (h : pk l i ≠ 32) (h1 : pk l i ≠ 9) (h2 : pk l i ≠ 13) (h3 : pk l i ≠ 10) (h4 : pk l i ≠ 35) : skip false (l.drop i) = 0 := by
  rcases Nat.lt_or_ge i l.length with hlt | hge
  · obtain ⟨c, e, f⟩ := drop_at hlt
    rw [f] at h h1 h2 h3 h4
    have a0 : c ≠ 32 := u8_ne (n := 32) (by omega) h
    have a1 : c ≠ 9 := u8_ne (n := 9) (by omega) h1
    have a2 : c ≠ 13 := u8_ne (n := 13) (by omega) h2
    have a3 : c ≠ 10 := u8_ne (n := 10) (by omega) h3
    have a4 : c ≠ 35 := u8_ne (n := 35) (by omega) h4
    rw [e, skip]
    simp [blankB, a0, a1, a2, a3, a4]
  · rw [List.drop_of_length_le hge, skip]
theorem skip_blank {l : List UInt8} {i : Nat} (h : pk l i = 32 ∨ pk l i = 9 ∨ pk l i = 13 ∨ pk l i = 10) : i < l.length ∧ skip false (l.drop i) = 1 + skip false (l.drop (i + 1)) := by
  rcases Nat.lt_or_ge i l.length with hlt | hge
  · refine ⟨hlt, ?_⟩
    obtain ⟨c, e, f⟩ := drop_at hlt
    rw [f] at h
    have hb : blankB c = true := by
      rcases h with h | h | h | h
      · obtain rfl : c = 32 := u8_of (n := 32) (by omega) h
        rfl
      · obtain rfl : c = 9 := u8_of (n := 9) (by omega) h
        rfl
      · obtain rfl : c = 13 := u8_of (n := 13) (by omega) h
        rfl
      · obtain rfl : c = 10 := u8_of (n := 10) (by omega) h
        rfl
    rw [e, skip, if_pos hb]
  · rw [pk_out hge] at h
    omega
theorem skip_remark (t : List UInt8) : (Lib.indexByte t 10 = -1 → skip true t = t.length) ∧ (∀ m : Nat, Lib.indexByte t 10 = m → m ≤ t.length ∧ skip true t = m + skip false (t.drop m)) := by
  induction t with
  | nil => exact ⟨fun _ => rfl, fun m hm => by simp [Lib.indexByte] at hm⟩
  | cons c t ih =>
    obtain ⟨ih1, ih2⟩ := ih
    have hge := Lib.indexByte_ge t 10
    by_cases hc : c = 10
    · subst hc
      have hi : Lib.indexByte (10 :: t) 10 = 0 := by simp [Lib.indexByte]
      refine ⟨fun h => by omega, fun m hm => ?_⟩
      obtain rfl : m = 0 := by omega
      exact ⟨by simp, by simp [skip, blankB]⟩
    · have hs : skip true (c :: t) = 1 + skip true t := by rw [skip, if_neg hc]
      by_cases h1 : Lib.indexByte t 10 = -1
      · have hi : Lib.indexByte (c :: t) 10 = -1 := by simp [Lib.indexByte, hc, h1]
        refine ⟨fun _ => by rw [hs, ih1 h1, List.length_cons]; omega, fun m hm => by omega⟩
      · have hi : Lib.indexByte (c :: t) 10 = Lib.indexByte t 10 + 1 := by simp [Lib.indexByte, hc, h1]
        refine ⟨fun h => by omega, fun m hm => ?_⟩
        obtain ⟨k, rfl⟩ : ∃ k, m = k + 1 := ⟨m - 1, by omega⟩
        obtain ⟨a, b⟩ := ih2 k (by omega)
        refine ⟨by simp; omega, ?_⟩
        rw [hs, b, List.drop_succ_cons]
        omega
theorem skip_hash {l : List UInt8} {i : Nat} (h : pk l i = 35) : i < l.length ∧
    (Lib.indexByte (l.drop i) 10 = -1 → skip false (l.drop i) = l.length - i) ∧
    (∀ m : Nat, Lib.indexByte (l.drop i) 10 = m → 0 < m ∧ i + m ≤ l.length ∧ skip false (l.drop i) = m + skip false (l.drop (i + m))) := by
  rcases Nat.lt_or_ge i l.length with hlt | hge
  · refine ⟨hlt, ?_⟩
    obtain ⟨c, e, f⟩ := drop_at hlt
    rw [f] at h
    obtain rfl : c = 35 := u8_of (n := 35) (by omega) h
    have hs : skip false (l.drop i) = 1 + skip true (l.drop (i + 1)) := by rw [e, skip]; simp [blankB]
    obtain ⟨r1, r2⟩ := skip_remark (l.drop (i + 1))
    have hge := Lib.indexByte_ge (l.drop (i + 1)) 10
    rw [hs, e]
    by_cases h1 : Lib.indexByte (l.drop (i + 1)) 10 = -1
    · have hi : Lib.indexByte (35 :: l.drop (i + 1)) 10 = -1 := by simp [Lib.indexByte, h1]
      refine ⟨fun _ => by rw [r1 h1, List.length_drop]; omega, fun m hm => by omega⟩
    · have hi : Lib.indexByte (35 :: l.drop (i + 1)) 10 = Lib.indexByte (l.drop (i + 1)) 10 + 1 := by simp [Lib.indexByte, h1]
      refine ⟨fun h => by omega, fun m hm => ?_⟩
      obtain ⟨k, rfl⟩ : ∃ k, m = k + 1 := ⟨m - 1, by omega⟩
      obtain ⟨a, b⟩ := r2 k (by omega)
      rw [List.length_drop] at a
      refine ⟨by omega, by omega, ?_⟩
      rw [b, List.drop_drop]
      have : i + 1 + k = i + (k + 1) := by omega
      rw [this]
      omega
  · rw [pk_out hge] at h
    omega

theorem idx_at (s : ByteArray) (i : Nat) (z : Int) (h : Lib.indexByte (s.data.toList.drop i) 10 = z) (w : World) :
    Calls Tryz.prog 138 #[.string (s.extract i s.size), .int .u8 10] w fun e w' => e = .returned (.int .i64 z) ∧ w' = w := by
  subst h
  refine (lx_IndexByte _ _ _).mono ?_
  rintro e w' ⟨rfl, rfl⟩
  rw [Lib.extract_to_end]
  exact ⟨rfl, rfl⟩
theorem curAt_at {b q : Nat} {w : World} (h : w.cell? ⟨b, 2, none⟩ = some (.int .i64 q)) : curAt b w = q := by
  unfold curAt
  rw [h]
  simp
theorem curAt_set {b q n : Nat} {z : Int} (r : Nat) {w : World} (h : w.cell? ⟨b, 2, none⟩ = some (.int .i64 q)) (hz : z = r) : curAt b ((w.drewN n).setCell ⟨b, 2, none⟩ (.int .i64 z)) = r := by
  subst hz
  apply curAt_at
  simp [go_sem, h]

set_option maxRecDepth 100000 in
set_option maxHeartbeats 1000000 in
theorem blank_any (b : Nat) (s : ByteArray) (p : Nat) (w : World) (hs : s.size ≤ 100000) (ha : p ≤ s.size)
   (hl : LexAt w b s p) (hf : w.frozen? ⟨b, 2, none⟩ = false) :
    Calls Tryz.prog 84 #[.pointer (some ⟨b, 0, none⟩)] w fun e w' => e = .returned (.tuple #[]) ∧ Moved b w w' (p + skip false (s.data.toList.drop p)) := by
  go_enter Tryz.func84, Tryz.ntmps84
  refine wp_scope_head 0 (fun a' w' => ∃ (k : Nat) (u1 u2 u3 u4 u5 u6 u7 u8 u9 u10 u11 u12 u13 u14 u15 u16 u17 u18 u19 u20 u21 u22 u23 u24 u25 u26 u27 u28 u29 u30 u31 u32 u33 u34 u35 u36 u37 u38 u39 u40 u41 u42 u43 u44 u45 u46 u47 u48 : Value), p + k ≤ s.size ∧ Hid (skip false (s.data.toList.drop p) = k + skip false (s.data.toList.drop (p + k))) ∧ Moved b w w' (p + k) ∧ a' = ⟨#[.pointer (some ⟨b, 0, none⟩), u1, u2, u3, u4, u5, u6, u7, u8, u9, u10, u11, u12, u13, u14, u15, u16, u17, u18, u19, u20, u21, u22, u23, u24, u25, u26, u27, u28, u29, u30, u31, u32, u33, u34, u35, u36, u37, u38, u39, u40, u41, u42, u43, u44, u45, u46, u47, u48], []⟩) (fun _ w' => s.size - curAt b w') rfl ⟨0, _, _, _, _, _, _, _, _, _, _, _, _, _, _, _, _, _, _, _, _, _, _, _, _, _, _, _, _, _, _, _, _, _, _, _, _, _, _, _, _, _, _, _, _, _, _, _, _, ha, Lib.hid (by rw [Nat.add_zero, Nat.zero_add]), Moved.same hl.2, rfl⟩ ?_
  rintro a' wr ⟨k, u1, u2, u3, u4, u5, u6, u7, u8, u9, u10, u11, u12, u13, u14, u15, u16, u17, u18, u19, u20, u21, u22, u23, u24, u25, u26, u27, u28, u29, u30, u31, u32, u33, u34, u35, u36, u37, u38, u39, u40, u41, u42, u43, u44, u45, u46, u47, u48, hk, HK, hmv, rfl⟩
  obtain ⟨hlr, hfr⟩ := hmv.facts hl hf
  have h0 := hlr.1
  have h2 := hlr.2
  have hlt : pk s.data.toList (p + k) ≠ 0 → p + k < s.size := by
    intro h
    rcases Nat.lt_or_ge (p + k) s.size with h' | h'
    · exact h'
    · exact absurd (pk_ge h') h
  by_cases c32 : pk s.data.toList (p + k) = 32
  · have hlt2 := hlt (by omega)
    clear hlt
    go_wp2_with fail
    refine (peek_at hs hk hlr 0 0 _ rfl (by omega)).mono ?_
    rintro e w' ⟨rfl, j1, rfl⟩
    rw [Nat.add_zero, c32]
    have HQ := Lib.hid c32
    clear c32
    go_wp2
    go_step3
    refine ⟨rfl, ⟨k + 1, _, _, _, _, _, _, _, _, _, _, _, _, _, _, _, _, _, _, _, _, _, _, _, _, _, _, _, _, _, _, _, _, _, _, _, _, _, _, _, _, _, _, _, _, _, _, _, _, by omega, Lib.hid (by rw [HK.out, (skip_blank (by rw [HQ.out]; omega)).2, Nat.add_assoc]; omega), ?_, rfl⟩, ?_⟩
    · exact hmv.on _
    · rw [curAt_set (p + (k + 1)) hlr.2 (by push_cast; omega), curAt_at hlr.2]; omega

  by_cases c9 : pk s.data.toList (p + k) = 9
  · have hlt2 := hlt (by omega)
    clear hlt c32
    go_wp2_with fail
    refine (peek_at hs hk hlr 0 0 _ rfl (by omega)).mono ?_
    rintro e w' ⟨rfl, j1, rfl⟩
    rw [Nat.add_zero, c9]
    have HQ := Lib.hid c9
    clear c9
    go_wp2
    go_step3
    refine ⟨rfl, ⟨k + 1, _, _, _, _, _, _, _, _, _, _, _, _, _, _, _, _, _, _, _, _, _, _, _, _, _, _, _, _, _, _, _, _, _, _, _, _, _, _, _, _, _, _, _, _, _, _, _, _, by omega, Lib.hid (by rw [HK.out, (skip_blank (by rw [HQ.out]; omega)).2, Nat.add_assoc]; omega), ?_, rfl⟩, ?_⟩
    · exact hmv.on _
    · rw [curAt_set (p + (k + 1)) hlr.2 (by push_cast; omega), curAt_at hlr.2]; omega

  by_cases c13 : pk s.data.toList (p + k) = 13
  · have hlt2 := hlt (by omega)
    clear hlt c32 c9
    go_wp2_with fail
    refine (peek_at hs hk hlr 0 0 _ rfl (by omega)).mono ?_
    rintro e w' ⟨rfl, j1, rfl⟩
    rw [Nat.add_zero, c13]
    have HQ := Lib.hid c13
    clear c13
    go_wp2
    go_step3
    refine ⟨rfl, ⟨k + 1, _, _, _, _, _, _, _, _, _, _, _, _, _, _, _, _, _, _, _, _, _, _, _, _, _, _, _, _, _, _, _, _, _, _, _, _, _, _, _, _, _, _, _, _, _, _, _, _, by omega, Lib.hid (by rw [HK.out, (skip_blank (by rw [HQ.out]; omega)).2, Nat.add_assoc]; omega), ?_, rfl⟩, ?_⟩
    · exact hmv.on _
    · rw [curAt_set (p + (k + 1)) hlr.2 (by push_cast; omega), curAt_at hlr.2]; omega

  by_cases c10 : pk s.data.toList (p + k) = 10
  · have hlt2 := hlt (by omega)
    clear hlt c32 c9 c13
    go_wp2_with fail
    refine (peek_at hs hk hlr 0 0 _ rfl (by omega)).mono ?_
    rintro e w' ⟨rfl, j1, rfl⟩
    rw [Nat.add_zero, c10]
    have HQ := Lib.hid c10
    clear c10
    go_wp2
    go_step3
    refine ⟨rfl, ⟨k + 1, _, _, _, _, _, _, _, _, _, _, _, _, _, _, _, _, _, _, _, _, _, _, _, _, _, _, _, _, _, _, _, _, _, _, _, _, _, _, _, _, _, _, _, _, _, _, _, _, by omega, Lib.hid (by rw [HK.out, (skip_blank (by rw [HQ.out]; omega)).2, Nat.add_assoc]; omega), ?_, rfl⟩, ?_⟩
    · exact hmv.on _
    · rw [curAt_set (p + (k + 1)) hlr.2 (by push_cast; omega), curAt_at hlr.2]; omega

  by_cases c35 : pk s.data.toList (p + k) = 35
  · have hlt2 := hlt (by omega)
    clear hlt c32 c9 c13 c10
    obtain ⟨_, hs1, hs2⟩ := skip_hash c35
    have hge := Lib.indexByte_ge (s.data.toList.drop (p + k)) 10
    obtain ⟨z, HZ⟩ := name_it (Lib.indexByte (s.data.toList.drop (p + k)) 10)
    rw [HZ.out] at hs1 hs2 hge
    have hsz : s.data.toList.length = s.size := by simp
    rw [hsz] at hs1 hs2
    clear hsz
    have e2 : (0 : Int) ≤ (p : Int) + k := by omega
    have e3 : ((p : Int) + k).toNat = p + k := by omega
    have e4 : ((p : Int) + k) ≤ s.size := by omega
    have hidx := idx_at s (p + k) z HZ.out
    by_cases hz : z = -1
    · have S1 := Lib.hid (hs1 hz)
      subst hz
      clear hs1 hs2
      go_wp2_with fail
      refine (peek_at hs hk hlr 0 0 _ rfl (by omega)).mono ?_
      rintro e w' ⟨rfl, j1, rfl⟩
      rw [Nat.add_zero, c35]
      clear c35
      go_wp2
      go_quiet ((go_at_call 138; exact quiet_add_same (hidx _)))
      go_wp2
      go_quiet (fail)
      go_wp2
      go_step3
      refine ⟨rfl, ⟨s.size - p, _, _, _, _, _, _, _, _, _, _, _, _, _, _, _, _, _, _, _, _, _, _, _, _, _, _, _, _, _, _, _, _, _, _, _, _, _, _, _, _, _, _, _, _, _, _, _, _, by omega, Lib.hid (by rw [HK.out, S1.out, Nat.add_sub_of_le ha, List.drop_of_length_le (by simp), skip]; omega), ?_, rfl⟩, ?_⟩
      · exact hmv.on_ _ _ _ (by push_cast; omega)
      · rw [curAt_set s.size hlr.2 (by omega), curAt_at hlr.2]; omega
    · obtain ⟨m, rfl⟩ : ∃ m : Nat, z = m := ⟨z.toNat, by omega⟩
      obtain ⟨hm0, hm1, hm2⟩ := hs2 m rfl
      have HM := Lib.hid hm2
      clear hz hge hm2 hs1 hs2
      go_wp2_with fail
      refine (peek_at hs hk hlr 0 0 _ rfl (by omega)).mono ?_
      rintro e w' ⟨rfl, j1, rfl⟩
      rw [Nat.add_zero, c35]
      clear c35
      go_wp2
      go_quiet ((go_at_call 138; exact quiet_add_same (hidx _)))
      go_wp2
      go_step3
      refine ⟨rfl, ⟨k + m, _, _, _, _, _, _, _, _, _, _, _, _, _, _, _, _, _, _, _, _, _, _, _, _, _, _, _, _, _, _, _, _, _, _, _, _, _, _, _, _, _, _, _, _, _, _, _, _, by omega, Lib.hid (by rw [HK.out, HM.out, Nat.add_assoc]; omega), ?_, rfl⟩, ?_⟩
      · exact hmv.on_ _ _ _ (by push_cast; omega)
      · rw [curAt_set (p + (k + m)) hlr.2 (by push_cast; omega), curAt_at hlr.2]; omega
  · have HQ := Lib.hid (skip_stop c32 c9 c13 c10 c35)
    have t1 : (pk s.data.toList (p + k) == 32) = false := by simpa using c32
    have t2 : (pk s.data.toList (p + k) == 9) = false := by simpa using c9
    have t3 : (pk s.data.toList (p + k) == 13) = false := by simpa using c13
    have t4 : (pk s.data.toList (p + k) == 10) = false := by simpa using c10
    have t5 : (pk s.data.toList (p + k) == 35) = false := by simpa using c35
    clear hlt c32 c9 c13 c10 c35
    go_wp2_with fail
    refine (peek_at hs hk hlr 0 0 _ rfl (by omega)).mono ?_
    rintro e w' ⟨rfl, j1, rfl⟩
    rw [Nat.add_zero]
    go_wp2
    simp only [Exit.jump]
    go_end0
    refine ⟨rfl, ?_⟩
    rw [HK.out, HQ.out]
    exact hmv.drewN _

end Go.Proofs.YtngdilbfhpcfgaaGreatDoor
/- Plain facts on the lexemes of a text. -/
namespace Go.Proofs.YtngdilbfhpcfgaaGreatDoor
set_option maxRecDepth 100000

theorem ownLx_le {lang : Int} {blank : Bool} {r : List UInt8} {x : Lx} (h : ownLx lang blank r = some x) : x.len ≤ r.length := by
  unfold ownLx at h
  split at h
  · cases h
  split at h
  · rename_i h63
    split at h
    · injection h with h; subst h
      have := wordLen_le (r.drop 1)
      cases r with
      | nil => exact absurd h63 (by decide)
      | cons c t => simp at this ⊢; omega
    · cases h
  split at h
  · split at h
    · rename_i hp
      injection h with h; subst h
      exact ((iriLen_le r).2 hp).2
    · cases h
  split at h
  · split at h
    · split at h
      · rename_i h58 hw
        injection h with h; subst h
        have h1 := wordLen_le r
        have h2 := wordLen_le (r.drop (wordLen r + 1))
        rw [List.length_drop] at h2
        simp only
        omega
      · cases h
    · cases h
  · cases h

theorem plainLx_le {r : List UInt8} (hr : 0 < r.length) : (plainLx r).len ≤ r.length := by
  unfold plainLx
  split
  · exact wordLen_le r
  split
  · split
    · rename_i h
      have h1 := digLen_le r
      have h2 := digLen_le (r.drop (digLen r + 1))
      rw [List.length_drop] at h2
      simp only
      omega
    · exact digLen_le r
  split
  · cases hq : quoted r with
    | none => simp
    | some y => exact (quoted_le hr hq).2
  · exact markLen_le r

theorem nextLx_le {lang : Int} {blank : Bool} {r : List UInt8} (hr : 0 < r.length) : (nextLx lang blank r).len ≤ r.length := by
  unfold nextLx
  split
  · rename_i x h
    exact ownLx_le h
  · exact plainLx_le hr

theorem toks_end {lang : Int} {f q : Nat} {e : Int} {l : List UInt8} (hq : l.length ≤ q + skip false (l.drop q)) : toks lang f q e (l.drop q) = ([], none) := by
  cases f with
  | zero => rfl
  | succ f => rw [toks, if_pos (by rw [List.length_drop]; omega)]
theorem toks_bad {lang : Int} {f q m : Nat} {e : Int} {l : List UInt8} (hf : 0 < f) (hm : q + skip false (l.drop q) = m) (hlt : m < l.length) (hb : (nextLx lang (decide (e = (m : Int))) (l.drop m)).len = 0) :
    toks lang f q e (l.drop q) = ([], some m) := by
  obtain ⟨f, rfl⟩ : ∃ g, f = g + 1 := ⟨f - 1, by omega⟩
  have hd : (l.drop q).drop (skip false (l.drop q)) = l.drop m := by rw [List.drop_drop, hm]
  rw [toks, if_neg (by rw [List.length_drop]; omega), hd, hm, if_pos hb]
theorem toks_go {lang : Int} {f q m : Nat} {e : Int} {l : List UInt8} {x : Lx} (hm : q + skip false (l.drop q) = m) (hlt : m < l.length) (hx : nextLx lang (decide (e = (m : Int))) (l.drop m) = x) (hb : x.len ≠ 0) :
    toks lang (f + 1) q e (l.drop q) = (⟨x, m, m + x.len⟩ :: (toks lang f (m + x.len) (endOf lang x (m + x.len)) (l.drop (m + x.len))).1, (toks lang f (m + x.len) (endOf lang x (m + x.len)) (l.drop (m + x.len))).2) := by
  have hd : (l.drop q).drop (skip false (l.drop q)) = l.drop m := by rw [List.drop_drop, hm]
  rw [toks, if_neg (by rw [List.length_drop]; omega), hd, hm, hx, if_neg hb, List.drop_drop]

theorem toks_count (lang : Int) : ∀ (f q : Nat) (e : Int) (r : List UInt8), (toks lang f q e r).1.length ≤ r.length := by
  intro f
  induction f with
  | zero => intro q e r; simp [toks]
  | succ f ih =>
    intro q e r
    rw [toks]
    split
    · simp
    · rename_i h
      split
      · simp
      · rename_i h1
        simp only [List.length_cons]
        have h2 := ih (q + skip false r + (nextLx lang (decide (e = ((q + skip false r : Nat) : Int))) (r.drop (skip false r))).len)
            (endOf lang (nextLx lang (decide (e = ((q + skip false r : Nat) : Int))) (r.drop (skip false r)))
              (q + skip false r + (nextLx lang (decide (e = ((q + skip false r : Nat) : Int))) (r.drop (skip false r))).len))
            ((r.drop (skip false r)).drop (nextLx lang (decide (e = ((q + skip false r : Nat) : Int))) (r.drop (skip false r))).len)
        have h3 := nextLx_le (lang := lang) (blank := decide (e = ((q + skip false r : Nat) : Int))) (r := r.drop (skip false r)) (by rw [List.length_drop]; omega)
        rw [List.length_drop] at h3
        rw [List.length_drop, List.length_drop] at h2
        omega
theorem lexAll_count {lang : Int} {l : List UInt8} {ts : List Tok} {b : Option Nat} (h : lexAll lang l = (ts, b)) : ts.length ≤ l.length := by
  have := toks_count lang (l.length + 1) 0 (-1) l
  unfold lexAll at h
  rw [h] at this
  exact this

end Go.Proofs.YtngdilbfhpcfgaaGreatDoor
