/- The reference's Same and EqRow: whether two values, two rows, are the same. -/
import Derived.Test.YtmhjbicbdahllaaGreatDoorV1
import Derived.StillTailTactics
namespace Go.Proofs.YtmhjbicbdahllaaGreatDoor
open Go Go.RowKit

open Classical in
/-- Are two values the same? -/
noncomputable def sameB (a b : Val) : Bool := decide (a = b)
open Classical in
noncomputable def sameL (a b : List Val) : Bool := decide (a = b)
theorem sameB_refl (a : Val) : sameB a a = true := by unfold sameB; simp
theorem sameB_no {a b : Val} (h : a ≠ b) : sameB a b = false := by unfold sameB; simp [h]
theorem sameL_no {a b : List Val} (h : a ≠ b) : sameL a b = false := by unfold sameL; simp [h]
theorem sameL_refl (a : List Val) : sameL a a = true := by unfold sameL; simp
theorem strV_ne {a b : ByteArray} (h : a ≠ b) : (a.toList == b.toList) = false := by
  rw [ByteArray.toList_eq, ByteArray.toList_eq]
  exact beq_eq_false_iff_ne.2 (fun e => h (ByteArray.ext (Array.toList_inj.1 e)))

/-- A truth is told; memory that was there as it was. -/
def ToldB (b : Bool) (w : World) (e : Ending) (w' : World) : Prop := e = .returned (.bool b) ∧ Below w.heap.size w w'
theorem told_bool {a b : Bool} {w w' : World} (h : a = b) (hb : Below w.heap.size w w') : ToldB b w (.returned (.bool a)) w' := ⟨by rw [h], hb⟩
theorem two_new (w : World) (a b : Obj) : Below w.heap.size w ((w.alloc a).alloc b) := (((Below.refl _ _).alloc (Nat.le_refl _) _).alloc (by simp) _)

set_option maxRecDepth 100000 in
set_option maxHeartbeats 4000000 in
theorem same_step (a b : Val) {F G : Nat → Prop} (A B : Option Addr) (ca cb : Nat) (w : World) (hF : ∀ g, F g → g < w.heap.size) (hG : ∀ g, G g → g < w.heap.size)
    (hA : LRd w F a.list A a.list.length) (hB : LRd w G b.list B b.list.length)
    (hrow : ∀ w', LRd w' F a.list A a.list.length → LRd w' G b.list B b.list.length → (∀ g, F g → g < w'.heap.size) → (∀ g, G g → g < w'.heap.size) → Calls Tryz.prog 50 #[.slice A a.list.length ca, .slice B b.list.length cb] w' (ToldB (sameL a.list b.list) w')) :
    Calls Tryz.prog 21 #[.agg (cellsV a (.slice A a.list.length ca)), .agg (cellsV b (.slice B b.list.length cb))] w (ToldB (sameB a b) w) := by
  have HROW := Lib.hid hrow
  have HAA := Lib.hid hA
  have HBB := Lib.hid hB
  have HF := Lib.hid hF
  have HG := Lib.hid hG
  clear hrow hA hB hF hG
  obtain ⟨k, t, n, s, x, l⟩ := a
  obtain ⟨k', t', n', s', x', l'⟩ := b
  unfold cellsV
  simp only [Val.kind, Val.truth, Val.num, Val.text, Val.extra, Val.list] at HROW HAA HBB ⊢
  obtain ⟨p, HP⟩ := name_itV l.length
  obtain ⟨q, HQ⟩ := name_itV l'.length
  rw [HP.out] at HROW HAA ⊢
  rw [HQ.out] at HROW HBB ⊢
  have HN := Lib.hid (two_new w (.cells #[.int .i64 k, .bool t, .int .i64 n, .string s, .string x, .slice A p ca] 55) (.cells #[.int .i64 k', .bool t', .int .i64 n', .string s', .string x', .slice B q cb] 55))
  by_cases h1 : k = k'
  · subst h1
    by_cases h2 : t = t'
    · subst h2
      by_cases h3 : n = n'
      · subst h3
        by_cases h4 : s = s'
        · subst h4
          by_cases h5 : x = x'
          · subst h5
            have hb : sameL l l' = sameB (.mk k t n s x l) (.mk k t n s x l') := by
              unfold sameL sameB
              simp
            have HB2 := Lib.hid hb
            have HC := Lib.hid (HROW.out _ (HAA.out.under HN.out HF.out) (HBB.out.under HN.out HG.out) (fun g hg => by have := HF.out g hg; have := HN.out.size; omega) (fun g hg => by have := HG.out g hg; have := HN.out.size; omega))
            clear hb
            go_enter Tryz.func21, Tryz.ntmps21
            go_wp2_with fail
            refine HC.out.mono ?_
            rintro e w5 ⟨rfl, hb5⟩
            rw [HB2.out]
            go_wp2_with fail
            go_ret
            exact told_bool rfl (HN.out.trans (hb5.mono HN.out.size))
          · have t5 := strV_ne h5
            have hne := sameB_no (a := .mk k t n s x l) (b := .mk k t n s x' l') (by simp [h5])
            have HNE := Lib.hid hne
            clear hne h5
            go_enter Tryz.func21, Tryz.ntmps21
            go_wp2_with fail
            go_ret
            exact told_bool HNE.out.symm HN.out
        · have t4 := strV_ne h4
          have hne := sameB_no (a := .mk k t n s x l) (b := .mk k t n s' x' l') (by simp [h4])
          have HNE := Lib.hid hne
          clear hne h4
          go_enter Tryz.func21, Tryz.ntmps21
          go_wp2_with fail
          go_ret
          exact told_bool HNE.out.symm HN.out
      · have t3 : (n == n') = false := by simpa using h3
        have hne := sameB_no (a := .mk k t n s x l) (b := .mk k t n' s' x' l') (by simp [h3])
        have HNE := Lib.hid hne
        clear hne h3
        go_enter Tryz.func21, Tryz.ntmps21
        go_wp2_with fail
        go_ret
        exact told_bool HNE.out.symm HN.out
    · have t2 : (t == t') = false := by simpa using h2
      have hne := sameB_no (a := .mk k t n s x l) (b := .mk k t' n' s' x' l') (by simp [h2])
      have HNE := Lib.hid hne
      clear hne h2
      go_enter Tryz.func21, Tryz.ntmps21
      go_wp2_with fail
      go_ret
      exact told_bool HNE.out.symm HN.out
  · have t1 : (k == k') = false := by simpa using h1
    have hne := sameB_no (a := .mk k t n s x l) (b := .mk k' t' n' s' x' l') (by simp [h1])
    have HNE := Lib.hid hne
    clear hne h1
    go_enter Tryz.func21, Tryz.ntmps21
    go_wp2_with fail
    go_ret
    exact told_bool HNE.out.symm HN.out

theorem take_eq_all {α : Type} {l m : List α} {k : Nat} (h : l.take k = m.take k) (h1 : l.length ≤ k) (h2 : m.length ≤ k) : l = m := by
  rw [List.take_of_length_le h1, List.take_of_length_le h2] at h; exact h

set_option maxRecDepth 100000 in
set_option maxHeartbeats 4000000 in
theorem row_any (N : Nat) : ∀ (l m : List Val) (_ : sizeL l < N) (F G : Nat → Prop) (A B : Option Addr) (n1 n2 ca cb : Nat) (w : World) (_ : sizeL l ≤ 1000000000000) (_ : ∀ g, F g → g < w.heap.size) (_ : ∀ g, G g → g < w.heap.size) (_ : LRd w F l A n1) (_ : LRd w G m B n2),
    Calls Tryz.prog 50 #[.slice A n1 ca, .slice B n2 cb] w (ToldB (sameL l m) w) := by
  induction N with
  | zero => exact fun _ _ h => absurd h (Nat.not_lt_zero _)
  | succ N ih =>
    intro l m hN F G A B n1 n2 ca cb w hs hF hG hl hm
    have HL := Lib.hid hl
    have HM := Lib.hid hm
    have HF := Lib.hid hF
    have HG := Lib.hid hG
    have IH := Lib.hid ih
    have hl1 : n1 = l.length := hl.1
    have hn1 : n1 ≤ 1000000000000 := by have := len_le_size l; omega
    have hm1 : n2 = m.length := hm.1
    have HL1 := Lib.hid hl1
    have HM1 := Lib.hid hm1
    clear hl hm hF hG ih
    by_cases hne : n1 = n2
    · subst hne
      clear hl1 hm1
      go_enter Tryz.func50, Tryz.ntmps50
      go_wp2_with fail
      go_loopw [5] (fun s5 wr => ∃ k : Nat, k ≤ n1 ∧ s5 = .int .i64 (k : Nat) ∧ Hid (l.take k = m.take k) ∧ Below w.heap.size w wr) (fun s5 _ => n1 - (intOf s5).toNat)
      case atStart => exact ⟨0, by omega, rfl, Lib.hid (by simp), Below.refl _ _⟩
      case round =>
        obtain ⟨k, hk, rfl, htk, hbz⟩ := hrel
        have HBZ := Lib.hid hbz
        have HL2 := Lib.hid (HL.out.under hbz HF.out)
        have HM2 := Lib.hid (HM.out.under hbz HG.out)
        have hws : w.heap.size ≤ wr.heap.size := hbz.size
        clear hbz
        by_cases hlt : k < n1
        · obtain ⟨x, hx⟩ : ∃ x, l[k]? = some x := ⟨l[k]'(by have := HL1.out; omega), List.getElem?_eq_getElem _⟩
          obtain ⟨y, hy⟩ : ∃ y, m[k]? = some y := ⟨m[k]'(by have := HM1.out; omega), List.getElem?_eq_getElem _⟩
          have hxm := sizeV_mem (List.mem_of_getElem? hx)
          have hxl := sizeL_list x
          obtain ⟨ad, sx, rfl, _, ⟨Bx, cx, rfl, _, hlx⟩, _, c0, c1, c2, c3, c4, c5⟩ := HL2.out.cellsAt hx
          obtain ⟨ae, sy, rfl, _, ⟨By, cy, rfl, _, hly⟩, _, d0, d1, d2, d3, d4, d5⟩ := HM2.out.cellsAt hy
          have HSAME := Lib.hid (same_step x y Bx By cx cy wr.drew (F := F) (G := G) (fun g hg => Nat.lt_of_lt_of_le (HF.out g hg) hws) (fun g hg => Nat.lt_of_lt_of_le (HG.out g hg) hws) (hlx.keep fun _ _ => rfl) (hly.keep fun _ _ => rfl)
            (fun w' h1 h2 h3 h4 => IH.out x.list y.list (by omega) F G Bx By _ _ cx cy w' (by omega) h3 h4 h1 h2))
          have HX := Lib.hid hx
          have HY := Lib.hid hy
          have e1 : (0 : Int) ≤ k := by omega
          have e2 : (k : Int) < n1 := by omega
          clear hx hy hxm hxl hlx hly
          unfold cellsV at HSAME
          obtain ⟨lx, HLX⟩ := name_itV x.list.length
          obtain ⟨ly, HLY⟩ := name_itV y.list.length
          rw [HLX.out] at c5 HSAME
          rw [HLY.out] at d5 HSAME
          by_cases hxy : x = y
          · have hs := sameB_refl x
            subst hxy
            rw [hs] at HSAME
            clear hs
            go_wp2_with fail
            go_still_tail 8, (by kernel_rfl)
            change wpList _ _ _ _ _ (World.drew _)
            go_wp2_with fail
            refine HSAME.out.mono ?_
            rintro e w5 ⟨rfl, hb5⟩
            go_wp2_with fail
            go_roundw
            case rel => exact ⟨k + 1, by omega, by go_num, Lib.hid (by rw [take_oneMore HX.out, take_oneMore HY.out, htk.out]), HBZ.out.drew.trans (hb5.mono hws)⟩
            case measure => simp [intOf]; omega
          · have hs := sameB_no hxy
            have hlm : sameL l m = false := sameL_no (fun e => hxy (by
              have h1 := HX.out
              rw [e, HY.out] at h1
              exact (Option.some.inj h1).symm))
            have HLM := Lib.hid hlm
            rw [hs] at HSAME
            clear hs hlm
            go_wp2_with fail
            go_still_tail 8, (by kernel_rfl)
            change wpList _ _ _ _ _ (World.drew _)
            go_wp2_with fail
            refine HSAME.out.mono ?_
            rintro e w5 ⟨rfl, hb5⟩
            go_wp2_with fail
            go_ret
            exact told_bool HLM.out.symm (HBZ.out.drew.trans (hb5.mono hws))
        · have hke : k = n1 := by omega
          subst hke
          have hlm : l = m := take_eq_all htk.out (by have := HL1.out; omega) (by have := HM1.out; omega)
          have hsm : sameL l m = true := by rw [hlm]; exact sameL_refl m
          have HSM := Lib.hid hsm
          clear hlm hsm
          go_wp2_with fail
          go_ret
          exact told_bool HSM.out.symm HBZ.out
    · have hsl : sameL l m = false := sameL_no (fun e => hne (by rw [hl1, hm1, e]))
      have HSL := Lib.hid hsl
      have t1 : ((n1 : Int) != n2) = true := by simp; omega
      clear hsl hl1 hm1
      go_enter Tryz.func50, Tryz.ntmps50
      go_wp2_with fail
      go_ret
      exact told_bool HSL.out.symm (Below.refl _ _)
end Go.Proofs.YtmhjbicbdahllaaGreatDoor
