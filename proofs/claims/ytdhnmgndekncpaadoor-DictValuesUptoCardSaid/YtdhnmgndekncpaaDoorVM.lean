/- A value's lists, written over: over, OverValue. -/
import Derived.Test.YtdhnmgndekncpaaDoorVL
import Derived.Test.YtdhnmgndekncpaaDoorV4
namespace Go.Proofs.YtdhnmgndekncpaaDoor
open Go Go.RowKit

def OverIs (F : Nat → Prop) (w : World) (e : Ending) (w' : World) : Prop := e = .returned (.tuple #[]) ∧ Turn F w w'
theorem add_zero_at (g n : Nat) : (⟨g, 0, none⟩ : Addr).add n = ⟨g, n, none⟩ := by
  unfold Addr.add
  split
  · rename_i h; rw [h]
  · simp
def set6 (w : World) (g O : Nat) (v0 v1 v2 v3 v4 v5 : Value) : World := (((((w.setCell ⟨g, O, none⟩ v0).setCell ⟨g, O + 1, none⟩ v1).setCell ⟨g, O + 2, none⟩ v2).setCell ⟨g, O + 3, none⟩ v3).setCell ⟨g, O + 4, none⟩ v4).setCell ⟨g, O + 5, none⟩ v5
theorem set6_turn (w : World) (g O : Nat) (v0 v1 v2 v3 v4 v5 : Value) : Turn (fun b => b = g) w (set6 w g O v0 v1 v2 v3 v4 v5) :=
  ((((((Turn.refl (fun b => b = g) w).setCell (p := ⟨g, O, none⟩) (.inr rfl) v0).setCell (p := ⟨g, O + 1, none⟩) (.inr rfl) v1).setCell (p := ⟨g, O + 2, none⟩) (.inr rfl) v2).setCell (p := ⟨g, O + 3, none⟩) (.inr rfl) v3).setCell (p := ⟨g, O + 4, none⟩) (.inr rfl) v4).setCell (p := ⟨g, O + 5, none⟩) (.inr rfl) v5
theorem set6_row {w : World} {base e size g n cap : Nat} {xs : List Value} (h : w.ownsRow base e size (.slice (some ⟨g, 0, none⟩) n cap) n xs) (O : Nat) (v0 v1 v2 v3 v4 v5 : Value) :
    (set6 w g O v0 v1 v2 v3 v4 v5).ownsRow base e size (.slice (some ⟨g, 0, none⟩) n cap) n ((((((xs.set O v0).set (O + 1) v1).set (O + 2) v2).set (O + 3) v3).set (O + 4) v4).set (O + 5) v5) :=
  ((((((h.stored O v0).1.stored (O + 1) v1).1.stored (O + 2) v2).1.stored (O + 3) v3).1.stored (O + 4) v4).1.stored (O + 5) v5).1
theorem set6_past (xs : List Value) (O j : Nat) (v0 v1 v2 v3 v4 v5 : Value) (h : O + 6 ≤ j) : ((((((xs.set O v0).set (O + 1) v1).set (O + 2) v2).set (O + 3) v3).set (O + 4) v4).set (O + 5) v5)[j]? = xs[j]? := by
  rw [List.getElem?_set_ne (by omega), List.getElem?_set_ne (by omega), List.getElem?_set_ne (by omega), List.getElem?_set_ne (by omega), List.getElem?_set_ne (by omega), List.getElem?_set_ne (by omega)]
set_option maxRecDepth 100000 in
set_option maxHeartbeats 4000000 in
theorem over_any (N : Nat) : ∀ (v : Val) (_ : sizeV v < N) (_ : sizeV v ≤ 10000000000) (F : Nat → Prop) (u : Value) (w : World) (_ : ∀ g, F g → g < w.heap.size) (_ : VOwn w F v u),
    Calls Tryd.prog 57 #[u] w (OverIs F w) := by
  induction N with
  | zero => exact fun _ h => absurd h (Nat.not_lt_zero _)
  | succ N ih =>
    intro v hN hs F u w hF hv
    obtain ⟨s, rfl, cs, Fs, hrow, h6, hFo, hFs, hdis, hr⟩ := hv.inv
    have hform := LOwn.form ⟨cs, Fs, hrow, h6, hFo, hFs, hdis, hr⟩
    obtain ⟨A, cap, rfl⟩ := hform
    have IH := Lib.hid ih
    have HF := Lib.hid hF
    have HROW := Lib.hid hrow
    have H6 := Lib.hid h6
    have HFO := Lib.hid hFo
    have HFS := Lib.hid hFs
    have HDIS := Lib.hid hdis
    have HR := Lib.hid hr
    clear ih hF hv hrow h6 hFo hFs hdis hr
    cases v with
    | mk k b n t x l =>
    unfold cellsV
    simp only [Val.kind, Val.truth, Val.num, Val.text, Val.extra, Val.list] at HROW H6 HFO HFS HDIS HR ⊢
    have hts : l.length ≤ 10000000000 ∧ sizeL l < N ∧ sizeL l ≤ 10000000000 := by
      simp only [sizeV] at hs hN
      have := len_le_size l
      omega
    obtain ⟨hll, hlN, hls⟩ := hts
    clear hN hs
    obtain ⟨ln, HLN⟩ := name_itV l.length
    rw [HLN.out] at HROW H6 HFO HFS HDIS hll
    rw [HLN.out]
    obtain ⟨w0, Hw0⟩ := name_itV (w.alloc (.cells #[.int .i64 k, .bool b, .int .i64 n, .string t, .string x, .slice A ln cap] 84))
    obtain ⟨h, Hh⟩ := name_itV w.heap.size
    have hb0 := Lib.hid (show Below w.heap.size w w0 from by rw [← Hw0.out]; exact (Below.refl _ _).alloc (Nat.le_refl _) _)
    have hblk := Lib.hid (show w0.heap[h]? = some (.cells #[.int .i64 k, .bool b, .int .i64 n, .string t, .string x, .slice A ln cap] 84 (0, 0)) from by rw [← Hw0.out, ← Hh.out]; exact heap_alloc_new w _)
    have hhs := Lib.hid (show h < w0.heap.size from by rw [← Hw0.out, ← Hh.out]; simp)
    go_enter Tryd.func57, Tryd.ntmps57
    go_wp2_with fail
    rw [Hw0.out, Hh.out]
    go_loopw [2] (fun s2 wr => ∃ (i : Nat) (ys : List Value), i ≤ ln ∧ s2 = .int .i64 (i : Nat) ∧ Hid (Turn F w wr) ∧ Hid (wr.heap[h]? = some (.cells #[.int .i64 k, .bool b, .int .i64 n, .string t, .string x, .slice A ln cap] 84 (0, 0))) ∧
        Hid (wr.ownsRow 0 84 6 (.slice A ln cap) ln ys) ∧ Hid (∀ j, 6 * i ≤ j → ys[j]? = (flatV cs ln)[j]?) ∧ Hid (∀ j x, i ≤ j → l[j]? = some x → VOwn wr (Fs j) x (.agg (cs j))) ∧ w0.heap.size ≤ wr.heap.size) (fun s2 _ => ln - (intOf s2).toNat)
    case atStart =>
      have ht : Turn F w w0 := (Turn.of_below hb0.out).mono (fun i hi h => by omega)
      exact ⟨0, _, by omega, rfl, Lib.hid ht, hblk, Lib.hid ((Turn.of_below hb0.out).owns HROW.out (fun g hg h => by have := (HROW.out.lt g hg).2; omega)), Lib.hid (fun j _ => rfl), Lib.hid (fun j x _ hx => (HR.out j x hx).turn (Turn.of_below hb0.out) (fun b hb h => by
        have hj : j < ln := by rw [← HLN.out]; exact (List.getElem?_eq_some_iff.1 hx).1
        have := HF.out b (HFS.out j b hj hb).1; omega)), Nat.le_refl _⟩
    case round =>
      obtain ⟨i, ys, hi, rfl, hT, hB, hrow, hys, hel, hsz⟩ := hrel
      have r5 : wr.cell? ⟨h, 5, none⟩ = some (.slice A ln cap) := Lib.cell_of_heap hB.out 5
      by_cases hlt : i < ln
      · obtain ⟨y, hy⟩ : ∃ y, l[i]? = some y := ⟨l[i]'(by rw [HLN.out]; exact hlt), List.getElem?_eq_getElem _⟩
        have hv := hel.out i y (Nat.le_refl _) hy
        obtain ⟨sy, hcs, hly⟩ := hv.inv
        injection hcs with hcs
        obtain ⟨Ay, cy, rfl⟩ := hly.form
        have hmem := Lib.hid (List.mem_of_getElem? hy)
        have hsy := sizeV_mem hmem.out
        obtain ⟨g, rfl⟩ : ∃ g, A = some ⟨g, 0, none⟩ := by
          rcases hrow.out.2 with ⟨h0, h1⟩ | ⟨g, cp, cur, h0, _⟩
          · injection h0 with _ h2; omega
          · injection h0 with h2; exact ⟨g, h2⟩
        obtain ⟨ad, Had⟩ := name_itV (⟨g, 0, none⟩ : Addr)
        obtain ⟨O, HO⟩ := name_itV (i * 6)
        have hcell : ∀ (W : World) (zs : List Value), W.ownsRow 0 84 6 (.slice (some ⟨g, 0, none⟩) ln cap) ln zs → (∀ j, 6 * i ≤ j → zs[j]? = (flatV cs ln)[j]?) → ∀ j, j < 6 → W.cell? ⟨g, O + j, none⟩ = (cs i)[j]? ∧ W.frozen? ⟨g, O + j, none⟩ = false := fun W zs hz hzs j hj => by
          rw [← HO.out]
          refine ⟨?_, hz.frozenAt _⟩
          have h2 := hz.cellAt (i * 6 + j) (by omega)
          rw [hzs _ (by omega), flatV_at (H6.out) hlt hj] at h2
          exact h2
        have hadd : ad.add (i * 6) = ⟨g, O, none⟩ := by rw [← Had.out, ← HO.out, add_zero_at]
        have cc := hcell wr ys hrow.out hys.out
        rw [hcs] at cc
        have k0 : wr.cell? ⟨g, O, none⟩ = some (.int .i64 y.kind) := (cc 0 (by omega)).1
        have k1 : wr.cell? ⟨g, O + 1, none⟩ = some (.bool y.truth) := (cc 1 (by omega)).1
        have k2 : wr.cell? ⟨g, O + 2, none⟩ = some (.int .i64 y.num) := (cc 2 (by omega)).1
        have k3 : wr.cell? ⟨g, O + 3, none⟩ = some (.string y.text) := (cc 3 (by omega)).1
        have k4 : wr.cell? ⟨g, O + 4, none⟩ = some (.string y.extra) := (cc 4 (by omega)).1
        have k5 : wr.cell? ⟨g, O + 5, none⟩ = some (.slice Ay y.list.length cy) := (cc 5 (by omega)).1
        have hih := Lib.hid (IH.out y (by omega) (by omega) (Fs i) _ wr (fun b hb => Nat.lt_of_lt_of_le (HF.out b (HFS.out i b hlt hb).1) hT.out.size) hv)
        rw [hcs] at hih
        unfold cellsV at hih
        have HY := Lib.hid hy
        have HCS := Lib.hid hcs
        have HCELL := Lib.hid hcell
        have q1 : (0 : Int) ≤ i := by omega
        have q2 : (i : Int) < ln := by omega
        rw [Had.out] at r5 ⊢
        clear hv hy hcs hcell cc hly hsy
        go_wp2_with fail
        refine hih.out.mono ?_
        rintro e w2 ⟨rfl, ht2⟩
        have HT2 := Lib.hid ht2
        have hgi : ¬ Fs i g := fun hf => (HFS.out i g hlt hf).2 rfl
        have hrow2 := Lib.hid (HT2.out.owns hrow.out (fun b hb => by injection hb with hb; rw [← hb]; exact hgi))
        have hh1 : w.heap.size ≤ h := Nat.le_of_eq Hh.out
        have hhF : ¬ F h := fun hf => by have := HF.out h hf; omega
        have HHF := Lib.hid hhF
        have hB2 := Lib.hid ((HT2.out.block h (by have := hhs.out; omega) (fun hf => hhF (HFS.out i h hlt hf).1)).trans hB.out)
        have p5 : w2.cell? ⟨h, 5, none⟩ = some (.slice (some ⟨g, 0, none⟩) ln cap) := Lib.cell_of_heap hB2.out 5
        rw [Had.out] at p5
        have dd := HCELL.out w2 ys hrow2.out hys.out
        rw [HCS.out] at dd
        have g0 : w2.cell? ⟨g, O, none⟩ = some (.int .i64 y.kind) := (dd 0 (by omega)).1
        have g1 : w2.cell? ⟨g, O + 1, none⟩ = some (.bool y.truth) := (dd 1 (by omega)).1
        have g2 : w2.cell? ⟨g, O + 2, none⟩ = some (.int .i64 y.num) := (dd 2 (by omega)).1
        have g3 : w2.cell? ⟨g, O + 3, none⟩ = some (.string y.text) := (dd 3 (by omega)).1
        have g4 : w2.cell? ⟨g, O + 4, none⟩ = some (.string y.extra) := (dd 4 (by omega)).1
        have g5 : w2.cell? ⟨g, O + 5, none⟩ = some (.slice Ay y.list.length cy) := (dd 5 (by omega)).1
        have f0 : w2.frozen? ⟨g, O, none⟩ = false := (dd 0 (by omega)).2
        have f1 : w2.frozen? ⟨g, O + 1, none⟩ = false := (dd 1 (by omega)).2
        have f2 : w2.frozen? ⟨g, O + 2, none⟩ = false := (dd 2 (by omega)).2
        have f3 : w2.frozen? ⟨g, O + 3, none⟩ = false := (dd 3 (by omega)).2
        have f4 : w2.frozen? ⟨g, O + 4, none⟩ = false := (dd 4 (by omega)).2
        have f5 : w2.frozen? ⟨g, O + 5, none⟩ = false := (dd 5 (by omega)).2
        have w1 : IntKind.i64.wrap ((i : Int) + 1) = (i : Int) + 1 := IntWalk.i64_in _ (by omega)
        clear k0 k1 k2 k3 k4 k5 dd ht2 hhF
        go_wp2_with fail
        go_roundw
        case rel =>
          have hTu := set6_turn w2 g O (.int .i64 98) (.bool false) (.int .i64 0) (.string ⟨#[]⟩) (.string ⟨#[]⟩) (.slice none 0 0)
          have hR := set6_row hrow2.out O (.int .i64 98) (.bool false) (.int .i64 0) (.string ⟨#[]⟩) (.string ⟨#[]⟩) (.slice none 0 0)
          have hg : w.heap.size ≤ g → False := fun hg => by have := HF.out g (HFO.out g rfl); omega
          have hgF : F g := HFO.out g rfl
          have hTT : Turn (fun b => Fs i b ∨ b = g) wr (set6 w2 g O (.int .i64 98) (.bool false) (.int .i64 0) (.string ⟨#[]⟩) (.string ⟨#[]⟩) (.slice none 0 0)) :=
            (HT2.out.mono (fun b _ hb => .inl hb)).trans (hTu.mono (fun b _ hb => .inr hb))
          refine ⟨i + 1, _, by omega, by go_num, Lib.hid (hT.out.trans (hTT.mono (fun b _ hb => by
            rcases hb with hb | hb
            · exact (HFS.out i b hlt hb).1
            · rw [hb]; exact hgF))), Lib.hid ((hTu.block h (by have := hhs.out; have := HT2.out.size; omega) (fun e => HHF.out (by rw [e]; exact hgF))).trans (Had.out ▸ hB2.out)), Lib.hid (Had.out ▸ hR), Lib.hid (fun j hj => ?_), Lib.hid (fun j z hj hz => ?_), Nat.le_trans hsz hTT.size⟩
          · rw [set6_past _ _ _ _ _ _ _ _ _ (by rw [← HO.out]; omega)]
            exact hys.out j (by omega)
          · have hjl : j < ln := by rw [← HLN.out]; exact (List.getElem?_eq_some_iff.1 hz).1
            refine (hel.out j z (by omega) hz).turn hTT (fun b hb h2 => ?_)
            rcases h2 with h2 | h2
            · exact HDIS.out i j b hlt hjl (by omega) h2 hb
            · exact (HFS.out j b hjl hb).2 (by rw [h2]; rfl)
        case measure => simp [intOf]; omega
      · have hie : i = ln := by omega
        go_wp2_with fail
        go_end0
        exact ⟨rfl, hT.out⟩
set_option maxRecDepth 100000 in
set_option maxHeartbeats 1000000 in
theorem overV_any (v : Val) (hs : sizeV v ≤ 10000000000) (F : Nat → Prop) (u : Value) (w : World) (hF : ∀ g, F g → g < w.heap.size) (hv : VOwn w F v u) :
    Calls Tryd.prog 48 #[u] w (OverIs F w) := by
  have hck := Lib.hid (fun o : Obj => over_any (sizeV v + 1) v (by omega) hs F u (w.alloc o) (fun g hg => by have := hF g hg; simp; omega) (hv.turn (Turn.of_below ((Below.refl w.heap.size w).alloc (Nat.le_refl _) o)) (fun b hb h => by have := hF b hb; omega)))
  obtain ⟨s, hu, _⟩ := hv.inv
  subst hu
  have HF := Lib.hid hF
  cases v with
  | mk k b n t x l =>
  unfold cellsV at hck ⊢
  simp only [Val.kind, Val.truth, Val.num, Val.text, Val.extra] at hck ⊢
  clear hv hF
  go_enter Tryd.func48, Tryd.ntmps48
  go_wp2_with fail
  refine (hck.out _).mono ?_
  rintro e w1 ⟨rfl, hb⟩
  have HB := Lib.hid ((((Turn.refl (fun _ => False) w).alloc (.cells #[.int .i64 k, .bool b, .int .i64 n, .string t, .string x, s] 84)).mono (fun i _ h => h.elim)).trans hb)
  clear hb
  go_wp2_with fail
  go_end0
  exact ⟨rfl, HB.out⟩
end Go.Proofs.YtdhnmgndekncpaaDoor
