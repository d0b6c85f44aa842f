/- Walk of next of package lex: printed by a small program. -/
import Derived.Test.YtngdilbfhpcfgaaGreatDoorXE
set_option linter.unusedSimpArgs false
set_option linter.unusedVariables false
namespace Go.Proofs.YtngdilbfhpcfgaaGreatDoor
set_option maxRecDepth 100000
open Go.RowKit

theorem bcell {W w1 : World} (hb : Below W.heap.size W w1) : (∀ b o, b < W.heap.size → w1.cell? ⟨b, o, none⟩ = W.cell? ⟨b, o, none⟩) ∧ (∀ b o, b < W.heap.size → w1.frozen? ⟨b, o, none⟩ = W.frozen? ⟨b, o, none⟩) :=
  ⟨fun b o h => hb.cell (p := ⟨b, o, none⟩) h, fun b o h => hb.frozen (p := ⟨b, o, none⟩) h⟩

/-- A lexeme's five cells in a block, none of them frozen. -/
def Res5 (w : World) (g : Nat) (a0 a1 a2 a3 a4 : Value) : Prop :=
  (w.cell? ⟨g, 0, none⟩ = some a0 ∧ w.cell? ⟨g, 1, none⟩ = some a1 ∧ w.cell? ⟨g, 2, none⟩ = some a2 ∧ w.cell? ⟨g, 3, none⟩ = some a3 ∧ w.cell? ⟨g, 4, none⟩ = some a4) ∧
  (w.frozen? ⟨g, 0, none⟩ = false ∧ w.frozen? ⟨g, 1, none⟩ = false ∧ w.frozen? ⟨g, 2, none⟩ = false ∧ w.frozen? ⟨g, 3, none⟩ = false ∧ w.frozen? ⟨g, 4, none⟩ = false)
theorem Res5.below {w w' : World} {g : Nat} {a0 a1 a2 a3 a4 : Value} (h : Res5 w g a0 a1 a2 a3 a4) (hg : g < w.heap.size) (hb : Below w.heap.size w w') : Res5 w' g a0 a1 a2 a3 a4 := by
  obtain ⟨⟨h0, h1, h2, h3, h4⟩, f0, f1, f2, f3, f4⟩ := h
  obtain ⟨hc, hf⟩ := bcell hb
  exact ⟨⟨(hc _ _ hg).trans h0, (hc _ _ hg).trans h1, (hc _ _ hg).trans h2, (hc _ _ hg).trans h3, (hc _ _ hg).trans h4⟩, (hf _ _ hg).trans f0, (hf _ _ hg).trans f1, (hf _ _ hg).trans f2, (hf _ _ hg).trans f3, (hf _ _ hg).trans f4⟩
theorem Res5.new (w : World) (a0 a1 a2 a3 a4 : Value) : Res5 (w.alloc (.cells #[a0, a1, a2, a3, a4] 76)) w.heap.size a0 a1 a2 a3 a4 := by
  have h : (w.alloc (.cells #[a0, a1, a2, a3, a4] 76)).heap[w.heap.size]? = some (.cells #[a0, a1, a2, a3, a4] 76 (0, 0)) := heap_alloc_new w _
  have hc : ∀ i, (w.alloc (.cells #[a0, a1, a2, a3, a4] 76)).cell? ⟨w.heap.size, i, none⟩ = (#[a0, a1, a2, a3, a4] : Array Value)[i]? := fun i => Lib.cell_of_heap h i
  have hf : ∀ i, (w.alloc (.cells #[a0, a1, a2, a3, a4] 76)).frozen? ⟨w.heap.size, i, none⟩ = false := fun i => Lib.frozen_of_heap h i
  exact ⟨⟨hc 0, hc 1, hc 2, hc 3, hc 4⟩, hf 0, hf 1, hf 2, hf 3, hf 4⟩
theorem Res5.set5 {w : World} {g : Nat} {a0 a1 a2 a3 a4 : Value} (h : Res5 w g a0 a1 a2 a3 a4) (x0 x1 x2 x3 x4 : Value) :
    Res5 (((((w.setCell ⟨g, 0, none⟩ x0).setCell ⟨g, 1, none⟩ x1).setCell ⟨g, 2, none⟩ x2).setCell ⟨g, 3, none⟩ x3).setCell ⟨g, 4, none⟩ x4) g x0 x1 x2 x3 x4 := by
  obtain ⟨⟨h0, h1, h2, h3, h4⟩, f0, f1, f2, f3, f4⟩ := h
  refine ⟨⟨?_, ?_, ?_, ?_, ?_⟩, ?_, ?_, ?_, ?_, ?_⟩ <;> simp [go_sem, h0, h1, h2, h3, h4, f0, f1, f2, f3, f4]
theorem Res5.drewN {w : World} {g : Nat} {a0 a1 a2 a3 a4 : Value} (h : Res5 w g a0 a1 a2 a3 a4) (n : Nat) : Res5 (w.drewN n) g a0 a1 a2 a3 a4 := h
theorem Res5.read41 {w : World} {g : Nat} {a0 a1 a2 a3 a4 v : Value} {tmps : Array Value} (h : Res5 w g a0 a1 a2 a3 a4) (h4 : tmps[4]?.getD undef = .pointer (some ⟨g, 0, none⟩)) (h5 : tmps[5]?.getD undef = v) :
    (results Tryz.f85 tmps).run Tryz.prog w = .ok (.tuple #[.agg #[a0, a1, a2, a3, a4], v]) w := by
  obtain ⟨⟨c0, c1, c2, c3, c4⟩, _⟩ := h
  simp [results, Tryz.results85, go_sem, h4, h5, c0, c1, c2, c3, c4]

theorem ownLx_pos {lang : Int} {blank : Bool} {r : List UInt8} {x : Lx} (h : ownLx lang blank r = some x) : 0 < x.len := by
  unfold ownLx at h
  split at h
  · cases h
  split at h
  · split at h
    · injection h with h; subst h; simp
    · cases h
  split at h
  · split at h
    · injection h with h; subst h; assumption
    · cases h
  split at h
  · split at h
    · split at h
      · injection h with h; subst h; simp; omega
      · cases h
    · cases h
  · cases h

set_option maxHeartbeats 1000000 in
theorem next_own (b : Nat) (s : ByteArray) (p : Nat) (lang : Int) (blank : Bool) (w : World) (hs : s.size ≤ 100000) (ha : p ≤ s.size) (hb : b < w.heap.size)
   (hl : LexAt w b s p) (h1 : w.cell? ⟨b, 1, none⟩ = some (.int .i64 lang)) (x : Lx) (hx : ownLx lang blank (s.data.toList.drop p) = some x) :
    Calls Tryz.prog 85 #[.pointer (some ⟨b, 0, none⟩), .bool blank] w fun e w' => e = .returned (lxVal (some (nextLx lang blank (s.data.toList.drop p)))) ∧ Below w.heap.size w w' := by
  have hlen : (s.data.toList.drop p).length = s.size - p := by simp
  have hbw : Below w.heap.size w (w.alloc (.cells #[.int .i64 0, .string ⟨#[]⟩, .string ⟨#[]⟩, .int .i64 0, .int .i64 0] 76)) := (Below.refl _ _).alloc (Nat.le_refl _) _
  have hlw := lexAt_below hl hb hbw
  have h1w : (w.alloc (.cells #[.int .i64 0, .string ⟨#[]⟩, .string ⟨#[]⟩, .int .i64 0, .int .i64 0] 76)).cell? ⟨b, 1, none⟩ = some (.int .i64 lang) := (hbw.cell (p := ⟨b, 1, none⟩) hb).trans h1
  clear hlen
  have hp := ownLx_pos hx
  obtain ⟨k, t, e, n⟩ := x
  obtain ⟨T, HT⟩ := name_it (strB t)
  obtain ⟨E, HE⟩ := name_it (strB e)
  have HO := Lib.hid hx
  have HR := Lib.hid (show some (nextLx lang blank (s.data.toList.drop p)) = some ⟨k, t, e, n⟩ by unfold nextLx; rw [hx])
  have hp : 0 < n := hp
  clear hx
  go_enter Tryz.func85, Tryz.ntmps85
  go_wp2_with fail
  refine (own_any b s p lang blank _ hs ha (by simp; omega) hlw h1w).mono ?_
  rintro e w1 ⟨rfl, hb1⟩
  rw [lxVal_some HO.out HT.out HE.out]
  have hl1 := lexAt_below hlw (by simp; omega) hb1
  have hz1 : w.heap.size < w1.heap.size := by have := hb1.size; simp at this; omega
  have hbw1 : Below w.heap.size w w1 := hbw.trans (hb1.mono (by simp))
  have r1 := (Res5.new w _ _ _ _ _).below (by simp) hb1
  obtain ⟨⟨c0, c1, c2, c3, c4⟩, f0, f1, f2, f3, f4⟩ := r1
  go_wp2
  refine bodyPost_ret (v := .tuple #[.agg #[.int .i64 k, .string T, .string E, .int .i64 0, .int .i64 0], .int .i64 n]) ((((show Res5 w1 w.heap.size _ _ _ _ _ from ⟨⟨c0, c1, c2, c3, c4⟩, f0, f1, f2, f3, f4⟩).set5 _ _ _ _ _).set5 _ _ _ _ _).read41 rfl rfl) rfl ⟨by rw [lxVal_some HR.out HT.out HE.out], ?_⟩
  exact below_set5 (below_set5 hbw1 (Nat.le_refl _)) (Nat.le_refl _)

set_option maxHeartbeats 1000000 in
theorem next_word (b : Nat) (s : ByteArray) (p : Nat) (lang : Int) (blank : Bool) (w : World) (hs : s.size ≤ 100000) (ha : p ≤ s.size) (hb : b < w.heap.size)
   (hl : LexAt w b s p) (h1 : w.cell? ⟨b, 1, none⟩ = some (.int .i64 lang)) (ho : ownLx lang blank (s.data.toList.drop p) = none) (hlet : letB (pk (s.data.toList.drop p) 0) = true) :
    Calls Tryz.prog 85 #[.pointer (some ⟨b, 0, none⟩), .bool blank] w fun e w' => e = .returned (lxVal (some (nextLx lang blank (s.data.toList.drop p)))) ∧ Below w.heap.size w w' := by
  have hlen : (s.data.toList.drop p).length = s.size - p := by simp
  have hbw : Below w.heap.size w (w.alloc (.cells #[.int .i64 0, .string ⟨#[]⟩, .string ⟨#[]⟩, .int .i64 0, .int .i64 0] 76)) := (Below.refl _ _).alloc (Nat.le_refl _) _
  have hlw := lexAt_below hl hb hbw
  have h1w : (w.alloc (.cells #[.int .i64 0, .string ⟨#[]⟩, .string ⟨#[]⟩, .int .i64 0, .int .i64 0] 76)).cell? ⟨b, 1, none⟩ = some (.int .i64 lang) := (hbw.cell (p := ⟨b, 1, none⟩) hb).trans h1
  have HO := Lib.hid ho
  have hnx : nextLx lang blank (s.data.toList.drop p) = plainLx (s.data.toList.drop p) := by unfold nextLx; rw [ho]
  clear ho
  obtain ⟨c, HC⟩ := name_it (pk (s.data.toList.drop p) 0)
  have LC := Lib.hid (show letB c = true by rw [← HC.out]; exact hlet)
  obtain ⟨n, HN⟩ := name_it (wordLen (s.data.toList.drop p))
  obtain ⟨T, HT⟩ := name_it (strB ((s.data.toList.drop p).take n))
  have hwn : n ≤ s.size - p := by
    rw [← HN.out, ← hlen]
    exact wordLen_le _
  have HR := Lib.hid (show some (nextLx lang blank (s.data.toList.drop p)) = some ⟨0, (s.data.toList.drop p).take n, [], n⟩ by rw [hnx]; unfold plainLx; rw [if_pos hlet, HN.out])
  clear hlen hlet hnx
  go_enter Tryz.func85, Tryz.ntmps85
  go_wp2_with fail
  refine (own_any b s p lang blank _ hs ha (by simp; omega) hlw h1w).mono ?_
  rintro e w1 ⟨rfl, hb1⟩
  rw [lxVal_none HO.out]
  have hl1 := lexAt_below hlw (by simp; omega) hb1
  have hz1 : w.heap.size < w1.heap.size := by have := hb1.size; simp at this; omega
  have hbw1 : Below w.heap.size w w1 := hbw.trans (hb1.mono (by simp))
  have r1 := (Res5.new w _ _ _ _ _).below (by simp) hb1
  obtain ⟨⟨c0, c1, c2, c3, c4⟩, f0, f1, f2, f3, f4⟩ := r1
  have hbs : Below w.heap.size w ((((((w1.setCell ⟨w.heap.size, 0, none⟩ (.int .i64 0)).setCell ⟨w.heap.size, 1, none⟩ (.string ⟨#[]⟩)).setCell ⟨w.heap.size, 2, none⟩ (.string ⟨#[]⟩)).setCell ⟨w.heap.size, 3, none⟩ (.int .i64 0)).setCell ⟨w.heap.size, 4, none⟩ (.int .i64 0))) := below_set5 hbw1 (Nat.le_refl _)
  obtain ⟨⟨b0, b1, b2, b3, b4⟩, e0, e1, e2, e3, e4⟩ : Res5 ((((((w1.setCell ⟨w.heap.size, 0, none⟩ (.int .i64 0)).setCell ⟨w.heap.size, 1, none⟩ (.string ⟨#[]⟩)).setCell ⟨w.heap.size, 2, none⟩ (.string ⟨#[]⟩)).setCell ⟨w.heap.size, 3, none⟩ (.int .i64 0)).setCell ⟨w.heap.size, 4, none⟩ (.int .i64 0))) w.heap.size (.int .i64 0) (.string ⟨#[]⟩) (.string ⟨#[]⟩) (.int .i64 0) (.int .i64 0) := by
    exact (show Res5 w1 w.heap.size _ _ _ _ _ from ⟨⟨c0, c1, c2, c3, c4⟩, f0, f1, f2, f3, f4⟩).set5 _ _ _ _ _
  have RS : Res5 ((((((w1.setCell ⟨w.heap.size, 0, none⟩ (.int .i64 0)).setCell ⟨w.heap.size, 1, none⟩ (.string ⟨#[]⟩)).setCell ⟨w.heap.size, 2, none⟩ (.string ⟨#[]⟩)).setCell ⟨w.heap.size, 3, none⟩ (.int .i64 0)).setCell ⟨w.heap.size, 4, none⟩ (.int .i64 0))) w.heap.size _ _ _ _ _ := ⟨⟨b0, b1, b2, b3, b4⟩, e0, e1, e2, e3, e4⟩
  have hls : LexAt ((((((w1.setCell ⟨w.heap.size, 0, none⟩ (.int .i64 0)).setCell ⟨w.heap.size, 1, none⟩ (.string ⟨#[]⟩)).setCell ⟨w.heap.size, 2, none⟩ (.string ⟨#[]⟩)).setCell ⟨w.heap.size, 3, none⟩ (.int .i64 0)).setCell ⟨w.heap.size, 4, none⟩ (.int .i64 0))) b s p := lexAt_below hl hb hbs
  go_wp2_with fail
  refine (peek_to hs ha hls 0 0 _ _ rfl (by omega) HC.out).mono ?_
  rintro e w' ⟨rfl, j1, rfl⟩
  go_wp2_with fail
  refine (letter_any _ _).mono ?_
  rintro e w' ⟨rfl, rfl⟩
  rw [LC.out]
  go_wp2_with fail
  refine (word_at hs ha hls _ 0 _ _ rfl (by omega) HN.out).mono ?_
  rintro e w' ⟨rfl, j2, rfl⟩
  go_wp2_with fail
  refine (part_at hs hls _ 0 n _ _ _ rfl rfl (by omega) HT.out).mono ?_
  rintro e w' ⟨rfl, j3, rfl⟩
  go_wp2
  refine bodyPost_ret (v := .tuple #[.agg #[.int .i64 0, .string T, .string ⟨#[]⟩, .int .i64 0, .int .i64 0], .int .i64 (n : Nat)]) (((RS.drewN _).set5 _ _ _ _ _).read41 rfl rfl) rfl ⟨by rw [lxVal_some HR.out HT.out rfl]; rfl, ?_⟩
  exact below_set5 (below_drewN hbs _) (Nat.le_refl _)

set_option maxHeartbeats 1000000 in
theorem next_dec (b : Nat) (s : ByteArray) (p : Nat) (lang : Int) (blank : Bool) (w : World) (hs : s.size ≤ 100000) (ha : p ≤ s.size) (hb : b < w.heap.size)
   (hl : LexAt w b s p) (h1 : w.cell? ⟨b, 1, none⟩ = some (.int .i64 lang)) (ho : ownLx lang blank (s.data.toList.drop p) = none) (hdig : digB (pk (s.data.toList.drop p) 0) = true) (hd : pk (s.data.toList.drop p) (digLen (s.data.toList.drop p)) = 46) (hm : 0 < digLen ((s.data.toList.drop p).drop (digLen (s.data.toList.drop p) + 1))) :
    Calls Tryz.prog 85 #[.pointer (some ⟨b, 0, none⟩), .bool blank] w fun e w' => e = .returned (lxVal (some (nextLx lang blank (s.data.toList.drop p)))) ∧ Below w.heap.size w w' := by
  have hlen : (s.data.toList.drop p).length = s.size - p := by simp
  have hbw : Below w.heap.size w (w.alloc (.cells #[.int .i64 0, .string ⟨#[]⟩, .string ⟨#[]⟩, .int .i64 0, .int .i64 0] 76)) := (Below.refl _ _).alloc (Nat.le_refl _) _
  have hlw := lexAt_below hl hb hbw
  have h1w : (w.alloc (.cells #[.int .i64 0, .string ⟨#[]⟩, .string ⟨#[]⟩, .int .i64 0, .int .i64 0] 76)).cell? ⟨b, 1, none⟩ = some (.int .i64 lang) := (hbw.cell (p := ⟨b, 1, none⟩) hb).trans h1
  have HO := Lib.hid ho
  have hnx : nextLx lang blank (s.data.toList.drop p) = plainLx (s.data.toList.drop p) := by unfold nextLx; rw [ho]
  clear ho
  obtain ⟨c, HC⟩ := name_it (pk (s.data.toList.drop p) 0)
  have hlet' : letB (pk (s.data.toList.drop p) 0) = false := by unfold digB at hdig; unfold letB; simp at hdig ⊢; omega
  have LC := Lib.hid (show letB c = false by rw [← HC.out]; exact hlet')
  have DC := Lib.hid (show digB c = true by rw [← HC.out]; exact hdig)
  obtain ⟨n, HN⟩ := name_it (digLen (s.data.toList.drop p))
  obtain ⟨m, HM⟩ := name_it (digLen ((s.data.toList.drop p).drop (n + 1)))
  obtain ⟨d, HD⟩ := name_it (pk (s.data.toList.drop p) n)
  have hwn : n ≤ s.size - p := by
    rw [← HN.out, ← hlen]
    exact digLen_le _
  have hwm : m ≤ s.size - p - (n + 1) := by
    rw [← HM.out, ← hlen]
    have := digLen_le ((s.data.toList.drop p).drop (n + 1))
    rw [List.length_drop] at this; omega
  rw [HN.out] at hd hm
  rw [HM.out] at hm
  have hd' : d = 46 := by rw [← HD.out]; exact hd
  obtain ⟨T, HT⟩ := name_it (strB ((s.data.toList.drop p).take (n + (1 + m))))
  have HR := Lib.hid (show some (nextLx lang blank (s.data.toList.drop p)) = some ⟨3, (s.data.toList.drop p).take (n + (1 + m)), [], n + (1 + m)⟩ by rw [hnx]; unfold plainLx; rw [if_neg (by rw [hlet']; decide), if_pos hdig, HN.out, HD.out, HM.out, if_pos ⟨hd', hm⟩])
  clear hlen hlet' hdig hnx hd
  subst hd'
  go_enter Tryz.func85, Tryz.ntmps85
  go_wp2_with fail
  refine (own_any b s p lang blank _ hs ha (by simp; omega) hlw h1w).mono ?_
  rintro e w1 ⟨rfl, hb1⟩
  rw [lxVal_none HO.out]
  have hl1 := lexAt_below hlw (by simp; omega) hb1
  have hz1 : w.heap.size < w1.heap.size := by have := hb1.size; simp at this; omega
  have hbw1 : Below w.heap.size w w1 := hbw.trans (hb1.mono (by simp))
  have r1 := (Res5.new w _ _ _ _ _).below (by simp) hb1
  obtain ⟨⟨c0, c1, c2, c3, c4⟩, f0, f1, f2, f3, f4⟩ := r1
  have hbs : Below w.heap.size w ((((((w1.setCell ⟨w.heap.size, 0, none⟩ (.int .i64 0)).setCell ⟨w.heap.size, 1, none⟩ (.string ⟨#[]⟩)).setCell ⟨w.heap.size, 2, none⟩ (.string ⟨#[]⟩)).setCell ⟨w.heap.size, 3, none⟩ (.int .i64 0)).setCell ⟨w.heap.size, 4, none⟩ (.int .i64 0))) := below_set5 hbw1 (Nat.le_refl _)
  obtain ⟨⟨b0, b1, b2, b3, b4⟩, e0, e1, e2, e3, e4⟩ : Res5 ((((((w1.setCell ⟨w.heap.size, 0, none⟩ (.int .i64 0)).setCell ⟨w.heap.size, 1, none⟩ (.string ⟨#[]⟩)).setCell ⟨w.heap.size, 2, none⟩ (.string ⟨#[]⟩)).setCell ⟨w.heap.size, 3, none⟩ (.int .i64 0)).setCell ⟨w.heap.size, 4, none⟩ (.int .i64 0))) w.heap.size (.int .i64 0) (.string ⟨#[]⟩) (.string ⟨#[]⟩) (.int .i64 0) (.int .i64 0) := by
    exact (show Res5 w1 w.heap.size _ _ _ _ _ from ⟨⟨c0, c1, c2, c3, c4⟩, f0, f1, f2, f3, f4⟩).set5 _ _ _ _ _
  have RS : Res5 ((((((w1.setCell ⟨w.heap.size, 0, none⟩ (.int .i64 0)).setCell ⟨w.heap.size, 1, none⟩ (.string ⟨#[]⟩)).setCell ⟨w.heap.size, 2, none⟩ (.string ⟨#[]⟩)).setCell ⟨w.heap.size, 3, none⟩ (.int .i64 0)).setCell ⟨w.heap.size, 4, none⟩ (.int .i64 0))) w.heap.size _ _ _ _ _ := ⟨⟨b0, b1, b2, b3, b4⟩, e0, e1, e2, e3, e4⟩
  have hls : LexAt ((((((w1.setCell ⟨w.heap.size, 0, none⟩ (.int .i64 0)).setCell ⟨w.heap.size, 1, none⟩ (.string ⟨#[]⟩)).setCell ⟨w.heap.size, 2, none⟩ (.string ⟨#[]⟩)).setCell ⟨w.heap.size, 3, none⟩ (.int .i64 0)).setCell ⟨w.heap.size, 4, none⟩ (.int .i64 0))) b s p := lexAt_below hl hb hbs
  go_wp2_with fail
  refine (peek_to hs ha hls 0 0 _ _ rfl (by omega) HC.out).mono ?_
  rintro e w' ⟨rfl, j1, rfl⟩
  go_wp2_with fail
  refine (letter_any _ _).mono ?_
  rintro e w' ⟨rfl, rfl⟩
  rw [LC.out]
  go_wp2_with fail
  refine (digit_any _ _).mono ?_
  rintro e w' ⟨rfl, rfl⟩
  rw [DC.out]
  go_wp2_with fail
  refine (digits_at hs ha hls _ 0 _ _ rfl (by omega) HN.out).mono ?_
  rintro e w' ⟨rfl, j2, rfl⟩
  go_wp2_with fail
  refine (digits_at hs ha hls _ (n + 1) _ _ (by push_cast; rfl) (by omega) HM.out).mono ?_
  rintro e w' ⟨rfl, j3, rfl⟩
  go_wp2_with fail
  refine (peek_to hs ha hls _ n _ _ rfl (by omega) HD.out).mono ?_
  rintro e w' ⟨rfl, j4, rfl⟩
  go_wp2_with fail
  refine (part_at hs hls _ 0 (n + (1 + m)) _ _ _ rfl (by push_cast; omega) (by omega) HT.out).mono ?_
  rintro e w' ⟨rfl, j5, rfl⟩
  go_wp2
  refine bodyPost_ret (v := .tuple #[.agg #[.int .i64 3, .string T, .string ⟨#[]⟩, .int .i64 0, .int .i64 0], .int .i64 (n + (1 + m) : Nat)]) (((RS.drewN _).set5 _ _ _ _ _).read41 rfl rfl) rfl ⟨by rw [lxVal_some HR.out HT.out rfl]; rfl, ?_⟩
  exact below_set5 (below_drewN hbs _) (Nat.le_refl _)

set_option maxHeartbeats 1000000 in
theorem next_int (b : Nat) (s : ByteArray) (p : Nat) (lang : Int) (blank : Bool) (w : World) (hs : s.size ≤ 100000) (ha : p ≤ s.size) (hb : b < w.heap.size)
   (hl : LexAt w b s p) (h1 : w.cell? ⟨b, 1, none⟩ = some (.int .i64 lang)) (ho : ownLx lang blank (s.data.toList.drop p) = none) (hdig : digB (pk (s.data.toList.drop p) 0) = true) (hd : ¬ (pk (s.data.toList.drop p) (digLen (s.data.toList.drop p)) = 46 ∧ 0 < digLen ((s.data.toList.drop p).drop (digLen (s.data.toList.drop p) + 1)))) :
    Calls Tryz.prog 85 #[.pointer (some ⟨b, 0, none⟩), .bool blank] w fun e w' => e = .returned (lxVal (some (nextLx lang blank (s.data.toList.drop p)))) ∧ Below w.heap.size w w' := by
  have hlen : (s.data.toList.drop p).length = s.size - p := by simp
  have hbw : Below w.heap.size w (w.alloc (.cells #[.int .i64 0, .string ⟨#[]⟩, .string ⟨#[]⟩, .int .i64 0, .int .i64 0] 76)) := (Below.refl _ _).alloc (Nat.le_refl _) _
  have hlw := lexAt_below hl hb hbw
  have h1w : (w.alloc (.cells #[.int .i64 0, .string ⟨#[]⟩, .string ⟨#[]⟩, .int .i64 0, .int .i64 0] 76)).cell? ⟨b, 1, none⟩ = some (.int .i64 lang) := (hbw.cell (p := ⟨b, 1, none⟩) hb).trans h1
  have HO := Lib.hid ho
  have hnx : nextLx lang blank (s.data.toList.drop p) = plainLx (s.data.toList.drop p) := by unfold nextLx; rw [ho]
  clear ho
  obtain ⟨c, HC⟩ := name_it (pk (s.data.toList.drop p) 0)
  have hlet' : letB (pk (s.data.toList.drop p) 0) = false := by unfold digB at hdig; unfold letB; simp at hdig ⊢; omega
  have LC := Lib.hid (show letB c = false by rw [← HC.out]; exact hlet')
  have DC := Lib.hid (show digB c = true by rw [← HC.out]; exact hdig)
  obtain ⟨n, HN⟩ := name_it (digLen (s.data.toList.drop p))
  obtain ⟨m, HM⟩ := name_it (digLen ((s.data.toList.drop p).drop (n + 1)))
  obtain ⟨d, HD⟩ := name_it (pk (s.data.toList.drop p) n)
  have hwn : n ≤ s.size - p := by
    rw [← HN.out, ← hlen]
    exact digLen_le _
  have hwm : m ≤ s.size - p - (n + 1) := by
    rw [← HM.out, ← hlen]
    have := digLen_le ((s.data.toList.drop p).drop (n + 1))
    rw [List.length_drop] at this; omega
  rw [HN.out, HM.out, HD.out] at hd
  obtain ⟨T, HT⟩ := name_it (strB ((s.data.toList.drop p).take n))
  have HR := Lib.hid (show some (nextLx lang blank (s.data.toList.drop p)) = some ⟨2, (s.data.toList.drop p).take n, [], n⟩ by rw [hnx]; unfold plainLx; rw [if_neg (by rw [hlet']; decide), if_pos hdig, HN.out, HD.out, HM.out, if_neg hd])
  clear hlen hlet' hdig hnx
  by_cases h46 : d = 46
  · have hm : m = 0 := by omega
    clear hd hwm
    subst h46
    subst hm
    go_enter Tryz.func85, Tryz.ntmps85
    go_wp2_with fail
    refine (own_any b s p lang blank _ hs ha (by simp; omega) hlw h1w).mono ?_
    rintro e w1 ⟨rfl, hb1⟩
    rw [lxVal_none HO.out]
    have hl1 := lexAt_below hlw (by simp; omega) hb1
    have hz1 : w.heap.size < w1.heap.size := by have := hb1.size; simp at this; omega
    have hbw1 : Below w.heap.size w w1 := hbw.trans (hb1.mono (by simp))
    have r1 := (Res5.new w _ _ _ _ _).below (by simp) hb1
    obtain ⟨⟨c0, c1, c2, c3, c4⟩, f0, f1, f2, f3, f4⟩ := r1
    have hbs : Below w.heap.size w ((((((w1.setCell ⟨w.heap.size, 0, none⟩ (.int .i64 0)).setCell ⟨w.heap.size, 1, none⟩ (.string ⟨#[]⟩)).setCell ⟨w.heap.size, 2, none⟩ (.string ⟨#[]⟩)).setCell ⟨w.heap.size, 3, none⟩ (.int .i64 0)).setCell ⟨w.heap.size, 4, none⟩ (.int .i64 0))) := below_set5 hbw1 (Nat.le_refl _)
    obtain ⟨⟨b0, b1, b2, b3, b4⟩, e0, e1, e2, e3, e4⟩ : Res5 ((((((w1.setCell ⟨w.heap.size, 0, none⟩ (.int .i64 0)).setCell ⟨w.heap.size, 1, none⟩ (.string ⟨#[]⟩)).setCell ⟨w.heap.size, 2, none⟩ (.string ⟨#[]⟩)).setCell ⟨w.heap.size, 3, none⟩ (.int .i64 0)).setCell ⟨w.heap.size, 4, none⟩ (.int .i64 0))) w.heap.size (.int .i64 0) (.string ⟨#[]⟩) (.string ⟨#[]⟩) (.int .i64 0) (.int .i64 0) := by
      exact (show Res5 w1 w.heap.size _ _ _ _ _ from ⟨⟨c0, c1, c2, c3, c4⟩, f0, f1, f2, f3, f4⟩).set5 _ _ _ _ _
    have RS : Res5 ((((((w1.setCell ⟨w.heap.size, 0, none⟩ (.int .i64 0)).setCell ⟨w.heap.size, 1, none⟩ (.string ⟨#[]⟩)).setCell ⟨w.heap.size, 2, none⟩ (.string ⟨#[]⟩)).setCell ⟨w.heap.size, 3, none⟩ (.int .i64 0)).setCell ⟨w.heap.size, 4, none⟩ (.int .i64 0))) w.heap.size _ _ _ _ _ := ⟨⟨b0, b1, b2, b3, b4⟩, e0, e1, e2, e3, e4⟩
    have hls : LexAt ((((((w1.setCell ⟨w.heap.size, 0, none⟩ (.int .i64 0)).setCell ⟨w.heap.size, 1, none⟩ (.string ⟨#[]⟩)).setCell ⟨w.heap.size, 2, none⟩ (.string ⟨#[]⟩)).setCell ⟨w.heap.size, 3, none⟩ (.int .i64 0)).setCell ⟨w.heap.size, 4, none⟩ (.int .i64 0))) b s p := lexAt_below hl hb hbs
    go_wp2_with fail
    refine (peek_to hs ha hls 0 0 _ _ rfl (by omega) HC.out).mono ?_
    rintro e w' ⟨rfl, j1, rfl⟩
    go_wp2_with fail
    refine (letter_any _ _).mono ?_
    rintro e w' ⟨rfl, rfl⟩
    rw [LC.out]
    go_wp2_with fail
    refine (digit_any _ _).mono ?_
    rintro e w' ⟨rfl, rfl⟩
    rw [DC.out]
    go_wp2_with fail
    refine (digits_at hs ha hls _ 0 _ _ rfl (by omega) HN.out).mono ?_
    rintro e w' ⟨rfl, j2, rfl⟩
    go_wp2_with fail
    refine (digits_at hs ha hls _ (n + 1) _ _ (by push_cast; rfl) (by omega) HM.out).mono ?_
    rintro e w' ⟨rfl, j3, rfl⟩
    go_wp2_with fail
    refine (peek_to hs ha hls _ n _ _ rfl (by omega) HD.out).mono ?_
    rintro e w' ⟨rfl, j4, rfl⟩
    go_wp2_with fail
    refine (part_at hs hls _ 0 n _ _ _ rfl rfl (by omega) HT.out).mono ?_
    rintro e w' ⟨rfl, j5, rfl⟩
    go_wp2
    refine bodyPost_ret (v := .tuple #[.agg #[.int .i64 2, .string T, .string ⟨#[]⟩, .int .i64 0, .int .i64 0], .int .i64 (n : Nat)]) (((RS.drewN _).set5 _ _ _ _ _).read41 rfl rfl) rfl ⟨by rw [lxVal_some HR.out HT.out rfl]; rfl, ?_⟩
    exact below_set5 (below_drewN hbs _) (Nat.le_refl _)
  · have t5 : (d == 46) = false := by simpa using h46
    clear hd h46
    go_enter Tryz.func85, Tryz.ntmps85
    go_wp2_with fail
    refine (own_any b s p lang blank _ hs ha (by simp; omega) hlw h1w).mono ?_
    rintro e w1 ⟨rfl, hb1⟩
    rw [lxVal_none HO.out]
    have hl1 := lexAt_below hlw (by simp; omega) hb1
    have hz1 : w.heap.size < w1.heap.size := by have := hb1.size; simp at this; omega
    have hbw1 : Below w.heap.size w w1 := hbw.trans (hb1.mono (by simp))
    have r1 := (Res5.new w _ _ _ _ _).below (by simp) hb1
    obtain ⟨⟨c0, c1, c2, c3, c4⟩, f0, f1, f2, f3, f4⟩ := r1
    have hbs : Below w.heap.size w ((((((w1.setCell ⟨w.heap.size, 0, none⟩ (.int .i64 0)).setCell ⟨w.heap.size, 1, none⟩ (.string ⟨#[]⟩)).setCell ⟨w.heap.size, 2, none⟩ (.string ⟨#[]⟩)).setCell ⟨w.heap.size, 3, none⟩ (.int .i64 0)).setCell ⟨w.heap.size, 4, none⟩ (.int .i64 0))) := below_set5 hbw1 (Nat.le_refl _)
    obtain ⟨⟨b0, b1, b2, b3, b4⟩, e0, e1, e2, e3, e4⟩ : Res5 ((((((w1.setCell ⟨w.heap.size, 0, none⟩ (.int .i64 0)).setCell ⟨w.heap.size, 1, none⟩ (.string ⟨#[]⟩)).setCell ⟨w.heap.size, 2, none⟩ (.string ⟨#[]⟩)).setCell ⟨w.heap.size, 3, none⟩ (.int .i64 0)).setCell ⟨w.heap.size, 4, none⟩ (.int .i64 0))) w.heap.size (.int .i64 0) (.string ⟨#[]⟩) (.string ⟨#[]⟩) (.int .i64 0) (.int .i64 0) := by
      exact (show Res5 w1 w.heap.size _ _ _ _ _ from ⟨⟨c0, c1, c2, c3, c4⟩, f0, f1, f2, f3, f4⟩).set5 _ _ _ _ _
    have RS : Res5 ((((((w1.setCell ⟨w.heap.size, 0, none⟩ (.int .i64 0)).setCell ⟨w.heap.size, 1, none⟩ (.string ⟨#[]⟩)).setCell ⟨w.heap.size, 2, none⟩ (.string ⟨#[]⟩)).setCell ⟨w.heap.size, 3, none⟩ (.int .i64 0)).setCell ⟨w.heap.size, 4, none⟩ (.int .i64 0))) w.heap.size _ _ _ _ _ := ⟨⟨b0, b1, b2, b3, b4⟩, e0, e1, e2, e3, e4⟩
    have hls : LexAt ((((((w1.setCell ⟨w.heap.size, 0, none⟩ (.int .i64 0)).setCell ⟨w.heap.size, 1, none⟩ (.string ⟨#[]⟩)).setCell ⟨w.heap.size, 2, none⟩ (.string ⟨#[]⟩)).setCell ⟨w.heap.size, 3, none⟩ (.int .i64 0)).setCell ⟨w.heap.size, 4, none⟩ (.int .i64 0))) b s p := lexAt_below hl hb hbs
    go_wp2_with fail
    refine (peek_to hs ha hls 0 0 _ _ rfl (by omega) HC.out).mono ?_
    rintro e w' ⟨rfl, j1, rfl⟩
    go_wp2_with fail
    refine (letter_any _ _).mono ?_
    rintro e w' ⟨rfl, rfl⟩
    rw [LC.out]
    go_wp2_with fail
    refine (digit_any _ _).mono ?_
    rintro e w' ⟨rfl, rfl⟩
    rw [DC.out]
    go_wp2_with fail
    refine (digits_at hs ha hls _ 0 _ _ rfl (by omega) HN.out).mono ?_
    rintro e w' ⟨rfl, j2, rfl⟩
    go_wp2_with fail
    refine (digits_at hs ha hls _ (n + 1) _ _ (by push_cast; rfl) (by omega) HM.out).mono ?_
    rintro e w' ⟨rfl, j3, rfl⟩
    go_wp2_with fail
    refine (peek_to hs ha hls _ n _ _ rfl (by omega) HD.out).mono ?_
    rintro e w' ⟨rfl, j4, rfl⟩
    go_wp2_with fail
    refine (part_at hs hls _ 0 n _ _ _ rfl rfl (by omega) HT.out).mono ?_
    rintro e w' ⟨rfl, j5, rfl⟩
    go_wp2
    refine bodyPost_ret (v := .tuple #[.agg #[.int .i64 2, .string T, .string ⟨#[]⟩, .int .i64 0, .int .i64 0], .int .i64 (n : Nat)]) (((RS.drewN _).set5 _ _ _ _ _).read41 rfl rfl) rfl ⟨by rw [lxVal_some HR.out HT.out rfl]; rfl, ?_⟩
    exact below_set5 (below_drewN hbs _) (Nat.le_refl _)

set_option maxHeartbeats 1000000 in
theorem next_text (b : Nat) (s : ByteArray) (p : Nat) (lang : Int) (blank : Bool) (w : World) (hs : s.size ≤ 100000) (ha : p ≤ s.size) (hb : b < w.heap.size)
   (hl : LexAt w b s p) (h1 : w.cell? ⟨b, 1, none⟩ = some (.int .i64 lang)) (ho : ownLx lang blank (s.data.toList.drop p) = none) (hq : pk (s.data.toList.drop p) 0 = 34) :
    Calls Tryz.prog 85 #[.pointer (some ⟨b, 0, none⟩), .bool blank] w fun e w' => e = .returned (lxVal (some (nextLx lang blank (s.data.toList.drop p)))) ∧ Below w.heap.size w w' := by
  have hlen : (s.data.toList.drop p).length = s.size - p := by simp
  have hbw : Below w.heap.size w (w.alloc (.cells #[.int .i64 0, .string ⟨#[]⟩, .string ⟨#[]⟩, .int .i64 0, .int .i64 0] 76)) := (Below.refl _ _).alloc (Nat.le_refl _) _
  have hlw := lexAt_below hl hb hbw
  have h1w : (w.alloc (.cells #[.int .i64 0, .string ⟨#[]⟩, .string ⟨#[]⟩, .int .i64 0, .int .i64 0] 76)).cell? ⟨b, 1, none⟩ = some (.int .i64 lang) := (hbw.cell (p := ⟨b, 1, none⟩) hb).trans h1
  have HO := Lib.hid ho
  have hnx : nextLx lang blank (s.data.toList.drop p) = plainLx (s.data.toList.drop p) := by unfold nextLx; rw [ho]
  clear ho
  obtain ⟨c, HC⟩ := name_it (pk (s.data.toList.drop p) 0)
  have hlet' : letB (pk (s.data.toList.drop p) 0) = false := by rw [hq]; rfl
  have hdig' : digB (pk (s.data.toList.drop p) 0) = false := by rw [hq]; rfl
  have LC := Lib.hid (show letB (34 : Int) = false by rfl)
  have DC := Lib.hid (show digB (34 : Int) = false by rfl)
  have hc34 : c = 34 := by rw [← HC.out]; exact hq
  subst hc34
  rcases hqo : quoted (s.data.toList.drop p) with _ | ⟨t, n⟩
  · have HR := Lib.hid (show some (nextLx lang blank (s.data.toList.drop p)) = some ⟨4, [], [], 0⟩ by rw [hnx]; unfold plainLx; rw [if_neg (by rw [hlet']; decide), if_neg (by rw [hdig']; decide), if_pos hq, hqo])
    have HQ := Lib.hid (show quoVal (quoted (s.data.toList.drop p)) = .tuple #[.string ⟨#[]⟩, .int .i64 (0 : Nat)] by rw [hqo]; rfl)
    clear hlen hlet' hdig' hnx hq hqo
    go_enter Tryz.func85, Tryz.ntmps85
    go_wp2_with fail
    refine (own_any b s p lang blank _ hs ha (by simp; omega) hlw h1w).mono ?_
    rintro e w1 ⟨rfl, hb1⟩
    rw [lxVal_none HO.out]
    have hl1 := lexAt_below hlw (by simp; omega) hb1
    have hz1 : w.heap.size < w1.heap.size := by have := hb1.size; simp at this; omega
    have hbw1 : Below w.heap.size w w1 := hbw.trans (hb1.mono (by simp))
    have r1 := (Res5.new w _ _ _ _ _).below (by simp) hb1
    obtain ⟨⟨c0, c1, c2, c3, c4⟩, f0, f1, f2, f3, f4⟩ := r1
    have hbs : Below w.heap.size w ((((((w1.setCell ⟨w.heap.size, 0, none⟩ (.int .i64 0)).setCell ⟨w.heap.size, 1, none⟩ (.string ⟨#[]⟩)).setCell ⟨w.heap.size, 2, none⟩ (.string ⟨#[]⟩)).setCell ⟨w.heap.size, 3, none⟩ (.int .i64 0)).setCell ⟨w.heap.size, 4, none⟩ (.int .i64 0))) := below_set5 hbw1 (Nat.le_refl _)
    obtain ⟨⟨b0, b1, b2, b3, b4⟩, e0, e1, e2, e3, e4⟩ : Res5 ((((((w1.setCell ⟨w.heap.size, 0, none⟩ (.int .i64 0)).setCell ⟨w.heap.size, 1, none⟩ (.string ⟨#[]⟩)).setCell ⟨w.heap.size, 2, none⟩ (.string ⟨#[]⟩)).setCell ⟨w.heap.size, 3, none⟩ (.int .i64 0)).setCell ⟨w.heap.size, 4, none⟩ (.int .i64 0))) w.heap.size (.int .i64 0) (.string ⟨#[]⟩) (.string ⟨#[]⟩) (.int .i64 0) (.int .i64 0) := by
      exact (show Res5 w1 w.heap.size _ _ _ _ _ from ⟨⟨c0, c1, c2, c3, c4⟩, f0, f1, f2, f3, f4⟩).set5 _ _ _ _ _
    have RS : Res5 ((((((w1.setCell ⟨w.heap.size, 0, none⟩ (.int .i64 0)).setCell ⟨w.heap.size, 1, none⟩ (.string ⟨#[]⟩)).setCell ⟨w.heap.size, 2, none⟩ (.string ⟨#[]⟩)).setCell ⟨w.heap.size, 3, none⟩ (.int .i64 0)).setCell ⟨w.heap.size, 4, none⟩ (.int .i64 0))) w.heap.size _ _ _ _ _ := ⟨⟨b0, b1, b2, b3, b4⟩, e0, e1, e2, e3, e4⟩
    have hls : LexAt ((((((w1.setCell ⟨w.heap.size, 0, none⟩ (.int .i64 0)).setCell ⟨w.heap.size, 1, none⟩ (.string ⟨#[]⟩)).setCell ⟨w.heap.size, 2, none⟩ (.string ⟨#[]⟩)).setCell ⟨w.heap.size, 3, none⟩ (.int .i64 0)).setCell ⟨w.heap.size, 4, none⟩ (.int .i64 0))) b s p := lexAt_below hl hb hbs
    go_wp2_with fail
    refine (peek_to hs ha hls 0 0 _ _ rfl (by omega) HC.out).mono ?_
    rintro e w' ⟨rfl, j1, rfl⟩
    go_wp2_with fail
    refine (letter_any _ _).mono ?_
    rintro e w' ⟨rfl, rfl⟩
    rw [LC.out]
    go_wp2_with fail
    refine (digit_any _ _).mono ?_
    rintro e w' ⟨rfl, rfl⟩
    rw [DC.out]
    go_wp2_with fail
    refine (quoted_any b s p _ hs ha (by simp; omega) (lexAt_drewN hls _)).mono ?_
    rintro e w2 ⟨rfl, hb2⟩
    rw [HQ.out]
    have hz2 : w.heap.size < w2.heap.size := by have := hb2.size; simp at this; omega
    have hbw2 : Below w.heap.size w w2 := (below_drewN hbs _).trans (hb2.mono (by simp; omega))
    obtain ⟨⟨d0, d1, d2, d3, d4⟩, g0, g1, g2, g3, g4⟩ := (show Res5 _ w.heap.size _ _ _ _ _ from RS.drewN _).below (by simp; omega) hb2
    have RD : Res5 w2 w.heap.size _ _ _ _ _ := ⟨⟨d0, d1, d2, d3, d4⟩, g0, g1, g2, g3, g4⟩
    go_wp2
    refine bodyPost_ret (v := .tuple #[.agg #[.int .i64 4, .string ⟨#[]⟩, .string ⟨#[]⟩, .int .i64 0, .int .i64 0], .int .i64 (0 : Nat)]) (((RD).set5 _ _ _ _ _).read41 rfl rfl) rfl ⟨by rw [lxVal_some HR.out rfl rfl]; rfl, ?_⟩
    exact below_set5 hbw2 (Nat.le_refl _)
  · obtain ⟨T, HT⟩ := name_it (strB t)
    have HR := Lib.hid (show some (nextLx lang blank (s.data.toList.drop p)) = some ⟨4, t, [], n⟩ by rw [hnx]; unfold plainLx; rw [if_neg (by rw [hlet']; decide), if_neg (by rw [hdig']; decide), if_pos hq, hqo])
    have HQ := Lib.hid (show quoVal (quoted (s.data.toList.drop p)) = .tuple #[.string T, .int .i64 n] by rw [hqo, ← HT.out]; rfl)
    clear hlen hlet' hdig' hnx hq hqo
    go_enter Tryz.func85, Tryz.ntmps85
    go_wp2_with fail
    refine (own_any b s p lang blank _ hs ha (by simp; omega) hlw h1w).mono ?_
    rintro e w1 ⟨rfl, hb1⟩
    rw [lxVal_none HO.out]
    have hl1 := lexAt_below hlw (by simp; omega) hb1
    have hz1 : w.heap.size < w1.heap.size := by have := hb1.size; simp at this; omega
    have hbw1 : Below w.heap.size w w1 := hbw.trans (hb1.mono (by simp))
    have r1 := (Res5.new w _ _ _ _ _).below (by simp) hb1
    obtain ⟨⟨c0, c1, c2, c3, c4⟩, f0, f1, f2, f3, f4⟩ := r1
    have hbs : Below w.heap.size w ((((((w1.setCell ⟨w.heap.size, 0, none⟩ (.int .i64 0)).setCell ⟨w.heap.size, 1, none⟩ (.string ⟨#[]⟩)).setCell ⟨w.heap.size, 2, none⟩ (.string ⟨#[]⟩)).setCell ⟨w.heap.size, 3, none⟩ (.int .i64 0)).setCell ⟨w.heap.size, 4, none⟩ (.int .i64 0))) := below_set5 hbw1 (Nat.le_refl _)
    obtain ⟨⟨b0, b1, b2, b3, b4⟩, e0, e1, e2, e3, e4⟩ : Res5 ((((((w1.setCell ⟨w.heap.size, 0, none⟩ (.int .i64 0)).setCell ⟨w.heap.size, 1, none⟩ (.string ⟨#[]⟩)).setCell ⟨w.heap.size, 2, none⟩ (.string ⟨#[]⟩)).setCell ⟨w.heap.size, 3, none⟩ (.int .i64 0)).setCell ⟨w.heap.size, 4, none⟩ (.int .i64 0))) w.heap.size (.int .i64 0) (.string ⟨#[]⟩) (.string ⟨#[]⟩) (.int .i64 0) (.int .i64 0) := by
      exact (show Res5 w1 w.heap.size _ _ _ _ _ from ⟨⟨c0, c1, c2, c3, c4⟩, f0, f1, f2, f3, f4⟩).set5 _ _ _ _ _
    have RS : Res5 ((((((w1.setCell ⟨w.heap.size, 0, none⟩ (.int .i64 0)).setCell ⟨w.heap.size, 1, none⟩ (.string ⟨#[]⟩)).setCell ⟨w.heap.size, 2, none⟩ (.string ⟨#[]⟩)).setCell ⟨w.heap.size, 3, none⟩ (.int .i64 0)).setCell ⟨w.heap.size, 4, none⟩ (.int .i64 0))) w.heap.size _ _ _ _ _ := ⟨⟨b0, b1, b2, b3, b4⟩, e0, e1, e2, e3, e4⟩
    have hls : LexAt ((((((w1.setCell ⟨w.heap.size, 0, none⟩ (.int .i64 0)).setCell ⟨w.heap.size, 1, none⟩ (.string ⟨#[]⟩)).setCell ⟨w.heap.size, 2, none⟩ (.string ⟨#[]⟩)).setCell ⟨w.heap.size, 3, none⟩ (.int .i64 0)).setCell ⟨w.heap.size, 4, none⟩ (.int .i64 0))) b s p := lexAt_below hl hb hbs
    go_wp2_with fail
    refine (peek_to hs ha hls 0 0 _ _ rfl (by omega) HC.out).mono ?_
    rintro e w' ⟨rfl, j1, rfl⟩
    go_wp2_with fail
    refine (letter_any _ _).mono ?_
    rintro e w' ⟨rfl, rfl⟩
    rw [LC.out]
    go_wp2_with fail
    refine (digit_any _ _).mono ?_
    rintro e w' ⟨rfl, rfl⟩
    rw [DC.out]
    go_wp2_with fail
    refine (quoted_any b s p _ hs ha (by simp; omega) (lexAt_drewN hls _)).mono ?_
    rintro e w2 ⟨rfl, hb2⟩
    rw [HQ.out]
    have hz2 : w.heap.size < w2.heap.size := by have := hb2.size; simp at this; omega
    have hbw2 : Below w.heap.size w w2 := (below_drewN hbs _).trans (hb2.mono (by simp; omega))
    obtain ⟨⟨d0, d1, d2, d3, d4⟩, g0, g1, g2, g3, g4⟩ := (show Res5 _ w.heap.size _ _ _ _ _ from RS.drewN _).below (by simp; omega) hb2
    have RD : Res5 w2 w.heap.size _ _ _ _ _ := ⟨⟨d0, d1, d2, d3, d4⟩, g0, g1, g2, g3, g4⟩
    go_wp2
    refine bodyPost_ret (v := .tuple #[.agg #[.int .i64 4, .string T, .string ⟨#[]⟩, .int .i64 0, .int .i64 0], .int .i64 (n : Nat)]) (((RD).set5 _ _ _ _ _).read41 rfl rfl) rfl ⟨by rw [lxVal_some HR.out HT.out rfl]; rfl, ?_⟩
    exact below_set5 hbw2 (Nat.le_refl _)

set_option maxHeartbeats 1000000 in
theorem next_mark (b : Nat) (s : ByteArray) (p : Nat) (lang : Int) (blank : Bool) (w : World) (hs : s.size ≤ 100000) (ha : p ≤ s.size) (hb : b < w.heap.size)
   (hl : LexAt w b s p) (h1 : w.cell? ⟨b, 1, none⟩ = some (.int .i64 lang)) (ho : ownLx lang blank (s.data.toList.drop p) = none) (hlet' : letB (pk (s.data.toList.drop p) 0) = false) (hdig' : digB (pk (s.data.toList.drop p) 0) = false) (hq : pk (s.data.toList.drop p) 0 ≠ 34) :
    Calls Tryz.prog 85 #[.pointer (some ⟨b, 0, none⟩), .bool blank] w fun e w' => e = .returned (lxVal (some (nextLx lang blank (s.data.toList.drop p)))) ∧ Below w.heap.size w w' := by
  have hlen : (s.data.toList.drop p).length = s.size - p := by simp
  have hbw : Below w.heap.size w (w.alloc (.cells #[.int .i64 0, .string ⟨#[]⟩, .string ⟨#[]⟩, .int .i64 0, .int .i64 0] 76)) := (Below.refl _ _).alloc (Nat.le_refl _) _
  have hlw := lexAt_below hl hb hbw
  have h1w : (w.alloc (.cells #[.int .i64 0, .string ⟨#[]⟩, .string ⟨#[]⟩, .int .i64 0, .int .i64 0] 76)).cell? ⟨b, 1, none⟩ = some (.int .i64 lang) := (hbw.cell (p := ⟨b, 1, none⟩) hb).trans h1
  have HO := Lib.hid ho
  have hnx : nextLx lang blank (s.data.toList.drop p) = plainLx (s.data.toList.drop p) := by unfold nextLx; rw [ho]
  clear ho
  obtain ⟨c, HC⟩ := name_it (pk (s.data.toList.drop p) 0)
  have LC := Lib.hid (show letB c = false by rw [← HC.out]; exact hlet')
  have DC := Lib.hid (show digB c = false by rw [← HC.out]; exact hdig')
  have t3 : (c == 34) = false := by rw [HC.out] at hq; simpa using hq
  obtain ⟨n, HN⟩ := name_it (markLen (s.data.toList.drop p))
  obtain ⟨T, HT⟩ := name_it (strB ((s.data.toList.drop p).take n))
  have hwn : n ≤ s.size - p := by
    rw [← HN.out, ← hlen]
    exact markLen_le _
  have HR := Lib.hid (show some (nextLx lang blank (s.data.toList.drop p)) = some ⟨7, (s.data.toList.drop p).take n, [], n⟩ by rw [hnx]; unfold plainLx; rw [if_neg (by rw [hlet']; decide), if_neg (by rw [hdig']; decide), if_neg hq, HN.out])
  clear hlen hlet' hdig' hnx hq
  go_enter Tryz.func85, Tryz.ntmps85
  go_wp2_with fail
  refine (own_any b s p lang blank _ hs ha (by simp; omega) hlw h1w).mono ?_
  rintro e w1 ⟨rfl, hb1⟩
  rw [lxVal_none HO.out]
  have hl1 := lexAt_below hlw (by simp; omega) hb1
  have hz1 : w.heap.size < w1.heap.size := by have := hb1.size; simp at this; omega
  have hbw1 : Below w.heap.size w w1 := hbw.trans (hb1.mono (by simp))
  have r1 := (Res5.new w _ _ _ _ _).below (by simp) hb1
  obtain ⟨⟨c0, c1, c2, c3, c4⟩, f0, f1, f2, f3, f4⟩ := r1
  have hbs : Below w.heap.size w ((((((w1.setCell ⟨w.heap.size, 0, none⟩ (.int .i64 0)).setCell ⟨w.heap.size, 1, none⟩ (.string ⟨#[]⟩)).setCell ⟨w.heap.size, 2, none⟩ (.string ⟨#[]⟩)).setCell ⟨w.heap.size, 3, none⟩ (.int .i64 0)).setCell ⟨w.heap.size, 4, none⟩ (.int .i64 0))) := below_set5 hbw1 (Nat.le_refl _)
  obtain ⟨⟨b0, b1, b2, b3, b4⟩, e0, e1, e2, e3, e4⟩ : Res5 ((((((w1.setCell ⟨w.heap.size, 0, none⟩ (.int .i64 0)).setCell ⟨w.heap.size, 1, none⟩ (.string ⟨#[]⟩)).setCell ⟨w.heap.size, 2, none⟩ (.string ⟨#[]⟩)).setCell ⟨w.heap.size, 3, none⟩ (.int .i64 0)).setCell ⟨w.heap.size, 4, none⟩ (.int .i64 0))) w.heap.size (.int .i64 0) (.string ⟨#[]⟩) (.string ⟨#[]⟩) (.int .i64 0) (.int .i64 0) := by
    exact (show Res5 w1 w.heap.size _ _ _ _ _ from ⟨⟨c0, c1, c2, c3, c4⟩, f0, f1, f2, f3, f4⟩).set5 _ _ _ _ _
  have RS : Res5 ((((((w1.setCell ⟨w.heap.size, 0, none⟩ (.int .i64 0)).setCell ⟨w.heap.size, 1, none⟩ (.string ⟨#[]⟩)).setCell ⟨w.heap.size, 2, none⟩ (.string ⟨#[]⟩)).setCell ⟨w.heap.size, 3, none⟩ (.int .i64 0)).setCell ⟨w.heap.size, 4, none⟩ (.int .i64 0))) w.heap.size _ _ _ _ _ := ⟨⟨b0, b1, b2, b3, b4⟩, e0, e1, e2, e3, e4⟩
  have hls : LexAt ((((((w1.setCell ⟨w.heap.size, 0, none⟩ (.int .i64 0)).setCell ⟨w.heap.size, 1, none⟩ (.string ⟨#[]⟩)).setCell ⟨w.heap.size, 2, none⟩ (.string ⟨#[]⟩)).setCell ⟨w.heap.size, 3, none⟩ (.int .i64 0)).setCell ⟨w.heap.size, 4, none⟩ (.int .i64 0))) b s p := lexAt_below hl hb hbs
  go_wp2_with fail
  refine (peek_to hs ha hls 0 0 _ _ rfl (by omega) HC.out).mono ?_
  rintro e w' ⟨rfl, j1, rfl⟩
  go_wp2_with fail
  refine (letter_any _ _).mono ?_
  rintro e w' ⟨rfl, rfl⟩
  rw [LC.out]
  go_wp2_with fail
  refine (digit_any _ _).mono ?_
  rintro e w' ⟨rfl, rfl⟩
  rw [DC.out]
  go_wp2_with fail
  refine (mark_any b s p _ ha (by simp; omega) (lexAt_drewN hls _)).mono ?_
  rintro e w2 ⟨rfl, hb2⟩
  rw [HN.out]
  have hz2 : w.heap.size < w2.heap.size := by have := hb2.size; simp at this; omega
  have hbw2 : Below w.heap.size w w2 := (below_drewN hbs _).trans (hb2.mono (by simp; omega))
  obtain ⟨⟨d0, d1, d2, d3, d4⟩, g0, g1, g2, g3, g4⟩ := (show Res5 _ w.heap.size _ _ _ _ _ from RS.drewN _).below (by simp; omega) hb2
  have RD : Res5 w2 w.heap.size _ _ _ _ _ := ⟨⟨d0, d1, d2, d3, d4⟩, g0, g1, g2, g3, g4⟩
  have hl2 := lexAt_below hl hb hbw2
  go_wp2_with fail
  refine (part_at hs hl2 0 0 n _ _ _ rfl rfl (by omega) HT.out).mono ?_
  rintro e w' ⟨rfl, j2, rfl⟩
  go_wp2
  refine bodyPost_ret (v := .tuple #[.agg #[.int .i64 7, .string T, .string ⟨#[]⟩, .int .i64 0, .int .i64 0], .int .i64 (n : Nat)]) (((RD.drewN _).set5 _ _ _ _ _).read41 rfl rfl) rfl ⟨by rw [lxVal_some HR.out HT.out rfl]; rfl, ?_⟩
  exact below_set5 (below_drewN hbw2 _) (Nat.le_refl _)

theorem next_any (b : Nat) (s : ByteArray) (p : Nat) (lang : Int) (blank : Bool) (w : World) (hs : s.size ≤ 100000) (ha : p ≤ s.size) (hb : b < w.heap.size)
   (hl : LexAt w b s p) (h1 : w.cell? ⟨b, 1, none⟩ = some (.int .i64 lang)) :
    Calls Tryz.prog 85 #[.pointer (some ⟨b, 0, none⟩), .bool blank] w fun e w' => e = .returned (lxVal (some (nextLx lang blank (s.data.toList.drop p)))) ∧ Below w.heap.size w w' := by
  rcases ho : ownLx lang blank (s.data.toList.drop p) with _ | x
  · cases hlet : letB (pk (s.data.toList.drop p) 0)
    · cases hdig : digB (pk (s.data.toList.drop p) 0)
      · by_cases hq : pk (s.data.toList.drop p) 0 = 34
        · exact next_text b s p lang blank w hs ha hb hl h1 ho hq
        · exact next_mark b s p lang blank w hs ha hb hl h1 ho hlet hdig hq
      · by_cases hd : pk (s.data.toList.drop p) (digLen (s.data.toList.drop p)) = 46 ∧ 0 < digLen ((s.data.toList.drop p).drop (digLen (s.data.toList.drop p) + 1))
        · exact next_dec b s p lang blank w hs ha hb hl h1 ho hdig hd.1 hd.2
        · exact next_int b s p lang blank w hs ha hb hl h1 ho hdig hd
    · exact next_word b s p lang blank w hs ha hb hl h1 ho hlet
  · exact next_own b s p lang blank w hs ha hb hl h1 x ho

end Go.Proofs.YtngdilbfhpcfgaaGreatDoor
