/- Walk of the law LexExact. -/
import Derived.Test.YtaaomjpkgpjegaaJ5
import Derived.Test.YtaaomjpkgpjegaaJ6
import Derived.Test.YtaaomjpkgpjegaaJ7
namespace Go.Proofs.Ytaaomjpkgpjegaa
open Go Go.RowKit

set_option maxHeartbeats 400000 in
theorem rlex_any (s : ByteArray) (lang : Int) (hs : s.size ≤ 16384) (w : World) :
    Calls Try.prog 9 #[.int .i64 lang, .string s] w (LexRes s lang w) := by
  go_enter Try.func9, Try.ntmps9
  go_wp2_with fail
  refine (rany_any s lang (by omega) _).mono ?_
  rintro e w' h
  unfold LexRes at h
  obtain ⟨hb, h⟩ := h
  rcases hL : lexAll lang s.data.toList with ⟨ts, _ | r⟩
  · rw [hL] at h
    obtain ⟨v, rfl, ho⟩ := h
    have HL := Lib.hid hL
    clear hL
    go_wp2
    go_ret3
    exact lexRes_some HL.out hb ho rfl
  · rw [hL] at h
    subst h
    have HL := Lib.hid hL
    clear hL
    go_wp2
    go_ret3
    exact lexRes_none ⟨ts, HL.out⟩ hb rfl
theorem rlex_long (s : ByteArray) (lang : Int) (hs : 16384 < s.size) (hm : s.size ≤ maxLen) (w : World) :
    Calls Try.prog 9 #[.int .i64 lang, .string s] w fun e w' => e = .returned (.tuple #[.slice none 0 0, .int .i64 0, .int .i64 14]) ∧ w' = w := by
  unfold maxLen at hm
  go_enter Try.func9, Try.ntmps9
  go_wp2
  go_ret3
  exact ⟨rfl, rfl⟩

/-- What both lexers answer: the same. -/
theorem lex_pair {s : ByteArray} {lang : Int} {w w1 : World} {e : Ending} (h : LexRes s lang w e w1) :
    Below w.heap.size w w1 ∧ ∃ v r f ts, e = .returned (.tuple #[v, .int .i64 r, .int .i64 f]) ∧ w1.ownsRow w.heap.size 36 5 v ts.length (flat ts) ∧ ts.length ≤ s.size ∧
      ∀ (w2 w3 : World) (e2 : Ending), LexRes s lang w2 e2 w3 → Below w2.heap.size w2 w3 ∧ ∃ u, e2 = .returned (.tuple #[u, .int .i64 r, .int .i64 f]) ∧ w3.ownsRow w2.heap.size 36 5 u ts.length (flat ts) := by
  unfold LexRes at h
  obtain ⟨hb, h⟩ := h
  refine ⟨hb, ?_⟩
  have hsl : s.data.toList.length = s.size := by simp
  rcases hL : lexAll lang s.data.toList with ⟨ts, _ | r⟩
  · rw [hL] at h
    obtain ⟨v, rfl, ho⟩ := h
    refine ⟨v, 0, 0, ts, rfl, ho, by have := lexAll_count hL; omega, fun w2 w3 e2 h2 => ?_⟩
    unfold LexRes at h2
    rw [hL] at h2
    obtain ⟨hb2, u, rfl, ho2⟩ := h2
    exact ⟨hb2, u, rfl, ho2⟩
  · rw [hL] at h
    subst h
    refine ⟨_, _, _, [], rfl, World.ownsRow_nil _ _ _ _, by simp, fun w2 w3 e2 h2 => ?_⟩
    unfold LexRes at h2
    rw [hL] at h2
    obtain ⟨hb2, rfl⟩ := h2
    exact ⟨hb2, _, rfl, World.ownsRow_nil _ _ _ _⟩

set_option maxRecDepth 100000 in
set_option maxHeartbeats 2000000 in
theorem exact_any (A : Option Addr) (n cap : Nat) (lang : Int) (xs : List ByteArray) (w : World) (hr : Reads w w.heap.size 1 A n (strs xs)) (hn : n ≤ maxLen) (hx : ∀ s ∈ xs, s.size ≤ maxLen) :
    Calls Try.prog 3 #[.agg #[.slice A n cap, .int .i64 lang]] w fun e w' => e = .returned (.bool true) ∧ Below w.heap.size w w' := by
  unfold maxLen at hn
  have hX := Lib.hid hx
  clear hx
  have hbw : Below w.heap.size w (w.alloc (.cells #[.slice A n cap, .int .i64 lang] 24)) := (Below.refl _ _).alloc (Nat.le_refl _) _
  obtain ⟨W, HW⟩ := name_it (w.alloc (.cells #[.slice A n cap, .int .i64 lang] 24))
  have hp : Blk W w.heap.size 24 #[.slice A n cap, .int .i64 lang] := by rw [← HW.out]; exact Blk.new _ _ _
  have hrW : Reads W w.heap.size 1 A n (strs xs) := by rw [← HW.out]; exact hr.alloc (Nat.le_refl _) _
  have hWs : W.heap.size = w.heap.size + 1 := by rw [← HW.out]; simp
  rw [HW.out] at hbw
  have HWS := Lib.hid hWs
  clear hWs
  go_enter Try.func3, Try.ntmps3
  go_wp2
  rw [HW.out]
  go_loopw [3] (fun i wr => ∃ k : Nat, k ≤ n ∧ k ≤ 8 ∧ i = .int .i64 k ∧ Below W.heap.size W wr) (fun i _ => 8 - (intOf i).toNat)
  case atStart => exact ⟨0, by omega, by omega, rfl, Below.refl _ _⟩
  case round =>
    obtain ⟨k, hk, hk8, rfl, hb⟩ := hrel
    have hws := HWS.out
    have hpr := hp.below hb (by omega)
    have hrr := (hrW.below (hb.mono (by omega)))
    have p0 : wr.cell? ⟨w.heap.size, 0, none⟩ = some (.slice A n cap) := hpr.cell 0
    have p1 : wr.cell? ⟨w.heap.size, 1, none⟩ = some (.int .i64 lang) := hpr.cell 1
    have hsz := hb.size
    have hwl : w.heap.size < wr.heap.size := by omega
    clear hws
    by_cases hlt : k < n ∧ k < 8
    · obtain ⟨hkn, hk8'⟩ := hlt
      obtain ⟨ad, s, rfl, hxs, hc⟩ := reads_str hrr hkn
      have hss := hX.out s (List.mem_of_getElem? hxs)
      have HSS := Lib.hid hss
      unfold maxLen at hss
      clear hxs
      have HP1 := Lib.hid (show ∀ W' : World, Below wr.heap.size wr W' → W'.cell? ⟨w.heap.size, 1, none⟩ = some (.int .i64 lang) from fun W' h => (h.cell (p := ⟨w.heap.size, 1, none⟩) hwl).trans p1)
      by_cases h3 : s.size ≤ 3000
      · have t1 : decide ((3000 : Int) < s.size) = false := decide_eq_false (by omega)
        have t2 : decide ((s.size : Int) ≤ 3000) = true := decide_eq_true (by omega)
        go_wp2_with fail
        refine (lex_any s lang (by omega) _).mono ?_
        rintro e w1 h1
        obtain ⟨hb1, v, r, f, ts, rfl, ho1, hts, hall⟩ := lex_pair h1
        have HO1 := Lib.hid ho1
        have HALL := Lib.hid hall
        clear ho1 hall h1
        have q1 := HP1.out w1 hb1
        go_wp2_with fail
        refine (rlex_any s lang (by omega) _).mono ?_
        rintro e w2 h2
        obtain ⟨hb2, u, rfl, ho2⟩ := HALL.out _ _ _ h2
        have HO2 := Lib.hid ho2
        clear ho2 h2 HALL
        have HO1' := Lib.hid (own_below HO1.out hb2)
        have t3 : ((f : Int) != f) = false := by simp
        have t4 : ((r : Int) != r) = false := by simp
        go_wp2_with fail
        refine (same_rows (ts := ts) rfl rfl (by omega) HO1'.out HO2.out).mono ?_
        rintro e w3 ⟨rfl, j, rfl⟩
        have HBx := Lib.hid (below_drewN (hb1.trans (hb2.mono hb1.size)) j)
        have hl1 := Nat.lt_of_lt_of_le hwl (Nat.le_trans hb1.size hb2.size)
        obtain ⟨b1, HB1⟩ := name_it (wordB s.data.toList)
        obtain ⟨b2, HB2⟩ := name_it (keyB lang s.data.toList)
        obtain ⟨X, HXX⟩ := name_it (strB (quoteL s.data.toList))
        have t6 : (b1 != b1) = false := by simp
        have t7 : (b2 != b2) = false := by simp
        have t8 : (X.toList != X.toList) = false := by simp
        obtain ⟨W2, HW2⟩ := name_it (w2.drewN j)
        rw [HW2.out] at HBx
        have l0 : w.heap.size < W2.heap.size := by rw [← HW2.out]; exact hl1
        clear HO1 HO1' HO2 hb1 hb2 hl1 q1
        have q0 := HP1.out W2 HBx.out
        go_upto_region 10 with fail
        rw [HW2.out]
        go_cut [92] (fun s92 wx => s92 = .bool false ∧ Below wr.heap.size wr wx)
        case first =>
          go_region_held3 (fun W' => W'.cell? ⟨w.heap.size, 1, none⟩ = some (.int .i64 lang)) (first | exact q0 | exact q4 | exact q6 | exact q7 | exact q8 | (trace_state; fail))
            (first
              | (go_at_call 11; refine (word_w s (by omega) _).mono ?_; rintro e w4 ⟨rfl, hb4⟩; rw [HB1.out]; have q4 : w4.cell? ⟨w.heap.size, 1, none⟩ = some (.int .i64 lang) := (hb4.cell (p := ⟨w.heap.size, 1, none⟩) l0).trans q0; have l4 : w.heap.size < w4.heap.size := Nat.lt_of_lt_of_le l0 hb4.size)
              | (go_at_call 12; refine (rword_w s (by omega) _).mono ?_; rintro e w5 ⟨rfl, rfl⟩; rw [HB1.out])
              | (go_at_call 13; refine (key_any lang s _).mono ?_; rintro e w5 ⟨rfl, rfl⟩; rw [HB2.out])
              | (go_at_call 14; refine (rkey_any lang s _).mono ?_; rintro e w6 ⟨rfl, hb6⟩; rw [HB2.out]; have q6 : w6.cell? ⟨w.heap.size, 1, none⟩ = some (.int .i64 lang) := (hb6.cell (p := ⟨w.heap.size, 1, none⟩) l4).trans q4; have l6 : w.heap.size < w6.heap.size := Nat.lt_of_lt_of_le l4 hb6.size)
              | (go_at_call 15; refine (quote_any s (by omega) _).mono ?_; rintro e w7 ⟨rfl, hb7⟩; rw [HXX.out]; have q7 : w7.cell? ⟨w.heap.size, 1, none⟩ = some (.int .i64 lang) := (hb7.cell (p := ⟨w.heap.size, 1, none⟩) l6).trans q6; have l7 : w.heap.size < w7.heap.size := Nat.lt_of_lt_of_le l6 hb7.size)
              | (go_at_call 16; refine (rquote_any s (by omega) _).mono ?_; rintro e w8 ⟨rfl, hb8⟩; rw [HXX.out]; have q8 : w8.cell? ⟨w.heap.size, 1, none⟩ = some (.int .i64 lang) := (hb8.cell (p := ⟨w.heap.size, 1, none⟩) l7).trans q7))
          go_wp2_with fail
          go_meet
          have s0 : wr.heap.size ≤ W2.drew.heap.size := HBx.out.size
          have s4 := Nat.le_trans s0 hb4.size
          have s6 := Nat.le_trans s4 hb6.size
          have s7 := Nat.le_trans s6 hb7.size
          exact ⟨rfl, (((HBx.out.drew.trans (hb4.mono s0)).trans (hb6.mono s4)).trans (hb7.mono s6)).trans (hb8.mono s7)⟩
        case rest =>
          obtain ⟨rfl, hbx⟩ := hcut
          go_wp2
          go_roundw
          case rel => exact ⟨k + 1, by omega, by omega, by go_num, hb.trans (hbx.mono hb.size)⟩
          case measure => simp [intOf]; omega
      · by_cases h16 : s.size ≤ 16384
        · have t1 : decide ((3000 : Int) < s.size) = true := decide_eq_true (by omega)
          have t2 : decide ((s.size : Int) ≤ 16384) = true := decide_eq_true (by omega)
          go_wp2
          go_roundw
          case rel => exact ⟨k + 1, by omega, by omega, by go_num, hb⟩
          case measure => simp [intOf]; omega
        · have t1 : decide ((3000 : Int) < s.size) = true := decide_eq_true (by omega)
          have t2 : decide ((s.size : Int) ≤ 16384) = false := decide_eq_false (by omega)
          have t5 : decide ((s.size : Int) ≤ 3000) = false := decide_eq_false (by omega)
          go_wp2_with fail
          refine (lex_long s lang (by omega) HSS.out _).mono ?_
          rintro e w1 ⟨rfl, rfl⟩
          go_wp2_with fail
          refine (rlex_long s lang (by omega) HSS.out _).mono ?_
          rintro e w1 ⟨rfl, rfl⟩
          go_wp2_with fail
          refine (same_rows (ts := []) rfl rfl (by simp) (World.ownsRow_nil _ 0 _ _) (World.ownsRow_nil _ 0 _ _)).mono ?_
          rintro e w3 ⟨rfl, j, rfl⟩
          go_wp2
          go_quiet (fail)
          go_wp2
          go_roundw
          case rel => exact ⟨k + 1, by omega, by omega, by go_num, below_drewN hb _⟩
          case measure => simp [intOf]; omega
    · by_cases hk2 : k < n
      · have hk3 : k = 8 := by omega
        have t1 : (8 : Int) ≤ k := by omega
        go_wp2_with fail
        refine (wakes_any _).mono ?_
        rintro e w2 ⟨rfl, hb2⟩
        go_wp2
        go_ret
        exact ⟨rfl, (hbw.trans (hb.mono hbw.size)).trans (hb2.mono (Nat.le_trans hbw.size hb.size))⟩
      · go_wp2_with fail
        refine (wakes_any _).mono ?_
        rintro e w2 ⟨rfl, hb2⟩
        go_wp2
        go_ret
        exact ⟨rfl, (hbw.trans (hb.mono hbw.size)).trans (hb2.mono (Nat.le_trans hbw.size hb.size))⟩

end Go.Proofs.Ytaaomjpkgpjegaa
