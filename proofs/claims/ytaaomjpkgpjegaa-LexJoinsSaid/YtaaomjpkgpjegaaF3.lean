/- Walk of the law LexPlaces. -/
import Derived.Test.YtaaomjpkgpjegaaE3
import Derived.Test.YtaaomjpkgpjegaaF2
namespace Go.Proofs.Ytaaomjpkgpjegaa
open Go.RowKit

theorem quiet_same {P : Program} {f : FuncId} {args : Array Value} {w : World} {n : Nat} {v : Value}
    (h : Calls P f args (w.drewN n) fun e w' => e = .returned v ∧ w' = w.drewN n) :
    Calls P f args (w.drewN n) fun e w'' => e = .returned v ∧ ∃ m, w'' = w.drewN m :=
  h.mono fun _ _ ⟨he, hm⟩ => ⟨he, n, hm⟩
theorem blank_gap {s : ByteArray} {a b : Nat} (h : skip false ((s.data.toList.drop a).take (b - a)) = b - a) (hab : a ≤ b) (hb : b ≤ s.size) (hs : s.size ≤ 100000) (w : World) :
    Calls Try.prog 18 #[.string (s.extract a b)] w fun e w' => e = .returned (.bool true) ∧ w' = w := by
  have hl : (s.extract a b).data.toList = (s.data.toList.drop a).take (b - a) := by rw [ext_eq]; simp [strB]
  have hz : (s.extract a b).size = b - a := by
    have : (s.extract a b).data.toList.length = (s.extract a b).size := rfl
    rw [← this, hl, List.length_take, List.length_drop]
    have : s.data.toList.length = s.size := by simp
    omega
  refine (blankLaw_any _ (by omega) w).mono ?_
  rintro e w' ⟨rfl, rfl⟩
  refine ⟨?_, rfl⟩
  have hz2 : (s.extract a b).data.toList.length = b - a := hz
  rw [hz2, hl, h, decide_eq_true rfl]
theorem lex_piece {s : ByteArray} {lang : Int} {a n : Nat} {x : Lx} (h : lexAll lang ((s.data.toList.drop a).take n) = ([⟨x, 0, n⟩], none)) (hb : a + n ≤ s.size) (hs : s.size ≤ 3000) {b : Nat} (hab : b = a + n) (w : World) :
    Calls Try.prog 8 #[.int .i64 lang, .string (s.extract a b)] w fun e w' => ∃ g cp, e = .returned (.tuple #[.slice (some ⟨g, 0, none⟩) 1 cp, .int .i64 0, .int .i64 0]) ∧ Below w.heap.size w w' ∧
      w'.cell? ⟨g, 0, none⟩ = some (.int .i64 x.kind) ∧ w'.cell? ⟨g, 1, none⟩ = some (.string (strB x.text)) ∧ w'.cell? ⟨g, 2, none⟩ = some (.string (strB x.extra)) := by
  subst hab
  have hl : (s.extract a (a + n)).data.toList = (s.data.toList.drop a).take n := by rw [ext_eq, Nat.add_sub_cancel_left]; simp [strB]
  have hz : (s.extract a (a + n)).size ≤ s.size := by
    have h1 : (s.extract a (a + n)).data.toList.length = (s.extract a (a + n)).size := rfl
    have h2 : s.data.toList.length = s.size := by simp
    rw [← h1, hl, List.length_take, List.length_drop]
    omega
  refine (lex_ok hl h (by omega) w).mono ?_
  rintro e w' ⟨v, rfl, ho, hbl⟩
  obtain ⟨g, cp, rfl⟩ := ownsRow_succ (k := 0) ho
  exact ⟨g, cp, rfl, hbl, ho.cellAt 0 (by decide), ho.cellAt 1 (by decide), ho.cellAt 2 (by decide)⟩

set_option maxRecDepth 100000 in
set_option maxHeartbeats 2000000 in
theorem places_any (A : Option Addr) (n cap : Nat) (lang : Int) (xs : List ByteArray) (w : World) (hr : Reads w w.heap.size 1 A n (strs xs)) (hn : n ≤ maxLen) (hx : ∀ s ∈ xs, s.size ≤ maxLen) :
    Calls Try.prog 4 #[.agg #[.slice A n cap, .int .i64 lang]] w fun e w' => e = .returned (.bool true) ∧ Below w.heap.size w w' := by
  unfold maxLen at hn
  have hX := Lib.hid hx
  clear hx
  have hbw : Below w.heap.size w (w.alloc (.cells #[.slice A n cap, .int .i64 lang] 24)) := (Below.refl _ _).alloc (Nat.le_refl _) _
  obtain ⟨W, HW⟩ := name_it (w.alloc (.cells #[.slice A n cap, .int .i64 lang] 24))
  have hp : Blk W w.heap.size 24 #[.slice A n cap, .int .i64 lang] := by rw [← HW.out]; exact Blk.new _ _ _
  have hrW : Reads W w.heap.size 1 A n (strs xs) := by rw [← HW.out]; exact hr.alloc (Nat.le_refl _) _
  have hWs : W.heap.size = w.heap.size + 1 := by rw [← HW.out]; simp
  rw [HW.out] at hbw
  have HWS := Lib.hid hWs
  clear hWs
  go_enter Try.func4, Try.ntmps4
  go_wp2
  rw [HW.out]
  go_loopw [3] (fun i wr => ∃ k : Nat, k ≤ n ∧ k ≤ 8 ∧ i = .int .i64 k ∧ Below W.heap.size W wr) (fun i _ => 8 - (intOf i).toNat)
  case atStart => exact ⟨0, by omega, by omega, rfl, Below.refl _ _⟩
  case round =>
    obtain ⟨k, hk, hk8, rfl, hb⟩ := hrel
    have hws := HWS.out
    have hpr := hp.below hb (by omega)
    have hrr := (hrW.below (hb.mono (by omega)))
    have p0 : wr.cell? ⟨w.heap.size, 0, none⟩ = some (.slice A n cap) := hpr.cell 0
    have p1 : wr.cell? ⟨w.heap.size, 1, none⟩ = some (.int .i64 lang) := hpr.cell 1
    have hsz := hb.size
    have hwl : w.heap.size < wr.heap.size := by omega
    clear hws
    by_cases hlt : k < n ∧ k < 8
    · obtain ⟨hkn, hk8'⟩ := hlt
      obtain ⟨ad, s, rfl, hxs, hc⟩ := reads_str hrr hkn
      have hss := hX.out s (List.mem_of_getElem? hxs)
      unfold maxLen at hss
      clear hxs
      have hsl : s.data.toList.length = s.size := by simp
      have HSL := Lib.hid hsl
      clear hsl
      go_wp2_with fail
      · go_roundw
        case rel => exact ⟨k + 1, by omega, by omega, by go_num, hb⟩
        case measure => simp [intOf]; omega
      · have hs3 : s.size ≤ 3000 := by omega
        obtain ⟨wo, rfl⟩ : ∃ wo : World, wo = wr := ⟨_, rfl⟩
        cases hl : lexAll lang s.data.toList with
        | mk ts fault =>
          cases fault with
          | some r =>
            have hf := lexAll_fault hl
            rw [HSL.out] at hf
            refine (lex_no rfl hl (by omega) _).mono ?_
            rintro e w2 ⟨rfl, hb2⟩
            clear hl
            go_wp2
            go_roundw
            case rel => exact ⟨k + 1, by omega, by omega, by go_num, hb.trans (hb2.mono hb.size)⟩
            case measure => simp [intOf]; omega
          | none =>
            refine (lex_ok rfl hl (by omega) _).mono ?_
            rintro e w2 ⟨v, rfl, ho, hb2⟩
            have hP := Lib.hid (places_all hl)
            have hcount := lexAll_count hl
            rw [HSL.out] at hcount
            clear hl
            obtain ⟨m, HM⟩ := name_it ts.length
            rw [HM.out] at hcount ho
            have hO := Lib.hid ho
            have hlenv : ∃ A1 cp, v = .slice A1 m cp := by
              rcases ho.2 with ⟨rfl, h0⟩ | ⟨g, cp, cur, rfl, _⟩
              · exact ⟨none, 0, by rw [h0]⟩
              · exact ⟨_, cp, rfl⟩
            obtain ⟨A1, cp, rfl⟩ := hlenv
            clear ho
            go_wp2
            go_loopw [8, 9] (fun f i wx => ∃ j q : Nat, j ≤ m ∧ q ≤ s.size ∧ f = .int .i64 q ∧ i = .int .i64 j ∧ RowKit.Hid (Places lang s.data.toList q (ts.drop j)) ∧ Below w2.heap.size w2 wx) (fun _ i _ => m - (intOf i).toNat)
            case atStart => exact ⟨0, 0, by omega, by omega, rfl, rfl, hP, Below.refl _ _⟩
            case round =>
              obtain ⟨j, q, hj, hq, rfl, rfl, hpl, hbx⟩ := hrel
              clear hP
              by_cases hjm : j < m
              · have hjt : j < ts.length := by rw [HM.out]; exact hjm
                have hpl2 := hpl.out
                rw [List.drop_eq_getElem_cons hjt] at hpl2
                obtain ⟨f1, f2, f3, f4, f5, f6, f7⟩ := hpl2
                clear hpl
                obtain ⟨g, cp', he, _, hglt⟩ := hO.out.form (by omega)
                injection he with he1 _ he2
                subst he1
                subst he2
                have ho : w2.ownsRow wo.heap.size 36 5 (.slice (some ⟨g, 0, none⟩) m _) m (flat ts) := hO.out
                have c0 : wr.cell? ⟨g, j * 5, none⟩ = _ := (hbx.cell hglt).trans (own_tok ho HM.out.symm j 0 hjt (by omega))
                have c1 : wr.cell? ⟨g, j * 5 + 1, none⟩ = _ := (hbx.cell hglt).trans (own_tok ho HM.out.symm j 1 hjt (by omega))
                have c2 : wr.cell? ⟨g, j * 5 + 2, none⟩ = _ := (hbx.cell hglt).trans (own_tok ho HM.out.symm j 2 hjt (by omega))
                have c3 : wr.cell? ⟨g, j * 5 + 3, none⟩ = _ := (hbx.cell hglt).trans (own_tok ho HM.out.symm j 3 hjt (by omega))
                have c4 : wr.cell? ⟨g, j * 5 + 4, none⟩ = _ := (hbx.cell hglt).trans (own_tok ho HM.out.symm j 4 hjt (by omega))
                clear ho
                generalize ts[j] = t at *
                clear hjt
                obtain ⟨⟨kd, tx, ex, ln⟩, at_, en⟩ := t
                simp only at f1 f2 f3 f4 f5 f6 f7
                change wr.cell? ⟨g, j * 5, none⟩ = some (.int .i64 kd) at c0
                change wr.cell? ⟨g, j * 5 + 1, none⟩ = some (.string (strB tx)) at c1
                change wr.cell? ⟨g, j * 5 + 2, none⟩ = some (.string (strB ex)) at c2
                change wr.cell? ⟨g, j * 5 + 3, none⟩ = some (.int .i64 at_) at c3
                change wr.cell? ⟨g, j * 5 + 4, none⟩ = some (.int .i64 en) at c4
                rw [HSL.out] at f4
                have F5 := Lib.hid f5
                have F6 := Lib.hid f6
                have F7 := Lib.hid f7
                have i1 : (0 : Int) ≤ j := by omega
                have i2 : (j : Int) < m := by omega
                have i3 : (0 : Int) ≤ q := by omega
                have i4 : (q : Int) ≤ at_ := by omega
                have i5 : (at_ : Int) ≤ en := by omega
                have i6 : (en : Int) ≤ s.size := by omega
                have i7 : (at_ : Int) ≤ s.size := by omega
                have i8 : (0 : Int) ≤ at_ := by omega
                have i9 : (s.size : Int) ≤ 3000 := by omega
                have t1 : decide ((at_ : Int) < q) = false := decide_eq_false (by omega)
                have t2 : decide ((en : Int) ≤ at_) = false := decide_eq_false (by omega)
                have t3 : decide ((s.size : Int) < en) = false := decide_eq_false (by omega)
                have t4 : decide (at_ < q) = false := decide_eq_false (by omega)
                have t5 : decide (en ≤ at_) = false := decide_eq_false (by omega)
                have t6 : decide (s.size < en) = false := decide_eq_false (by omega)
                have F2 := Lib.hid f2
                clear f5 f6 f7 f2 f3
                go_wp2
                go_quiet ((go_at_call 18; exact quiet_same (blank_gap F5.out f1 (by omega) (by omega) _)))
                go_wp2
                go_cut [10, 11, 12] (fun s10 s11 s12 w3 => ∃ g1 cp1, s10 = .slice (some ⟨g1, 0, none⟩) 1 cp1 ∧ s11 = .int .i64 0 ∧ s12 = .int .i64 0 ∧ Below wr.heap.size wr w3 ∧ w3.cell? ⟨g1, 0, none⟩ = some (.int .i64 kd) ∧ w3.cell? ⟨g1, 1, none⟩ = some (.string (strB tx)) ∧ w3.cell? ⟨g1, 2, none⟩ = some (.string (strB ex)))
                case first =>
                  have hgr : g < wr.heap.size := Nat.lt_of_lt_of_le hglt hbx.size
                  have hlr : w.heap.size < wr.heap.size := Nat.lt_of_lt_of_le hwl (Nat.le_trans hb2.size hbx.size)
                  have pl : wr.cell? ⟨w.heap.size, 1, none⟩ = some (.int .i64 lang) := (hbx.cell (p := ⟨w.heap.size, 1, none⟩) (Nat.lt_of_lt_of_le hwl hb2.size)).trans ((hb2.cell (p := ⟨w.heap.size, 1, none⟩) hwl).trans p1)
                  have ps : wr.cell? ⟨w.heap.size, 1, none⟩ = some (.int .i64 lang) ∧ wr.cell? ⟨g, j * 5 + 3, none⟩ = some (.int .i64 at_) ∧ wr.cell? ⟨g, j * 5 + 4, none⟩ = some (.int .i64 en) := ⟨pl, c3, c4⟩
                  have F8 := Lib.hid (show at_ + ln ≤ s.size by have := F2.out; omega)
                  clear t1 t2 t3 t4 t5 t6
                  go_region_held3 (fun w' => w'.cell? ⟨w.heap.size, 1, none⟩ = some (.int .i64 lang) ∧ w'.cell? ⟨g, j * 5 + 3, none⟩ = some (.int .i64 at_) ∧ w'.cell? ⟨g, j * 5 + 4, none⟩ = some (.int .i64 en)) (first | exact ps | exact ps3 | (trace_state; fail))
                    (first | (go_at_call 8; refine (lex_piece F6.out F8.out hs3 F2.out _).mono ?_; rintro e w3 ⟨g1, cp1, rfl, hb3, d0, d1, d2⟩; have ps3 : w3.cell? ⟨w.heap.size, 1, none⟩ = some (.int .i64 lang) ∧ w3.cell? ⟨g, j * 5 + 3, none⟩ = some (.int .i64 at_) ∧ w3.cell? ⟨g, j * 5 + 4, none⟩ = some (.int .i64 en) := ⟨(hb3.cell (p := ⟨w.heap.size, 1, none⟩) hlr).trans ps.1, (hb3.cell (p := ⟨g, j * 5 + 3, none⟩) hgr).trans ps.2.1, (hb3.cell (p := ⟨g, j * 5 + 4, none⟩) hgr).trans ps.2.2⟩))
                  go_wp2_with fail
                  go_meet
                  exact ⟨g1, cp1, rfl, rfl, rfl, ⟨hb3.os, hb3.tape, hb3.output, hb3.size, hb3.block⟩, d0, d1, d2⟩
                case rest =>
                  obtain ⟨g1, cp1, rfl, rfl, rfl, hb3, d0, d1, d2⟩ := hcut
                  have hgr : g < wr.heap.size := Nat.lt_of_lt_of_le hglt hbx.size
                  have e0 := (hb3.cell (p := ⟨g, j * 5, none⟩) hgr).trans c0
                  have e1 := (hb3.cell (p := ⟨g, j * 5 + 1, none⟩) hgr).trans c1
                  have e2 := (hb3.cell (p := ⟨g, j * 5 + 2, none⟩) hgr).trans c2
                  have F8 := Lib.hid (show en ≤ s.size by omega)
                  clear t1 t2 t3 t4 t5 t6 c0 c1 c2 c3 c4
                  generalize strB tx = TX at *
                  generalize strB ex = EX at *
                  have x1 : ((kd : Int) != kd) = false := by simp
                  go_wp2
                  go_quiet (fail)
                  go_wp2
                  go_roundw
                  case rel => exact ⟨j + 1, en, by omega, F8.out, rfl, by go_num, F7, below_drewN (hbx.trans (hb3.mono hbx.size)) _⟩
                  case measure => simp [intOf]; omega
              · have hje : j = m := by omega
                have hgap : skip false ((s.data.toList.drop q).take (s.size - q)) = s.size - q := by
                  have := hpl.out
                  rw [List.drop_of_length_le (by rw [HM.out]; omega)] at this
                  have this : skip false (s.data.toList.drop q) = (s.data.toList.drop q).length := this
                  have hll : (s.data.toList.drop q).length = s.size - q := by rw [List.length_drop, HSL.out]
                  rw [List.take_of_length_le (by omega), this, hll]
                have HG := Lib.hid hgap
                clear hgap hpl
                have i3 : (0 : Int) ≤ q := by omega
                have i4 : (q : Int) ≤ s.size := by omega
                have i5 : (s.size : Int) ≤ s.size := by omega
                go_wp2_with fail
                refine (blank_gap HG.out hq (Nat.le_refl _) (by omega) _).mono ?_
                rintro e w' ⟨rfl, rfl⟩
                go_wp2
                go_roundw
                case rel => exact ⟨k + 1, by omega, by omega, by go_num, hb.trans ((hb2.trans (hbx.mono hb2.size)).mono hb.size)⟩
                case measure => simp [intOf]; omega
    · by_cases hk2 : k < n
      · have hk3 : k = 8 := by omega
        have t1 : (8 : Int) ≤ k := by omega
        go_wp2_with fail
        refine (wakes_any _).mono ?_
        rintro e w2 ⟨rfl, hb2⟩
        go_wp2
        go_ret
        exact ⟨rfl, (hbw.trans (hb.mono hbw.size)).trans (hb2.mono (Nat.le_trans hbw.size hb.size))⟩
      · go_wp2_with fail
        refine (wakes_any _).mono ?_
        rintro e w2 ⟨rfl, hb2⟩
        go_wp2
        go_ret
        exact ⟨rfl, (hbw.trans (hb.mono hbw.size)).trans (hb2.mono (Nat.le_trans hbw.size hb.size))⟩

end Go.Proofs.Ytaaomjpkgpjegaa
