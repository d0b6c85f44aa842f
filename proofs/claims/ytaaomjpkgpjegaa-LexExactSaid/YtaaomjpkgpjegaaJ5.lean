/- Walk of the document's own lexer. -/
import Derived.Test.YtaaomjpkgpjegaaJ4
import Derived.Test.YtaaomjpkgpjegaaK0
namespace Go.Proofs.Ytaaomjpkgpjegaa
open Go Go.RowKit

theorem rblank_to {s : ByteArray} {a q : Nat} {z : Int} (hs : s.size ≤ 100000) (hz : z = a) (ha : a ≤ s.size) (hq : a + skip false (s.data.toList.drop a) = q) (w : World) :
    Calls Try.prog 30 #[.string s, .int .i64 z] w fun e w' => e = .returned (.int .i64 q) ∧ w' = w := by
  subst hz; subst hq
  exact (rblank_any s a hs ha w).mono fun _ _ ⟨h1, h2⟩ => ⟨h1, h2.symm⟩
theorem rtriples_is {lang : Int} {b : Bool} (h : (lang == 1) = b) (w : World) : Calls Try.prog 24 #[.int .i64 lang] w fun e w' => e = .returned (.bool b) ∧ w' = w := by
  subst h
  exact (rtriples_any lang w).mono fun _ _ ⟨h1, h2⟩ => ⟨h1, h2.symm⟩
theorem lexRes_none {s : ByteArray} {lang : Int} {w w' : World} {r : Nat} {e : Ending} (h : ∃ ts, lexAll lang s.data.toList = (ts, some r)) (hb : Below w.heap.size w w') (he : e = .returned (.tuple #[.slice none 0 0, .int .i64 r, .int .i64 10])) : LexRes s lang w e w' := by
  obtain ⟨ts, hts⟩ := h
  unfold LexRes
  rw [hts]
  exact ⟨hb, he⟩
theorem lexRes_some {s : ByteArray} {lang : Int} {w w' : World} {ts : List Tok} {v : Value} {e : Ending} (h : lexAll lang s.data.toList = (ts, none)) (hb : Below w.heap.size w w') (ho : w'.ownsRow w.heap.size 36 5 v ts.length (flat ts))
    (he : e = .returned (.tuple #[v, .int .i64 0, .int .i64 0])) : LexRes s lang w e w' := by
  unfold LexRes
  rw [h]
  exact ⟨hb, v, he, ho⟩

theorem text_is {tx : List UInt8} {TX : ByteArray} (h : strB tx = TX) (h1 : TX.toList = [95, 58]) : tx = [95, 58] := by
  subst h
  rw [Lib.toList_data] at h1
  simpa [strB] using h1
theorem text_not {tx : List UInt8} {TX : ByteArray} (h : strB tx = TX) (h1 : ¬ TX.toList = [95, 58]) : ¬ tx = [95, 58] := by
  subst h
  rintro rfl
  exact h1 (by rw [Lib.toList_data]; rfl)
theorem over_true {pre : List Tok} {kd a en p ln : Nat} {tx ex r : List UInt8} (h1 : tx = [95, 58]) (h2 : kd = 7) (h3 : en = a) : overB 1 (pre ++ [⟨⟨kd, tx, ex, ln⟩, p, en⟩]) a r = letB (pk r 0) := by
  subst h1; subst h2; subst h3
  unfold overB
  rw [eOf_snoc, decide_eq_true (by rfl)]
  rfl
theorem over_false {pre : List Tok} {kd a en p ln : Nat} {tx ex r : List UInt8} (h : ¬ (tx = [95, 58] ∧ kd = 7 ∧ en = a)) : overB 1 (pre ++ [⟨⟨kd, tx, ex, ln⟩, p, en⟩]) a r = false := by
  unfold overB
  rw [eOf_snoc, decide_eq_false]
  · rfl
  · unfold endOf
    intro he
    split at he
    · rename_i hc
      exact h ⟨hc.2.1, hc.1, by simp only at he; omega⟩
    · omega
theorem one_five (a d e : Int) (b c : ByteArray) : ∀ u ∈ (#[.int .i64 a, .string b, .string c, .int .i64 d, .int .i64 e] : Array Value).toList, u.oneCell' = true := by
  intro u hu
  simp only [List.mem_cons, List.not_mem_nil, or_false] at hu
  rcases hu with rfl | rfl | rfl | rfl | rfl <;> rfl
theorem own_drew {w : World} {base : Nat} {e : TypeId} {size : Nat} {v : Value} {n : Nat} {xs : List Value} (h : w.ownsRow base e size v n xs) : w.drew.ownsRow base e size v n xs := h
theorem own_set5 {w : World} {base : Nat} {e : TypeId} {size : Nat} {v : Value} {n : Nat} {xs : List Value} {g : Nat} (h : w.ownsRow base e size v n xs) (hv : v.ownBlock ≠ some g) (a0 a1 a2 a3 a4 : Value) :
    (((((w.setCell ⟨g, 0, none⟩ a0).setCell ⟨g, 1, none⟩ a1).setCell ⟨g, 2, none⟩ a2).setCell ⟨g, 3, none⟩ a3).setCell ⟨g, 4, none⟩ a4).ownsRow base e size v n xs :=
  ownsRow_setCell_other (ownsRow_setCell_other (ownsRow_setCell_other (ownsRow_setCell_other (ownsRow_setCell_other h (a := ⟨g, 0, none⟩) hv a0) (a := ⟨g, 1, none⟩) hv a1) (a := ⟨g, 2, none⟩) hv a2) (a := ⟨g, 3, none⟩) hv a3) (a := ⟨g, 4, none⟩) hv a4
theorem last_cases {α : Type} (l : List α) : l = [] ∨ ∃ p x, l = p ++ [x] := by
  rcases List.eq_nil_or_concat l with h | ⟨p, x, h⟩
  · exact .inl h
  · exact .inr ⟨p, x, by rw [h, List.concat_eq_append]⟩
theorem decide_false_and {p : Prop} [Decidable p] {b : Bool} (h : ¬ p) : (decide p && b) = false := by
  rw [decide_eq_false h]; rfl

set_option maxRecDepth 100000 in
set_option maxHeartbeats 2000000 in
theorem rany_any (s : ByteArray) (lang : Int) (hs : s.size ≤ 100000) (w : World) :
    Calls Try.prog 21 #[.int .i64 lang, .string s] w (LexRes s lang w) := by
  have HSL := Lib.hid (show s.data.toList.length = s.size by simp)
  obtain ⟨a0, HA0⟩ := name_it (0 + skip false (s.data.toList.drop 0))
  have HLF := Lib.hid (show Left lang s.data.toList [] a0 by rw [← HA0.out, Nat.zero_add, List.drop_zero]; exact left_start _ _)
  go_enter Try.func21, Try.ntmps21
  go_wp2_with fail
  refine (rblank_to hs (a := 0) rfl (by omega) HA0.out _).mono ?_
  rintro e w' ⟨rfl, rfl⟩
  go_wp2
  go_loopw [7, 8] (fun v i wr => ∃ (pre : List Tok) (a : Nat), i = .int .i64 a ∧ RowKit.Hid (Left lang s.data.toList pre a) ∧ RowKit.Hid (wr.ownsRow w'.heap.size 36 5 v pre.length (flat pre)) ∧ pre.length ≤ a ∧ Below w'.heap.size w' wr) (fun _ i _ => s.size - (intOf i).toNat)
  case atStart => exact ⟨[], a0, rfl, HLF, Lib.hid (World.ownsRow_nil _ _ _ _), by simp, Below.refl _ _⟩
  case round =>
    clear HLF HA0
    obtain ⟨pre, a, rfl, HLF, HO, hpl, hb⟩ := hrel
    have hsz := hb.size
    by_cases hlt : a < s.size
    · have HLT := Lib.hid (show a < s.data.toList.length by rw [HSL.out]; exact hlt)
      go_wp2_with fail
      refine (one_any s a lang _ hs hlt).mono ?_
      rintro e w1 ⟨⟨v1, rfl, hone⟩, hb1⟩
      have hz1 := hb1.size
      rcases hone with ⟨h0, rfl⟩ | ⟨h0, k, T, z, rfl, hz⟩
      · obtain ⟨x, HX⟩ := name_it (nextLx lang false (s.data.toList.drop a))
        rw [HX.out] at h0 ⊢
        obtain ⟨k, t, ex, n⟩ := x
        simp only at h0
        have HN := Lib.hid h0
        have hn : 0 < n := by omega
        obtain ⟨q, HQ⟩ := name_it (a + n)
        have hq : a < q := by rw [← HQ.out]; omega
        have HB1 := Lib.hid (hb.trans (hb1.mono hsz))
        have HO1 := Lib.hid (own_below HO.out hb1)
        clear h0
        unfold lxCells
        simp only
        rw [HQ.out]
        obtain ⟨T, HT⟩ := name_it (strB t)
        obtain ⟨E, HE⟩ := name_it (strB ex)
        rw [HT.out, HE.out]
        go_upto_region 7 with fail
        obtain ⟨W2, HW2⟩ := name_it (w1.alloc (.cells #[.int .i64 k, .string T, .string E, .int .i64 a, .int .i64 q] 36))
        rw [HW2.out]
        have R2 : Res5 W2 w1.heap.size (.int .i64 k) (.string T) (.string E) (.int .i64 a) (.int .i64 q) := by rw [← HW2.out]; exact Res5.new _ _ _ _ _ _
        have HO2 := Lib.hid (show W2.ownsRow w'.heap.size 36 5 u7 pre.length (flat pre) by rw [← HW2.out]; exact HO1.out.alloc _)
        have HB2 := Lib.hid (show Below w'.heap.size w' W2 by rw [← HW2.out]; exact HB1.out.alloc (by omega) _)
        obtain ⟨A1, cp, rfl⟩ : ∃ A1 cp, u7 = .slice A1 pre.length cp := by
          rcases HO2.out.2 with ⟨rfl, h0⟩ | ⟨g, cp, cur, rfl, _⟩
          · exact ⟨none, 0, by rw [h0]⟩
          · exact ⟨_, cp, rfl⟩
        obtain ⟨M, HM⟩ := name_it pre.length
        rw [HM.out] at HO2 hpl ⊢
        have hws : w1.heap.size < W2.heap.size := by rw [← HW2.out]; simp
        have KO := Lib.hid (show ∀ b, (Value.slice A1 M cp).ownBlock = some b → w'.heap.size ≤ b ∧ b < w1.heap.size from fun b hb => by
          have := HO1.out.lt b (by rw [HM.out]; exact hb)
          exact this)
        clear hb hb1 HO HO1 HB1
        go_cut [69] (fun s69 wx => s69 = .bool (overB lang pre a (s.data.toList.drop a)) ∧ wx = W2)
        case first =>
          clear R2
          by_cases hl : lang = 1
          · subst hl
            rcases last_cases pre with rfl | ⟨pre', t', rfl⟩
            · obtain rfl : M = 0 := HM.out.symm
              have HV := Lib.hid (show overB 1 [] a (s.data.toList.drop a) = false from decide_false_and (by simp [eOf]))
              go_wp2_with fail
              refine (rtriples_is (b := true) rfl _).mono ?_
              rintro e w' ⟨rfl, rfl⟩
              go_wp2
              go_meet
              exact ⟨by rw [HV.out], rfl⟩
            · obtain ⟨j, rfl⟩ : ∃ j, M = j + 1 := ⟨pre'.length, by rw [← HM.out]; simp⟩
              have hj : j = pre'.length := by have := HM.out; simp at this; omega
              obtain ⟨g, cp', he, _, hglt⟩ := HO2.out.form (by omega)
              injection he with he1 _ he2
              subst he1
              subst he2
              have ho : W2.ownsRow w'.heap.size 36 5 (.slice (some ⟨g, 0, none⟩) (j + 1) cp) (j + 1) (flat (pre' ++ [t'])) := HO2.out
              have hjt : j < (pre' ++ [t']).length := by rw [HM.out]; omega
              have ht : (pre' ++ [t'])[j]'hjt = t' := by simp [hj]
              have c0 : W2.cell? ⟨g, j * 5, none⟩ = (tokCells t')[0]? := by rw [← ht]; exact own_tok ho HM.out.symm j 0 hjt (by omega)
              have c1 : W2.cell? ⟨g, j * 5 + 1, none⟩ = (tokCells t')[1]? := by rw [← ht]; exact own_tok ho HM.out.symm j 1 hjt (by omega)
              have c4 : W2.cell? ⟨g, j * 5 + 4, none⟩ = (tokCells t')[4]? := by rw [← ht]; exact own_tok ho HM.out.symm j 4 hjt (by omega)
              have HEO := Lib.hid (eOf_snoc 1 pre' t')
              clear ho ht hjt
              obtain ⟨⟨kd, tx, ex, ln⟩, at', en⟩ := t'
              change W2.cell? ⟨g, j * 5, none⟩ = some (.int .i64 kd) at c0
              change W2.cell? ⟨g, j * 5 + 1, none⟩ = some (.string (strB tx)) at c1
              change W2.cell? ⟨g, j * 5 + 4, none⟩ = some (.int .i64 en) at c4
              obtain ⟨TX, HTX⟩ := name_it (strB tx)
              rw [HTX.out] at c1
              clear hj
              go_wp2_with fail
              refine (rtriples_is (b := true) rfl _).mono ?_
              rintro e w' ⟨rfl, rfl⟩
              go_wp2_with fail
              · have h1 := text_is HTX.out (by assumption)
                have h2 : kd = 7 := by omega
                have h3 : en = a := by omega
                have HV := Lib.hid (over_true (pre := pre') (ex := ex) (ln := ln) (p := at') (r := s.data.toList.drop a) h1 h2 h3)
                clear h1 h2 h3
                cases hL : letB (pk (s.data.toList.drop a) 0) with
                | true =>
                  obtain ⟨qw, HW⟩ := name_it (a + wordLen (s.data.toList.drop a))
                  have hw : a < qw := by rw [← HW.out]; have := pos_word' hL; omega
                  have HL := Lib.hid hL
                  clear hL
                  refine (rword_to hs (a := a) rfl (by omega) HW.out rfl _).mono ?_
                  rintro e w' ⟨rfl, rfl⟩
                  go_wp2
                  go_meet
                  exact ⟨by rw [HV.out, HL.out], rfl⟩
                | false =>
                  have HW := Lib.hid (show a + wordLen (s.data.toList.drop a) = a by rw [wordLen_no hL]; rfl)
                  have HL := Lib.hid hL
                  clear hL
                  refine (rword_to hs (a := a) (y := (a : Int)) rfl (by omega) HW.out rfl _).mono ?_
                  rintro e w' ⟨rfl, rfl⟩
                  go_wp2
                  go_meet
                  exact ⟨by rw [HV.out, HL.out], rfl⟩
              · go_meet
                exact ⟨by rw [over_false (fun h => by have h3 := h.2.2; subst h3; contradiction)], rfl⟩
              · go_meet
                exact ⟨by rw [over_false (fun h => by have h3 := h.2.1; subst h3; contradiction)], rfl⟩
              · go_meet
                exact ⟨by rw [over_false (fun h => text_not HTX.out (by assumption) h.1)], rfl⟩
          · have HV := Lib.hid (show overB lang pre a (s.data.toList.drop a) = false from decide_false_and (fun h => hl (eOf_lang h)))
            have tl : (lang == 1) = false := by simpa using hl
            clear hl
            go_wp2_with fail
            refine (rtriples_is tl _).mono ?_
            rintro e w' ⟨rfl, rfl⟩
            go_wp2
            go_meet
            exact ⟨by rw [HV.out], rfl⟩
        case rest =>
          obtain ⟨rfl, rfl⟩ := hcut
          have K1 := Lib.hid (show ∀ b, (Value.slice A1 M cp).ownBlock = some b → w'.heap.size ≤ b ∧ b < w1.heap.size from KO.out)
          cases hov : overB lang pre a (s.data.toList.drop a) with
          | false =>
            have HXN := Lib.hid ((over_no hov).trans HX.out)
            have HQE := Lib.hid (show a + n = q from HQ.out)
            clear hov
            obtain ⟨⟨c0, c1, c2, c3, c4⟩, f0, f1, f2, f3, f4⟩ := R2
            have hbs : w'.heap.size ≤ wc.heap.size := HB2.out.size
            go_wp2_with (at_builtin; refine app_new rfl _ _ 25 rfl w'.heap.size 36 _ 5 56 Try.underlying25 infoLexeme rfl (by decide) _ _ _ rfl HO2.out hbs #[.int .i64 k, .string T, .string E, .int .i64 a, .int .i64 q] 1 1 rfl rfl (one_five _ _ _ _ _) (by omega) (by decide) ?_)
            intro v4 w4 ho4 hg4
            have HO4 := Lib.hid (show w4.ownsRow w'.heap.size 36 5 v4 (pre ++ [(⟨⟨k, t, ex, n⟩, a, q⟩ : Tok)]).length (flat (pre ++ [(⟨⟨k, t, ex, n⟩, a, q⟩ : Tok)])) by
              rw [flat_snoc, List.length_append, HM.out]
              have : (tokCells (⟨⟨k, t, ex, n⟩, a, q⟩ : Tok)).toList = (#[.int .i64 k, .string T, .string E, .int .i64 a, .int .i64 q] : Array Value).toList := by rw [← HT.out, ← HE.out]; rfl
              rw [this]
              exact ho4)
            have d4 : w4.cell? ⟨w1.heap.size, 4, none⟩ = some (.int .i64 q) := (hg4.cell_far ⟨w1.heap.size, 4, none⟩ hws (fun e => absurd (K1.out _ e.symm).2 (Nat.lt_irrefl _))).trans c4
            have HB4 := Lib.hid (HB2.out.grown hg4 hbs (fun b hb => (K1.out b hb).1))
            have HLN := Lib.hid (left_next HLF.out HLT.out HXN.out (by simp; omega))
            simp only at HLN
            rw [HQE.out] at HLN
            have hqs : q ≤ s.size := by have := HLN.out.1; rw [HSL.out] at this; exact this
            obtain ⟨a2, HA2⟩ := name_it (q + skip false (s.data.toList.drop q))
            rw [HA2.out] at HLN
            have ha2 : q ≤ a2 := by rw [← HA2.out]; omega
            clear ho4 hg4 c0 c1 c2 c3 c4 f0 f1 f2 f3 f4 hbs
            go_wp2_with fail
            refine (rblank_to hs (a := q) rfl hqs HA2.out _).mono ?_
            rintro e w5 ⟨rfl, rfl⟩
            go_wp2
            go_roundw
            case rel => exact ⟨pre ++ [⟨⟨k, t, ex, n⟩, a, q⟩], a2, rfl, Lib.hid HLN.out.2, HO4, by rw [List.length_append, HM.out]; simp; omega, HB4.out⟩
            case measure => simp [intOf]; omega
          | true =>
            obtain ⟨hl1, hL, hnx⟩ := over_yes hov
            obtain ⟨m, HWM⟩ := name_it (wordLen (s.data.toList.drop a))
            rw [HWM.out] at hnx
            have HXN := Lib.hid hnx
            obtain ⟨q2, HQE⟩ := name_it (a + m)
            have hm0 : 0 < m := by rw [← HWM.out]; exact pos_word' hL
            have hq2 : a < q2 := by rw [← HQE.out]; omega
            have HWQ := Lib.hid (show a + wordLen (s.data.toList.drop a) = q2 by rw [HWM.out, HQE.out])
            have hq2s : q2 ≤ s.size := by rw [← HWQ.out]; exact wordEnd_le (by omega)
            obtain ⟨TW, HTX⟩ := name_it (s.extract a q2)
            have HTW := Lib.hid (show strB ((s.data.toList.drop a).take m) = TW by rw [← HTX.out, ext_eq, show q2 - a = m by rw [← HQE.out]; omega])
            have i1 : (a : Int) ≤ q2 := by omega
            have i2 : a ≤ q2 := by omega
            clear hov hl1 hL hnx
            go_wp2_with fail
            go_still_tail 11, (by kernel_rfl)
            still_call (rword_to hs (a := a) rfl (by omega) HWQ.out rfl _)
            repeat still_step
            still_call (rword_to hs (a := a) rfl (by omega) HWQ.out rfl _)
            repeat still_step
            refine wpStill_nil ?_
            change wpList _ _ _ _ _ (World.drew _)
            rw [HTX.out]
            obtain ⟨⟨c0, c1, c2, c3, c4⟩, f0, f1, f2, f3, f4⟩ := R2
            have RS : Res5 wc w1.heap.size _ _ _ _ _ := ⟨⟨c0, c1, c2, c3, c4⟩, f0, f1, f2, f3, f4⟩
            go_upto_region 9 with fail
            obtain ⟨W3, HW3⟩ := name_it (((((wc.setCell ⟨w1.heap.size, 0, none⟩ (.int .i64 0)).setCell ⟨w1.heap.size, 1, none⟩ (.string TW)).setCell ⟨w1.heap.size, 2, none⟩ (.string ⟨#[]⟩)).setCell ⟨w1.heap.size, 3, none⟩ (.int .i64 a)).setCell ⟨w1.heap.size, 4, none⟩ (.int .i64 q2)).drew
            rw [HW3.out]
            have R3 : Res5 W3 w1.heap.size (.int .i64 0) (.string TW) (.string ⟨#[]⟩) (.int .i64 a) (.int .i64 q2) := by rw [← HW3.out]; exact res5_drew (RS.set5 _ _ _ _ _)
            have HO3 := Lib.hid (show W3.ownsRow w'.heap.size 36 5 (.slice A1 M cp) M (flat pre) from by
              rw [← HW3.out]
              exact own_drew (own_set5 HO2.out (fun e => absurd (K1.out _ e).2 (Nat.lt_irrefl _)) _ _ _ _ _))
            have HB3 := Lib.hid (show Below w'.heap.size w' W3 by rw [← HW3.out]; exact (below_set5 HB2.out (by omega)).drew)
            have hws : w1.heap.size < W3.heap.size := by rw [← HW3.out]; simpa using hws
            clear RS c0 c1 c2 c3 c4 f0 f1 f2 f3 f4
            obtain ⟨⟨c0, c1, c2, c3, c4⟩, f0, f1, f2, f3, f4⟩ := R3
            have hbs : w'.heap.size ≤ W3.heap.size := HB3.out.size
            go_wp2_with (at_builtin; refine app_new rfl _ _ 25 rfl w'.heap.size 36 _ 5 56 Try.underlying25 infoLexeme rfl (by decide) _ _ _ rfl HO3.out hbs #[.int .i64 0, .string TW, .string ⟨#[]⟩, .int .i64 a, .int .i64 q2] 1 1 rfl rfl (one_five _ _ _ _ _) (by omega) (by decide) ?_)
            intro v4 w4 ho4 hg4
            have HO4 := Lib.hid (show w4.ownsRow w'.heap.size 36 5 v4 (pre ++ [(⟨⟨0, (s.data.toList.drop a).take m, [], m⟩, a, q2⟩ : Tok)]).length (flat (pre ++ [(⟨⟨0, (s.data.toList.drop a).take m, [], m⟩, a, q2⟩ : Tok)])) by
              rw [flat_snoc, List.length_append, HM.out]
              have : (tokCells (⟨⟨0, (s.data.toList.drop a).take m, [], m⟩, a, q2⟩ : Tok)).toList = (#[.int .i64 0, .string TW, .string ⟨#[]⟩, .int .i64 a, .int .i64 q2] : Array Value).toList := by rw [← HTW.out]; rfl
              rw [this]
              exact ho4)
            have d4 : w4.cell? ⟨w1.heap.size, 4, none⟩ = some (.int .i64 q2) := (hg4.cell_far ⟨w1.heap.size, 4, none⟩ hws (fun e => absurd (K1.out _ e.symm).2 (Nat.lt_irrefl _))).trans c4
            have HB4 := Lib.hid (HB3.out.grown hg4 hbs (fun b hb => (K1.out b hb).1))
            have HLN := Lib.hid (left_next HLF.out HLT.out HXN.out (by simp; omega))
            simp only at HLN
            rw [HQE.out] at HLN
            have hqs : q2 ≤ s.size := by have := HLN.out.1; rw [HSL.out] at this; exact this
            obtain ⟨a2, HA2⟩ := name_it (q2 + skip false (s.data.toList.drop q2))
            rw [HA2.out] at HLN
            have ha2 : q2 ≤ a2 := by rw [← HA2.out]; omega
            clear ho4 hg4 c0 c1 c2 c3 c4 f0 f1 f2 f3 f4 hbs
            go_wp2_with fail
            refine (rblank_to hs (a := q2) rfl hqs HA2.out _).mono ?_
            rintro e w5 ⟨rfl, rfl⟩
            go_wp2
            go_roundw
            case rel => exact ⟨pre ++ [⟨⟨0, (s.data.toList.drop a).take m, [], m⟩, a, q2⟩], a2, rfl, Lib.hid HLN.out.2, HO4, by rw [List.length_append, HM.out]; simp; omega, HB4.out⟩
            case measure => simp [intOf]; omega

      · have HF := Lib.hid (left_fault HLF.out HLT.out h0)
        have HB1 := Lib.hid (hb.trans (hb1.mono hsz))
        clear h0
        have t1 : decide (z ≤ (a : Int)) = true := decide_eq_true hz
        go_wp2
        go_ret3
        exact lexRes_none HF.out (HB1.out.alloc (by omega) _) rfl
    · have HE := Lib.hid (left_end HLF.out (by rw [HSL.out]; omega))
      go_wp2
      go_ret3
      exact lexRes_some HE.out hb HO.out rfl

end Go.Proofs.Ytaaomjpkgpjegaa
