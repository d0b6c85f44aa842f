/- A column of texts: made, put, put as null; its nulls; a cell. -/
import Derived.Test.YtdhnmgndekncpaaDoorN0
namespace Go.Proofs.YtdhnmgndekncpaaDoor
open Go Go.RowKit Go.Maps Go.WideMaps

set_option maxRecDepth 100000 in
set_option maxHeartbeats 1000000 in
theorem putT0_any {w : World} {B c nl : Nat} {v u : Value} {n : Nat} {vs : List Value} {bs : List Nat} {fs : List Bool} (h : Col 114 9 1 w B c v u n vs bs fs nl) (hl : fs.length = n) (hx : n < 8796093022208) (hnl : nl ≤ n) (x : ByteArray) (null : Bool) :
    Calls Tryd.prog 53 #[.pointer (some ⟨c, 0, none⟩), .string x, .bool null] w (PutIs 114 9 1 B c v u n (vs ++ [.string x]) (fs ++ [null]) (nl + cond null 1 0) w) := by
  have hcl := blk_lt h.blk
  have hB : B ≤ w.heap.size := Nat.le_trans h.loc (Nat.le_of_lt hcl)
  obtain ⟨A, cp, rfl⟩ := slice_form h.vals
  obtain ⟨A2, cp2, hu⟩ := slice_form h.bits
  have HU := Lib.hid hu
  have c0 : w.cell? ⟨c, 0, none⟩ = some (.slice A n cp) := Lib.cell_of_heap h.blk 0
  have c1 : w.cell? ⟨c, 1, none⟩ = some u := Lib.cell_of_heap h.blk 1
  have hcu := own_ne h.bits h.blk (by decide)
  have hcv := own_ne h.vals h.blk (by decide)
  have hvu := own_apart h.vals h.bits (by decide)
  have HX := Lib.hid h
  have HL := Lib.hid hl
  have HCU := Lib.hid hcu
  have HCV := Lib.hid hcv
  have HVU := Lib.hid hvu
  clear h hl hu hcu hcv hvu
  go_enter Tryd.func53, Tryd.ntmps53
  go_upto_if 14 with fail
  go_cut [6] (fun s6 wx => s6 = .int .i64 n ∧ MidC 114 9 1 w B c (.slice A n cp) u n vs (fs ++ [false]) nl wx)
  case first =>
    by_cases hm : n % 64 = 0
    · have t1 : ((n : Int) % 64 == 0) = true := by simp; omega
      have hbl : bs.length < 8796093022208 := by rw [HX.out.isb.1, HL.out]; omega
      have HR := Lib.hid HX.out.bits
      go_wp2_with (at_builtin; refine app_wide rfl _ _ 108 rfl B 112 (.int .u64 0) 1 8 Tryd.underlying108 infoU64 rfl (by decide) _ _ _ rfl HR.out hB #[.int .u64 0] 1 rfl rfl (one_int _ _) (by omega) (by omega) ?_; intro g4 cp4 w4 ho4 hg4 hl4; have HO4 := Lib.hid ho4; have HG4 := Lib.hid (show w.grownBy w4 u.ownBlock from hg4); have HL4 := Lib.hid (show u.ownBlock = some g4 ∨ w.heap.size ≤ g4 from hl4); have HC4 := Lib.hid ((HG4.out.block c hcl (fun e => HCU.out e.symm)).trans HX.out.blk); have f4 : w4.frozen? ⟨c, 1, none⟩ = false := Lib.frozen_of_heap HC4.out 1; have d1 : w4.cell? ⟨c, 1, none⟩ = some u := Lib.cell_of_heap HC4.out 1; clear ho4 hg4 hl4)
      go_meet
      have hgc : g4 ≠ c := by
        rcases HL4.out with h0 | h0
        · exact fun e => HCU.out (by rw [h0, e])
        · omega
      refine ⟨rfl, _, bs ++ [0], ⟨heap_setCell_same w4 c 1 _ 114 _ HC4.out, ?_, ?_, bits_more HX.out.isb (by rw [HL.out]; exact hm), HX.out.loc⟩, ?_, ?_⟩
      · exact ownsRow_setCell_other ((Turn.of_grown HG4.out).owns HX.out.vals (fun k hk e => HVU.out k e.symm hk)) (a := ⟨c, 1, none⟩) (fun e => HCV.out e) _
      · rw [List.length_append, List.map_append]
        exact ownsRow_setCell_other HO4.out (a := ⟨c, 1, none⟩) (fun e => hgc (by injection e)) _
      · rcases HL4.out with h0 | h0
        · exact .inl h0.symm
        · exact .inr fun g hg => by injection hg with hg; have hg : g4 = g := hg; omega
      · exact ((Turn.of_grown HG4.out).mono (fun i _ h => .inr (.inr h))).setCell (p := ⟨c, 1, none⟩) (.inr (.inl rfl)) _
    · have t1 : ((n : Int) % 64 == 0) = false := by simp; omega
      go_wp2_with fail
      go_meet
      exact ⟨rfl, u, bs, ⟨HX.out.blk, HX.out.vals, HX.out.bits, bits_keep HX.out.isb (by rw [HL.out]; exact hm), HX.out.loc⟩, .inl rfl, Turn.refl _ _⟩
  case rest =>
    rename World => w1
    obtain ⟨rfl, u1, bs1, hc1, hf1, ht1⟩ := hcut
    have hf1' := Lib.hid hf1
    have HT1 := Lib.hid ht1
    have HC1 := Lib.hid hc1
    have hcl1 := blk_lt hc1.blk
    have hw1 : w.heap.size ≤ w1.heap.size := ht1.size
    clear hf1 ht1 hc1 c0 c1
    go_upto_if 24 with fail
    go_cut [6] (fun s6 wx => s6 = .int .i64 n ∧ MidC 114 9 1 w1 B c (.slice A n cp) u1 n vs (fs ++ [null]) (nl + cond null 1 0) wx)
    case first =>
      cases null with
      | false =>
        go_wp2_with fail
        go_meet
        exact ⟨rfl, u1, bs1, HC1.out, .inl rfl, Turn.refl _ _⟩
      | true =>
        obtain ⟨b, hb, hb64, hbit⟩ := bits_at HC1.out.isb (i := n) (by simp [HL.out])
        have hbl : bs1.length < 8796093022208 := by rw [HC1.out.isb.1]; simp [HL.out]; omega
        have hql : n / 64 < bs1.length := by rw [HC1.out.isb.1]; simp [HL.out]; omega
        obtain ⟨g, cp1, hu1, _, _⟩ := HC1.out.bits.form (by omega)
        subst hu1
        have c1 : w1.cell? ⟨c, 1, none⟩ = some (.slice (some ⟨g, 0, none⟩) bs1.length cp1) := Lib.cell_of_heap HC1.out.blk 1
        have c2 : w1.cell? ⟨c, 2, none⟩ = some (.int .i64 nl) := Lib.cell_of_heap HC1.out.blk 2
        have e1 : (0 : Int) ≤ n := by omega
        obtain ⟨q, HQ⟩ := name_it (n / 64)
        obtain ⟨r, HR⟩ := name_it (n % 64)
        have hq : (n : Int) / 64 = (q : Int) := by rw [← HQ.out]; omega
        have hr : (n : Int) % 64 = (r : Int) := by rw [← HR.out]; omega
        have hq' : (n : Int).tdiv 64 = (q : Int) := by rw [← hq]; exact Int.tdiv_eq_ediv_of_nonneg (by omega)
        have hr' : (n : Int).tmod 64 = (r : Int) := by rw [← hr]; exact Int.tmod_eq_emod_of_nonneg (by omega)
        have hqw : IntKind.i64.wrap (q : Int) = (q : Int) := IntWalk.i64_in _ (by omega)
        have hrw : IntKind.i64.wrap (r : Int) = (r : Int) := IntWalk.i64_in _ (by omega)
        have e2 : (0 : Int) ≤ q := by omega
        have e3 : (q : Int) < bs1.length := by omega
        have e4 : (0 : Int) ≤ r := by omega
        have e5 : (r : Int) < 64 := by omega
        obtain ⟨o, HO⟩ := name_it (b ||| 2 ^ r)
        have hor : bits BinOp.or IntKind.u64 (b : Int) (IntKind.u64.wrap (2 ^ r)) = (o : Int) := by
          rw [← HO.out]
          have h2 : (2 : Nat) ^ r < 18446744073709551616 := Nat.lt_of_lt_of_le (Nat.pow_lt_pow_right (by decide) (show r < 64 by omega)) (by decide)
          have h3 : IntKind.u64.wrap ((2 : Int) ^ r) = ((2 ^ r : Nat) : Int) := by
            rw [show ((2 : Int) ^ r) = ((2 ^ r : Nat) : Int) by push_cast; rfl]
            exact IntWalk.u64_in _ ⟨Int.natCast_nonneg _, Int.ofNat_le.2 (Nat.le_of_lt_succ h2)⟩
          rw [h3]
          exact u64_or_nat b _ hb64 h2
        have gc : w1.cell? ⟨g, q, none⟩ = some (.int .u64 b) := by
          rw [HC1.out.bits.cellAt q (by omega), List.getElem?_map, ← HQ.out, hb]; rfl
        obtain ⟨cur, hcur⟩ := own_type HC1.out.bits (g := g) rfl
        have fg : w1.frozen? ⟨g, q, none⟩ = false := Lib.frozen_of_heap hcur q
        have hgc : g ≠ c := fun e => own_ne HC1.out.bits HC1.out.blk (by decide) (by rw [← e]; rfl)
        have HGC := Lib.hid hgc
        have HQ1 := Lib.hid hb
        have HBIT := Lib.hid hbit
        clear hgc hb hbit hcur
        go_wp2_with fail
        go_still_tail 13, (by kernel_rfl)
        change wpList _ _ _ _ _ (World.drew _)
        obtain ⟨W, HW⟩ := name_it (w1.setCell ⟨g, q, none⟩ (.int .u64 o)).drew
        have HWC := Lib.hid (show W.heap[c]? = some (.cells #[.slice A n cp, .slice (some ⟨g, 0, none⟩) bs1.length cp1, .int .i64 nl] 114 (0, 0)) from by
          rw [← HW.out]
          exact (Below.heap_setCell w1 ⟨g, q, none⟩ _ c (fun e => HGC.out (by rw [e]))).trans HC1.out.blk)
        have w2 : W.cell? ⟨c, 2, none⟩ = some (.int .i64 nl) := Lib.cell_of_heap HWC.out 2
        have f2 : W.frozen? ⟨c, 2, none⟩ = false := Lib.frozen_of_heap HWC.out 2
        have HOS := Lib.hid (HC1.out.bits.stored q (.int .u64 o))
        go_upto_region 5 with fail
        rw [HW.out]
        go_wp2_with fail
        go_meet
        have hne : (Value.slice A n cp).ownBlock ≠ some g := own_apart HC1.out.vals HC1.out.bits (by decide) g rfl
        refine ⟨rfl, _, bs1.set q o, ⟨?_, ?_, ?_, ?_, HC1.out.loc⟩, .inl rfl, ?_⟩
        · rw [heap_setCell_same W c 2 _ 114 _ HWC.out]; rfl
        · refine ownsRow_setCell_other ?_ (a := ⟨c, 2, none⟩) (own_ne HC1.out.vals HC1.out.blk (by decide)) _
          rw [← HW.out]
          exact own_drew (ownsRow_setCell_other HC1.out.vals (a := ⟨g, q, none⟩) hne _)
        · refine ownsRow_setCell_other ?_ (a := ⟨c, 2, none⟩) (own_ne HC1.out.bits HC1.out.blk (by decide)) _
          rw [← HW.out]
          have h9 := HOS.out.1
          rw [List.length_set, List.map_set]
          exact own_drew h9
        · have h9 := bits_set (bs := bs1) (fs := fs) HC1.out.isb (b := b)
          rw [HL.out, HQ.out, HR.out, HO.out] at h9
          exact h9 (by rw [← HQ.out]; exact HQ1.out)
        · have h9 : Turn (SC c (.slice A n cp) (.slice (some ⟨g, 0, none⟩) bs1.length cp1)) w1 W := by
            rw [← HW.out]
            exact ((Turn.refl _ w1).setCell (p := ⟨g, q, none⟩) (.inr (.inr (.inr rfl))) _).drew
          exact h9.setCell (p := ⟨c, 2, none⟩) (.inr (.inl rfl)) _
    case rest =>
      obtain ⟨rfl, u2, bs2, hc2, hf2, ht2⟩ := hcut
      have HF2 := Lib.hid hf2
      have HT2 := Lib.hid ht2
      have HC2 := Lib.hid hc2
      have hcl2 := blk_lt hc2.blk
      have hB2 : B ≤ wc.heap.size := Nat.le_trans hc2.loc (Nat.le_of_lt hcl2)
      have hw2 : w1.heap.size ≤ wc.heap.size := ht2.size
      have c0 : wc.cell? ⟨c, 0, none⟩ = some (.slice A n cp) := Lib.cell_of_heap hc2.blk 0
      have HV := Lib.hid hc2.vals
      clear hf2 ht2 hc2
      go_wp2_with (at_builtin; refine app_wide rfl _ _ 22 rfl B 9 (.string ⟨#[]⟩) 1 16 Tryd.underlying22 infoString rfl (by decide) _ _ _ rfl HV.out hB2 #[.string x] 1 rfl rfl (one_str _) (by omega) (by omega) ?_; intro g4 cp4 w4 ho4 hg4 hl4; have HO4 := Lib.hid ho4; have HG4 := Lib.hid (show wc.grownBy w4 (Value.slice A n cp).ownBlock from hg4); have HL4 := Lib.hid (show (Value.slice A n cp).ownBlock = some g4 ∨ wc.heap.size ≤ g4 from hl4); have hs4 : wc.heap.size ≤ w4.heap.size := HG4.out.size; have HC4 := Lib.hid ((HG4.out.block c hcl2 (fun e => own_ne HC2.out.vals HC2.out.blk (by decide) e.symm)).trans HC2.out.blk); have f4 : w4.frozen? ⟨c, 0, none⟩ = false := Lib.frozen_of_heap HC4.out 0; have d0 : w4.cell? ⟨c, 0, none⟩ = some (.slice A n cp) := Lib.cell_of_heap HC4.out 0; clear ho4 hg4 hl4)
      go_end0
      have hgc : g4 ≠ c := by
        rcases HL4.out with h0 | h0
        · exact fun e => own_ne HC2.out.vals HC2.out.blk (by decide) (by rw [h0, e])
        · omega
      have hvu := own_apart HC2.out.vals HC2.out.bits (by decide)
      have hcu := own_ne HC2.out.bits HC2.out.blk (by decide)
      refine ⟨rfl, ⟨.slice (some ⟨g4, 0, none⟩) (n + 1) cp4, u2, bs2, ⟨heap_setCell_same w4 c 0 _ 114 _ HC4.out, ?_, ?_, HC2.out.isb, HC2.out.loc⟩, ?_, ?_⟩, ?_⟩
      · exact ownsRow_setCell_other HO4.out (a := ⟨c, 0, none⟩) (fun e => hgc (by injection e)) _
      · exact ownsRow_setCell_other ((Turn.of_grown HG4.out).owns HC2.out.bits (fun k hk e => hvu k hk e.symm)) (a := ⟨c, 0, none⟩) (fun e => hcu e) _
      · rcases HL4.out with h0 | h0
        · exact .inl h0.symm
        · exact .inr fun g hg => by injection hg with hg; have hg : g4 = g := hg; omega
      · rcases HF2.out with h0 | h0
        · rcases hf1'.out with h1 | h1
          · exact .inl (h0.trans h1)
          · exact .inr fun g hg => h1 g (h0 ▸ hg)
        · exact .inr fun g hg => Nat.le_trans hw1 (h0 g hg)
      · have h1 : Turn (SC c (.slice A n cp) u) w wc := HT1.out.andThen HT2.out (fun i hi hs => by
          rcases hs with hs | hs | hs
          · exact .inl hs
          · exact .inr (.inl hs)
          · rcases hf1'.out with h1 | h1
            · exact .inr (.inr (h1 ▸ hs))
            · have := h1 i hs.symm; omega)
        exact (h1.trans ((Turn.of_grown HG4.out).mono (fun i _ h => .inr (.inl h)))).setCell (p := ⟨c, 0, none⟩) (.inr (.inl rfl)) _

set_option maxRecDepth 100000 in
set_option maxHeartbeats 400000 in
theorem newT_any (w : World) : Calls Tryd.prog 32 #[] w (NewIs 114 9 1 w) := by
  go_enter Tryd.func32, Tryd.ntmps32
  go_wp2
  go_ret
  refine ⟨rfl, ⟨heap_alloc_new w _, World.ownsRow_nil _ _ _ _, World.ownsRow_nil _ _ _ _, bits_nil, Nat.le_refl _⟩, (Below.refl w.heap.size w).alloc (Nat.le_refl _) _, by simp⟩

set_option maxRecDepth 100000 in
set_option maxHeartbeats 400000 in
theorem nullsT_any {w : World} {B c nl : Nat} {v u : Value} {n : Nat} {vs : List Value} {bs : List Nat} {fs : List Bool} (h : Col 114 9 1 w B c v u n vs bs fs nl) : Calls Tryd.prog 41 #[.pointer (some ⟨c, 0, none⟩)] w fun e w' => e = .returned (.int .i64 (nl : Int)) ∧ w' = w := by
  have c2 : w.cell? ⟨c, 2, none⟩ = some (.int .i64 nl) := Lib.cell_of_heap h.blk 2
  go_enter Tryd.func41, Tryd.ntmps41
  go_wp2
  go_ret
  exact ⟨rfl, rfl⟩

set_option maxRecDepth 100000 in
set_option maxHeartbeats 400000 in
theorem putT_any {w : World} {B c nl : Nat} {v u : Value} {n : Nat} {vs : List Value} {bs : List Nat} {fs : List Bool} (h : Col 114 9 1 w B c v u n vs bs fs nl) (hl : fs.length = n) (hx : n < 8796093022208) (hnl : nl ≤ n) (x : ByteArray) :
    Calls Tryd.prog 36 #[.pointer (some ⟨c, 0, none⟩), .string x] w (PutIs 114 9 1 B c v u n (vs ++ [.string x]) (fs ++ [false]) nl w) := by
  have hc := putT0_any h hl hx hnl x false
  have HC := Lib.hid hc
  clear hc hl
  go_enter Tryd.func36, Tryd.ntmps36
  go_wp2_with fail
  refine HC.out.mono ?_
  rintro e w' ⟨rfl, h2⟩
  go_wp2
  go_end0
  exact ⟨rfl, h2⟩

set_option maxRecDepth 100000 in
set_option maxHeartbeats 400000 in
theorem nullT_any {w : World} {B c nl : Nat} {v u : Value} {n : Nat} {vs : List Value} {bs : List Nat} {fs : List Bool} (h : Col 114 9 1 w B c v u n vs bs fs nl) (hl : fs.length = n) (hx : n < 8796093022208) (hnl : nl ≤ n) :
    Calls Tryd.prog 34 #[.pointer (some ⟨c, 0, none⟩)] w (PutIs 114 9 1 B c v u n (vs ++ [.string ⟨#[]⟩]) (fs ++ [true]) (nl + 1) w) := by
  have hc := putT0_any h hl hx hnl ⟨#[]⟩ true
  have HC := Lib.hid hc
  clear hc hl
  go_enter Tryd.func34, Tryd.ntmps34
  go_wp2_with fail
  refine HC.out.mono ?_
  rintro e w' ⟨rfl, h2⟩
  go_wp2
  go_end0
  exact ⟨rfl, h2⟩

set_option maxRecDepth 100000 in
set_option maxHeartbeats 400000 in
theorem atT_no {w : World} {B c nl : Nat} {v u : Value} {n : Nat} {vs : List Value} {bs : List Nat} {fs : List Bool} (h : Col 114 9 1 w B c v u n vs bs fs nl) (i : Int) (hi : i < 0 ∨ (n : Int) ≤ i) :
    Calls Tryd.prog 43 #[.pointer (some ⟨c, 0, none⟩), .int .i64 i] w (Told3 (.string ⟨#[]⟩) (.bool false) (.int .i64 1) w) := by
  have c0 : w.cell? ⟨c, 0, none⟩ = some v := Lib.cell_of_heap h.blk 0
  obtain ⟨A, cp, rfl⟩ := slice_form h.vals
  by_cases h0 : i < 0
  · go_enter Tryd.func43, Tryd.ntmps43
    go_wp2
    go_ret3
    exact ⟨rfl, 0, rfl⟩
  · have h1 : (n : Int) ≤ i := by omega
    have h2 : 0 ≤ i := by omega
    go_enter Tryd.func43, Tryd.ntmps43
    go_wp2
    go_ret3
    exact ⟨rfl, 0, rfl⟩

set_option maxRecDepth 100000 in
set_option maxHeartbeats 400000 in
theorem atT_yes {w : World} {B c nl : Nat} {v u : Value} {n : Nat} {vs : List Value} {bs : List Nat} {fs : List Bool} (h : Col 114 9 1 w B c v u n vs bs fs nl) (hl : fs.length = n) (hx : n < 8796093022208) (i : Nat) (hi : i < n) (x : ByteArray) (hxi : vs[i]? = some (.string x)) (f : Bool) (hf : fs[i]? = some f) :
    Calls Tryd.prog 43 #[.pointer (some ⟨c, 0, none⟩), .int .i64 i] w (Told3 (.string x) (.bool (!f)) (.int .i64 0) w) := by
  obtain ⟨g, cp, rfl, _, _⟩ := h.vals.form (by omega)
  obtain ⟨b, hb, hb64, hbit⟩ := bits_at h.isb (i := i) (by omega)
  have hql : i / 64 < bs.length := by rw [h.isb.1]; omega
  obtain ⟨g2, cp2, rfl, _, _⟩ := h.bits.form (by omega)
  have c0 : w.cell? ⟨c, 0, none⟩ = some (.slice (some ⟨g, 0, none⟩) n cp) := Lib.cell_of_heap h.blk 0
  have c1 : w.cell? ⟨c, 1, none⟩ = some (.slice (some ⟨g2, 0, none⟩) bs.length cp2) := Lib.cell_of_heap h.blk 1
  have d0 : w.cell? ⟨g, i, none⟩ = some (.string x) := by rw [h.vals.cellAt i (by omega), hxi]
  obtain ⟨q, HQ⟩ := name_it (i / 64)
  obtain ⟨r, HR⟩ := name_it (i % 64)
  have d1 : w.cell? ⟨g2, q, none⟩ = some (.int .u64 b) := by rw [h.bits.cellAt q (by rw [← HQ.out]; omega), List.getElem?_map, ← HQ.out, hb]; rfl
  have e1 : (0 : Int) ≤ i := by omega
  have e2 : (i : Int) < n := by omega
  have hq : (i : Int).tdiv 64 = (q : Int) := by rw [← HQ.out, Int.tdiv_eq_ediv_of_nonneg (by omega)]; omega
  have hr : (i : Int).tmod 64 = (r : Int) := by rw [← HR.out, Int.tmod_eq_emod_of_nonneg (by omega)]; omega
  have hq2 : (i : Int) / 64 = (q : Int) := by rw [← HQ.out]; omega
  have hr2 : (i : Int) % 64 = (r : Int) := by rw [← HR.out]; omega
  have hqw : IntKind.i64.wrap (q : Int) = (q : Int) := IntWalk.i64_in _ (by omega)
  have hrw : IntKind.i64.wrap (r : Int) = (r : Int) := IntWalk.i64_in _ (by omega)
  have e3 : (0 : Int) ≤ q := by omega
  have e4 : (q : Int) < bs.length := by omega
  have e5 : (0 : Int) ≤ r := by omega
  have e6 : (r : Int) < 64 := by omega
  have hn0 : decide ((i : Int) < 0) = false := decide_eq_false (by omega)
  have hn1 : decide ((n : Int) ≤ i) = false := decide_eq_false (by omega)
  have hbb : (bits BinOp.and IntKind.u64 ((b : Int) / 2 ^ r) 1 == 0) = !f := by
    have h1 : (b : Int) / 2 ^ r = ((b / 2 ^ r : Nat) : Int) := by push_cast; rfl
    have h2 : b / 2 ^ r ≤ b := Nat.div_le_self _ _
    rw [h1, and_one_u64 _ (Int.natCast_nonneg _) (by have := Int.ofNat_le.2 h2; omega)]
    have h3 := bit_of b r
    rw [HR.out, List.getD_eq_getElem?_getD, hf] at hbit
    have h4 : b.testBit r = f := hbit
    rw [h4] at h3
    have h5 : ((b / 2 ^ r : Nat) : Int) % 2 = ((b / 2 ^ r % 2 : Nat) : Int) := by push_cast; rfl
    rw [h5, h3]
    cases f <;> rfl
  have e7 : decide (n ≤ i) = false := decide_eq_false (by omega)
  clear h hl hxi hf hb hbit
  go_enter Tryd.func43, Tryd.ntmps43
  go_wp2_with fail
  go_quiet (fail)
  go_wp2_with fail
  go_ret3
  exact ⟨rfl, nq, rfl⟩
end Go.Proofs.YtdhnmgndekncpaaDoor
