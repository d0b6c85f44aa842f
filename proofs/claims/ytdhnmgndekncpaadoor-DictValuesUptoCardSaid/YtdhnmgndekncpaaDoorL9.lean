/- A column of numbers: whatever is put. -/
import Derived.Test.YtdhnmgndekncpaaDoorL8
import Derived.Test.YtdhnmgndekncpaaDoorB0
import Derived.StillTailTactics
import Derived.Deep.DeepCutAuto
import Derived.IntWalk
namespace Go.Proofs.YtdhnmgndekncpaaDoor
open Go Go.RowKit Go.Maps Go.WideMaps

/-- 'append(v, x)': as 'app_new', up to the model's own bound. -/
theorem app_wide {P : Program} {wr : World} {ops : Array Oper} {rest : List Oper} {o : Oper} {a : Act} {Q : Exit → Act → World → Prop} (hgd : o.guard = none) (s x : Operand) (t : TypeId)
    (ho : o.op = .call { callee := .builtin .append, args := #[s, x], argTypes := #[t, t] })
    (base : Nat) (e : TypeId) (z : Value) (size bytes : Nat) (ht : P.underlying t = some (.slice e)) (hinfo : (P.info? e).map (fun i => (i.zero, i.size, i.bytes)) = some (some z, size, bytes))
    (hzs : z.cells.size = size) (hsz : 0 < size)
    (v : Value) (n : Nat) (xs : List Value) (hs : a.eval s = v) (hown : wr.ownsRow base e size v n xs) (hbase : base ≤ wr.heap.size)
    (cs : Array Value) (c : Nat) (hx : a.eval x = .slice (some ⟨wr.heap.size, 0, none⟩) 1 c) (hl : cs.size = size) (h1 : ∀ u ∈ cs.toList, u.oneCell' = true)
    (hm : n < 17592186044416) (hb : (n + 1) * bytes ≤ 140737488355328)
    (h : ∀ g cap w', w'.ownsRow base e size (.slice (some ⟨g, 0, none⟩) (n + 1) cap) (n + 1) (xs ++ cs.toList) → wr.grownBy w' v.ownBlock → (v.ownBlock = some g ∨ wr.heap.size ≤ g) → wpList P ops Q rest (a.put o.dst (.slice (some ⟨g, 0, none⟩) (n + 1) cap)) w') : wpList P ops Q (o :: rest) a (wr.alloc (.cells cs e)) := by
  obtain ⟨i0, hi, hz0, hz1, hz2⟩ := info_parts hinfo
  refine wpList_append_lies _ hgd s x t ho base e i0 z size bytes ht hi hz0 hz1 hz2 hzs hsz v n xs hs (hown.alloc _) ⟨wr.heap.size, 0, none⟩ 1 c cs.toList hx (by simpa using hl)
    (World.news_of_block (heap_alloc_new wr _)) h1 (by omega) (by unfold maxLen; omega) hb (by simp; omega) _ rfl
    (fun g cap w' h1 h2 h3 _ => h g cap w' h1 (grown_after h2) (h3.imp id (fun e => by rw [e]; simp)))

/-- What a column's slice is now: where it lay, or new. -/
def Fresh (w : World) (v v' : Value) : Prop := v'.ownBlock = v.ownBlock ∨ ∀ g, v'.ownBlock = some g → w.heap.size ≤ g
theorem Fresh.refl (w : World) (v : Value) : Fresh w v v := .inl rfl

/-- A column in memory: its struct in block c, its cells in the slice v, its null bits in the slice u. -/
structure Col (C E sz : Nat) (w : World) (B c : Nat) (v u : Value) (n : Nat) (vs : List Value) (bs : List Nat) (fs : List Bool) (nl : Nat) : Prop where
  blk : w.heap[c]? = some (.cells #[v, u, .int .i64 nl] C (0, 0))
  vals : w.ownsRow B E sz v n vs
  bits : w.ownsRow B 112 1 u bs.length (bs.map fun b => .int .u64 (b : Nat))
  isb : BitsOf bs fs
  loc : B ≤ c

theorem own_type {w : World} {base e size g : Nat} {v : Value} {n : Nat} {xs : List Value} (h : w.ownsRow base e size v n xs) (hg : v.ownBlock = some g) : ∃ cur, w.heap[g]? = some (.cells cur e (0, 0)) := by
  rcases h.2 with ⟨h0, _⟩ | ⟨g', cap, cur, h0, _, hg', _⟩
  · rw [h0] at hg; cases hg
  · rw [h0] at hg
    injection hg with hg
    subst hg
    exact ⟨_, hg'⟩
theorem own_ne {w : World} {base e size c C : Nat} {v : Value} {n : Nat} {xs : List Value} (h : w.ownsRow base e size v n xs) {cs : Array Value} (hc : w.heap[c]? = some (.cells cs C (0, 0))) (hne : e ≠ C) : v.ownBlock ≠ some c := fun hg => by
  obtain ⟨cur, h1⟩ := own_type h hg
  rw [hc] at h1
  injection h1 with h1
  injection h1 with _ h1
  exact hne h1.symm
theorem own_apart {w : World} {base base' e e' size size' : Nat} {v u : Value} {n m : Nat} {xs ys : List Value} (h : w.ownsRow base e size v n xs) (k : w.ownsRow base' e' size' u m ys) (hne : e ≠ e') : ∀ g, u.ownBlock = some g → v.ownBlock ≠ some g := fun g hg hv => by
  obtain ⟨cur, h1⟩ := own_type h hv
  obtain ⟨cur', h2⟩ := own_type k hg
  rw [h1] at h2
  injection h2 with h2
  injection h2 with _ h2
  exact hne h2
theorem blk_lt {w : World} {c : Nat} {o : Obj} (h : w.heap[c]? = some o) : c < w.heap.size := by
  rcases Nat.lt_or_ge c w.heap.size with h' | h'
  · exact h'
  · rw [Array.getElem?_eq_none h'] at h; cases h
theorem slice_form {w : World} {base e size : Nat} {v : Value} {n : Nat} {xs : List Value} (h : w.ownsRow base e size v n xs) : ∃ A cp, v = .slice A n cp := by
  rcases h.2 with ⟨rfl, h0⟩ | ⟨g, cp, cur, rfl, _⟩
  · exact ⟨none, 0, by rw [h0]⟩
  · exact ⟨_, cp, rfl⟩

theorem own_drew {w : World} {base e size : Nat} {v : Value} {n : Nat} {xs : List Value} (h : w.ownsRow base e size v n xs) : w.drew.ownsRow base e size v n xs := h

/-- A column on the way through 'put'. -/
def MidC (C E sz : Nat) (w0 : World) (B c : Nat) (v u : Value) (n : Nat) (vs : List Value) (fs : List Bool) (nl : Nat) (w : World) : Prop :=
  ∃ u' bs, Col C E sz w B c v u' n vs bs fs nl ∧ Fresh w0 u u' ∧ Turn (SC c v u) w0 w

/-- A column with a cell more. -/
def PutIs (C E sz : Nat) (B c : Nat) (v u : Value) (n : Nat) (vs : List Value) (fs : List Bool) (nl : Nat) (w : World) (e : Ending) (w' : World) : Prop :=
  e = .returned (.tuple #[]) ∧ (∃ v' u' bs', Col C E sz w' B c v' u' (n + 1) vs bs' fs nl ∧ Fresh w v v' ∧ Fresh w u u') ∧ Turn (SC c v u) w w'

set_option maxRecDepth 100000 in
set_option maxHeartbeats 1000000 in
theorem put_any {w : World} {B c nl : Nat} {v u : Value} {n : Nat} {vs : List Value} {bs : List Nat} {fs : List Bool} (h : Col 110 2 1 w B c v u n vs bs fs nl) (hl : fs.length = n) (hx : n < 17592186044416) (hnl : nl ≤ n) (x : Int) (null : Bool) :
    Calls Tryd.prog 52 #[.pointer (some ⟨c, 0, none⟩), .int .i64 x, .bool null] w (PutIs 110 2 1 B c v u n (vs ++ [.int .i64 x]) (fs ++ [null]) (nl + cond null 1 0) w) := by
  have hcl := blk_lt h.blk
  have hB : B ≤ w.heap.size := Nat.le_trans h.loc (Nat.le_of_lt hcl)
  obtain ⟨A, cp, rfl⟩ := slice_form h.vals
  obtain ⟨A2, cp2, hu⟩ := slice_form h.bits
  have HU := Lib.hid hu
  have c0 : w.cell? ⟨c, 0, none⟩ = some (.slice A n cp) := Lib.cell_of_heap h.blk 0
  have c1 : w.cell? ⟨c, 1, none⟩ = some u := Lib.cell_of_heap h.blk 1
  have hcu := own_ne h.bits h.blk (by decide)
  have hcv := own_ne h.vals h.blk (by decide)
  have hvu := own_apart h.vals h.bits (by decide)
  have HX := Lib.hid h
  have HL := Lib.hid hl
  have HCU := Lib.hid hcu
  have HCV := Lib.hid hcv
  have HVU := Lib.hid hvu
  clear h hl hu hcu hcv hvu
  go_enter Tryd.func52, Tryd.ntmps52
  go_upto_if 14 with fail
  go_cut [6] (fun s6 wx => s6 = .int .i64 n ∧ MidC 110 2 1 w B c (.slice A n cp) u n vs (fs ++ [false]) nl wx)
  case first =>
    by_cases hm : n % 64 = 0
    · have t1 : ((n : Int) % 64 == 0) = true := by simp; omega
      have hbl : bs.length < 17592186044416 := by rw [HX.out.isb.1, HL.out]; omega
      have HR := Lib.hid HX.out.bits
      go_wp2_with (at_builtin; refine app_wide rfl _ _ 108 rfl B 112 (.int .u64 0) 1 8 Tryd.underlying108 infoU64 rfl (by decide) _ _ _ rfl HR.out hB #[.int .u64 0] 1 rfl rfl (one_int _ _) (by omega) (by omega) ?_; intro g4 cp4 w4 ho4 hg4 hl4; have HO4 := Lib.hid ho4; have HG4 := Lib.hid (show w.grownBy w4 u.ownBlock from hg4); have HL4 := Lib.hid (show u.ownBlock = some g4 ∨ w.heap.size ≤ g4 from hl4); have HC4 := Lib.hid ((HG4.out.block c hcl (fun e => HCU.out e.symm)).trans HX.out.blk); have f4 : w4.frozen? ⟨c, 1, none⟩ = false := Lib.frozen_of_heap HC4.out 1; have d1 : w4.cell? ⟨c, 1, none⟩ = some u := Lib.cell_of_heap HC4.out 1; clear ho4 hg4 hl4)
      go_meet
      have hgc : g4 ≠ c := by
        rcases HL4.out with h0 | h0
        · exact fun e => HCU.out (by rw [h0, e])
        · omega
      refine ⟨rfl, _, bs ++ [0], ⟨heap_setCell_same w4 c 1 _ 110 _ HC4.out, ?_, ?_, bits_more HX.out.isb (by rw [HL.out]; exact hm), HX.out.loc⟩, ?_, ?_⟩
      · exact ownsRow_setCell_other ((Turn.of_grown HG4.out).owns HX.out.vals (fun k hk e => HVU.out k e.symm hk)) (a := ⟨c, 1, none⟩) (fun e => HCV.out e) _
      · rw [List.length_append, List.map_append]
        exact ownsRow_setCell_other HO4.out (a := ⟨c, 1, none⟩) (fun e => hgc (by injection e)) _
      · rcases HL4.out with h0 | h0
        · exact .inl h0.symm
        · exact .inr fun g hg => by injection hg with hg; have hg : g4 = g := hg; omega
      · exact ((Turn.of_grown HG4.out).mono (fun i _ h => .inr (.inr h))).setCell (p := ⟨c, 1, none⟩) (.inr (.inl rfl)) _
    · have t1 : ((n : Int) % 64 == 0) = false := by simp; omega
      go_wp2_with fail
      go_meet
      exact ⟨rfl, u, bs, ⟨HX.out.blk, HX.out.vals, HX.out.bits, bits_keep HX.out.isb (by rw [HL.out]; exact hm), HX.out.loc⟩, .inl rfl, Turn.refl _ _⟩
  case rest =>
    rename World => w1
    obtain ⟨rfl, u1, bs1, hc1, hf1, ht1⟩ := hcut
    have hf1' := Lib.hid hf1
    have HT1 := Lib.hid ht1
    have HC1 := Lib.hid hc1
    have hcl1 := blk_lt hc1.blk
    have hw1 : w.heap.size ≤ w1.heap.size := ht1.size
    clear hf1 ht1 hc1 c0 c1
    go_upto_if 24 with fail
    go_cut [6] (fun s6 wx => s6 = .int .i64 n ∧ MidC 110 2 1 w1 B c (.slice A n cp) u1 n vs (fs ++ [null]) (nl + cond null 1 0) wx)
    case first =>
      cases null with
      | false =>
        go_wp2_with fail
        go_meet
        exact ⟨rfl, u1, bs1, HC1.out, .inl rfl, Turn.refl _ _⟩
      | true =>
        obtain ⟨b, hb, hb64, hbit⟩ := bits_at HC1.out.isb (i := n) (by simp [HL.out])
        have hbl : bs1.length < 17592186044416 := by rw [HC1.out.isb.1]; simp [HL.out]; omega
        have hql : n / 64 < bs1.length := by rw [HC1.out.isb.1]; simp [HL.out]; omega
        obtain ⟨g, cp1, hu1, _, _⟩ := HC1.out.bits.form (by omega)
        subst hu1
        have c1 : w1.cell? ⟨c, 1, none⟩ = some (.slice (some ⟨g, 0, none⟩) bs1.length cp1) := Lib.cell_of_heap HC1.out.blk 1
        have c2 : w1.cell? ⟨c, 2, none⟩ = some (.int .i64 nl) := Lib.cell_of_heap HC1.out.blk 2
        have e1 : (0 : Int) ≤ n := by omega
        obtain ⟨q, HQ⟩ := name_it (n / 64)
        obtain ⟨r, HR⟩ := name_it (n % 64)
        have hq : (n : Int) / 64 = (q : Int) := by rw [← HQ.out]; omega
        have hr : (n : Int) % 64 = (r : Int) := by rw [← HR.out]; omega
        have hq' : (n : Int).tdiv 64 = (q : Int) := by rw [← hq]; exact Int.tdiv_eq_ediv_of_nonneg (by omega)
        have hr' : (n : Int).tmod 64 = (r : Int) := by rw [← hr]; exact Int.tmod_eq_emod_of_nonneg (by omega)
        have hqw : IntKind.i64.wrap (q : Int) = (q : Int) := IntWalk.i64_in _ (by omega)
        have hrw : IntKind.i64.wrap (r : Int) = (r : Int) := IntWalk.i64_in _ (by omega)
        have e2 : (0 : Int) ≤ q := by omega
        have e3 : (q : Int) < bs1.length := by omega
        have e4 : (0 : Int) ≤ r := by omega
        have e5 : (r : Int) < 64 := by omega
        obtain ⟨o, HO⟩ := name_it (b ||| 2 ^ r)
        have hor : bits BinOp.or IntKind.u64 (b : Int) (IntKind.u64.wrap (2 ^ r)) = (o : Int) := by
          rw [← HO.out]
          have h2 : (2 : Nat) ^ r < 18446744073709551616 := Nat.lt_of_lt_of_le (Nat.pow_lt_pow_right (by decide) (show r < 64 by omega)) (by decide)
          have h3 : IntKind.u64.wrap ((2 : Int) ^ r) = ((2 ^ r : Nat) : Int) := by
            rw [show ((2 : Int) ^ r) = ((2 ^ r : Nat) : Int) by push_cast; rfl]
            exact IntWalk.u64_in _ ⟨Int.natCast_nonneg _, Int.ofNat_le.2 (Nat.le_of_lt_succ h2)⟩
          rw [h3]
          exact u64_or_nat b _ hb64 h2
        have gc : w1.cell? ⟨g, q, none⟩ = some (.int .u64 b) := by
          rw [HC1.out.bits.cellAt q (by omega), List.getElem?_map, ← HQ.out, hb]; rfl
        obtain ⟨cur, hcur⟩ := own_type HC1.out.bits (g := g) rfl
        have fg : w1.frozen? ⟨g, q, none⟩ = false := Lib.frozen_of_heap hcur q
        have hgc : g ≠ c := fun e => own_ne HC1.out.bits HC1.out.blk (by decide) (by rw [← e]; rfl)
        have HGC := Lib.hid hgc
        have HQ1 := Lib.hid hb
        have HBIT := Lib.hid hbit
        clear hgc hb hbit hcur
        go_wp2_with fail
        go_still_tail 13, (by kernel_rfl)
        change wpList _ _ _ _ _ (World.drew _)
        obtain ⟨W, HW⟩ := name_it (w1.setCell ⟨g, q, none⟩ (.int .u64 o)).drew
        have HWC := Lib.hid (show W.heap[c]? = some (.cells #[.slice A n cp, .slice (some ⟨g, 0, none⟩) bs1.length cp1, .int .i64 nl] 110 (0, 0)) from by
          rw [← HW.out]
          exact (Below.heap_setCell w1 ⟨g, q, none⟩ _ c (fun e => HGC.out (by rw [e]))).trans HC1.out.blk)
        have w2 : W.cell? ⟨c, 2, none⟩ = some (.int .i64 nl) := Lib.cell_of_heap HWC.out 2
        have f2 : W.frozen? ⟨c, 2, none⟩ = false := Lib.frozen_of_heap HWC.out 2
        have HOS := Lib.hid (HC1.out.bits.stored q (.int .u64 o))
        go_upto_region 5 with fail
        rw [HW.out]
        go_wp2_with fail
        go_meet
        have hne : (Value.slice A n cp).ownBlock ≠ some g := own_apart HC1.out.vals HC1.out.bits (by decide) g rfl
        refine ⟨rfl, _, bs1.set q o, ⟨?_, ?_, ?_, ?_, HC1.out.loc⟩, .inl rfl, ?_⟩
        · rw [heap_setCell_same W c 2 _ 110 _ HWC.out]; rfl
        · refine ownsRow_setCell_other ?_ (a := ⟨c, 2, none⟩) (own_ne HC1.out.vals HC1.out.blk (by decide)) _
          rw [← HW.out]
          exact own_drew (ownsRow_setCell_other HC1.out.vals (a := ⟨g, q, none⟩) hne _)
        · refine ownsRow_setCell_other ?_ (a := ⟨c, 2, none⟩) (own_ne HC1.out.bits HC1.out.blk (by decide)) _
          rw [← HW.out]
          have h9 := HOS.out.1
          rw [List.length_set, List.map_set]
          exact own_drew h9
        · have h9 := bits_set (bs := bs1) (fs := fs) HC1.out.isb (b := b)
          rw [HL.out, HQ.out, HR.out, HO.out] at h9
          exact h9 (by rw [← HQ.out]; exact HQ1.out)
        · have h9 : Turn (SC c (.slice A n cp) (.slice (some ⟨g, 0, none⟩) bs1.length cp1)) w1 W := by
            rw [← HW.out]
            exact ((Turn.refl _ w1).setCell (p := ⟨g, q, none⟩) (.inr (.inr (.inr rfl))) _).drew
          exact h9.setCell (p := ⟨c, 2, none⟩) (.inr (.inl rfl)) _
    case rest =>
      obtain ⟨rfl, u2, bs2, hc2, hf2, ht2⟩ := hcut
      have HF2 := Lib.hid hf2
      have HT2 := Lib.hid ht2
      have HC2 := Lib.hid hc2
      have hcl2 := blk_lt hc2.blk
      have hB2 : B ≤ wc.heap.size := Nat.le_trans hc2.loc (Nat.le_of_lt hcl2)
      have hw2 : w1.heap.size ≤ wc.heap.size := ht2.size
      have c0 : wc.cell? ⟨c, 0, none⟩ = some (.slice A n cp) := Lib.cell_of_heap hc2.blk 0
      have HV := Lib.hid hc2.vals
      clear hf2 ht2 hc2
      go_wp2_with (at_builtin; refine app_wide rfl _ _ 107 rfl B 2 (.int .i64 0) 1 8 Tryd.underlying107 infoI64 rfl (by decide) _ _ _ rfl HV.out hB2 #[.int .i64 x] 1 rfl rfl (one_int _ _) (by omega) (by omega) ?_; intro g4 cp4 w4 ho4 hg4 hl4; have HO4 := Lib.hid ho4; have HG4 := Lib.hid (show wc.grownBy w4 (Value.slice A n cp).ownBlock from hg4); have HL4 := Lib.hid (show (Value.slice A n cp).ownBlock = some g4 ∨ wc.heap.size ≤ g4 from hl4); have hs4 : wc.heap.size ≤ w4.heap.size := HG4.out.size; have HC4 := Lib.hid ((HG4.out.block c hcl2 (fun e => own_ne HC2.out.vals HC2.out.blk (by decide) e.symm)).trans HC2.out.blk); have f4 : w4.frozen? ⟨c, 0, none⟩ = false := Lib.frozen_of_heap HC4.out 0; have d0 : w4.cell? ⟨c, 0, none⟩ = some (.slice A n cp) := Lib.cell_of_heap HC4.out 0; clear ho4 hg4 hl4)
      go_end0
      have hgc : g4 ≠ c := by
        rcases HL4.out with h0 | h0
        · exact fun e => own_ne HC2.out.vals HC2.out.blk (by decide) (by rw [h0, e])
        · omega
      have hvu := own_apart HC2.out.vals HC2.out.bits (by decide)
      have hcu := own_ne HC2.out.bits HC2.out.blk (by decide)
      refine ⟨rfl, ⟨.slice (some ⟨g4, 0, none⟩) (n + 1) cp4, u2, bs2, ⟨heap_setCell_same w4 c 0 _ 110 _ HC4.out, ?_, ?_, HC2.out.isb, HC2.out.loc⟩, ?_, ?_⟩, ?_⟩
      · exact ownsRow_setCell_other HO4.out (a := ⟨c, 0, none⟩) (fun e => hgc (by injection e)) _
      · exact ownsRow_setCell_other ((Turn.of_grown HG4.out).owns HC2.out.bits (fun k hk e => hvu k hk e.symm)) (a := ⟨c, 0, none⟩) (fun e => hcu e) _
      · rcases HL4.out with h0 | h0
        · exact .inl h0.symm
        · exact .inr fun g hg => by injection hg with hg; have hg : g4 = g := hg; omega
      · rcases HF2.out with h0 | h0
        · rcases hf1'.out with h1 | h1
          · exact .inl (h0.trans h1)
          · exact .inr fun g hg => h1 g (h0 ▸ hg)
        · exact .inr fun g hg => Nat.le_trans hw1 (h0 g hg)
      · have h1 : Turn (SC c (.slice A n cp) u) w wc := HT1.out.andThen HT2.out (fun i hi hs => by
          rcases hs with hs | hs | hs
          · exact .inl hs
          · exact .inr (.inl hs)
          · rcases hf1'.out with h1 | h1
            · exact .inr (.inr (h1 ▸ hs))
            · have := h1 i hs.symm; omega)
        exact (h1.trans ((Turn.of_grown HG4.out).mono (fun i _ h => .inr (.inl h)))).setCell (p := ⟨c, 0, none⟩) (.inr (.inl rfl)) _
end Go.Proofs.YtdhnmgndekncpaaDoor
