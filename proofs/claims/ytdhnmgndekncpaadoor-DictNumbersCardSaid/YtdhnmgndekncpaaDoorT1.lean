/- A dictionary of pairs of numbers whose second is 7. -/
import Derived.Test.YtdhnmgndekncpaaDoorT0
import Derived.DeepKeys4
import Derived.Test.YtdhnmgndekncpaaDoorP1
import Derived.Deep.RegionLaw
namespace Go.Proofs.YtdhnmgndekncpaaDoor
open Go Go.RowKit Go.Maps Go.WideMaps

theorem laidOutP : laidOutB Tryd.prog = true := by kernel_rfl
set_option maxRecDepth 100000 in
theorem law30 : Keyed Tryd.prog 30 := Keyed.of_law (deep_law_laid (m := 9999) laidOutP (by decide) (of_decide_eq_true (by kernel_rfl)) (by kernel_rfl) (by kernel_rfl))
theorem keyType30 : Tryd.prog.keyType 30 = true := by kernel_rfl
theorem cellsOf30 : Tryd.prog.cellsOf 30 = 2 := by kernel_rfl
theorem cellsOf3 : Tryd.prog.cellsOf 3 = 1 := by kernel_rfl
theorem key30 (a : Int) (h : VI a) : ∃ l, keyOf Tryd.prog 30 (.agg #[.int .i64 a, .int .i64 7]) = some l := by
  obtain ⟨d, hd⟩ : ∃ d, Tryd.prog.types.size = d + 1 := ⟨220, by kernel_rfl⟩
  have h7 : (Lit.int .i64 7).wf = true := by decide
  unfold VI at h
  unfold keyOf
  rw [Tryd.underlying30, hd]
  simp [keyType30, Value.formed, Tryd.underlying30, cellsOf30, cellsOf3, Program.keyLits, Tryd.underlying3, Value.cells, h, h7, List.range_succ]
theorem infoArr : (Tryd.prog.info? 30).map (fun i => (i.zero, i.size, i.bytes)) = some (some (.agg #[.int .i64 0, .int .i64 0]), 2, 16) := by kernel_rfl
theorem one_arr (x : Int) : ∀ u ∈ (#[Value.int .i64 x, .int .i64 7] : Array Value).toList, u.oneCell' = true := by
  intro u hu; simp at hu; rcases hu with hu | hu <;> subst hu <;> rfl
/-- What such a pair reads as, as a key. -/
noncomputable def litP (a : Int) : Lit := match keyOf Tryd.prog 30 (.agg #[.int .i64 a, .int .i64 7]) with
  | some l => l
  | none => .bool false
set_option maxRecDepth 100000 in
theorem litP_mk {a : Int} (h : VI a) : keyOf Tryd.prog 30 (.agg #[.int .i64 a, .int .i64 7]) = some (litP a) := by
  obtain ⟨l, hl⟩ := key30 a h
  unfold litP
  rw [hl]
set_option maxRecDepth 100000 in
theorem litP_inj : ∀ x y : Int, VI x → VI y → litP x = litP y → x = y := fun x y hx hy h => by
  have h1 := litP_mk hx
  rw [h] at h1
  have h2 := law30.inj h1 (litP_mk hy)
  injection h2 with h2
  injection h2 with h2
  injection h2 with h2
  injection h2
set_option maxRecDepth 100000 in
theorem litP_key : ∀ x : Int, VI x → WideAt.IsKeyLit (litP x) := fun _ hx => law30.key (litP_mk hx)
def pairRow (ks : List Int) : List Value := ks.flatMap fun k => [.int .i64 k, .int .i64 7]
theorem pairRow_snoc (ks : List Int) (k : Int) : pairRow (ks ++ [k]) = pairRow ks ++ [.int .i64 k, .int .i64 7] := by unfold pairRow; simp
theorem pairRow_at {L : List Int} {j : Nat} {c : Int} (h : L[j]? = some c) : (pairRow L)[j * 2]? = some (.int .i64 c) ∧ (pairRow L)[j * 2 + 1]? = some (.int .i64 7) := by
  induction L generalizing j with
  | nil => simp at h
  | cons a r ih =>
    cases j with
    | zero => simp at h; subst h; simp [pairRow]
    | succ j =>
      have := ih (j := j) (by simpa using h)
      unfold pairRow at this ⊢
      rw [List.flatMap_cons, show (j + 1) * 2 = j * 2 + 2 by omega]
      simpa using this

/-- A dictionary of such pairs in memory. -/
structure DictP (w : World) (B b m : Nat) (v : Value) (ks : List Int) (D : DataW Unit) : Prop where
  blk : w.heap[b]? = some (.cells #[.map (some m), v] 102 (0, 0))
  map : w.ownsMap Tryd.prog 30 (plainElem Tryd.prog 3) m ks.length D
  ids : IdsOf VI litP D ks
  row : w.ownsRow B 30 2 v ks.length (pairRow ks)
  lob : B ≤ b
  lom : B ≤ m

set_option maxRecDepth 100000 in
set_option maxHeartbeats 400000 in
theorem newDP_size (w : World) : Calls Tryd.prog 9 #[] w fun e w' => e = .returned (.pointer (some ⟨w.heap.size + 1, 0, none⟩)) ∧ DictP w' w.heap.size (w.heap.size + 1) w.heap.size (.slice none 0 0) [] (.map []) ∧ Below w.heap.size w w' ∧ w'.heap.size = w.heap.size + 2 := by
  have hmm := @run_makeMap Tryd.prog
  go_enter Tryd.func9, Tryd.ntmps9
  go_wp2
  go_ret
  refine ⟨by simp, ⟨?_, ?_, ids_empty, World.ownsRow_nil _ _ _ _, by omega, by omega⟩, ((Below.refl _ _).alloc (Nat.le_refl _) _).alloc (by simp) _, by simp⟩
  · have := heap_alloc_new (w.alloc (.map #[] 0)) (.cells #[.map (some w.heap.size), .slice none 0 0] 102)
    simpa using this
  · exact (World.ownsMap_made w _ _ _).alloc _

theorem DictP.turn {S : Nat → Prop} {w w' : World} {B b m : Nat} {v : Value} {ks : List Int} {D : DataW Unit} (h : DictP w B b m v ks D) (ht : Turn S w w') (hb : ¬ S b) (hm : ¬ S m) (hv : ∀ g, v.ownBlock = some g → ¬ S g) : DictP w' B b m v ks D :=
  ⟨(ht.block b (blk_lt h.blk) hb).trans h.blk, ht.map h.map hm, h.ids, ht.owns h.row hv, h.lob, h.lom⟩
theorem DictP.lt {w : World} {B b m : Nat} {v : Value} {ks : List Int} {D : DataW Unit} (h : DictP w B b m v ks D) : b < w.heap.size ∧ m < w.heap.size ∧ ∀ g, v.ownBlock = some g → B ≤ g ∧ g < w.heap.size := ⟨blk_lt h.blk, h.map.lt, fun g hg => h.row.lt g hg⟩
theorem DictP.below {w w' : World} {B b m : Nat} {v : Value} {ks : List Int} {D : DataW Unit} (h : DictP w B b m v ks D) (hb : Below w.heap.size w w') : DictP w' B b m v ks D :=
  h.turn (Turn.of_below hb) (by have := h.lt.1; omega) (by have := h.lt.2.1; omega) (fun g hg => by have := (h.lt.2.2 g hg).2; omega)
theorem SBP_ge {w : World} {B b m : Nat} {v : Value} {ks : List Int} {D : DataW Unit} (h : DictP w B b m v ks D) : ∀ i, SB b m v i → B ≤ i := by
  rintro i (rfl | rfl | hi)
  · exact h.lob
  · exact h.lom
  · exact (h.lt.2.2 i hi.symm).1
theorem DictP.form {w : World} {B b m : Nat} {v : Value} {ks : List Int} {D : DataW Unit} (h : DictP w B b m v ks D) : ∃ A cp, v = .slice A ks.length cp := slice_form h.row

set_option maxRecDepth 100000 in
set_option maxHeartbeats 400000 in
theorem lenDP_any {w : World} {B b m : Nat} {v : Value} {ks : List Int} {D : DataW Unit} (h : DictP w B b m v ks D) : Calls Tryd.prog 18 #[.pointer (some ⟨b, 0, none⟩)] w fun e w' => e = .returned (.int .i64 ((ks.length : Nat) : Int)) ∧ w' = w := by
  obtain ⟨A, cp, rfl⟩ := h.form
  have c1 : w.cell? ⟨b, 1, none⟩ = some (.slice A ks.length cp) := Lib.cell_of_heap h.blk 1
  go_enter Tryd.func18, Tryd.ntmps18
  go_wp2
  go_ret
  exact ⟨rfl, rfl⟩

theorem look30 {w : World} {m n : Nat} {D : DataW Unit} {k c : Int} {f : Bool} (h : w.ownsMap Tryd.prog 30 (plainElem Tryd.prog 3) m n D) (hkey : keyOf Tryd.prog 30 (.agg #[.int .i64 k, .int .i64 7]) = some (litP k))
    (ha : D.atKey (litP k) (.lit (.int .i64 0)) = .lit (.int .i64 c)) (hh : Maps.has D (litP k) = f) :
    (Instr.lookup 99 (.map (some m)) (.agg #[.int .i64 k, .int .i64 7]) true).run Tryd.prog w = .ok (.tuple #[.int .i64 c, .bool f]) w := by
  obtain ⟨v, ps, hrun, hv⟩ := h.look_ok law30 Tryd.underlying99 (zero3 w) (plainElem_int Tryd.underlying3 (by decide)) hkey
  obtain ⟨c', rfl, hc, _⟩ := plainElem_int_inv Tryd.underlying3 hv
  simp only [Prod.mk.injEq] at hc
  obtain rfl := idx_of hc.1 ha
  rw [hh] at hrun
  exact hrun

set_option maxRecDepth 100000 in
set_option maxHeartbeats 400000 in
theorem idDP_old {w : World} {B b m : Nat} {v : Value} {ks : List Int} {D : DataW Unit} (h : DictP w B b m v ks D) (k : Int) (hk : VI k) (hin : k ∈ ks) :
    Calls Tryd.prog 12 #[.pointer (some ⟨b, 0, none⟩), .agg #[.int .i64 k, .int .i64 7]] w fun e w' => e = .returned (.int .i64 ((place ks k : Nat) : Int)) ∧ Below w.heap.size w w' := by
  have hkey := litP_mk hk
  obtain ⟨h1, h2⟩ := h.ids.2 k hk
  have HH := Lib.hid (show Maps.has D (litP k) = true by rw [h1]; simp [hin])
  have HA := Lib.hid (h2 hin)
  have hb1 := (Below.refl w.heap.size w).alloc (Nat.le_refl _) (.cells #[.int .i64 k, .int .i64 7] 30)
  have hx := heap_alloc_new w (.cells #[.int .i64 k, .int .i64 7] 30)
  obtain ⟨z, HZ⟩ := name_it w.heap.size
  have hzz : z ≤ w.heap.size := by rw [← HZ.out]; exact Nat.le_refl _
  obtain ⟨W, HW⟩ := name_it (w.alloc (.cells #[.int .i64 k, .int .i64 7] 30))
  have hd := h.below hb1
  rw [HW.out] at hb1 hx hd
  rw [HZ.out] at hb1 hx
  have c0 : W.cell? ⟨b, 0, none⟩ = some (.map (some m)) := Lib.cell_of_heap hd.blk 0
  have x0 : W.cell? ⟨z, 0, none⟩ = some (.int .i64 k) := Lib.cell_of_heap hx 0
  have x1 : W.cell? ⟨z, 1, none⟩ = some (.int .i64 7) := Lib.cell_of_heap hx 1
  have hlk : ∀ n, (Instr.lookup 99 (.map (some m)) (.agg #[.int .i64 k, .int .i64 7]) true).run Tryd.prog (W.drewN n) = .ok (.tuple #[.int .i64 ((place ks k : Nat) : Int), .bool true]) (W.drewN n) := fun n => look30 (w := W.drewN n) hd.map hkey HA.out HH.out
  have HB := Lib.hid hb1
  have hzW : z ≤ W.heap.size := by have := hb1.size; omega
  clear h h1 h2 hb1 hx hd hkey
  go_enter Tryd.func12, Tryd.ntmps12
  go_upto_region 1 with fail
  rw [HW.out, HZ.out]
  go_wp2_with fail
  go_quiet (fail)
  go_wp2_with fail
  go_ret
  exact ⟨rfl, by rw [HZ.out]; exact HB.out.trans ((Turn.drewN _ nq).below (fun _ _ h => h.elim) hzW)⟩

theorem own_far {w : World} {base e size m n' : Nat} {v : Value} {n : Nat} {xs : List Value} {P : Program} {K : TypeId} {R : Value → Option (DataW Unit × List MemPlace)} {D : DataW Unit} (h : w.ownsRow base e size v n xs) (k : w.ownsMap P K R m n' D) : v.ownBlock ≠ some m := fun hg => by
  obtain ⟨cur, h1⟩ := own_type h hg
  obtain ⟨es, clock, hb, _⟩ := k
  rw [hb] at h1
  cases h1
/-- A dictionary with a key more. -/
def IdPIs (B b m : Nat) (v : Value) (ks : List Int) (D : DataW Unit) (k : Int) (w : World) (e : Ending) (w' : World) : Prop :=
  e = .returned (.int .i64 ((ks.length : Nat) : Int)) ∧ (∃ v', DictP w' B b m v' (ks ++ [k]) (D.put (litP k) (.lit (.int .i64 ((ks.length : Nat) : Int)))) ∧ Fresh w v v') ∧ Turn (SB b m v) w w'

set_option maxRecDepth 100000 in
set_option maxHeartbeats 1000000 in
theorem idDP_new {w : World} {B b m : Nat} {v : Value} {ks : List Int} {D : DataW Unit} (h : DictP w B b m v ks D) (k : Int) (hk : VI k) (hout : k ∉ ks) (hn : ks.length ≤ 100000) :
    Calls Tryd.prog 12 #[.pointer (some ⟨b, 0, none⟩), .agg #[.int .i64 k, .int .i64 7]] w (IdPIs B b m v ks D k w) := by
  have hkey := litP_mk hk
  obtain ⟨h1, _⟩ := h.ids.2 k hk
  have HH := Lib.hid (show Maps.has D (litP k) = false by rw [h1]; simp [hout])
  have HA := Lib.hid (atKey_of_not_has HH.out (.lit (.int .i64 0)))
  have HIDS := Lib.hid (ids_put litP_inj litP_key h.ids hk hout)
  obtain ⟨A, cp, rfl⟩ := h.form
  have hb1 := (Below.refl w.heap.size w).alloc (Nat.le_refl _) (.cells #[.int .i64 k, .int .i64 7] 30)
  have hx := heap_alloc_new w (.cells #[.int .i64 k, .int .i64 7] 30)
  have hlt0 := h.lt
  obtain ⟨z, HZ⟩ := name_it w.heap.size
  obtain ⟨W, HW⟩ := name_it (w.alloc (.cells #[.int .i64 k, .int .i64 7] 30))
  have hd := h.below hb1
  have hlob := h.lob
  have hlom := h.lom
  rw [HW.out] at hb1 hx hd
  rw [HZ.out] at hb1 hx hlt0
  obtain ⟨n, HN⟩ := name_it ks.length
  have hmap := hd.map
  have hrow := hd.row
  have hblk := hd.blk
  rw [HN.out] at hn hmap hrow hblk hlt0
  have c0 : W.cell? ⟨b, 0, none⟩ = some (.map (some m)) := Lib.cell_of_heap hblk 0
  have c1 : W.cell? ⟨b, 1, none⟩ = some (.slice A n cp) := Lib.cell_of_heap hblk 1
  have x0 : W.cell? ⟨z, 0, none⟩ = some (.int .i64 k) := Lib.cell_of_heap hx 0
  have x1 : W.cell? ⟨z, 1, none⟩ = some (.int .i64 7) := Lib.cell_of_heap hx 1
  have hlk : ∀ q, (Instr.lookup 99 (.map (some m)) (.agg #[.int .i64 k, .int .i64 7]) true).run Tryd.prog (W.drewN q) = .ok (.tuple #[.int .i64 0, .bool false]) (W.drewN q) := fun q => look30 (w := W.drewN q) hd.map hkey HA.out HH.out
  have hbr := own_ne hrow hblk (by decide)
  have hmr := own_far hrow hmap
  have hbm : b ≠ m := by
    rintro rfl
    obtain ⟨es, clock, hb, _⟩ := hmap
    rw [hblk] at hb
    cases hb
  have HB := Lib.hid hb1
  have HX := Lib.hid hx
  have HMAP := Lib.hid hmap
  have HROW := Lib.hid hrow
  have HBLK := Lib.hid hblk
  have HBR := Lib.hid hbr
  have HMR := Lib.hid hmr
  have HBM := Lib.hid hbm
  have hWz : z < W.heap.size := blk_lt hx
  have hWb : b < W.heap.size := blk_lt hblk
  have hWB : B ≤ W.heap.size := by omega
  have HLT := Lib.hid hlt0
  clear h h1 hb1 hx hd hmap hrow hblk hbr hmr hbm hlt0
  go_enter Tryd.func12, Tryd.ntmps12
  go_upto_region 1 with fail
  rw [HW.out, HZ.out]
  go_wp2_with fail
  go_quiet (fail)
  go_upto_region 4 with fail
  have HT1 := Lib.hid (Turn.drewN W nq)
  obtain ⟨W1, HW1⟩ := name_it (W.drewN nq)
  rw [HW1.out] at HT1 ⊢
  have hs1 : W.heap.size ≤ W1.heap.size := HT1.out.size
  have d0 : W1.cell? ⟨b, 0, none⟩ = some (.map (some m)) := by rw [← HW1.out]; exact c0
  have d1 : W1.cell? ⟨b, 1, none⟩ = some (.slice A n cp) := by rw [← HW1.out]; exact c1
  have y0 : W1.cell? ⟨z, 0, none⟩ = some (.int .i64 k) := by rw [← HW1.out]; exact x0
  have y1 : W1.cell? ⟨z, 1, none⟩ = some (.int .i64 7) := by rw [← HW1.out]; exact x1
  have HMAP1 := Lib.hid (HT1.out.map HMAP.out (fun h => h))
  clear c0 c1 x0 x1 hlk
  go_wp2_with fail
  go_still_tail 6, (by kernel_rfl)
  change wpList _ _ _ _ _ (World.drew _)
  have hmap2 : W1.drew.ownsMap Tryd.prog 30 (plainElem Tryd.prog 3) m n D := HMAP1.out
  have HT2 := Lib.hid (HT1.out.drew)
  obtain ⟨W2, HW2⟩ := name_it W1.drew
  rw [HW2.out] at hmap2 HT2 ⊢
  have hs2 : W.heap.size ≤ W2.heap.size := HT2.out.size
  go_wp2_with (at_mapUpdate; refine wpList_mapUpdate_in _ rfl _ _ _ 99 rfl 30 3 law30 Tryd.underlying99 _ m n D rfl hmap2 (by unfold maxLen; omega) _ _ _ rfl rfl hkey _ [] (plainElem_int Tryd.underlying3 (WalkArith.wf_i64 (by omega))) ?_)
  intro w3 hown3 hturn3
  have HO3 := Lib.hid hown3
  have HT3 := Lib.hid (show Turn (fun i => i = m) W w3 from (HT2.out.mono (fun _ _ h => h.elim)).trans ((Turn.of_grown hturn3.grown).mono (fun i _ hi => by injection hi)))
  have hs3 : W.heap.size ≤ w3.heap.size := HT3.out.size
  have HBLK3 := Lib.hid ((HT3.out.block b hWb HBM.out).trans HBLK.out)
  have HX3 := Lib.hid ((HT3.out.block z hWz (by have := HLT.out.2.1; omega)).trans HX.out)
  have HROW3 := Lib.hid (HT3.out.owns HROW.out (fun g hg e => HMR.out (by rw [hg, e])))
  have e1 : w3.cell? ⟨b, 1, none⟩ = some (.slice A n cp) := Lib.cell_of_heap HBLK3.out 1
  have y0 : w3.cell? ⟨z, 0, none⟩ = some (.int .i64 k) := Lib.cell_of_heap HX3.out 0
  have y1 : w3.cell? ⟨z, 1, none⟩ = some (.int .i64 7) := Lib.cell_of_heap HX3.out 1
  clear hown3 hturn3 d0 d1 hmap2
  go_wp2_with fail
  have HT3b := Lib.hid (show Turn (SB b m (.slice A n cp)) w w3 from (show Turn (SB b m (.slice A n cp)) w W from by rw [← HW.out]; exact (Turn.refl _ w).alloc _).trans (HT3.out.mono (fun i _ hi => .inr (.inl hi))))
  have hb3 : b < w3.heap.size := by omega
  have hz3 : z < w3.heap.size := by omega
  obtain ⟨i0, hi, hz0, hz1, hz2⟩ := info_parts infoArr
  have NB := Lib.hid (heap_alloc_new w3 (.cells #[.int .i64 k, .int .i64 7] 30))
  have HS3 := Lib.hid (show (w3.alloc (.cells #[.int .i64 k, .int .i64 7] 30)).heap.size = w3.heap.size + 1 by simp)
  go_region_law ((refine step_append_lies _ rfl _ _ 100 rfl B 30 i0 (.agg #[.int .i64 0, .int .i64 0]) 2 16 Tryd.underlying100 hi hz0 hz1 hz2 rfl (by decide) (.slice A n cp) n (pairRow ks) rfl (by first | exact own_drew (HROW3.out.alloc _) | exact (own_drew HROW3.out).alloc _) ⟨w3.heap.size, 0, none⟩ 1 1 [.int .i64 k, .int .i64 7] rfl rfl (World.news_of_block (cs := #[.int .i64 k, .int .i64 7]) (by exact NB.out)) (one_arr _) (by omega) (by unfold maxLen; omega) (by omega) (by show B ≤ (w3.alloc (.cells #[.int .i64 k, .int .i64 7] 30)).heap.size; rw [HS3.out]; omega) (w3.heap.size + 1) (by exact HS3.out) (fun g4 cp4 w4 ho4 hg4 hl4 _ => ?_); have HO4 := Lib.hid ho4; have HG4 := Lib.hid (show w3.grownBy w4 (Value.slice A n cp).ownBlock from grown_after (w := w3) (o := .cells #[.int .i64 k, .int .i64 7] 30) ⟨hg4.os, hg4.tape, hg4.output, hg4.size, hg4.block⟩); have HL4 := Lib.hid (show (Value.slice A n cp).ownBlock = some g4 ∨ g4 = w3.heap.size + 1 from hl4); have HC4 := Lib.hid ((HG4.out.block b (by omega) (fun e => HBR.out e.symm)).trans HBLK3.out); have f4 : w4.frozen? ⟨b, 1, none⟩ = false := Lib.frozen_of_heap HC4.out 1; have d1 : w4.cell? ⟨b, 1, none⟩ = some (.slice A n cp) := Lib.cell_of_heap HC4.out 1; clear ho4 hg4 hl4))
  all_goals
    go_wp2_with fail
    go_ret
    have hgb : g4 ≠ b := by
      rcases HL4.out with h0 | h0
      · exact fun e => HBR.out (by rw [h0, e])
      · omega
    refine ⟨by rw [HN.out]; rfl, ⟨.slice (some ⟨g4, 0, none⟩) (n + 1) cp4, ⟨heap_setCell_same w4 b 1 _ 102 _ HC4.out, ?_, ?_, ?_, hlob, hlom⟩, ?_⟩, ?_⟩
    · rw [List.length_append, HN.out]
      exact ((Turn.of_grown HG4.out).map HO3.out (fun e => HMR.out e.symm)).setCell (fun e => HBM.out (by rw [e])) _
    · have := HIDS.out
      exact this
    · rw [List.length_append, HN.out, pairRow_snoc]
      exact ownsRow_setCell_other HO4.out (a := ⟨b, 1, none⟩) (fun e => hgb (by injection e)) _
    · rw [HN.out]
      rcases HL4.out with h0 | h0
      · exact .inl h0.symm
      · exact .inr fun g hg => by injection hg with hg; have hg : g4 = g := hg; have := HT3b.out.size; omega
    · rw [HN.out]
      exact (HT3b.out.trans ((Turn.of_grown HG4.out).mono (fun i _ h => .inr (.inr h)))).setCell (p := ⟨b, 1, none⟩) (.inr (.inl rfl)) _

set_option maxRecDepth 100000 in
set_option maxHeartbeats 400000 in
theorem keyDP_yes {w : World} {B b m : Nat} {v : Value} {ks : List Int} {D : DataW Unit} (h : DictP w B b m v ks D) (k : Nat) (hk : k < ks.length) (hn : ks.length ≤ 100000) :
    Calls Tryd.prog 16 #[.pointer (some ⟨b, 0, none⟩), .int .i64 k] w fun e w' => e = .returned (.tuple #[.agg #[.int .i64 ks[k], .int .i64 7], .bool true]) ∧ Below w.heap.size w w' := by
  obtain ⟨g, cp, rfl, _, hgl⟩ := h.row.form (by omega)
  obtain ⟨q1, q2⟩ := pairRow_at (List.getElem?_eq_getElem hk)
  have d0 : w.cell? ⟨g, k * 2, none⟩ = some (.int .i64 ks[k]) := by rw [h.row.cellAt (k * 2) (by omega), q1]
  have d1 : w.cell? ⟨g, k * 2 + 1, none⟩ = some (.int .i64 7) := by rw [h.row.cellAt (k * 2 + 1) (by omega), q2]
  have hbl := blk_lt h.blk
  obtain ⟨n, HN⟩ := name_it ks.length
  obtain ⟨x, HX⟩ := name_it ks[k]
  have hblk := h.blk
  rw [HX.out] at d0 ⊢
  rw [HN.out] at hk hn hblk
  have hb1 := (Below.refl w.heap.size w).alloc (Nat.le_refl _) (.cells #[.int .i64 0, .int .i64 0] 30)
  have hz := heap_alloc_new w (.cells #[.int .i64 0, .int .i64 0] 30)
  obtain ⟨z, HZ⟩ := name_it w.heap.size
  obtain ⟨W, HW⟩ := name_it (w.alloc (.cells #[.int .i64 0, .int .i64 0] 30))
  rw [HW.out] at hb1 hz
  rw [HZ.out] at hb1 hz hbl hgl
  have c1 : W.cell? ⟨b, 1, none⟩ = some (.slice (some ⟨g, 0, none⟩) n cp) := (hb1.cell (p := ⟨b, 1, none⟩) hbl).trans (Lib.cell_of_heap hblk 1)
  have e0 : W.cell? ⟨g, k * 2, none⟩ = _ := (hb1.cell (p := ⟨g, k * 2, none⟩) hgl).trans d0
  have e1 : W.cell? ⟨g, k * 2 + 1, none⟩ = _ := (hb1.cell (p := ⟨g, k * 2 + 1, none⟩) hgl).trans d1
  have z0 : W.cell? ⟨z, 0, none⟩ = some (.int .i64 0) := Lib.cell_of_heap hz 0
  have z1 : W.cell? ⟨z, 1, none⟩ = some (.int .i64 0) := Lib.cell_of_heap hz 1
  have f0 : W.frozen? ⟨z, 0, none⟩ = false := Lib.frozen_of_heap hz 0
  have f1 : W.frozen? ⟨z, 1, none⟩ = false := Lib.frozen_of_heap hz 1
  have HB := Lib.hid hb1
  have HZZ := Lib.hid hz
  have t1 : decide ((k : Int) < 0) = false := decide_eq_false (by omega)
  have t2 : decide ((n : Int) ≤ k) = false := decide_eq_false (by omega)
  have t3 : decide (n ≤ k) = false := decide_eq_false (by omega)
  have i1 : (0 : Int) ≤ k := by omega
  have i2 : (k : Int) < n := by omega
  clear h d0 d1 q1 q2 hb1 hz hblk
  go_enter Tryd.func16, Tryd.ntmps16
  go_upto_region 1 with fail
  rw [HW.out, HZ.out]
  go_wp2_with fail
  have hz9 : ((W.setCell ⟨z, 0, none⟩ (.int .i64 x)).setCell ⟨z, 1, none⟩ (.int .i64 7)).heap[z]? = some (.cells #[.int .i64 x, .int .i64 7] 30 (0, 0)) :=
    heap_setCell_same _ z 1 _ 30 _ (heap_setCell_same W z 0 _ 30 _ HZZ.out)
  have hb9 : Below z w ((W.setCell ⟨z, 0, none⟩ (.int .i64 x)).setCell ⟨z, 1, none⟩ (.int .i64 7)) :=
    (HB.out.setCell (p := ⟨z, 0, none⟩) (Nat.le_refl _) _).setCell (p := ⟨z, 1, none⟩) (Nat.le_refl _) _
  obtain ⟨W9, HW9⟩ := name_it ((W.setCell ⟨z, 0, none⟩ (.int .i64 x)).setCell ⟨z, 1, none⟩ (.int .i64 7))
  rw [HW9.out] at hz9 hb9 ⊢
  have r0 : W9.cell? ⟨z, 0, none⟩ = some (.int .i64 x) := Lib.cell_of_heap hz9 0
  have r1 : W9.cell? ⟨z, 1, none⟩ = some (.int .i64 7) := Lib.cell_of_heap hz9 1
  exact bodyPost_ret (v := .tuple #[.agg #[.int .i64 x, .int .i64 7], .bool true]) (by simp [results, Tryd.results16, go_sem, r0, r1]) rfl ⟨rfl, by rw [HZ.out]; exact hb9⟩
end Go.Proofs.YtdhnmgndekncpaaDoor
