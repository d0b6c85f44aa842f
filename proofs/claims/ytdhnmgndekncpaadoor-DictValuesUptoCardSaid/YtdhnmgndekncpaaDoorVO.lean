/- A value's bytes: lay, Encode. Printed by gen_VO.py. -/
import Derived.Test.YtdhnmgndekncpaaDoorVN
namespace Go.Proofs.YtdhnmgndekncpaaDoor
open Go Go.RowKit Go.Maps Go.WideMaps

mutual
/-- A value's bytes. -/
def encV : Val → List UInt8
  | .mk k b n t x l => UInt8.ofNat k.toNat ::
    (if k = 1 then [if b = true then 1 else 0] else if k = 2 then beN 8 (n % 18446744073709551616).toNat else if k = 6 then beN 8 (n % 18446744073709551616).toNat else if k = 7 then beN 8 (n % 18446744073709551616).toNat
    else if k = 3 then textE t else if k = 4 then textE t else if k = 8 then textE t else if k = 9 then textE t else if k = 10 then textE t ++ textE x else if k = 5 then beN 4 l.length ++ encL l else [])
def encL : List Val → List UInt8
  | [] => []
  | v :: r => encV v ++ encL r
end
theorem encL_append (a b : List Val) : encL (a ++ b) = encL a ++ encL b := by
  induction a with
  | nil => simp [encL]
  | cons v r ih => simp [encL, ih]
mutual
theorem encV_length : ∀ v : Val, (encV v).length ≤ 200 * sizeV v
  | .mk k b n t x l => by
    have h := encL_length l
    have h1 := textE_length t
    have h2 := textE_length x
    unfold encV sizeV
    rw [List.length_cons]
    repeat' split
    all_goals (first | (simp only [List.length_append, beN_length, List.length_cons, List.length_nil]; omega) | omega)
theorem encL_length : ∀ l : List Val, (encL l).length ≤ 200 * sizeL l
  | [] => by simp [encL]
  | v :: r => by
    have h := encV_length v
    have h2 := encL_length r
    simp only [encL, sizeL, List.length_append]
    omega
end
theorem may_kind {v : Val} {d : Nat} (h : mayV v d = true) : 0 ≤ v.kind ∧ v.kind ≤ 10 := by
  cases v with
  | mk k b n t x l =>
  show 0 ≤ k ∧ k ≤ 10
  unfold mayV at h
  refine Classical.byContradiction fun hn => ?_
  rw [if_neg (by omega), if_neg (by omega), if_neg (by omega), if_neg (by omega), if_neg (by omega), if_neg (by omega), if_neg (by omega), if_neg (by omega), if_neg (by omega), if_neg (by omega), if_neg (by omega)] at h
  cases h
theorem may_list {b : Bool} {n : Int} {t x : ByteArray} {l : List Val} {d : Nat} (h : mayV (.mk 5 b n t x l) d = true) : mayL l (d + 1) = true ∧ l.length ≤ 4096 := by
  rw [may_5] at h
  simp only [Bool.and_eq_true, decide_eq_true_iff] at h
  exact ⟨h.2.2.1, h.1⟩
theorem take_sizeL (l : List Val) {k : Nat} {y : Val} (h : l[k]? = some y) : sizeL (l.take k) + sizeV y ≤ sizeL l := by
  have h1 := sizeL_take l (k + 1)
  rw [take_oneMore h, sizeL_append] at h1
  simp only [sizeL] at h1
  omega
theorem at_none_boolean (y : Value) (w : World) : (Instr.typeAssert (.iface 151 y) 20 134 true).run Tryd.prog w = .ok (.tuple #[.bool false, .bool false]) w := by kernel_rfl
theorem at_none_whole (y : Value) (w : World) : (Instr.typeAssert (.iface 151 y) 20 136 true).run Tryd.prog w = .ok (.tuple #[.int .i64 0, .bool false]) w := by kernel_rfl
theorem at_none_thing (y : Value) (w : World) : (Instr.typeAssert (.iface 151 y) 20 138 true).run Tryd.prog w = .ok (.tuple #[.int .i64 0, .bool false]) w := by kernel_rfl
theorem at_none_broken (y : Value) (w : World) : (Instr.typeAssert (.iface 151 y) 20 139 true).run Tryd.prog w = .ok (.tuple #[.string ⟨#[]⟩, .bool false]) w := by kernel_rfl
theorem at_none_words (y : Value) (w : World) : (Instr.typeAssert (.iface 151 y) 20 141 true).run Tryd.prog w = .ok (.tuple #[.string ⟨#[]⟩, .bool false]) w := by kernel_rfl
theorem at_none_literal (y : Value) (w : World) : (Instr.typeAssert (.iface 151 y) 20 143 true).run Tryd.prog w = .ok (.tuple #[.agg #[.string ⟨#[]⟩, .string ⟨#[]⟩], .bool false]) w := by kernel_rfl
theorem at_none_list (y : Value) (w : World) : (Instr.typeAssert (.iface 151 y) 20 144 true).run Tryd.prog w = .ok (.tuple #[.slice none 0 0, .bool false]) w := by kernel_rfl
theorem at_boolean_boolean (y : Value) (w : World) : (Instr.typeAssert (.iface 134 y) 20 134 true).run Tryd.prog w = .ok (.tuple #[y, .bool true]) w := by kernel_rfl
theorem at_whole_boolean (y : Value) (w : World) : (Instr.typeAssert (.iface 136 y) 20 134 true).run Tryd.prog w = .ok (.tuple #[.bool false, .bool false]) w := by kernel_rfl
theorem at_whole_whole (y : Value) (w : World) : (Instr.typeAssert (.iface 136 y) 20 136 true).run Tryd.prog w = .ok (.tuple #[y, .bool true]) w := by kernel_rfl
theorem at_thing_boolean (y : Value) (w : World) : (Instr.typeAssert (.iface 138 y) 20 134 true).run Tryd.prog w = .ok (.tuple #[.bool false, .bool false]) w := by kernel_rfl
theorem at_thing_whole (y : Value) (w : World) : (Instr.typeAssert (.iface 138 y) 20 136 true).run Tryd.prog w = .ok (.tuple #[.int .i64 0, .bool false]) w := by kernel_rfl
theorem at_thing_thing (y : Value) (w : World) : (Instr.typeAssert (.iface 138 y) 20 138 true).run Tryd.prog w = .ok (.tuple #[y, .bool true]) w := by kernel_rfl
theorem at_broken_boolean (y : Value) (w : World) : (Instr.typeAssert (.iface 139 y) 20 134 true).run Tryd.prog w = .ok (.tuple #[.bool false, .bool false]) w := by kernel_rfl
theorem at_broken_whole (y : Value) (w : World) : (Instr.typeAssert (.iface 139 y) 20 136 true).run Tryd.prog w = .ok (.tuple #[.int .i64 0, .bool false]) w := by kernel_rfl
theorem at_broken_thing (y : Value) (w : World) : (Instr.typeAssert (.iface 139 y) 20 138 true).run Tryd.prog w = .ok (.tuple #[.int .i64 0, .bool false]) w := by kernel_rfl
theorem at_broken_broken (y : Value) (w : World) : (Instr.typeAssert (.iface 139 y) 20 139 true).run Tryd.prog w = .ok (.tuple #[y, .bool true]) w := by kernel_rfl
theorem at_words_boolean (y : Value) (w : World) : (Instr.typeAssert (.iface 141 y) 20 134 true).run Tryd.prog w = .ok (.tuple #[.bool false, .bool false]) w := by kernel_rfl
theorem at_words_whole (y : Value) (w : World) : (Instr.typeAssert (.iface 141 y) 20 136 true).run Tryd.prog w = .ok (.tuple #[.int .i64 0, .bool false]) w := by kernel_rfl
theorem at_words_thing (y : Value) (w : World) : (Instr.typeAssert (.iface 141 y) 20 138 true).run Tryd.prog w = .ok (.tuple #[.int .i64 0, .bool false]) w := by kernel_rfl
theorem at_words_broken (y : Value) (w : World) : (Instr.typeAssert (.iface 141 y) 20 139 true).run Tryd.prog w = .ok (.tuple #[.string ⟨#[]⟩, .bool false]) w := by kernel_rfl
theorem at_words_words (y : Value) (w : World) : (Instr.typeAssert (.iface 141 y) 20 141 true).run Tryd.prog w = .ok (.tuple #[y, .bool true]) w := by kernel_rfl
theorem at_literal_boolean (y : Value) (w : World) : (Instr.typeAssert (.iface 143 y) 20 134 true).run Tryd.prog w = .ok (.tuple #[.bool false, .bool false]) w := by kernel_rfl
theorem at_literal_whole (y : Value) (w : World) : (Instr.typeAssert (.iface 143 y) 20 136 true).run Tryd.prog w = .ok (.tuple #[.int .i64 0, .bool false]) w := by kernel_rfl
theorem at_literal_thing (y : Value) (w : World) : (Instr.typeAssert (.iface 143 y) 20 138 true).run Tryd.prog w = .ok (.tuple #[.int .i64 0, .bool false]) w := by kernel_rfl
theorem at_literal_broken (y : Value) (w : World) : (Instr.typeAssert (.iface 143 y) 20 139 true).run Tryd.prog w = .ok (.tuple #[.string ⟨#[]⟩, .bool false]) w := by kernel_rfl
theorem at_literal_words (y : Value) (w : World) : (Instr.typeAssert (.iface 143 y) 20 141 true).run Tryd.prog w = .ok (.tuple #[.string ⟨#[]⟩, .bool false]) w := by kernel_rfl
theorem at_literal_literal (y : Value) (w : World) : (Instr.typeAssert (.iface 143 y) 20 143 true).run Tryd.prog w = .ok (.tuple #[y, .bool true]) w := by kernel_rfl
theorem at_list_boolean (y : Value) (w : World) : (Instr.typeAssert (.iface 144 y) 20 134 true).run Tryd.prog w = .ok (.tuple #[.bool false, .bool false]) w := by kernel_rfl
theorem at_list_whole (y : Value) (w : World) : (Instr.typeAssert (.iface 144 y) 20 136 true).run Tryd.prog w = .ok (.tuple #[.int .i64 0, .bool false]) w := by kernel_rfl
theorem at_list_thing (y : Value) (w : World) : (Instr.typeAssert (.iface 144 y) 20 138 true).run Tryd.prog w = .ok (.tuple #[.int .i64 0, .bool false]) w := by kernel_rfl
theorem at_list_broken (y : Value) (w : World) : (Instr.typeAssert (.iface 144 y) 20 139 true).run Tryd.prog w = .ok (.tuple #[.string ⟨#[]⟩, .bool false]) w := by kernel_rfl
theorem at_list_words (y : Value) (w : World) : (Instr.typeAssert (.iface 144 y) 20 141 true).run Tryd.prog w = .ok (.tuple #[.string ⟨#[]⟩, .bool false]) w := by kernel_rfl
theorem at_list_literal (y : Value) (w : World) : (Instr.typeAssert (.iface 144 y) 20 143 true).run Tryd.prog w = .ok (.tuple #[.agg #[.string ⟨#[]⟩, .string ⟨#[]⟩], .bool false]) w := by kernel_rfl
theorem at_list_list (y : Value) (w : World) : (Instr.typeAssert (.iface 144 y) 20 144 true).run Tryd.prog w = .ok (.tuple #[y, .bool true]) w := by kernel_rfl

set_option maxRecDepth 100000 in
set_option maxHeartbeats 1000000 in
theorem truth_any (b : Bool) (w : World) : Calls Tryd.prog 69 #[.bool b] w fun e w' => e = .returned (.int .i64 (if b = true then 1 else 0)) ∧ w' = w := by
  cases b with
  | true =>
    go_enter Tryd.func69, Tryd.ntmps69
    go_wp2
    go_ret
    exact ⟨rfl, rfl⟩
  | false =>
    go_enter Tryd.func69, Tryd.ntmps69
    go_wp2
    go_ret
    exact ⟨rfl, rfl⟩
theorem u64_of (n : Int) : IntKind.u64.wrap n = (((n % 18446744073709551616).toNat : Nat) : Int) := by
  have h := Int.emod_nonneg n (show (18446744073709551616 : Int) ≠ 0 by decide)
  rw [Int.toNat_of_nonneg h]
  rfl
set_option maxRecDepth 100000 in
set_option maxHeartbeats 8000000 in
theorem lay_any (N : Nat) : ∀ (v : Val) (_ : sizeV v < N) (d : Nat) (_ : mayV v d = true) (B : Nat) (F : Nat → Prop) (r : Value) (L : List UInt8) (u : Value) (w : World) (_ : L.length + 200 * sizeV v ≤ 40000000) (_ : ∀ g, F g → g < B) (_ : B ≤ w.heap.size)
    (_ : w.ownsRow B 5 1 r L.length (Lib.byteCells L)) (_ : VRd w F v u), Calls Tryd.prog 62 #[r, u] w (GrowIs B r L (encV v) w) := by
  induction N with
  | zero => exact fun _ h => absurd h (Nat.not_lt_zero _)
  | succ N ih =>
    intro v hN d hmay B F r L u w hL hF hB ho hv
    obtain ⟨A, cap, rfl, hcap, hl⟩ := hv.inv
    have IH := Lib.hid ih
    have HL := Lib.hid hl
    have HF := Lib.hid hF
    have HO := Lib.hid ho
    have HMAY := Lib.hid hmay
    have hk := may_kind hmay
    clear ih hl hF hv ho hmay
    obtain ⟨s, HS⟩ := name_itV (Value.slice A v.list.length cap)
    have HP := Lib.hid (fun W => part_any v s W)
    rw [HS.out]
    obtain ⟨ev, HEV⟩ := name_itV (encV v)
    rw [HEV.out]
    cases v with
    | mk k b n t x l =>
    obtain ⟨pv, HPV⟩ := name_itV (partV (.mk k b n t x l) s)
    unfold PartIs cellsV at HP
    unfold cellsV
    rw [HPV.out] at HP
    simp only [Val.kind, Val.truth, Val.num, Val.text, Val.extra, Val.list] at HP HL HS hcap hk ⊢
    have hts : L.length + 200 + t.size + x.size ≤ 40000200 ∧ L.length + 200 + 200 * sizeL l ≤ 40000000 ∧ sizeL l < N ∧ l.length ≤ sizeL l := by
      simp only [sizeV] at hL hN
      have := len_le_size l
      omega
    obtain ⟨hts, hll, hlN, hls⟩ := hts
    clear hN hL
    obtain ⟨h, Hh⟩ := name_itV w.heap.size
    obtain ⟨w0, Hw0⟩ := name_itV (w.alloc (.cells #[.int .i64 k, .bool b, .int .i64 n, .string t, .string x, s] 84))
    have hb0 := Lib.hid (show Below w.heap.size w w0 from by rw [← Hw0.out]; exact (Below.refl _ _).alloc (Nat.le_refl _) _)
    have hblk := Lib.hid (show w0.heap[h]? = some (.cells #[.int .i64 k, .bool b, .int .i64 n, .string t, .string x, s] 84 (0, 0)) from by rw [← Hw0.out, ← Hh.out]; exact heap_alloc_new w _)
    have hhs := Lib.hid (show h < w0.heap.size from by rw [← Hw0.out, ← Hh.out]; simp)
    have HO0 := Lib.hid ((Turn.of_below hb0.out).owns HO.out (fun g hg hx => by have := (HO.out.lt g hg).2; omega))
    have hBh : B ≤ h := by rw [← Hh.out]; exact hB
    have hB0 : B ≤ w0.heap.size := Nat.le_trans hB hb0.out.size
    obtain ⟨c, Hc⟩ := name_itV (UInt8.ofNat k.toNat)
    have hcw : IntKind.u8.wrap k = (c.toNat : Int) := by
      rw [IntWalk.u8_in _ (by omega), ← Hc.out, UInt8.toNat_ofNat']
      have : k.toNat % 2 ^ 8 = k.toNat := Nat.mod_eq_of_lt (by omega)
      rw [this]; omega
    obtain ⟨ln0, HLn0⟩ := name_itV L.length
    rw [HLn0.out] at HO0 HO hts hll
    have c0 : w0.cell? ⟨h, 0, none⟩ = some (.int .i64 k) := Lib.cell_of_heap hblk.out 0
    go_enter Tryd.func62, Tryd.ntmps62
    go_upto_region 1 with fail
    rw [Hw0.out, Hh.out]
    go_wp2_with (at_builtin; refine app_new rfl _ _ 106 rfl B 5 (.int .u8 0) 1 1 Tryd.underlying106 infoByte rfl (by decide) _ _ _ rfl HO0.out hB0 #[.int .u8 (c.toNat : Int)] 1 1 rfl rfl (one_u8 _) (by omega) (by omega) (by decide) ?_; intro g4 cp4 w4 ho4 hg4 hl4; have HO4 := Lib.hid ho4; have HG4 := Lib.hid hg4; have HL4 := Lib.hid hl4; have HB4 := Lib.hid ((HG4.out.block h hhs.out (fun e => by have := (HO.out.lt h e.symm).2; have := Hh.out; omega)).trans hblk.out); have d0 : w4.cell? ⟨h, 0, none⟩ = some (.int .i64 k) := Lib.cell_of_heap HB4.out 0; have d1 : w4.cell? ⟨h, 1, none⟩ = some (.bool b) := Lib.cell_of_heap HB4.out 1; have d2 : w4.cell? ⟨h, 2, none⟩ = some (.int .i64 n) := Lib.cell_of_heap HB4.out 2; have d3 : w4.cell? ⟨h, 3, none⟩ = some (.string t) := Lib.cell_of_heap HB4.out 3; have d4 : w4.cell? ⟨h, 4, none⟩ = some (.string x) := Lib.cell_of_heap HB4.out 4; have d5 : w4.cell? ⟨h, 5, none⟩ = some s := Lib.cell_of_heap HB4.out 5; clear ho4 hg4 hl4)
    refine (HP.out _).mono ?_
    rintro e w5 ⟨rfl, hb5⟩
    have HGR := Lib.hid (show Grown r (.slice (some ⟨g4, 0, none⟩) (ln0 + 1) cp4) w w5 from by
      have h1 : Grown r r w w0 := Grown.below hb0.out
      have h2 : Grown r (.slice (some ⟨g4, 0, none⟩) (ln0 + 1) cp4) w0 w4 := ⟨Turn.of_grown HG4.out, by
        rcases HL4.out with e | e
        · exact .inl e.symm
        · exact .inr (fun g hg => by injection hg with hg; rw [← hg]; exact e)⟩
      exact (h1.trans h2).trans (Grown.below hb5))
    have HO5 := Lib.hid (show w5.ownsRow B 5 1 (.slice (some ⟨g4, 0, none⟩) (ln0 + 1) cp4) (L ++ [c]).length (Lib.byteCells (L ++ [c])) from by
      rw [byteCells_append, List.length_append, HLn0.out]
      exact (Turn.of_below hb5).owns HO4.out (fun g hg hx => by have := (HO4.out.lt g hg).2; omega))
    have hB5 : B ≤ w5.heap.size := Nat.le_trans hB HGR.out.turn.size
    have HL5 := Lib.hid (HL.out.keep (w' := w5) (fun p hp => World.cell?_of_block (HGR.out.turn.block p.block (by have := HF.out _ hp; omega) (fun e => by have := (HO.out.lt p.block e.symm).1; have := HF.out _ hp; omega))))
    have hl1 : (L ++ [c]).length = ln0 + 1 := by rw [List.length_append, HLn0.out]; rfl
    obtain ⟨L1, HL1⟩ := name_itV (L ++ [c])
    obtain ⟨r5, Hr5⟩ := name_itV (Value.slice (some ⟨g4, 0, none⟩) (ln0 + 1) cp4)
    rw [HL1.out, Hr5.out] at HO5
    rw [HL1.out] at hl1
    have hl1a : L1.length ≤ ln0 + 1 := Nat.le_of_eq hl1
    clear hl1
    rw [Hr5.out] at HGR
    rw [Hr5.out]
    have hevE := Lib.hid (fun (M : List UInt8) (hM : ev = c :: M) => show L ++ ev = L1 ++ M from by rw [hM, ← HL1.out]; simp)
    have hfin := Lib.hid (fun (M : List UInt8) (hM : ev = c :: M) (e : Ending) (w6 : World) (h6 : GrowIs B r5 L1 M w5 e w6) => show GrowIs B r L ev w e w6 from by
      obtain ⟨v', he, ho, hg⟩ := h6
      exact ⟨v', he, by rw [hevE.out M hM]; exact ho, HGR.out.trans hg⟩)
    clear hb5 d0 d1 d2 d3 d4 d5 HO4 HG4 HL4 HB4 c0 hcw HP

    by_cases h0 : k = 0
    · subst h0
      have hpv : pv = .iface 151 (.agg #[]) := by rw [← HPV.out]; rfl
      subst hpv
      have hev := Lib.hid (show ev = c :: ([]) from by rw [← HEV.out, ← Hc.out]; unfold encV; rfl)
      have a_boolean := at_none_boolean (.agg #[])
      have a_whole := at_none_whole (.agg #[])
      have a_thing := at_none_thing (.agg #[])
      have a_broken := at_none_broken (.agg #[])
      have a_words := at_none_words (.agg #[])
      have a_literal := at_none_literal (.agg #[])
      have a_list := at_none_list (.agg #[])
      clear HPV HEV
      go_wp2_with fail
      go_ret
      exact hfin.out [] hev.out _ _ ⟨r5, rfl, by rw [List.append_nil]; exact HO5.out, Grown.refl _ _⟩
    · have e0 : ((k : Int) == 0) = false := beq_eq_false_iff_ne.2 h0
      by_cases h1 : k = 1
      · subst h1
        have hpv : pv = .iface 134 (.bool b) := by rw [← HPV.out]; rfl
        subst hpv
        have hev := Lib.hid (show ev = c :: ([if b = true then 1 else 0]) from by rw [← HEV.out, ← Hc.out]; unfold encV; rfl)
        have a_boolean := at_boolean_boolean (.bool b)
        clear HPV HEV
        have ht := Lib.hid (truth_any b w5)
        obtain ⟨z, Hz⟩ := name_itV (if b = true then (1 : Int) else 0)
        obtain ⟨zc, Hzc⟩ := name_itV (if b = true then (1 : UInt8) else 0)
        rw [Hz.out] at ht
        rw [Hzc.out] at hev
        have hzw : IntKind.u8.wrap z = (zc.toNat : Int) := by rw [← Hz.out, ← Hzc.out]; cases b <;> rfl
        go_wp2_with fail; refine ht.out.mono ?_; rintro e w6 ⟨rfl, rfl⟩
        go_wp2_with (at_builtin; refine app_new rfl _ _ 106 rfl B 5 (.int .u8 0) 1 1 Tryd.underlying106 infoByte rfl (by decide) _ _ _ rfl HO5.out hB5 #[.int .u8 (zc.toNat : Int)] 1 1 rfl rfl (one_u8 _) (by omega) (by omega) (by decide) ?_; intro g7 cp7 w7 ho7 hg7 hl7; have HO7 := Lib.hid ho7; have HG7 := Lib.hid hg7; have HL7 := Lib.hid hl7; clear ho7 hg7 hl7)
        go_ret
        exact hfin.out _ hev.out _ _ ⟨_, rfl, by rw [byteCells_append, List.length_append]; exact HO7.out, ⟨Turn.of_grown HG7.out, by
          rcases HL7.out with e | e
          · exact .inl e.symm
          · exact .inr (fun g hg => by injection hg with hg; rw [← hg]; exact e)⟩⟩
      · have e1 : ((k : Int) == 1) = false := beq_eq_false_iff_ne.2 h1
        by_cases h2 : k = 2
        · subst h2
          have hpv : pv = .iface 136 (.int .i64 n) := by rw [← HPV.out]; rfl
          subst hpv
          have hev := Lib.hid (show ev = c :: (beN 8 (n % 18446744073709551616).toNat) from by rw [← HEV.out, ← Hc.out]; unfold encV; rfl)
          have a_boolean := at_whole_boolean (.int .i64 n)
          have a_whole := at_whole_whole (.int .i64 n)
          clear HPV HEV
          obtain ⟨m, Hm⟩ := name_itV (n % 18446744073709551616).toNat
          rw [Hm.out] at hev
          have hu : IntKind.u64.wrap n = (m : Int) := by rw [u64_of, Hm.out]
          have hbg := Lib.hid (big8_any B r5 L1 m w5 (by omega) HO5.out hB5)
          go_wp2_with fail
          refine hbg.out.mono ?_
          rintro e w6 ⟨v6, rfl, ho6, hg6⟩
          have HO6 := Lib.hid ho6
          have HG6 := Lib.hid hg6
          clear ho6 hg6
          go_wp2_with fail
          go_ret
          exact hfin.out _ hev.out _ _ ⟨v6, rfl, HO6.out, HG6.out⟩
        · have e2 : ((k : Int) == 2) = false := beq_eq_false_iff_ne.2 h2
          by_cases h6 : k = 6
          · subst h6
            have hpv : pv = .iface 138 (.int .i64 n) := by rw [← HPV.out]; rfl
            subst hpv
            have hev := Lib.hid (show ev = c :: (beN 8 (n % 18446744073709551616).toNat) from by rw [← HEV.out, ← Hc.out]; unfold encV; rfl)
            have a_boolean := at_thing_boolean (.int .i64 n)
            have a_whole := at_thing_whole (.int .i64 n)
            have a_thing := at_thing_thing (.int .i64 n)
            clear HPV HEV
            obtain ⟨m, Hm⟩ := name_itV (n % 18446744073709551616).toNat
            rw [Hm.out] at hev
            have hu : IntKind.u64.wrap n = (m : Int) := by rw [u64_of, Hm.out]
            have hbg := Lib.hid (big8_any B r5 L1 m w5 (by omega) HO5.out hB5)
            go_wp2_with fail
            refine hbg.out.mono ?_
            rintro e w6 ⟨v6, rfl, ho6, hg6⟩
            have HO6 := Lib.hid ho6
            have HG6 := Lib.hid hg6
            clear ho6 hg6
            go_wp2_with fail
            go_ret
            exact hfin.out _ hev.out _ _ ⟨v6, rfl, HO6.out, HG6.out⟩
          · have e6 : ((k : Int) == 6) = false := beq_eq_false_iff_ne.2 h6
            by_cases h7 : k = 7
            · subst h7
              have hpv : pv = .iface 138 (.int .i64 n) := by rw [← HPV.out]; rfl
              subst hpv
              have hev := Lib.hid (show ev = c :: (beN 8 (n % 18446744073709551616).toNat) from by rw [← HEV.out, ← Hc.out]; unfold encV; rfl)
              have a_boolean := at_thing_boolean (.int .i64 n)
              have a_whole := at_thing_whole (.int .i64 n)
              have a_thing := at_thing_thing (.int .i64 n)
              clear HPV HEV
              obtain ⟨m, Hm⟩ := name_itV (n % 18446744073709551616).toNat
              rw [Hm.out] at hev
              have hu : IntKind.u64.wrap n = (m : Int) := by rw [u64_of, Hm.out]
              have hbg := Lib.hid (big8_any B r5 L1 m w5 (by omega) HO5.out hB5)
              go_wp2_with fail
              refine hbg.out.mono ?_
              rintro e w6 ⟨v6, rfl, ho6, hg6⟩
              have HO6 := Lib.hid ho6
              have HG6 := Lib.hid hg6
              clear ho6 hg6
              go_wp2_with fail
              go_ret
              exact hfin.out _ hev.out _ _ ⟨v6, rfl, HO6.out, HG6.out⟩
            · have e7 : ((k : Int) == 7) = false := beq_eq_false_iff_ne.2 h7
              by_cases h3 : k = 3
              · subst h3
                have hpv : pv = .iface 139 (.string t) := by rw [← HPV.out]; rfl
                subst hpv
                have hev := Lib.hid (show ev = c :: (textE t) from by rw [← HEV.out, ← Hc.out]; unfold encV; rfl)
                have a_boolean := at_broken_boolean (.string t)
                have a_whole := at_broken_whole (.string t)
                have a_thing := at_broken_thing (.string t)
                have a_broken := at_broken_broken (.string t)
                clear HPV HEV
                have hbg := Lib.hid (text_any B r5 L1 t w5 (by omega) HO5.out hB5)
                go_wp2_with fail
                refine hbg.out.mono ?_
                rintro e w6 ⟨v6, rfl, ho6, hg6⟩
                have HO6 := Lib.hid ho6
                have HG6 := Lib.hid hg6
                clear ho6 hg6
                go_wp2_with fail
                go_ret
                exact hfin.out _ hev.out _ _ ⟨v6, rfl, HO6.out, HG6.out⟩
              · have e3 : ((k : Int) == 3) = false := beq_eq_false_iff_ne.2 h3
                by_cases h4 : k = 4
                · subst h4
                  have hpv : pv = .iface 141 (.string t) := by rw [← HPV.out]; rfl
                  subst hpv
                  have hev := Lib.hid (show ev = c :: (textE t) from by rw [← HEV.out, ← Hc.out]; unfold encV; rfl)
                  have a_boolean := at_words_boolean (.string t)
                  have a_whole := at_words_whole (.string t)
                  have a_thing := at_words_thing (.string t)
                  have a_broken := at_words_broken (.string t)
                  have a_words := at_words_words (.string t)
                  clear HPV HEV
                  have hbg := Lib.hid (text_any B r5 L1 t w5 (by omega) HO5.out hB5)
                  go_wp2_with fail
                  refine hbg.out.mono ?_
                  rintro e w6 ⟨v6, rfl, ho6, hg6⟩
                  have HO6 := Lib.hid ho6
                  have HG6 := Lib.hid hg6
                  clear ho6 hg6
                  go_wp2_with fail
                  go_ret
                  exact hfin.out _ hev.out _ _ ⟨v6, rfl, HO6.out, HG6.out⟩
                · have e4 : ((k : Int) == 4) = false := beq_eq_false_iff_ne.2 h4
                  by_cases h8 : k = 8
                  · subst h8
                    have hpv : pv = .iface 141 (.string t) := by rw [← HPV.out]; rfl
                    subst hpv
                    have hev := Lib.hid (show ev = c :: (textE t) from by rw [← HEV.out, ← Hc.out]; unfold encV; rfl)
                    have a_boolean := at_words_boolean (.string t)
                    have a_whole := at_words_whole (.string t)
                    have a_thing := at_words_thing (.string t)
                    have a_broken := at_words_broken (.string t)
                    have a_words := at_words_words (.string t)
                    clear HPV HEV
                    have hbg := Lib.hid (text_any B r5 L1 t w5 (by omega) HO5.out hB5)
                    go_wp2_with fail
                    refine hbg.out.mono ?_
                    rintro e w6 ⟨v6, rfl, ho6, hg6⟩
                    have HO6 := Lib.hid ho6
                    have HG6 := Lib.hid hg6
                    clear ho6 hg6
                    go_wp2_with fail
                    go_ret
                    exact hfin.out _ hev.out _ _ ⟨v6, rfl, HO6.out, HG6.out⟩
                  · have e8 : ((k : Int) == 8) = false := beq_eq_false_iff_ne.2 h8
                    by_cases h9 : k = 9
                    · subst h9
                      have hpv : pv = .iface 141 (.string t) := by rw [← HPV.out]; rfl
                      subst hpv
                      have hev := Lib.hid (show ev = c :: (textE t) from by rw [← HEV.out, ← Hc.out]; unfold encV; rfl)
                      have a_boolean := at_words_boolean (.string t)
                      have a_whole := at_words_whole (.string t)
                      have a_thing := at_words_thing (.string t)
                      have a_broken := at_words_broken (.string t)
                      have a_words := at_words_words (.string t)
                      clear HPV HEV
                      have hbg := Lib.hid (text_any B r5 L1 t w5 (by omega) HO5.out hB5)
                      go_wp2_with fail
                      refine hbg.out.mono ?_
                      rintro e w6 ⟨v6, rfl, ho6, hg6⟩
                      have HO6 := Lib.hid ho6
                      have HG6 := Lib.hid hg6
                      clear ho6 hg6
                      go_wp2_with fail
                      go_ret
                      exact hfin.out _ hev.out _ _ ⟨v6, rfl, HO6.out, HG6.out⟩
                    · have e9 : ((k : Int) == 9) = false := beq_eq_false_iff_ne.2 h9
                      by_cases h10 : k = 10
                      · subst h10
                        have hpv : pv = .iface 143 (.agg #[.string t, .string x]) := by rw [← HPV.out]; rfl
                        subst hpv
                        have hev := Lib.hid (show ev = c :: (textE t ++ textE x) from by rw [← HEV.out, ← Hc.out]; unfold encV; rfl)
                        have a_boolean := at_literal_boolean (.agg #[.string t, .string x])
                        have a_whole := at_literal_whole (.agg #[.string t, .string x])
                        have a_thing := at_literal_thing (.agg #[.string t, .string x])
                        have a_broken := at_literal_broken (.agg #[.string t, .string x])
                        have a_words := at_literal_words (.agg #[.string t, .string x])
                        have a_literal := at_literal_literal (.agg #[.string t, .string x])
                        clear HPV HEV
                        go_upto_region 20 with fail
                        obtain ⟨w6, Hw6⟩ := name_itV (w5.alloc (.cells #[.string t, .string x] 143))
                        obtain ⟨g, Hg⟩ := name_itV w5.heap.size
                        have hb6 := Lib.hid (show Below w5.heap.size w5 w6.drew from by rw [← Hw6.out]; exact below_drewN ((Below.refl _ _).alloc (Nat.le_refl _) _) 1)
                        have hlit := Lib.hid (show w6.drew.heap[g]? = some (.cells #[.string t, .string x] 143 (0, 0)) from by rw [← Hw6.out, ← Hg.out]; exact heap_alloc_new w5 _)
                        have HO6 := Lib.hid ((Turn.of_below hb6.out).owns HO5.out (fun z hz hx => by have := (HO5.out.lt z hz).2; omega))
                        rw [Hw6.out, Hg.out]
                        have p1 : w6.drew.cell? ⟨g, 0, none⟩ = some (.string t) ∧ w6.drew.cell? ⟨g, 1, none⟩ = some (.string x) := ⟨Lib.cell_of_heap hlit.out 0, Lib.cell_of_heap hlit.out 1⟩
                        have ht1 := Lib.hid (text_any B r5 L1 t w6.drew (by omega) HO6.out (Nat.le_trans hB5 hb6.out.size))
                        have hle1 := textE_length t
                        obtain ⟨L2, HL2⟩ := name_itV (L1 ++ textE t)
                        have hl2 : L2.length ≤ ln0 + 5 + t.size := by rw [← HL2.out, List.length_append]; omega
                        clear hle1
                        go_cut [4] (fun s4 wx => Hid (GrowIs B r5 L1 (textE t ++ textE x) w5 (.returned s4) wx))
                        case first =>
                          go_region_held3 (fun W' => W'.cell? ⟨g, 0, none⟩ = some (.string t) ∧ W'.cell? ⟨g, 1, none⟩ = some (.string x)) (first | exact p1 | exact p2 | exact p3 | (trace_state; fail))
                            (first | (go_at_call 71; (with_reducible refine ht1.out.mono ?_); rintro e w7 ⟨v7, rfl, ho7, hg7⟩; have HO7 := Lib.hid ho7; have HG7 := Lib.hid hg7; have hlit7 := Lib.hid ((HG7.out.keeps (Array.getElem?_eq_some_iff.1 hlit.out).1 (own_ne HO6.out hlit.out (by decide))).trans hlit.out); have p2 : w7.cell? ⟨g, 0, none⟩ = some (.string t) ∧ w7.cell? ⟨g, 1, none⟩ = some (.string x) := ⟨Lib.cell_of_heap hlit7.out 0, Lib.cell_of_heap hlit7.out 1⟩; have hB7 : B ≤ w7.heap.size := Nat.le_trans (Nat.le_trans hB5 hb6.out.size) hg7.turn.size; rw [HL2.out] at HO7; clear ho7 hg7) | (go_at_call 71; (with_reducible refine (text_any B v7 L2 x w7 (by omega) HO7.out hB7).mono ?_); rintro e w8 ⟨v8, rfl, ho8, hg8⟩; have HO8 := Lib.hid ho8; have HG8 := Lib.hid hg8; have hlit8 := Lib.hid ((HG8.out.keeps (Array.getElem?_eq_some_iff.1 hlit7.out).1 (own_ne HO7.out hlit7.out (by decide))).trans hlit7.out); have p3 : w8.cell? ⟨g, 0, none⟩ = some (.string t) ∧ w8.cell? ⟨g, 1, none⟩ = some (.string x) := ⟨Lib.cell_of_heap hlit8.out 0, Lib.cell_of_heap hlit8.out 1⟩; clear ho8 hg8))
                          go_wp2_with fail
                          go_meet
                          exact Lib.hid ⟨v8, rfl, by rw [← List.append_assoc, HL2.out]; exact HO8.out, (Grown.below hb6.out).trans (HG7.out.trans HG8.out)⟩
                        case rest =>
                          have HC := Lib.hid hcut.out
                          go_wp2_with fail
                          go_ret
                          exact hfin.out _ hev.out _ _ HC.out
                      · have e10 : ((k : Int) == 10) = false := beq_eq_false_iff_ne.2 h10
                        by_cases h5 : k = 5
                        · subst h5
                          have hpv : pv = .iface 144 (s) := by rw [← HPV.out]; rfl
                          subst hpv
                          have hev := Lib.hid (show ev = c :: (beN 4 l.length ++ encL l) from by rw [← HEV.out, ← Hc.out]; unfold encV; rfl)
                          obtain ⟨hml, hml2⟩ := may_list HMAY.out
                          have HML := Lib.hid hml
                          clear hml
                          have hs5 := HS.out
                          subst hs5
                          obtain ⟨ln, HLN⟩ := name_itV l.length
                          rw [HLN.out] at hml2 hev HL5 hls hcap ⊢
                          have a_boolean := at_list_boolean (.slice A ln cap)
                          have a_whole := at_list_whole (.slice A ln cap)
                          have a_thing := at_list_thing (.slice A ln cap)
                          have a_broken := at_list_broken (.slice A ln cap)
                          have a_words := at_list_words (.slice A ln cap)
                          have a_literal := at_list_literal (.slice A ln cap)
                          have a_list := at_list_list (.slice A ln cap)
                          clear HPV HEV
                          have hbg := Lib.hid (big4_any B r5 L1 ln w5 (by omega) HO5.out hB5)
                          have hu : IntKind.u64.wrap (ln : Int) = (ln : Int) := IntWalk.u64_in _ (by omega)
                          go_wp2_with fail
                          refine hbg.out.mono ?_
                          rintro e w6 ⟨v6, rfl, ho6, hg6⟩
                          have HO6 := Lib.hid ho6
                          have HG6 := Lib.hid hg6
                          clear ho6 hg6
                          go_wp2_with fail
                          have hg0 := Lib.hid (HG6.out.turn.size)
                          have hl6 : (L1 ++ beN 4 ln).length ≤ ln0 + 5 := by rw [List.length_append, beN_length]; omega
                          obtain ⟨L6, HL6⟩ := name_itV (L1 ++ beN 4 ln)
                          rw [HL6.out] at HO6 hl6
                          have hB6 : B ≤ w6.heap.size := Nat.le_trans hB5 hg0.out
                          have HLw6 := Lib.hid (HL5.out.keep (w' := w6) (fun p hp => World.cell?_of_block (HG6.out.turn.block p.block (by have := HF.out _ hp; omega) (fun e => by have := (HO5.out.lt p.block e.symm).1; have := HF.out _ hp; omega))))
                          go_loopw [0, 77] (fun s0 s77 wr => ∃ i : Nat, i ≤ ln ∧ s77 = .int .i64 (i : Nat) ∧ Hid (wr.ownsRow B 5 1 s0 (L6 ++ encL (l.take i)).length (Lib.byteCells (L6 ++ encL (l.take i)))) ∧ Hid (Grown v6 s0 w6 wr)) (fun _ s77 _ => ln - (intOf s77).toNat)
                          case atStart => exact ⟨0, by omega, rfl, Lib.hid (by rw [List.take_zero]; unfold encL; rw [List.append_nil]; exact HO6.out), Lib.hid (Grown.refl _ _)⟩
                          case round =>
                            obtain ⟨i, hi, rfl, hor, hgr⟩ := hrel
                            have hszr : w6.heap.size ≤ wr.heap.size := hgr.out.turn.size
                            have hBr : B ≤ wr.heap.size := Nat.le_trans (Nat.le_trans hB5 hg0.out) hszr
                            by_cases hlt : i < ln
                            · obtain ⟨y, hy⟩ : ∃ y, l[i]? = some y := ⟨l[i]'(by rw [HLN.out]; exact hlt), List.getElem?_eq_getElem _⟩
                              have HR := Lib.hid (HLw6.out.keep (w' := wr) (fun p hp => World.cell?_of_block (hgr.out.turn.block p.block (by have := HF.out _ hp; omega) (fun e => by have := (HO6.out.lt p.block e.symm).1; have := HF.out _ hp; omega))))
                              obtain ⟨ad, sy, rfl, hFa, ⟨Ay, cy, rfl, hcapy, hly⟩, hvy, e0, e1, e2, e3, e4, e5⟩ := HR.out.cellsAt hy
                              have hmem := List.mem_of_getElem? hy
                              have hmy : mayV y (d + 1) = true := by have := HML.out; rw [mayL_all, List.all_eq_true] at this; exact this y hmem
                              have hszy := sizeV_mem hmem
                              have htk := take_sizeL l hy
                              have hen := encL_length (l.take i)
                              have hcurb : (L6 ++ encL (l.take i)).length + 200 * sizeV y ≤ 40000000 := by rw [List.length_append]; omega
                              obtain ⟨Lc, HLc⟩ := name_itV (L6 ++ encL (l.take i))
                              rw [HLc.out] at hor hcurb
                              have hnext := Lib.hid (show L6 ++ encL (l.take (i + 1)) = Lc ++ encV y from by rw [take_oneMore hy, encL_append, ← HLc.out, List.append_assoc]; simp [encL])
                              obtain ⟨W, HW⟩ := name_itV (wr.alloc (.cells #[.int .i64 y.kind, .bool y.truth, .int .i64 y.num, .string y.text, .string y.extra, .slice Ay y.list.length cy] 84))
                              have hbW := Lib.hid (show Below wr.heap.size wr W from by rw [← HW.out]; exact (Below.refl _ _).alloc (Nat.le_refl _) _)
                              have hih := Lib.hid (IH.out y (by omega) (d + 1) hmy B F u0 Lc _ W hcurb HF.out (Nat.le_trans hBr hbW.out.size) ((Turn.of_below hbW.out).owns hor.out (fun z hz hx => by have := (hor.out.lt z hz).2; omega)) (hvy.under hbW.out (fun g hg => by have := HF.out g hg; omega)))
                              unfold cellsV at hih
                              have q1 : (0 : Int) ≤ i := by omega
                              have q2 : (i : Int) < ln := by omega
                              have w1 : IntKind.i64.wrap ((i : Int) + 1) = (i : Int) + 1 := IntWalk.i64_in _ (by omega)
                              have hW0 : W.cell? ⟨wr.heap.size, 0, none⟩ = some (.int .i64 y.kind) := by rw [← HW.out]; exact Lib.cell_of_heap (heap_alloc_new wr _) 0
                              have hW1 : W.cell? ⟨wr.heap.size, 1, none⟩ = some (.bool y.truth) := by rw [← HW.out]; exact Lib.cell_of_heap (heap_alloc_new wr _) 1
                              have hW2 : W.cell? ⟨wr.heap.size, 2, none⟩ = some (.int .i64 y.num) := by rw [← HW.out]; exact Lib.cell_of_heap (heap_alloc_new wr _) 2
                              have hW3 : W.cell? ⟨wr.heap.size, 3, none⟩ = some (.string y.text) := by rw [← HW.out]; exact Lib.cell_of_heap (heap_alloc_new wr _) 3
                              have hW4 : W.cell? ⟨wr.heap.size, 4, none⟩ = some (.string y.extra) := by rw [← HW.out]; exact Lib.cell_of_heap (heap_alloc_new wr _) 4
                              have hW5 : W.cell? ⟨wr.heap.size, 5, none⟩ = some (.slice Ay y.list.length cy) := by rw [← HW.out]; exact Lib.cell_of_heap (heap_alloc_new wr _) 5
                              clear hy hmem hmy hszy htk hen hcurb hly hvy hFa
                              go_upto_region 27 with fail
                              rw [HW.out]
                              go_wp2_with fail
                              refine hih.out.mono ?_
                              rintro e w7 ⟨v7, rfl, ho7, hg7⟩
                              have HO7 := Lib.hid ho7
                              have HG7 := Lib.hid ((hgr.out.trans (Grown.below hbW.out)).trans hg7)
                              clear ho7 hg7
                              go_wp2_with fail
                              go_roundw
                              case rel => exact ⟨i + 1, by omega, by go_num, Lib.hid (by rw [hnext.out]; exact HO7.out), HG7⟩
                              case measure => simp [intOf]; omega
                            · have hie : i = ln := by omega
                              have HE := Lib.hid (show L1 ++ (beN 4 ln ++ encL l) = L6 ++ encL (l.take i) from by rw [List.take_of_length_le (by rw [hie, HLN.out]; exact Nat.le_refl _), ← List.append_assoc, HL6.out])
                              clear hie
                              go_wp2_with fail
                              go_ret
                              exact hfin.out _ (by rw [hev.out]) _ _ ⟨_, rfl, by rw [HE.out]; exact hor.out, HG6.out.trans hgr.out⟩
                        · omega

/-- What Encode hands back. -/
def EncIs (v : Val) (w : World) (e : Ending) (w' : World) : Prop := Below w.heap.size w w' ∧
  if mayV v 0 = true then ∃ r, e = .returned (.tuple #[r, .int .i64 0]) ∧ w'.ownsRow w.heap.size 5 1 r (encV v).length (Lib.byteCells (encV v)) else e = .returned (.tuple #[.slice none 0 0, .int .i64 1])
set_option maxRecDepth 100000 in
set_option maxHeartbeats 1000000 in
theorem encode_any (v : Val) (hs : sizeV v ≤ 200000) (F : Nat → Prop) (u : Value) (w : World) (hF : ∀ g, F g → g < w.heap.size) (hv : VRd w F v u) (hg : GlobB w) :
    Calls Tryd.prog 56 #[u] w (EncIs v w) := by
  obtain ⟨A, cap, hu, hcap, hl⟩ := hv.inv
  have HF := Lib.hid hF
  have HV := Lib.hid hv
  have HG := Lib.hid hg
  have hck := Lib.hid (fun (W : World) (hb : Below w.heap.size w W) => check_any v (by omega) F u W (fun g hg => Nat.lt_of_lt_of_le (HF.out g hg) hb.size) (HV.out.under hb HF.out) (glob_under HG.out hb))
  have hly := Lib.hid (fun (W : World) (hb : Below w.heap.size w W) (hm : mayV v 0 = true) => lay_any (sizeV v + 1) v (by omega) 0 hm w.heap.size F (.slice none 0 0) [] u W (by simp; omega) HF.out hb.size (World.ownsRow_nil _ _ _ _) (HV.out.under hb HF.out))
  subst hu
  obtain ⟨s, HS⟩ := name_itV (Value.slice A v.list.length cap)
  obtain ⟨mv, HMV⟩ := name_itV (mayV v 0)
  unfold EncIs
  rw [HMV.out] at hck hly
  rw [HMV.out]
  rw [HS.out] at hck hly ⊢
  clear hl hcap hg hv hF
  cases v with
  | mk k b n t x l =>
  unfold cellsV at hck hly ⊢
  simp only [Val.kind, Val.truth, Val.num, Val.text, Val.extra] at hck hly ⊢
  obtain ⟨h, Hh⟩ := name_itV w.heap.size
  obtain ⟨w0, Hw0⟩ := name_itV (w.alloc (.cells #[.int .i64 k, .bool b, .int .i64 n, .string t, .string x, s] 84))
  have hb0 := Lib.hid (show Below w.heap.size w w0 from by rw [← Hw0.out]; exact (Below.refl _ _).alloc (Nat.le_refl _) _)
  have hblk := Lib.hid (show w0.heap[h]? = some (.cells #[.int .i64 k, .bool b, .int .i64 n, .string t, .string x, s] 84 (0, 0)) from by rw [← Hw0.out, ← Hh.out]; exact heap_alloc_new w _)
  have hhs := Lib.hid (show h < w0.heap.size from by rw [← Hw0.out, ← Hh.out]; simp)
  have q0 : w0.cell? ⟨h, 0, none⟩ = some (.int .i64 k) := Lib.cell_of_heap hblk.out 0
  have q1 : w0.cell? ⟨h, 1, none⟩ = some (.bool b) := Lib.cell_of_heap hblk.out 1
  have q2 : w0.cell? ⟨h, 2, none⟩ = some (.int .i64 n) := Lib.cell_of_heap hblk.out 2
  have q3 : w0.cell? ⟨h, 3, none⟩ = some (.string t) := Lib.cell_of_heap hblk.out 3
  have q4 : w0.cell? ⟨h, 4, none⟩ = some (.string x) := Lib.cell_of_heap hblk.out 4
  have q5 : w0.cell? ⟨h, 5, none⟩ = some s := Lib.cell_of_heap hblk.out 5
  go_enter Tryd.func56, Tryd.ntmps56
  go_upto_region 1 with fail
  rw [Hw0.out, Hh.out]
  go_wp2_with fail
  refine (hck.out _ hb0.out).mono ?_
  rintro e w1 ⟨rfl, hb⟩
  have HB1 := Lib.hid (hb0.out.trans (hb.mono hb0.out.size))
  have hblk1 := Lib.hid ((hb.block h hhs.out).trans hblk.out)
  clear hb q0 q1 q2 q3 q4 q5
  have c0 : w1.cell? ⟨h, 0, none⟩ = some (.int .i64 k) := Lib.cell_of_heap hblk1.out 0
  have c1 : w1.cell? ⟨h, 1, none⟩ = some (.bool b) := Lib.cell_of_heap hblk1.out 1
  have c2 : w1.cell? ⟨h, 2, none⟩ = some (.int .i64 n) := Lib.cell_of_heap hblk1.out 2
  have c3 : w1.cell? ⟨h, 3, none⟩ = some (.string t) := Lib.cell_of_heap hblk1.out 3
  have c4 : w1.cell? ⟨h, 4, none⟩ = some (.string x) := Lib.cell_of_heap hblk1.out 4
  have c5 : w1.cell? ⟨h, 5, none⟩ = some s := Lib.cell_of_heap hblk1.out 5
  cases mv with
  | false =>
    go_wp2_with fail
    exact bodyPost_ret (v := .tuple #[.slice none 0 0, .int .i64 1]) (by simp [results, Tryd.results56, go_sem]) rfl ⟨HB1.out, rfl⟩
  | true =>
    have hl2 := Lib.hid (hly.out w1 HB1.out rfl)
    go_wp2_with fail
    refine hl2.out.mono ?_
    rintro e w2 ⟨v2, rfl, ho2, hg2⟩
    have HO2 := Lib.hid ho2
    have HB2 := Lib.hid (hg2.turn.below (B := w.heap.size) (fun i _ hi => by cases hi) HB1.out.size)
    clear ho2 hg2
    go_wp2_with fail
    exact bodyPost_ret (v := .tuple #[v2, .int .i64 0]) (by simp [results, Tryd.results56, go_sem]) rfl ⟨HB1.out.trans HB2.out, v2, rfl, HO2.out⟩
end Go.Proofs.YtdhnmgndekncpaaDoor
