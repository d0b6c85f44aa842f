/- A dictionary of values: a value's number; a number's value. -/
import Derived.Test.YtdhnmgndekncpaaDoorVR
import Derived.Test.YtdhnmgndekncpaaDoorL6
namespace Go.Proofs.YtdhnmgndekncpaaDoor
open Go Go.RowKit Go.Maps Go.WideMaps

/-- A value's key. -/
def keyV (v : Val) : ByteArray := strK (encV v)
theorem keyV_size {v : Val} (hs : sizeV v ≤ 200000) : (keyV v).size ≤ 40000000 := by
  have := encV_length v
  have e : (keyV v).size = (encV v).length := by simp [keyV, strK, ByteArray.size]
  omega
theorem keyV_VS {v : Val} (hs : sizeV v ≤ 200000) : VS (keyV v) := by have := keyV_size hs; unfold VS maxLen; omega
theorem keyV_inj {v u : Val} (hv : mayV v 0 = true) (hu : mayV u 0 = true) (h1 : i64V v) (h2 : i64V u) (h : keyV v = keyV u) : v = u := by
  refine enc_eq hv hu h1 h2 ?_
  have := congrArg (fun s : ByteArray => s.data.toList) h
  exact this
open Classical in
/-- The keys behind a value. -/
noncomputable def ksV (ks : List ByteArray) (v : Val) : List ByteArray := if keyV v ∈ ks then ks else ks ++ [keyV v]
/-- What Values.ID hands back. -/
def IdIs (v : Val) (B p b m : Nat) (r : Value) (ks : List ByteArray) (w : World) (e : Ending) (w' : World) : Prop :=
  (e = if mayV v 0 = true then .returned (.tuple #[.int .i64 ((place (ksV ks v) (keyV v) : Nat) : Int), .int .i64 0]) else .returned (.tuple #[.int .i64 0, .int .i64 1])) ∧
  ∃ r' D', DictV w' B p b m r' (if mayV v 0 = true then ksV ks v else ks) D' ∧ Turn (SB b m r) w w' ∧ (r'.ownBlock = r.ownBlock ∨ ∀ g, r'.ownBlock = some g → w.heap.size ≤ g)
theorem place_new {K : Type} [DecidableEq K] {ks : List K} {x : K} (h : x ∉ ks) : place (ks ++ [x]) x = ks.length := by
  unfold place
  rw [List.idxOf_append, if_neg h]
  simp
set_option maxRecDepth 100000 in
set_option maxHeartbeats 1000000 in
theorem valId_any (v : Val) (hs : sizeV v ≤ 200000) (F : Nat → Prop) (u : Value) {w : World} {B p b m : Nat} {r : Value} {ks : List ByteArray} {D : DataW Unit} (h : DictV w B p b m r ks D) (hap : ¬ SB b m r p) (hn : ks.length ≤ 100000)
    (hF : ∀ g, F g → g < w.heap.size) (hv : VRd w F v u) (hg : GlobB w) :
    Calls Tryd.prog 47 #[.pointer (some ⟨p, 0, none⟩), u] w (IdIs v B p b m r ks w) := by
  have hlt := h.dict.lt
  have hp : p < w.heap.size := by
    rcases Nat.lt_or_ge p w.heap.size with h' | h'
    · exact h'
    · have := h.blk
      rw [Array.getElem?_eq_none h'] at this; cases this
  have HX := Lib.hid h
  obtain ⟨A, cap, hu, hcap, hl⟩ := hv.inv
  have hck := Lib.hid (fun (W : World) (hb : Below w.heap.size w W) => encode_any v hs F u W (fun g hg => Nat.lt_of_lt_of_le (hF g hg) hb.size) (hv.under hb hF) (glob_under hg hb))
  clear h
  subst hu
  obtain ⟨s, HS⟩ := name_itV (Value.slice A v.list.length cap)
  obtain ⟨mv, HMV⟩ := name_itV (mayV v 0)
  obtain ⟨kv, HKV⟩ := name_itV (keyV v)
  have hVS : VS kv := by rw [← HKV.out]; exact keyV_VS hs
  have hkc : ∀ (W : World) (B' : Nat) (v1 : Value), W.ownsRow B' 5 1 v1 (encV v).length (Lib.byteCells (encV v)) → (convert 106 9 v1).run Tryd.prog W = .ok (.string kv) W := fun W B' v1 ho => by rw [← HKV.out]; exact conv_row ho
  have HKC := Lib.hid hkc
  unfold EncIs at hck
  obtain ⟨k2, HK2⟩ := name_itV (ksV ks v)
  have HKS := Lib.hid (show (kv ∈ ks → k2 = ks) ∧ (kv ∉ ks → k2 = ks ++ [kv]) from by
    rw [← HK2.out, ← HKV.out]; unfold ksV
    exact ⟨fun h => if_pos h, fun h => if_neg h⟩)
  rw [HMV.out] at hck
  rw [HS.out] at hck ⊢
  obtain ⟨en, HEN⟩ := name_itV (encV v)
  rw [HEN.out] at hck HKC
  clear hl hcap hg hv hF hkc
  cases v with
  | mk k b0 n t x l =>
  unfold cellsV at hck ⊢
  simp only [Val.kind, Val.truth, Val.num, Val.text, Val.extra] at hck ⊢
  go_enter Tryd.func47, Tryd.ntmps47
  go_wp2_with fail
  refine (hck.out _ ((Below.refl _ _).alloc (Nat.le_refl _) _)).mono ?_
  rintro e w1 ⟨hb0, he⟩
  have hb1 : Below w.heap.size w w1 := ((Below.refl w.heap.size w).alloc (Nat.le_refl _) _).trans (hb0.mono (by simp))
  have hd1 : DictS w1 B b m r ks D := HX.out.dict.below hb1 hlt.1 hlt.2.1 (fun g hg => (hlt.2.2 g hg).2)
  have hp1 : w1.heap[p]? = some (.cells #[.pointer (some ⟨b, 0, none⟩)] 91 (0, 0)) := (hb1.block p hp).trans HX.out.blk
  have HD := Lib.hid hd1
  have HP := Lib.hid hp1
  have HB := Lib.hid hb1
  have HT1 := Lib.hid ((Turn.of_below hb1).mono (S' := SB b m r) (fun i hi h => absurd h (by omega)))
  cases mv with
  | false =>
    obtain rfl : e = .returned (.tuple #[.slice none 0 0, .int .i64 1]) := he
    clear hd1 hp1 hb1 hb0
    go_wp2_with fail
    go_ret2
    exact ⟨by rw [HMV.out]; rfl, r, D, by rw [HMV.out]; exact ⟨HP.out, HD.out, HX.out.lop⟩, HT1.out, .inl rfl⟩
  | true =>
    obtain ⟨v1, rfl, ho⟩ : ∃ v1, e = .returned (.tuple #[v1, .int .i64 0]) ∧ w1.ownsRow (w.alloc (.cells #[.int .i64 k, .bool b0, .int .i64 n, .string t, .string x, s] 84)).heap.size 5 1 v1 en.length (Lib.byteCells en) := he
    have c1 : w1.cell? ⟨p, 0, none⟩ = some (.pointer (some ⟨b, 0, none⟩)) := Lib.cell_of_heap hp1 0
    have hcv : (convert 106 9 v1).run Tryd.prog w1 = .ok (.string kv) w1 := HKC.out _ _ _ ho
    have hcv1 : (convert 106 9 v1).run Tryd.prog w1.drew = .ok (.string kv) w1.drew := HKC.out _ _ _ (ownsRow_drewN ho 1)
    have hdd : DictS w1.drew B b m r ks D := HD.out.turn (S := fun _ => False) (Turn.refl _ w1).drew (fun h => h) (fun h => h) (fun _ _ h => h)
    have HDD := Lib.hid hdd
    clear hd1 hp1 hb1 hb0 ho hdd
    go_wp2_with fail
    go_still_tail 6, (by kernel_rfl)
    change wpList _ _ _ _ _ (World.drew _)
    clear hcv hcv1
    by_cases hin : kv ∈ ks
    · have hold := Lib.hid (idS_old HDD.out kv hVS hin)
      have hks := Lib.hid (HKS.out.1 hin)
      clear hin
      go_wp2_with fail
      refine hold.out.mono ?_
      rintro e w2 ⟨rfl, rfl⟩
      go_wp2
      go_ret2
      refine ⟨by rw [HMV.out, HKV.out, HK2.out, if_pos rfl, hks.out]; rfl, r, D, ?_, HT1.out.drew, .inl rfl⟩
      rw [HMV.out, HK2.out, if_pos rfl, hks.out]
      exact ⟨HP.out, HDD.out, HX.out.lop⟩
    · have hnew := Lib.hid (idS_new HDD.out kv hVS hin hn)
      have hks := Lib.hid (HKS.out.2 hin)
      have hpl := Lib.hid (place_new hin)
      clear hin
      go_wp2_with fail
      refine hnew.out.mono ?_
      rintro e w2 ⟨rfl, ⟨v2, hd2, hv2⟩, ht2⟩
      have HD2 := Lib.hid hd2
      have HT2 := Lib.hid ht2
      have HV2 := Lib.hid hv2
      clear hd2 hv2 ht2
      go_wp2
      go_ret2
      have hpl2 : p < w1.drew.heap.size := Nat.lt_of_lt_of_le hp HB.out.size
      refine ⟨by rw [HMV.out, HKV.out, HK2.out, if_pos rfl, hks.out, hpl.out]; rfl, v2, D.put (litS kv) (.lit (.int .i64 ((ks.length : Nat) : Int))), ?_, HT1.out.drew.trans HT2.out, ?_⟩
      · rw [HMV.out, HK2.out, if_pos rfl, hks.out]
        exact ⟨(HT2.out.block p hpl2 hap).trans HP.out, HD2.out, HX.out.lop⟩
      · rcases HV2.out with e | e
        · exact .inl e
        · exact .inr (fun g hg => Nat.le_trans HB.out.size (e g hg))

/-- What Values.Value hands back of a value's number. -/
def ValIs (v : Val) (w : World) (e : Ending) (w' : World) : Prop := ∃ s, e = .returned (.tuple #[.agg (cellsV v s), .bool true]) ∧ Below w.heap.size w w' ∧ LOwn w' (fun z => w.heap.size ≤ z ∧ z < w'.heap.size) v.list s
set_option maxRecDepth 100000 in
set_option maxHeartbeats 1000000 in
theorem valNo_any {w : World} {B p b m : Nat} {r : Value} {ks : List ByteArray} {D : DataW Unit} (h : DictV w B p b m r ks D) (i : Int) (hi : i < 0 ∨ (ks.length : Int) ≤ i) :
    Calls Tryd.prog 51 #[.pointer (some ⟨p, 0, none⟩), .int .i64 i] w fun e w' => e = .returned (.tuple #[.agg #[.int .i64 0, .bool false, .int .i64 0, .string ⟨#[]⟩, .string ⟨#[]⟩, .slice none 0 0], .bool false]) ∧ Below w.heap.size w w' := by
  have hlt := h.dict.lt
  have hp : p < w.heap.size := (Array.getElem?_eq_some_iff.1 h.blk).1
  have hb0 := Lib.hid (show Below w.heap.size w (w.alloc (.cells #[.int .i64 0, .bool false, .int .i64 0, .string ⟨#[]⟩, .string ⟨#[]⟩, .slice none 0 0] 84)) from (Below.refl _ _).alloc (Nat.le_refl _) _)
  have hk := Lib.hid (keyS_no (h.dict.below hb0.out hlt.1 hlt.2.1 (fun g hg => (hlt.2.2 g hg).2)) i hi)
  have c1 : (w.alloc (.cells #[.int .i64 0, .bool false, .int .i64 0, .string ⟨#[]⟩, .string ⟨#[]⟩, .slice none 0 0] 84)).cell? ⟨p, 0, none⟩ = some (.pointer (some ⟨b, 0, none⟩)) := Lib.cell_of_heap ((hb0.out.block p hp).trans h.blk) 0
  clear hi h
  go_enter Tryd.func51, Tryd.ntmps51
  go_wp2_with fail
  refine hk.out.mono ?_
  rintro e w' ⟨rfl, rfl⟩
  go_wp2_with fail
  exact bodyPost_ret (v := .tuple #[.agg #[.int .i64 0, .bool false, .int .i64 0, .string ⟨#[]⟩, .string ⟨#[]⟩, .slice none 0 0], .bool false]) (by simp [results, Tryd.results51, go_sem]) rfl ⟨rfl, by simpa using hb0.out⟩
set_option maxRecDepth 100000 in
set_option maxHeartbeats 2000000 in
theorem valYes_any (v : Val) (hs : sizeV v ≤ 200000) (hm : mayV v 0 = true) (h64 : i64V v) {w : World} {B p b m : Nat} {r : Value} {ks : List ByteArray} {D : DataW Unit} (h : DictV w B p b m r ks D) (k : Nat) (hk : k < ks.length) (hkv : ks[k] = keyV v) (hn : ks.length ≤ 100000) (hg : GlobB w) :
    Calls Tryd.prog 51 #[.pointer (some ⟨p, 0, none⟩), .int .i64 (k : Int)] w (ValIs v w) := by
  have hlt := h.dict.lt
  have hp : p < w.heap.size := (Array.getElem?_eq_some_iff.1 h.blk).1
  obtain ⟨hz, Hhz⟩ := name_itV w.heap.size
  have hle : w.heap.size ≤ hz := Nat.le_of_eq Hhz.out
  obtain ⟨w0, Hw0⟩ := name_itV (w.alloc (.cells #[.int .i64 0, .bool false, .int .i64 0, .string ⟨#[]⟩, .string ⟨#[]⟩, .slice none 0 0] 84))
  have hb0 := Lib.hid (show Below w.heap.size w w0 from by rw [← Hw0.out]; exact (Below.refl _ _).alloc (Nat.le_refl _) _)
  have hz0 := Lib.hid (show w0.heap[hz]? = some (.cells #[.int .i64 0, .bool false, .int .i64 0, .string ⟨#[]⟩, .string ⟨#[]⟩, .slice none 0 0] 84 (0, 0)) from by rw [← Hw0.out, ← Hhz.out]; exact heap_alloc_new w _)
  have hs0 : w0.heap.size = hz + 1 := by rw [← Hw0.out, ← Hhz.out]; simp
  have hk1 := keyS_yes (h.dict.below hb0.out hlt.1 hlt.2.1 (fun g hg => (hlt.2.2 g hg).2)) k hk hn
  rw [hkv] at hk1
  obtain ⟨kv, HKV⟩ := name_itV (keyV v)
  rw [HKV.out] at hk1
  have HK1 := Lib.hid hk1
  have c1 : w0.cell? ⟨p, 0, none⟩ = some (.pointer (some ⟨b, 0, none⟩)) := Lib.cell_of_heap ((hb0.out.block p hp).trans h.blk) 0
  obtain ⟨C, HC⟩ := name_itV (grownCap w0 kv.size 0 5)
  obtain ⟨w1, Hw1⟩ := name_itV (w0.drew.alloc (.cells (bytesRow kv C) 5 ((bytesRow kv C).size, (bytesRow kv C).size + 1)))
  obtain ⟨g, Hg⟩ := name_itV w0.heap.size
  have hcv : (convert 9 106 (.string kv)).run Tryd.prog w0 = .ok (.slice (some ⟨g, 0, none⟩) kv.size C) w1 := by
    have := run_bytes_of_string (P := Tryd.prog) w0 9 106 5 kv (by kernel_rfl) Tryd.underlying106 (by kernel_rfl)
    rw [HC.out, Hw1.out, Hg.out] at this
    exact this
  have hb1 := Lib.hid (show Below w0.heap.size w0 w1 from by rw [← Hw1.out]; exact (below_drewN (Below.refl w0.heap.size w0) 1).alloc (Nat.le_refl _) _)
  have hblk1 : w1.heap[g]? = some (.cells (bytesRow kv C) 5 ((bytesRow kv C).size, (bytesRow kv C).size + 1)) := by
    rw [← Hw1.out, ← Hg.out]
    show (w0.heap.push _)[w0.heap.size]? = _
    simp
  have hcap : kv.size ≤ C := by rw [← HC.out]; exact grownCap_ge w0 kv.size 0 5
  have hbr : BRd w1 g (.slice (some ⟨g, 0, none⟩) kv.size C) (encV v) := by
    have hl : kv.size = (encV v).length := by rw [← HKV.out]; simp [keyV, strK, ByteArray.size]
    refine ⟨⟨g, 0, none⟩, C, by rw [hl], by rw [← hl]; exact hcap, rfl, fun i c hi => ?_⟩
    rw [add_zero_at]
    unfold World.cell?
    rw [hblk1]
    have hdat : kv.data.toList = encV v := by rw [← HKV.out]; rfl
    have hil : i < kv.data.size := by
      have h1 := (List.getElem?_eq_some_iff.1 hi).1
      rw [← hdat] at h1
      simpa using h1
    have h2 := bytesRow_at kv C i hil
    have h3 : kv.data[i] = c := by
      rw [← hdat] at hi
      have := (List.getElem?_eq_some_iff.1 hi).2
      simpa using this
    rw [h3] at h2
    simpa using h2
  have hgs : g < w1.heap.size := (Array.getElem?_eq_some_iff.1 hblk1).1
  have hde := Lib.hid (decode_any v hs hm h64 g (.slice (some ⟨g, 0, none⟩) kv.size C) w1 hgs hbr (glob_under hg (hb0.out.trans (hb1.out.mono hb0.out.size))))
  have HBW1 := Lib.hid (hb0.out.trans (hb1.out.mono hb0.out.size))
  have hz1 := Lib.hid ((hb1.out.block hz (by omega)).trans hz0.out)
  have hs1 : hz + 1 ≤ w1.heap.size := by have := hb1.out.size; omega
  clear hbr hblk1 hk1 hkv h hg hs0
  go_enter Tryd.func51, Tryd.ntmps51
  go_upto_region 1 with fail
  rw [Hw0.out, Hhz.out]
  go_wp2_with fail
  refine HK1.out.mono ?_
  rintro e w' ⟨rfl, rfl⟩
  go_wp2_with fail
  refine hde.out.mono ?_
  rintro e w2 ⟨s2, rfl, hb2, ho2⟩
  obtain ⟨A2, c2, rfl⟩ := ho2.form
  obtain ⟨vk, vb, vn, vt, vx, vl⟩ := v
  unfold cellsV
  simp only [Val.kind, Val.truth, Val.num, Val.text, Val.extra, Val.list] at ho2 ⊢
  obtain ⟨ln, HLN⟩ := name_itV vl.length
  rw [HLN.out]
  have HB2 := Lib.hid hb2
  have HO2 := Lib.hid ho2
  have hz2 := Lib.hid ((hb2.block hz (by omega)).trans hz1.out)
  have hs2 : hz + 1 ≤ w2.heap.size := Nat.le_trans hs1 hb2.size
  clear hb2 ho2 hcv c1
  obtain ⟨h5, Hh5⟩ := name_itV w2.heap.size
  obtain ⟨w3, Hw3⟩ := name_itV (w2.alloc (.cells #[.int .i64 vk, .bool vb, .int .i64 vn, .string vt, .string vx, .slice A2 ln c2] 84))
  have hb3 := Lib.hid (show Below w2.heap.size w2 w3 from by rw [← Hw3.out]; exact (Below.refl _ _).alloc (Nat.le_refl _) _)
  have hblk3 := Lib.hid (show w3.heap[h5]? = some (.cells #[.int .i64 vk, .bool vb, .int .i64 vn, .string vt, .string vx, .slice A2 ln c2] 84 (0, 0)) from by rw [← Hw3.out, ← Hh5.out]; exact heap_alloc_new w2 _)
  have hz3 := Lib.hid ((hb3.out.block hz (by omega)).trans hz2.out)
  go_upto_region 5 with fail
  rw [Hw3.out, Hh5.out]
  have x0 : w3.cell? ⟨h5, 0, none⟩ = some (.int .i64 vk) := Lib.cell_of_heap hblk3.out 0
  have x1 : w3.cell? ⟨h5, 1, none⟩ = some (.bool vb) := Lib.cell_of_heap hblk3.out 1
  have x2 : w3.cell? ⟨h5, 2, none⟩ = some (.int .i64 vn) := Lib.cell_of_heap hblk3.out 2
  have x3 : w3.cell? ⟨h5, 3, none⟩ = some (.string vt) := Lib.cell_of_heap hblk3.out 3
  have x4 : w3.cell? ⟨h5, 4, none⟩ = some (.string vx) := Lib.cell_of_heap hblk3.out 4
  have x5 : w3.cell? ⟨h5, 5, none⟩ = some (.slice A2 ln c2) := Lib.cell_of_heap hblk3.out 5
  have v0 : w3.cell? ⟨hz, 0, none⟩ = some (.int .i64 0) := Lib.cell_of_heap hz3.out 0
  have v1 : w3.cell? ⟨hz, 1, none⟩ = some (.bool false) := Lib.cell_of_heap hz3.out 1
  have v2 : w3.cell? ⟨hz, 2, none⟩ = some (.int .i64 0) := Lib.cell_of_heap hz3.out 2
  have v3 : w3.cell? ⟨hz, 3, none⟩ = some (.string ⟨#[]⟩) := Lib.cell_of_heap hz3.out 3
  have v4 : w3.cell? ⟨hz, 4, none⟩ = some (.string ⟨#[]⟩) := Lib.cell_of_heap hz3.out 4
  have v5 : w3.cell? ⟨hz, 5, none⟩ = some (.slice none 0 0) := Lib.cell_of_heap hz3.out 5
  have g0 : w3.frozen? ⟨hz, 0, none⟩ = false := Lib.frozen_of_heap hz3.out 0
  have g1 : w3.frozen? ⟨hz, 1, none⟩ = false := Lib.frozen_of_heap hz3.out 1
  have g2 : w3.frozen? ⟨hz, 2, none⟩ = false := Lib.frozen_of_heap hz3.out 2
  have g3 : w3.frozen? ⟨hz, 3, none⟩ = false := Lib.frozen_of_heap hz3.out 3
  have g4 : w3.frozen? ⟨hz, 4, none⟩ = false := Lib.frozen_of_heap hz3.out 4
  have g5 : w3.frozen? ⟨hz, 5, none⟩ = false := Lib.frozen_of_heap hz3.out 5
  go_wp2_with fail
  refine bodyPost_ret (v := .tuple #[.agg #[.int .i64 vk, .bool vb, .int .i64 vn, .string vt, .string vx, .slice A2 ln c2], .bool true]) (by simp [results, Tryd.results51, go_sem, v0, v1, v2, v3, v4, v5]) rfl ⟨.slice A2 vl.length c2, by rw [HLN.out]; rfl, ?_, ?_⟩
  · have hT6 := set6_turn w3 hz 0 (.int .i64 vk) (.bool vb) (.int .i64 vn) (.string vt) (.string vx) (.slice A2 ln c2)
    have h1 : Below w.heap.size w w2 := HBW1.out.trans (HB2.out.mono HBW1.out.size)
    have h2 : Below w.heap.size w w3 := h1.trans (hb3.out.mono h1.size)
    exact h2.trans (hT6.below (B := w.heap.size) (fun i hi e => by omega) h2.size)
  · have hT6 := set6_turn w3 hz 0 (.int .i64 vk) (.bool vb) (.int .i64 vn) (.string vt) (.string vx) (.slice A2 ln c2)
    have hs3 := hb3.out.size
    have hs6 := hT6.size
    have hw1 := HBW1.out.size
    exact ((HO2.out.turn (Turn.of_below hb3.out) (fun z hz e => by omega)).turn hT6 (fun z hz e => by omega)).mono (fun z hz => by
      obtain ⟨q1, q2⟩ := hz
      exact ⟨by omega, Nat.lt_of_lt_of_le (Nat.lt_of_lt_of_le q2 hs3) hs6⟩)
end Go.Proofs.YtdhnmgndekncpaaDoor
