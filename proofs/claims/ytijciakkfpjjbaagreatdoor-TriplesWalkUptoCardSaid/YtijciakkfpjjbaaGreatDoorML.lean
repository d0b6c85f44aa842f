/- The memory of the walk of TriplesWalk. -/
import Derived.Test.YtijciakkfpjjbaaGreatDoorMJ
import Derived.Test.YtijciakkfpjjbaaGreatDoorMK
namespace Go.Proofs.YtijciakkfpjjbaaGreatDoor
open Go Go.RowKit Go.Maps

theorem rowT_cells {w : World} {F : Nat → Prop} {cs : Nat → Array Value} {T : List Trip} {A : Option Addr} {n cap : Nat} (h : RowT F w cs T (.slice A n cap)) {k : Nat} {t : Trip} (ht : T[k]? = some t) :
    ∃ ad ss, A = some ad ∧ F ad.block ∧ (∀ i, i < 3 → ∃ A cap, ss i = .slice A 0 cap) ∧ ∀ j, j < (cellsT t ss).size → w.cell? ((ad.add (k * 18)).add j) = (cellsT t ss)[j]? := by
 obtain ⟨h0, A', cap', e, _, h2⟩ := h
 injection e with e1 e2 e3
 have hk := (List.getElem?_eq_some_iff.1 ht).1
 obtain ⟨r, e4, hF, hc⟩ := h2 (by omega)
 obtain ⟨_, _, ss, hss, hcs⟩ := h0 k t ht
 refine ⟨⟨r, 0, none⟩, ss, by rw [e1, e4], hF, hss, fun j hj => ?_⟩
 rw [add_of_add, Addr.add_mid, Nat.zero_add, ← hcs]
 exact hc k hk j hj
theorem rowT_len {w : World} {F : Nat → Prop} {cs : Nat → Array Value} {T : List Trip} {S : Value} (h : RowT F w cs T S) : ∃ A cap, S = .slice A T.length cap := by
 obtain ⟨_, A, cap, e, _, _⟩ := h
 exact ⟨A, cap, e⟩
theorem build_trp (t : Trip) (ss : Nat → Value) (W : World) : (Instr.build 41 #[(0, .agg (cellsV (t.get 0) (ss 0))), (1, .agg (cellsV (t.get 1) (ss 1))), (2, .agg (cellsV (t.get 2) (ss 2)))]).run Tryz.prog W = .ok (.agg (cellsT t ss)) W := by kernel_rfl
/-- What All tells. -/
def AllIs (T : List Trip) (w : World) (e : Ending) (w' : World) : Prop := ∃ v, e = .returned v ∧ SOwn 41 18 TrS w' (fun b => w.heap.size ≤ b ∧ b < w'.heap.size) T v ∧ Below w.heap.size w w'
structure AllM (w : World) (T : List Trip) (S : Value) (wx : World) : Prop where
 hb : Below w.heap.size w wx
 own : SOwn 41 18 TrS wx (fun b => w.heap.size ≤ b ∧ b < wx.heap.size) T S
theorem AllM.on {w wx w' : World} {T : List Trip} {S : Value} (h : AllM w T S wx) (hb : Below wx.heap.size wx w') : AllM w T S w' :=
 ⟨h.hb.trans (hb.mono h.hb.size), (h.own.turn TrS.good (Turn.of_below hb) (fun b hb => hb.2) (fun b hb => fun e => by have e : wx.heap.size ≤ b := e; have := hb.2; omega)).mono TrS.good fun b h1 => ⟨h1.1, Nat.lt_of_lt_of_le h1.2 hb.size⟩⟩
theorem AllM.more {w wr w' : World} {g cap n : Nat} {S : Value} {T : List Trip} {t : Trip} (h : AllM w T S wr) (hg : wr.grownBy w' S.ownBlock) (hl : S.ownBlock = some g ∨ wr.heap.size ≤ g) (hgw : g < w'.heap.size)
    (ho : SOwn 41 18 TrS w' (fun b => (w.heap.size ≤ b ∧ b < wr.heap.size) ∨ b = g) (T ++ [t]) (.slice (some ⟨g, 0, none⟩) n cap)) : AllM w (T ++ [t]) (.slice (some ⟨g, 0, none⟩) n cap) w' := by
 have hB : ∀ b, S.ownBlock = some b → w.heap.size ≤ b ∧ b < wr.heap.size := fun b hb => by
  obtain ⟨_, _, _, hF, _⟩ := h.own
  exact hF b hb
 refine ⟨below_turn h.hb (Turn.of_grown hg) (fun b hb => (hB b hb.symm).1), ho.mono TrS.good fun b hb => ?_⟩
 rcases hb with hb | rfl
 ·exact ⟨hb.1, Nat.lt_of_lt_of_le hb.2 hg.size⟩
 ·refine ⟨?_, hgw⟩
  rcases hl with h1 | h1
  ·exact (hB _ h1).1
  ·exact Nat.le_trans h.hb.size h1
set_option maxRecDepth 100000 in
set_option maxHeartbeats 8000000 in
theorem all_any {F : Nat → Prop} {w : World} {c : Nat} {T : List Trip} (h : StoreAt F w c T) (hF : ∀ b, F b → b < w.heap.size) :
    Calls Tryz.prog 19 #[.pointer (some ⟨c, 0, none⟩)] w (AllIs T w) := by
 obtain ⟨S, ss, cs, h1, h2, _⟩ := h.cells
 obtain ⟨A, cp, rfl⟩ := rowT_len h2
 have HR := Lib.hid (fun (W : World) (hb : Below w.heap.size w W) => h2.keep (w' := W) fun p hp => hb.cell (hF _ hp))
 have HS := Lib.hid h.scal
 have HFT := Lib.hid h.fit
 obtain ⟨n, Hn⟩ := name_itV T.length
 have HN := Lib.hid (show n ≤ 65536 from by rw [← Hn.out]; exact h.len)
 rw [Hn.out] at HR h1
 have c0 : w.cell? ⟨c, 0, none⟩ = some (.slice A n cp) := Lib.cell_of_heap h1 0
 have HST := Lib.hid (show AllM w [] (.slice none 0 0) w from ⟨Below.refl _ _, SOwn.nil ..⟩)
 clear h h1 h2 hF
 go_enter Tryz.func19, Tryz.ntmps19
 go_wp2_with fail
 go_loopw [3, 11] (fun s3 s11 wx => ∃ (k : Nat) (S : Value), k ≤ n ∧ s11 = .int .i64 (k : Nat) ∧ S = s3 ∧ Hid (AllM w (T.take k) S wx)) (fun _ s _ => n - (intOf s).toNat)
 case atStart => exact ⟨0, _, by omega, rfl, rfl, HST.out⟩
 case round =>
  obtain ⟨k, S, hk, rfl, rfl, hM⟩ := hrel
  by_cases hlt : k < n
  ·obtain ⟨t, ht⟩ : ∃ t, T[k]? = some t := ⟨_, List.getElem?_eq_getElem (by rw [Hn.out]; exact hlt)⟩
   have HT := Lib.hid ht
   obtain ⟨ad, ss, rfl, _, hss, hq⟩ := rowT_cells (HR.out wr hM.out.hb) ht
   have HTR := Lib.hid (fun (w : World) (F : Nat → Prop) => (show TrS w F t (cellsT t ss) from ⟨HS.out t (List.mem_of_getElem? ht), HFT.out t (List.mem_of_getElem? ht), ss, hss, rfl⟩))
   have HBD := Lib.hid (build_trp t ss)
   have hone := tr_one (t := t) hss
   obtain ⟨A0, q0, e0⟩ := hss 0 (by omega)
   obtain ⟨A1, q1, e1⟩ := hss 1 (by omega)
   obtain ⟨A2, q2, e2⟩ := hss 2 (by omega)
   clear ht hss
   obtain ⟨c1, Hc1⟩ := name18 t ss
   rw [Hc1.out] at hq hone HTR HBD
   obtain ⟨u0, Hu0⟩ := name6 (t.get 0) (ss 0)
   obtain ⟨u1, Hu1⟩ := name6 (t.get 1) (ss 1)
   obtain ⟨u2, Hu2⟩ := name6 (t.get 2) (ss 2)
   rw [Hu0.out, Hu1.out, Hu2.out] at HBD
   have HQ := Lib.hid hq
   have HONE := Lib.hid hone
   have Z1 := Lib.hid Hc1.size
   have Q1 := Lib.hid (infoTr.trans (congrArg some Hc1.size.symm))
   have QP := Lib.hid (show (Tryz.prog.info? 75).map (·.size) = some c1.size from by rw [Z1.out]; kernel_rfl)
   have IU0 := Lib.hid (infoV6.trans (congrArg some Hu0.size.symm))
   have IU1 := Lib.hid (infoV6.trans (congrArg some Hu1.size.symm))
   have IU2 := Lib.hid (infoV6.trans (congrArg some Hu2.size.symm))
   clear hq hone e0 e1 e2
   have a1 : (0 : Int) ≤ k := by omega
   have a2 : (k : Int) < n := by omega
   have w1 : IntKind.i64.wrap ((k : Int) + 1) = (k : Int) + 1 := IntWalk.i64_in _ (by have := HN.out; omega)
   obtain ⟨zy, Hzy⟩ := name_itV wr.heap.size
   have HBX := Lib.hid (show (wr.alloc (.cells #[.int .i64 0, .bool false, .int .i64 0, .string ⟨#[]⟩, .string ⟨#[]⟩, .slice none 0 0, .int .i64 0, .bool false, .int .i64 0, .string ⟨#[]⟩, .string ⟨#[]⟩, .slice none 0 0, .int .i64 0, .bool false, .int .i64 0, .string ⟨#[]⟩, .string ⟨#[]⟩, .slice none 0 0] 75)).heap[zy]? = some (.cells #[.int .i64 0, .bool false, .int .i64 0, .string ⟨#[]⟩, .string ⟨#[]⟩, .slice none 0 0, .int .i64 0, .bool false, .int .i64 0, .string ⟨#[]⟩, .string ⟨#[]⟩, .slice none 0 0, .int .i64 0, .bool false, .int .i64 0, .string ⟨#[]⟩, .string ⟨#[]⟩, .slice none 0 0] 75 (0, 0)) from by rw [← Hzy.out]; exact heap_alloc_new wr _)
   go_upto_region 5 with (first
    | ((with_reducible refine at_dst (some 14) ?_); refine ld_armA rfl 75 _ rfl rfl c1 _ HQ.out Tryz.underlying75 rfl QP.out ?_)
    | ((with_reducible refine at_st 5 ?_); refine st_row rfl 75 _ _ rfl zy (#[.int .i64 0, .bool false, .int .i64 0, .string ⟨#[]⟩, .string ⟨#[]⟩, .slice none 0 0, .int .i64 0, .bool false, .int .i64 0, .string ⟨#[]⟩, .string ⟨#[]⟩, .slice none 0 0, .int .i64 0, .bool false, .int .i64 0, .string ⟨#[]⟩, .string ⟨#[]⟩, .slice none 0 0]) c1 75 (by rw [← Hzy.out]; rfl) rfl HBX.out Z1.out QP.out HONE.out ?_; intro w5 hw5 ht5))
   rw [Hzy.out]
   have HB5 := Lib.hid (show Below wr.heap.size wr w5 from box_below (by rw [Hzy.out]; exact ht5))
   have HW5 := Lib.hid hw5
   clear hw5 ht5 HQ HBX
   have HM5 := Lib.hid (hM.out.on HB5.out)
   have LU0 := Lib.hid (fun i (hi : i < u0.size) => (show w5.cell? ((⟨zy, 0, none⟩ : Addr).add i) = u0[i]? from by
    rw [Addr.add_mid, cell_of_row w5 zy (0 + i) c1 _ _ HW5.out, ← Hu0.out, ← Hc1.out]
    exact cellsT_part t ss 0 (by omega) i (by rwa [Hu0.size] at hi)))
   have LU1 := Lib.hid (fun i (hi : i < u1.size) => (show w5.cell? ((⟨zy, 6, none⟩ : Addr).add i) = u1[i]? from by
    rw [Addr.add_mid, cell_of_row w5 zy (6 + i) c1 _ _ HW5.out, ← Hu1.out, ← Hc1.out]
    exact cellsT_part t ss 1 (by omega) i (by rwa [Hu1.size] at hi)))
   have LU2 := Lib.hid (fun i (hi : i < u2.size) => (show w5.cell? ((⟨zy, 12, none⟩ : Addr).add i) = u2[i]? from by
    rw [Addr.add_mid, cell_of_row w5 zy (12 + i) c1 _ _ HW5.out, ← Hu2.out, ← Hc1.out]
    exact cellsT_part t ss 2 (by omega) i (by rwa [Hu2.size] at hi)))
   go_wp2_with (first
    | ((with_reducible refine at_dst (some 17) ?_); refine ld_armG (by rfl) 34 _ rfl rfl u0 _ LU0.out Tryz.underlying34 rfl IU0.out ?_)
    | ((with_reducible refine at_dst (some 19) ?_); refine ld_armG (by rfl) 34 _ rfl rfl u1 _ LU1.out Tryz.underlying34 rfl IU1.out ?_)
    | ((with_reducible refine at_dst (some 21) ?_); refine ld_armG (by rfl) 34 _ rfl rfl u2 _ LU2.out Tryz.underlying34 rfl IU2.out ?_)
    | ((with_reducible refine at_dst (some 22) ?_); refine build_arm rfl 41 _ rfl #[(0, .agg u0), (1, .agg u1), (2, .agg u2)] (by kernel_rfl) (.agg c1) (HBD.out _) ?_)
    | ((with_reducible refine at_dst (some 23) ?_); refine bs_arm rfl 22 1 _ rfl #[(0, .agg c1)] (by kernel_rfl) (.slice (some ⟨w5.heap.size, 0, none⟩) 1 1) _ (bs1_run c1 Z1.out w5) ?_)
    | ((with_reducible refine at_dst (some 24) ?_); refine wpList_plain rfl fun K hK => ?_; refine wp_app_L (.tmp 15) (.tmp 23) rfl rfl HM5.out.own (show (T.take k).length = k from by rw [List.length_take, Hn.out]; omega) rfl HTR.out (by have := HN.out; omega) (fun b hb => hb.2) (fun g7 c7 w7 ho7 hg7 hl7 hw7 => hK _ _ ?_); clear hK K))
   have HM7 := Lib.hid (HM5.out.more hg7 hl7 hw7 ho7)
   clear ho7 hg7 hl7 hw7
   go_wp2_with fail
   go_roundw
   case rel => exact ⟨k + 1, _, by omega, by go_num, rfl, Lib.hid (by rw [take_oneMore HT.out]; exact HM7.out)⟩
   case measure => simp [intOf]; omega
  ·have a2 : ¬ (k : Int) < n := by omega
   have HE := Lib.hid (show AllIs T w (.returned S) wr from ⟨S, rfl, by have := hM.out.own; rwa [List.take_of_length_le (by rw [Hn.out]; omega)] at this, hM.out.hb⟩)
   go_wp2_with fail
   go_ret
   exact HE.out
theorem sameB_iff {a b : Val} : sameB a b = true ↔ a = b := by
 constructor
 ·intro h
  by_cases e : a = b
  ·exact e
  ·rw [sameB_no e] at h; cases h
 ·rintro rfl
  exact sameB_refl _
/-- The same triples. -/
noncomputable def sameT (a b : Trip) : Bool := sameB (a.get 0) (b.get 0) && (sameB (a.get 1) (b.get 1) && sameB (a.get 2) (b.get 2))
theorem sameT_eq {a b : Trip} : sameT a b = true ↔ a = b := by
 unfold sameT
 rw [Bool.and_eq_true, Bool.and_eq_true, sameB_iff, sameB_iff, sameB_iff]
 constructor
 ·rintro ⟨h0, h1, h2⟩
  exact trip_ext (w := wayN 0) (wayN_ok 0) h0 h1 h2
 ·rintro rfl
  exact ⟨rfl, rfl, rfl⟩
theorem sameT_refl (a : Trip) : sameT a a = true := sameT_eq.2 rfl
theorem sameT_no {a b : Trip} (h : a ≠ b) : sameT a b = false := by
 cases e : sameT a b with
 | false => rfl
 | true => exact absurd (sameT_eq.1 e) h
/-- A triple of values that a cursor tells. -/
def KeyT (t : Trip) : Prop := ∀ n, KeyV (t.get n)
theorem keyT_of {t : Trip} (h : ScalT t) (hf : ∀ n, FitV (t.get n)) : KeyT t := fun n => ⟨scal_list (h.get n), hf n, by have := (h.get n).2.1; omega⟩
/-- A triple as it lies in its eighteen cells. -/
structure CellT (c : Array Value) (t : Trip) : Prop where
 key : KeyT t
 ex : ∃ ss : Nat → Value, (∀ i, i < 3 → ∃ A cap, ss i = .slice A 0 cap) ∧ c = cellsT t ss
theorem TrS.cellT {w : World} {F : Nat → Prop} {t : Trip} {c : Array Value} (h : TrS w F t c) : CellT c t := by
 obtain ⟨h1, h2, ss, h3, e⟩ := h
 exact ⟨keyT_of h1 h2, ss, h3, e⟩
theorem CellT.size {c : Array Value} {t : Trip} (h : CellT c t) : c.size = 18 := by
 obtain ⟨_, ss, _, rfl⟩ := h
 rfl
set_option maxRecDepth 100000 in
set_option maxHeartbeats 8000000 in
theorem eqTR_any {a b : Trip} {sa sb : Nat → Value} {F G : Nat → Prop} (hsz : ∀ n, n < 3 → sizeL (a.get n).list ≤ 999999999) (w : World) (hF : ∀ g, F g → g < w.heap.size) (hG : ∀ g, G g → g < w.heap.size)
    (h1 : ∀ n, n < 3 → VRd w F (a.get n) (.agg (cellsV (a.get n) (sa n)))) (h2 : ∀ n, n < 3 → VRd w G (b.get n) (.agg (cellsV (b.get n) (sb n)))) :
    Calls Tryz.prog 37 #[.agg (cellsT a sa), .agg (cellsT b sb)] w (ToldB (sameT a b) w) := by
 obtain ⟨ca, Hca⟩ := name18 a sa
 obtain ⟨cb, Hcb⟩ := name18 b sb
 rw [Hca.out, Hcb.out]
 obtain ⟨z, Hz⟩ := name_itV w.heap.size
 obtain ⟨w2, HW2⟩ := name_itV ((w.alloc (.cells ca 41)).alloc (.cells cb 41))
 have HB2 := Lib.hid (show Below w.heap.size w w2 from by rw [← HW2.out]; exact two_new w _ _)
 have HXA := Lib.hid (show w2.heap[z]? = some (.cells ca 41 (0, 0)) from by rw [← HW2.out, ← Hz.out]; exact heap_alloc2_old w _ _)
 have HXB := Lib.hid (show w2.heap[z + 1]? = some (.cells cb 41 (0, 0)) from by rw [← HW2.out, ← Hz.out]; exact heap_alloc2_new w _ _)
 have HPOST := Lib.hid (show ∀ W, Below w2.heap.size w2 W → Below w.heap.size w W from fun W hb => HB2.out.trans (hb.mono HB2.out.size))
 obtain ⟨u0, Hu0⟩ := name6 (a.get 0) (sa 0)
 obtain ⟨v0, Hv0⟩ := name6 (b.get 0) (sb 0)
 have IU0 := Lib.hid (infoV6.trans (congrArg some Hu0.size.symm))
 have IV0 := Lib.hid (infoV6.trans (congrArg some Hv0.size.symm))
 have LU0 := Lib.hid (fun (W : World) (hb : Below w2.heap.size w2 W) i (hi : i < u0.size) => (show W.cell? ((⟨z, 0, none⟩ : Addr).add i) = u0[i]? from by
  rw [Addr.add_mid, cell_of_row W z (0 + i) ca _ _ ((hb.block z (blk_lt HXA.out)).trans HXA.out), ← Hu0.out, ← Hca.out]
  exact cellsT_part a sa 0 (by omega) i (by rwa [Hu0.size] at hi)))
 have LV0 := Lib.hid (fun (W : World) (hb : Below w2.heap.size w2 W) i (hi : i < v0.size) => (show W.cell? ((⟨z + 1, 0, none⟩ : Addr).add i) = v0[i]? from by
  rw [Addr.add_mid, cell_of_row W (z + 1) (0 + i) cb _ _ ((hb.block (z + 1) (blk_lt HXB.out)).trans HXB.out), ← Hv0.out, ← Hcb.out]
  exact cellsT_part b sb 0 (by omega) i (by rwa [Hv0.size] at hi)))
 have hs0 := fun (W : World) (hb : Below w.heap.size w W) => sameW_any (a.get 0) (b.get 0) (hsz 0 (by omega)) F G _ _ W (fun g h => Nat.lt_of_lt_of_le (hF g h) hb.size) (fun g h => Nat.lt_of_lt_of_le (hG g h) hb.size) ((h1 0 (by omega)).under hb hF) ((h2 0 (by omega)).under hb hG)
 rw [Hu0.out, Hv0.out] at hs0
 have HS0 := Lib.hid hs0
 clear hs0
 obtain ⟨t0, Ht0⟩ := name_itV (sameB (a.get 0) (b.get 0))
 rw [Ht0.out] at HS0
 obtain ⟨u1, Hu1⟩ := name6 (a.get 1) (sa 1)
 obtain ⟨v1, Hv1⟩ := name6 (b.get 1) (sb 1)
 have IU1 := Lib.hid (infoV6.trans (congrArg some Hu1.size.symm))
 have IV1 := Lib.hid (infoV6.trans (congrArg some Hv1.size.symm))
 have LU1 := Lib.hid (fun (W : World) (hb : Below w2.heap.size w2 W) i (hi : i < u1.size) => (show W.cell? ((⟨z, 6, none⟩ : Addr).add i) = u1[i]? from by
  rw [Addr.add_mid, cell_of_row W z (6 + i) ca _ _ ((hb.block z (blk_lt HXA.out)).trans HXA.out), ← Hu1.out, ← Hca.out]
  exact cellsT_part a sa 1 (by omega) i (by rwa [Hu1.size] at hi)))
 have LV1 := Lib.hid (fun (W : World) (hb : Below w2.heap.size w2 W) i (hi : i < v1.size) => (show W.cell? ((⟨z + 1, 6, none⟩ : Addr).add i) = v1[i]? from by
  rw [Addr.add_mid, cell_of_row W (z + 1) (6 + i) cb _ _ ((hb.block (z + 1) (blk_lt HXB.out)).trans HXB.out), ← Hv1.out, ← Hcb.out]
  exact cellsT_part b sb 1 (by omega) i (by rwa [Hv1.size] at hi)))
 have hs1 := fun (W : World) (hb : Below w.heap.size w W) => sameW_any (a.get 1) (b.get 1) (hsz 1 (by omega)) F G _ _ W (fun g h => Nat.lt_of_lt_of_le (hF g h) hb.size) (fun g h => Nat.lt_of_lt_of_le (hG g h) hb.size) ((h1 1 (by omega)).under hb hF) ((h2 1 (by omega)).under hb hG)
 rw [Hu1.out, Hv1.out] at hs1
 have HS1 := Lib.hid hs1
 clear hs1
 obtain ⟨t1, Ht1⟩ := name_itV (sameB (a.get 1) (b.get 1))
 rw [Ht1.out] at HS1
 obtain ⟨u2, Hu2⟩ := name6 (a.get 2) (sa 2)
 obtain ⟨v2, Hv2⟩ := name6 (b.get 2) (sb 2)
 have IU2 := Lib.hid (infoV6.trans (congrArg some Hu2.size.symm))
 have IV2 := Lib.hid (infoV6.trans (congrArg some Hv2.size.symm))
 have LU2 := Lib.hid (fun (W : World) (hb : Below w2.heap.size w2 W) i (hi : i < u2.size) => (show W.cell? ((⟨z, 12, none⟩ : Addr).add i) = u2[i]? from by
  rw [Addr.add_mid, cell_of_row W z (12 + i) ca _ _ ((hb.block z (blk_lt HXA.out)).trans HXA.out), ← Hu2.out, ← Hca.out]
  exact cellsT_part a sa 2 (by omega) i (by rwa [Hu2.size] at hi)))
 have LV2 := Lib.hid (fun (W : World) (hb : Below w2.heap.size w2 W) i (hi : i < v2.size) => (show W.cell? ((⟨z + 1, 12, none⟩ : Addr).add i) = v2[i]? from by
  rw [Addr.add_mid, cell_of_row W (z + 1) (12 + i) cb _ _ ((hb.block (z + 1) (blk_lt HXB.out)).trans HXB.out), ← Hv2.out, ← Hcb.out]
  exact cellsT_part b sb 2 (by omega) i (by rwa [Hv2.size] at hi)))
 have hs2 := fun (W : World) (hb : Below w.heap.size w W) => sameW_any (a.get 2) (b.get 2) (hsz 2 (by omega)) F G _ _ W (fun g h => Nat.lt_of_lt_of_le (hF g h) hb.size) (fun g h => Nat.lt_of_lt_of_le (hG g h) hb.size) ((h1 2 (by omega)).under hb hF) ((h2 2 (by omega)).under hb hG)
 rw [Hu2.out, Hv2.out] at hs2
 have HS2 := Lib.hid hs2
 clear hs2
 obtain ⟨t2, Ht2⟩ := name_itV (sameB (a.get 2) (b.get 2))
 rw [Ht2.out] at HS2
 unfold sameT
 rw [Ht0.out, Ht1.out, Ht2.out]
 clear h1 h2 hsz hF hG
 go_enter Tryz.func37, Tryz.ntmps37
 go_upto_region 1 with fail
 rw [HW2.out, Hz.out]
 clear HW2
 go_wp2_with (first
  | ((with_reducible refine at_dst (some 6) ?_); refine ld_armG (by rfl) 34 _ rfl rfl u0 _ (LU0.out w2 (Below.refl _ _)) Tryz.underlying34 rfl IU0.out ?_)
  | ((with_reducible refine at_dst (some 8) ?_); refine ld_armG (by rfl) 34 _ rfl rfl v0 _ (LV0.out w2 (Below.refl _ _)) Tryz.underlying34 rfl IV0.out ?_))
 refine (HS0.out _ (HPOST.out _ (Below.refl _ _))).mono ?_
 unfold ToldB
 rintro e x0 ⟨rfl, hb⟩
 have HX0 := Lib.hid (show Below w2.heap.size w2 x0 from hb)
 clear hb
 cases t0 with
 | false =>
  go_wp2_with fail
  go_ret
  exact ⟨rfl, HPOST.out _ HX0.out⟩
 | true =>
  go_wp2_with (first
   | ((with_reducible refine at_dst (some 12) ?_); refine ld_armG (by rfl) 34 _ rfl rfl u1 _ (LU1.out x0 HX0.out) Tryz.underlying34 rfl IU1.out ?_)
   | ((with_reducible refine at_dst (some 14) ?_); refine ld_armG (by rfl) 34 _ rfl rfl v1 _ (LV1.out x0 HX0.out) Tryz.underlying34 rfl IV1.out ?_))
  refine (HS1.out _ (HPOST.out _ HX0.out)).mono ?_
  unfold ToldB
  rintro e x1 ⟨rfl, hb⟩
  have HX1 := Lib.hid (show Below w2.heap.size w2 x1 from HX0.out.trans (hb.mono HX0.out.size))
  clear hb
  cases t1 with
  | false =>
   go_wp2_with fail
   go_ret
   exact ⟨rfl, HPOST.out _ HX1.out⟩
  | true =>
   go_wp2_with (first
    | ((with_reducible refine at_dst (some 19) ?_); refine ld_armG (by rfl) 34 _ rfl rfl u2 _ (LU2.out x1 HX1.out) Tryz.underlying34 rfl IU2.out ?_)
    | ((with_reducible refine at_dst (some 21) ?_); refine ld_armG (by rfl) 34 _ rfl rfl v2 _ (LV2.out x1 HX1.out) Tryz.underlying34 rfl IV2.out ?_))
   refine (HS2.out _ (HPOST.out _ HX1.out)).mono ?_
   unfold ToldB
   rintro e x2 ⟨rfl, hb⟩
   have HX2 := Lib.hid (show Below w2.heap.size w2 x2 from HX1.out.trans (hb.mono HX1.out.size))
   clear hb
   cases t2 with
   | false =>
    go_wp2_with fail
    go_ret
    exact ⟨rfl, HPOST.out _ HX2.out⟩
   | true =>
    go_wp2_with fail
    go_ret
    exact ⟨rfl, HPOST.out _ HX2.out⟩
theorem eqT_any {a b : Trip} {ca cb : Array Value} (ha : CellT ca a) (hb : CellT cb b) (w : World) :
    Calls Tryz.prog 37 #[.agg ca, .agg cb] w (ToldB (sameT a b) w) := by
 obtain ⟨ka, sa, h1, rfl⟩ := ha
 obtain ⟨kb, sb, h2, rfl⟩ := hb
 refine eqTR_any (F := fun _ => False) (G := fun _ => False) (fun n _ => by rw [(ka n).list]; decide) w (fun _ h => h.elim) (fun _ h => h.elim) (fun n hn => ?_) (fun n hn => ?_)
 ·obtain ⟨A, c, e⟩ := h1 n hn
  rw [e]
  exact scal_rd w _ (ka n).list A c
 ·obtain ⟨A, c, e⟩ := h2 n hn
  rw [e]
  exact scal_rd w _ (kb n).list A c
/-- Which places are used. -/
noncomputable def usB (K T : List Trip) (i k : Nat) : Bool := by classical exact decide (∃ t, T[k]? = some t ∧ t ∈ K.take i)
theorem usB_iff {K T : List Trip} {i k : Nat} : usB K T i k = true ↔ ∃ t, T[k]? = some t ∧ t ∈ K.take i := by unfold usB; simp
def boolsC (f : Nat → Bool) (n : Nat) : List Value := (List.range n).map fun k => .bool (f k)
theorem boolsC_at (f : Nat → Bool) {n k : Nat} (h : k < n) : (boolsC f n)[k]? = some (.bool (f k)) := by
 unfold boolsC
 rw [List.getElem?_map, List.getElem?_range h]
 rfl
theorem boolsC_set (f : Nat → Bool) {n k : Nat} (b : Bool) : (boolsC f n).set k (.bool b) = boolsC (fun i => if i = k then b else f i) n := by
 refine List.ext_getElem? fun i => ?_
 by_cases hi : i < n
 ·rw [boolsC_at _ hi, List.getElem?_set]
  by_cases e : k = i
  ·subst e
   rw [if_pos rfl, if_pos (by unfold boolsC; simpa using hi), if_pos rfl]
  ·rw [if_neg e, boolsC_at _ hi, if_neg (fun h => e h.symm)]
 ·rw [List.getElem?_eq_none (by unfold boolsC; simp; omega), List.getElem?_eq_none (by unfold boolsC; simp; omega)]
theorem boolsC_congr {f g : Nat → Bool} {n : Nat} (h : ∀ i, i < n → f i = g i) : boolsC f n = boolsC g n := by
 refine List.ext_getElem? fun i => ?_
 by_cases hi : i < n
 ·rw [boolsC_at _ hi, boolsC_at _ hi, h i hi]
 ·rw [List.getElem?_eq_none (by unfold boolsC; simp; omega), List.getElem?_eq_none (by unfold boolsC; simp; omega)]
/-- The memory of 'once'. -/
structure OnM (w : World) (g n : Nat) (f : Nat → Bool) (wx : World) : Prop where
 hb : Below w.heap.size w wx
 g0 : w.heap.size ≤ g
 row : wx.ownsRow 0 4 1 (.slice (some ⟨g, 0, none⟩) n n) n (boolsC f n)
theorem OnM.on {w wx w' : World} {g n : Nat} {f : Nat → Bool} (h : OnM w g n f wx) (hb : Below wx.heap.size wx w') : OnM w g n f w' :=
 ⟨h.hb.trans (hb.mono h.hb.size), h.g0, (Turn.of_below hb).owns h.row (fun b hb2 e => by have e : wx.heap.size ≤ b := e; obtain ⟨cur, hc⟩ := own_type h.row hb2; have := blk_lt hc; omega)⟩
theorem OnM.drew {w wx : World} {g n : Nat} {f : Nat → Bool} (h : OnM w g n f wx) : OnM w g n f wx.drew := h.on (Below.refl _ _).drew
theorem OnM.at_ {w wx : World} {g n k : Nat} {f : Nat → Bool} (h : OnM w g n f wx) (hk : k < n) : wx.cell? ⟨g, k, none⟩ = some (.bool (f k)) := by rw [h.row.cellAt k (by omega)]; exact boolsC_at f hk
theorem OnM.set {w wx : World} {g n k : Nat} {f f' : Nat → Bool} (h : OnM w g n f wx) (b : Bool) (hf : ∀ i, i < n → f' i = if i = k then b else f i) : OnM w g n f' (wx.setCell ⟨g, k, none⟩ (.bool b)) := by
 obtain ⟨h1, h2⟩ := h.row.stored k (.bool b)
 rw [boolsC_set] at h1
 refine ⟨below_turn h.hb (Turn.of_grown h2) (fun q hq => ?_), h.g0, by rw [boolsC_congr hf]; exact h1⟩
 injection hq with hq
 rw [hq]
 exact h.g0
end Go.Proofs.YtijciakkfpjjbaaGreatDoor
namespace Go.Proofs.YtijciakkfpjjbaaGreatDoor
open Go Go.RowKit Go.Maps

theorem infoBool : (Tryz.prog.info? 4).map (fun i => (i.zero, i.size, i.bytes)) = some (some (.bool false), 1, 1) := by kernel_rfl
theorem idx_bool (r o n cap a : Nat) (ha : a < n) (w : World) : (Instr.indexAt 97 (.slice (some ⟨r, o, none⟩) n cap) (.int .i64 (a : Nat))).run Tryz.prog w = .ok (.pointer (some ⟨r, o + a, none⟩)) w := by
 have e1 : (0 : Int) ≤ a := by omega
 have e2 : (a : Int) < n := by omega
 have hadd : (⟨r, o, none⟩ : Addr).add a = ⟨r, o + a, none⟩ := Addr.add_mid _ _ _
 go_simp
theorem idx_tr (ad : Addr) (n cap a : Nat) (ha : a < n) (w : World) : (Instr.indexAt 22 (.slice (some ad) n cap) (.int .i64 (a : Nat))).run Tryz.prog w = .ok (.pointer (some (ad.add (a * 18)))) w := by
 have e1 : (0 : Int) ≤ a := by omega
 have e2 : (a : Int) < n := by omega
 go_simp
theorem TrS.cells {w : World} {F : Nat → Prop} {L : List Trip} {A : Option Addr} {n : Nat} (h : SRd 18 TrS w F L A n) {k : Nat} {t : Trip} (ht : L[k]? = some t) :
    ∃ ad c, A = some ad ∧ F ad.block ∧ CellT c t ∧ ∀ j, j < c.size → w.cell? ((ad.add (k * 18)).add j) = c[j]? := by
 obtain ⟨ad, c, e, hF, hs, hc, hr⟩ := h.at_ ht
 exact ⟨ad, c, e, hF, hr.cellT, fun j hj => by rw [add_of_add]; exact hc j (by omega)⟩
/-- Two lists of the same triples. -/
structure OnceH (K T : List Trip) : Prop where
 len : K.length = T.length
 mem : ∀ t, t ∈ K → t ∈ T
 kn : K.Nodup
 tn : T.Nodup
theorem nodup_at {K : List Trip} (h : K.Nodup) {i j : Nat} {t : Trip} (hi : K[i]? = some t) (hj : K[j]? = some t) : i = j := by
 obtain ⟨li, ei⟩ := List.getElem?_eq_some_iff.1 hi
 obtain ⟨lj, ej⟩ := List.getElem?_eq_some_iff.1 hj
 refine Classical.byContradiction fun hne => ?_
 rcases Nat.lt_or_gt_of_ne hne with hlt | hlt
 ·exact (List.pairwise_iff_getElem.1 h i j li lj hlt) (by rw [ei, ej])
 ·exact (List.pairwise_iff_getElem.1 h j i lj li hlt) (by rw [ei, ej])
theorem take_mem {K : List Trip} {i : Nat} {t : Trip} (h : t ∈ K.take i) : ∃ j, j < i ∧ K[j]? = some t := by
 obtain ⟨j, hj⟩ := List.getElem?_of_mem h
 have hl := (List.getElem?_eq_some_iff.1 hj).1
 rw [List.length_take] at hl
 exact ⟨j, by omega, by rwa [List.getElem?_take_of_lt (by omega)] at hj⟩
section
variable {K T : List Trip} {i k : Nat} {t u : Trip}
theorem us_none : usB K T 0 k = false := by
 cases e : usB K T 0 k with
 | false => rfl
 | true =>
  obtain ⟨t, _, h⟩ := usB_iff.1 e
  simp at h
theorem us_apart (h : OnceH K T) (hi : K[i]? = some t) (hk : T[k]? = some u) (hu : usB K T i k = true) : t ≠ u := fun e => by
 subst e
 obtain ⟨v, hv, hm⟩ := usB_iff.1 hu
 rw [hk] at hv
 injection hv with hv
 subst hv
 obtain ⟨j, hj, h2⟩ := take_mem hm
 have := nodup_at h.kn hi h2
 omega
theorem us_set (h : OnceH K T) (hi : K[i]? = some t) (hk : T[k]? = some t) (m : Nat) : usB K T (i + 1) m = if m = k then true else usB K T i m := by
 by_cases e : m = k
 ·subst e
  rw [if_pos rfl]
  exact usB_iff.2 ⟨t, hk, by rw [List.take_add_one, hi]; simp⟩
 ·rw [if_neg e, Bool.eq_iff_iff, usB_iff, usB_iff]
  constructor
  ·rintro ⟨v, hv, hm⟩
   rw [List.take_add_one, hi] at hm
   simp only [Option.toList_some, List.mem_append, List.mem_singleton] at hm
   rcases hm with hm | rfl
   ·exact ⟨v, hv, hm⟩
   ·exact absurd (nodup_at h.tn hv hk) e
  ·rintro ⟨v, hv, hm⟩
   exact ⟨v, hv, by rw [List.take_add_one]; exact List.mem_append.2 (.inl hm)⟩
theorem us_end (h : OnceH K T) (hi : K[i]? = some t) (hno : ∀ m, m < T.length → T[m]? ≠ some t) : False := by
 obtain ⟨m, hm⟩ := List.getElem?_of_mem (h.mem t (List.mem_of_getElem? hi))
 exact hno m (List.getElem?_eq_some_iff.1 hm).1 hm
end
set_option maxRecDepth 100000 in
set_option maxHeartbeats 8000000 in
theorem once_any {F1 F2 : Nat → Prop} {w : World} {K T : List Trip} {A1 A2 : Option Addr} {n c1 c2 : Nat} (h1 : SRd 18 TrS w F1 K A1 n) (h2 : SRd 18 TrS w F2 T A2 n) (hF1 : ∀ b, F1 b → b < w.heap.size) (hF2 : ∀ b, F2 b → b < w.heap.size) (hn : n ≤ 65536) (ho : OnceH K T) :
    Calls Tryz.prog 18 #[.slice A1 n c1, .slice A2 n c2] w (ToldB true w) := by
 have H1 := Lib.hid h1
 have H2 := Lib.hid h2
 have HF1 := Lib.hid hF1
 have HF2 := Lib.hid hF2
 have L1 := Lib.hid (show K.length = n from h1.1.symm)
 have L2 := Lib.hid (show T.length = n from h2.1.symm)
 have HO := Lib.hid ho
 have HN := Lib.hid hn
 clear h1 h2 hF1 hF2 ho
 obtain ⟨i0, hi, hz0, hz1, hz2⟩ := info_parts infoBool
 have HI := Lib.hid hi
 have HZ0 := Lib.hid hz0
 have HZ1 := Lib.hid hz1
 have HZ2 := Lib.hid (show i0.bytes * n ≤ 281474976710656 from by rw [hz2]; omega)
 clear hi hz0 hz1 hz2
 obtain ⟨g, Hg⟩ := name_itV w.heap.size
 go_enter Tryz.func18, Tryz.ntmps18
 go_wp2_with ((with_reducible refine at_dst (some 16) ?_); refine wpList_make_full _ rfl (.tmp 15) (.tmp 15) 97 rfl 0 4 i0 (.bool false) 1 Tryz.underlying97 HI.out HZ0.out HZ1.out .i64 .i64 (n : Nat) (n : Nat) n rfl rfl rfl rfl HZ2.out (by have := HN.out; unfold maxLen; omega) (Nat.zero_le _) ?_; intro w3 ho3 hg3)
 rw [Hg.out]
 rw [Hg.out] at ho3
 have HM0 := Lib.hid (show OnM w g n (usB K T 0) w3 from ⟨below_turn (Below.refl _ _) (Turn.of_grown hg3) (fun b hb => by cases hb), by rw [Hg.out]; exact Nat.le_refl _, by
  have e : (madeCells (Value.bool false).cells (n * 1)).toList = boolsC (usB K T 0) n := by
   rw [Nat.mul_one, show (Value.bool false).cells = #[.bool false] from rfl, toList_madeCells_one]
   refine List.ext_getElem? fun m => ?_
   by_cases hm : m < n
   ·rw [boolsC_at _ hm, us_none, List.getElem?_replicate, if_pos hm]
   ·rw [List.getElem?_eq_none (by simp; omega), List.getElem?_eq_none (by unfold boolsC; simp; omega)]
  rw [← e]
  exact ho3⟩)
 clear ho3 hg3 HI HZ0 HZ1 HZ2 Hg hn
 go_wp2_with fail
 go_loopw [6] (fun s6 wx => ∃ i : Nat, i ≤ n ∧ s6 = .int .i64 (i : Nat) ∧ Hid (OnM w g n (usB K T i) wx)) (fun s6 _ => n - (intOf s6).toNat)
 case atStart => exact ⟨0, by omega, rfl, HM0.out⟩
 case round =>
  obtain ⟨i, hi, rfl, hM⟩ := hrel
  clear HM0
  by_cases hlt : i < n
  ·have a1 : (0 : Int) ≤ i := by omega
   have a2 : (i : Int) < n := by omega
   have w1 : IntKind.i64.wrap ((i : Int) + 1) = (i : Int) + 1 := IntWalk.i64_in _ (by have := HN.out; omega)
   obtain ⟨t, ht⟩ : ∃ t, K[i]? = some t := ⟨_, List.getElem?_eq_getElem (by rw [L1.out]; exact hlt)⟩
   obtain ⟨ad1, ct, rfl, hfa, hct, hq1⟩ := TrS.cells H1.out ht
   have HT := Lib.hid ht
   have HCT := Lib.hid hct
   have HQ1 := Lib.hid (fun (W : World) (hb : Below w.heap.size w W) (j : Nat) (hj : j < ct.size) => (hb.cell (p := (ad1.add (i * 18)).add j) (by rw [add_blk, add_blk]; exact HF1.out _ hfa)).trans (hq1 j hj))
   have I1 := Lib.hid (infoTr.trans (congrArg some hct.size.symm))
   clear ht hct hfa hq1
   go_wp2_with fail
   go_loopw [7, 8] (fun s7 s8 wx => ∃ (k : Nat) (fd : Bool), k ≤ n ∧ s8 = .int .i64 (k : Nat) ∧ s7 = .bool fd ∧ Hid (if fd = true then OnM w g n (usB K T (i + 1)) wx else (OnM w g n (usB K T i) wx ∧ ∀ m, m < k → T[m]? ≠ some t))) (fun _ s8 _ => n - (intOf s8).toNat)
   case atStart => exact ⟨0, false, by omega, rfl, rfl, Lib.hid ⟨hM.out, fun m hm => absurd hm (by omega)⟩⟩
   case round =>
    obtain ⟨k, fd, hk, rfl, rfl, hN⟩ := hrel
    clear hM
    cases fd with
    | true =>
     have HM1 := Lib.hid (show OnM w g n (usB K T (i + 1)) wr from hN.out)
     clear hN
     by_cases hkn : k < n
     ·have b2 : (k : Int) < n := by omega
      go_wp2_with fail
      go_roundw
      case rel => exact ⟨i + 1, by omega, by go_num, HM1.out⟩
      case measure => simp [intOf]; omega
     ·have b2 : ¬ (k : Int) < n := by omega
      go_wp2_with fail
      go_roundw
      case rel => exact ⟨i + 1, by omega, by go_num, HM1.out⟩
      case measure => simp [intOf]; omega
    | false =>
     have HM1 := Lib.hid (show OnM w g n (usB K T i) wr ∧ ∀ m, m < k → T[m]? ≠ some t from hN.out)
     clear hN
     by_cases hkn : k < n
     ·have b1 : (0 : Int) ≤ k := by omega
      have b2 : (k : Int) < n := by omega
      have w2 : IntKind.i64.wrap ((k : Int) + 1) = (k : Int) + 1 := IntWalk.i64_in _ (by have := HN.out; omega)
      obtain ⟨u, hu⟩ : ∃ u, T[k]? = some u := ⟨_, List.getElem?_eq_getElem (by rw [L2.out]; exact hkn)⟩
      obtain ⟨ad2, cu, rfl, hfa, hcu, hq2⟩ := TrS.cells H2.out hu
      have HU := Lib.hid hu
      have HCU := Lib.hid hcu
      have HQ2 := Lib.hid (fun (W : World) (hb : Below w.heap.size w W) (j : Nat) (hj : j < cu.size) => (hb.cell (p := (ad2.add (k * 18)).add j) (by rw [add_blk, add_blk]; exact HF2.out _ hfa)).trans (hq2 j hj))
      have I2 := Lib.hid (infoTr.trans (congrArg some hcu.size.symm))
      clear hu hcu hfa hq2
      obtain ⟨ub, Hub⟩ := name_itV (usB K T i k)
      have HKN := Lib.hid hkn
      have HLT := Lib.hid hlt
      go_upto_region 11 with fail
      refine wp_region_held_drew (S := fun W' => OnM w g n (usB K T i) W') (by kernel_rfl) HM1.out.1.drew (fun hHeld => ?_)
      refine Boxed.out ?_
      refine take_want 0 33 (.slice (some ⟨g, 0, none⟩) n n) (by kernel_rfl) (by rfl) (by kernel_rfl) (by kernel_rfl) (by kernel_rfl) (fun _ _ _ h => h) hHeld (fun w hSw => ?_) (fun hHeld => ?_)
      ·unfold runsTo
       go_simp
      try simp only [Act.put, List.setIfInBounds_toArray, List.set_cons_zero, List.set_cons_succ]
      refine take_want 1 34 (.int .i64 (k : Nat)) (by kernel_rfl) (by rfl) (by kernel_rfl) (by kernel_rfl) (by kernel_rfl) (fun _ _ _ h => h) hHeld (fun w hSw => ?_) (fun hHeld => ?_)
      ·unfold runsTo
       go_simp
      try simp only [Act.put, List.setIfInBounds_toArray, List.set_cons_zero, List.set_cons_succ]
      refine take_want 2 35 (.pointer (some ⟨g, k, none⟩)) (by kernel_rfl) (by rfl) (by kernel_rfl) (by kernel_rfl) (by kernel_rfl) (fun _ _ _ h => h) hHeld (fun w hSw => ?_) (fun hHeld => ?_)
      ·have p := idx_bool g 0 n n k HKN.out w
       rw [Nat.zero_add] at p
       exact val_of p
      try simp only [Act.put, List.setIfInBounds_toArray, List.set_cons_zero, List.set_cons_succ]
      refine take_want 3 36 (.bool ub) (by kernel_rfl) (by rfl) (by kernel_rfl) (by kernel_rfl) (by kernel_rfl) (fun _ _ _ h => h) hHeld (fun w hSw => ?_) (fun hHeld => ?_)
      ·have p : w.cell? ⟨g, k, none⟩ = some (.bool ub) := by rw [← Hub.out]; exact hSw.at_ HKN.out
       unfold runsTo
       go_simp
      try simp only [Act.put, List.setIfInBounds_toArray, List.set_cons_zero, List.set_cons_succ]
      cases ub with
      | true =>
       refine take_want 4 37 (.bool false) (by kernel_rfl) (by rfl) (by kernel_rfl) (by kernel_rfl) (by kernel_rfl) (fun _ _ _ h => h) hHeld (fun w hSw => ?_) (fun hHeld => ?_)
       ·unfold runsTo
        go_simp
       try simp only [Act.put, List.setIfInBounds_toArray, List.set_cons_zero, List.set_cons_succ]
       refine take_want 5 38 (.bool false) (by kernel_rfl) (by rfl) (by kernel_rfl) (by kernel_rfl) (by kernel_rfl) (fun _ _ _ h => h) hHeld (fun w hSw => ?_) (fun hHeld => ?_)
       ·unfold runsTo
        go_simp
       try simp only [Act.put, List.setIfInBounds_toArray, List.set_cons_zero, List.set_cons_succ]
       refine take_skip 6 39 (by kernel_rfl) (by rfl) (by kernel_rfl) (by kernel_rfl) (by kernel_rfl) (fun _ _ _ h => h) hHeld (fun hHeld => ?_)
       try simp only [Act.put, List.setIfInBounds_toArray, List.set_cons_zero, List.set_cons_succ]
       refine take_skip 7 40 (by kernel_rfl) (by rfl) (by kernel_rfl) (by kernel_rfl) (by kernel_rfl) (fun _ _ _ h => h) hHeld (fun hHeld => ?_)
       try simp only [Act.put, List.setIfInBounds_toArray, List.set_cons_zero, List.set_cons_succ]
       refine take_skip 8 41 (by kernel_rfl) (by rfl) (by kernel_rfl) (by kernel_rfl) (by kernel_rfl) (fun _ _ _ h => h) hHeld (fun hHeld => ?_)
       try simp only [Act.put, List.setIfInBounds_toArray, List.set_cons_zero, List.set_cons_succ]
       refine take_skip 9 42 (by kernel_rfl) (by rfl) (by kernel_rfl) (by kernel_rfl) (by kernel_rfl) (fun _ _ _ h => h) hHeld (fun hHeld => ?_)
       try simp only [Act.put, List.setIfInBounds_toArray, List.set_cons_zero, List.set_cons_succ]
       refine take_skip 10 43 (by kernel_rfl) (by rfl) (by kernel_rfl) (by kernel_rfl) (by kernel_rfl) (fun _ _ _ h => h) hHeld (fun hHeld => ?_)
       try simp only [Act.put, List.setIfInBounds_toArray, List.set_cons_zero, List.set_cons_succ]
       refine take_skip 11 44 (by kernel_rfl) (by rfl) (by kernel_rfl) (by kernel_rfl) (by kernel_rfl) (fun _ _ _ h => h) hHeld (fun hHeld => ?_)
       try simp only [Act.put, List.setIfInBounds_toArray, List.set_cons_zero, List.set_cons_succ]
       refine take_skip 12 45 (by kernel_rfl) (by rfl) (by kernel_rfl) (by kernel_rfl) (by kernel_rfl) (fun _ _ _ h => h) hHeld (fun hHeld => ?_)
       try simp only [Act.put, List.setIfInBounds_toArray, List.set_cons_zero, List.set_cons_succ]
       refine take_skip 13 46 (by kernel_rfl) (by rfl) (by kernel_rfl) (by kernel_rfl) (by kernel_rfl) (fun _ _ _ h => h) hHeld (fun hHeld => ?_)
       try simp only [Act.put, List.setIfInBounds_toArray, List.set_cons_zero, List.set_cons_succ]
       refine take_skip 14 47 (by kernel_rfl) (by rfl) (by kernel_rfl) (by kernel_rfl) (by kernel_rfl) (fun _ _ _ h => h) hHeld (fun hHeld => ?_)
       try simp only [Act.put, List.setIfInBounds_toArray, List.set_cons_zero, List.set_cons_succ]
       refine take_want 15 48 (.bool false) (by kernel_rfl) (by rfl) (by kernel_rfl) (by kernel_rfl) (by kernel_rfl) (fun _ _ _ h => h) hHeld (fun w hSw => ?_) (fun hHeld => ?_)
       ·unfold runsTo
        go_simp
       try simp only [Act.put, List.setIfInBounds_toArray, List.set_cons_zero, List.set_cons_succ]
       refine ⟨wpAnyH_done (by kernel_rfl) ?_ _⟩
       clear hHeld
       go_wp2_with fail
       go_roundw
       case rel => exact ⟨k + 1, false, by omega, by go_num, rfl, Lib.hid ⟨HM1.out.1.drew, fun m hm hm2 => by
        by_cases e : m = k
        ·subst e
         exact us_apart HO.out HT.out hm2 Hub.out rfl
        ·exact HM1.out.2 m (by omega) hm2⟩⟩
       case measure => simp [intOf]; omega
      | false =>
       refine take_want 4 37 (.bool true) (by kernel_rfl) (by rfl) (by kernel_rfl) (by kernel_rfl) (by kernel_rfl) (fun _ _ _ h => h) hHeld (fun w hSw => ?_) (fun hHeld => ?_)
       ·unfold runsTo
        go_simp
       try simp only [Act.put, List.setIfInBounds_toArray, List.set_cons_zero, List.set_cons_succ]
       refine take_want 5 38 (.bool true) (by kernel_rfl) (by rfl) (by kernel_rfl) (by kernel_rfl) (by kernel_rfl) (fun _ _ _ h => h) hHeld (fun w hSw => ?_) (fun hHeld => ?_)
       ·unfold runsTo
        go_simp
       try simp only [Act.put, List.setIfInBounds_toArray, List.set_cons_zero, List.set_cons_succ]
       refine take_want 6 39 (.slice (some ad1) n c1) (by kernel_rfl) (by rfl) (by kernel_rfl) (by kernel_rfl) (by kernel_rfl) (fun _ _ _ h => h) hHeld (fun w hSw => ?_) (fun hHeld => ?_)
       ·unfold runsTo
        go_simp
       try simp only [Act.put, List.setIfInBounds_toArray, List.set_cons_zero, List.set_cons_succ]
       refine take_want 7 40 (.int .i64 (i : Nat)) (by kernel_rfl) (by rfl) (by kernel_rfl) (by kernel_rfl) (by kernel_rfl) (fun _ _ _ h => h) hHeld (fun w hSw => ?_) (fun hHeld => ?_)
       ·unfold runsTo
        go_simp
       try simp only [Act.put, List.setIfInBounds_toArray, List.set_cons_zero, List.set_cons_succ]
       refine take_want 8 41 (.pointer (some (ad1.add (i * 18)))) (by kernel_rfl) (by rfl) (by kernel_rfl) (by kernel_rfl) (by kernel_rfl) (fun _ _ _ h => h) hHeld (fun w hSw => ?_) (fun hHeld => ?_)
       ·exact val_of (idx_tr ad1 n c1 i HLT.out w)
       try simp only [Act.put, List.setIfInBounds_toArray, List.set_cons_zero, List.set_cons_succ]
       refine take_want 9 42 (.agg ct) (by kernel_rfl) (by rfl) (by kernel_rfl) (by kernel_rfl) (by kernel_rfl) (fun _ _ _ h => h) hHeld (fun w hSw => ?_) (fun hHeld => ?_)
       ·have p := run_loadVar_at w (ad1.add (i * 18)) 41 ct _ (HQ1.out _ hSw.hb) Tryz.underlying41 rfl I1.out
        exact val_of (by simp only [Instr.loadAt, Instr.sureAddr, Sem.run_bind]; exact p)
       try simp only [Act.put, List.setIfInBounds_toArray, List.set_cons_zero, List.set_cons_succ]
       refine take_want 10 43 (.slice (some ad2) n c2) (by kernel_rfl) (by rfl) (by kernel_rfl) (by kernel_rfl) (by kernel_rfl) (fun _ _ _ h => h) hHeld (fun w hSw => ?_) (fun hHeld => ?_)
       ·unfold runsTo
        go_simp
       try simp only [Act.put, List.setIfInBounds_toArray, List.set_cons_zero, List.set_cons_succ]
       refine take_want 11 44 (.int .i64 (k : Nat)) (by kernel_rfl) (by rfl) (by kernel_rfl) (by kernel_rfl) (by kernel_rfl) (fun _ _ _ h => h) hHeld (fun w hSw => ?_) (fun hHeld => ?_)
       ·unfold runsTo
        go_simp
       try simp only [Act.put, List.setIfInBounds_toArray, List.set_cons_zero, List.set_cons_succ]
       refine take_want 12 45 (.pointer (some (ad2.add (k * 18)))) (by kernel_rfl) (by rfl) (by kernel_rfl) (by kernel_rfl) (by kernel_rfl) (fun _ _ _ h => h) hHeld (fun w hSw => ?_) (fun hHeld => ?_)
       ·exact val_of (idx_tr ad2 n c2 k HKN.out w)
       try simp only [Act.put, List.setIfInBounds_toArray, List.set_cons_zero, List.set_cons_succ]
       refine take_want 13 46 (.agg cu) (by kernel_rfl) (by rfl) (by kernel_rfl) (by kernel_rfl) (by kernel_rfl) (fun _ _ _ h => h) hHeld (fun w hSw => ?_) (fun hHeld => ?_)
       ·have p := run_loadVar_at w (ad2.add (k * 18)) 41 cu _ (HQ2.out _ hSw.hb) Tryz.underlying41 rfl I2.out
        exact val_of (by simp only [Instr.loadAt, Instr.sureAddr, Sem.run_bind]; exact p)
       try simp only [Act.put, List.setIfInBounds_toArray, List.set_cons_zero, List.set_cons_succ]
       refine take_call 14 (by kernel_rfl) (by rfl) (fun K hK => ?_)
       change Oper.wp _ ⟨some 47, _, _, _, _, _⟩ _ _ _ _
       go_simp
       refine (eqT_any HCT.out HCU.out _).mono ?_
       unfold ToldB
       rintro e x ⟨rfl, hb⟩
       have HX0 := Lib.hid (HM1.out.1.drew.on hb)
       clear hb
       dsimp only
       refine hK.out _ _ HX0.out (fun hHeld => ?_)
       clear hK K
       try simp only [Act.put, List.setIfInBounds_toArray, List.set_cons_zero, List.set_cons_succ]
       refine take_want 15 48 (.bool (sameT t u)) (by kernel_rfl) (by rfl) (by kernel_rfl) (by kernel_rfl) (by kernel_rfl) (fun _ _ _ h => h) hHeld (fun w hSw => ?_) (fun hHeld => ?_)
       ·unfold runsTo
        go_simp
       try simp only [Act.put, List.setIfInBounds_toArray, List.set_cons_zero, List.set_cons_succ]
       refine ⟨wpAnyH_done (by kernel_rfl) ?_ _⟩
       have HX := Lib.hid hHeld
       clear hHeld
       by_cases htu : t = u
       ·subst htu
        have hst : sameT t t = true := sameT_refl t
        have f0 : x.frozen? ⟨g, k, none⟩ = false := HX.out.row.frozenAt k
        have f1 : x.cell? ⟨g, k, none⟩ = some (.bool (usB K T i k)) := HX.out.at_ HKN.out
        rw [hst]
        clear hst
        go_wp2_with fail
        go_roundw
        case rel => exact ⟨k + 1, true, by omega, by go_num, rfl, Lib.hid (HX.out.set true fun m _ => us_set HO.out HT.out HU.out m)⟩
        case measure => simp [intOf]; omega
       ·have hst : sameT t u = false := sameT_no htu
        rw [hst]
        clear hst
        have HTU := Lib.hid htu
        clear htu
        go_wp2_with fail
        go_roundw
        case rel => exact ⟨k + 1, false, by omega, by go_num, rfl, Lib.hid ⟨HX.out, fun m hm hm2 => by
         by_cases e : m = k
         ·subst e
          have := HU.out
          rw [this] at hm2
          injection hm2 with hm2
          exact HTU.out hm2.symm
         ·exact HM1.out.2 m (by omega) hm2⟩⟩
        case measure => simp [intOf]; omega
     ·exact (us_end HO.out HT.out fun m hm => HM1.out.2 m (by rw [L2.out] at hm; omega)).elim
  ·have a2 : ¬ (i : Int) < n := by omega
   have HE := Lib.hid hM.out.hb
   go_wp2_with fail
   go_ret
   exact ⟨rfl, HE.out⟩
end Go.Proofs.YtijciakkfpjjbaaGreatDoor
namespace Go.Proofs.YtijciakkfpjjbaaGreatDoor
open Go Go.RowKit Go.Maps

theorem insR_len {α : Type} (o : α → α → Int) (l : List α) (v : α) : (insR o l v).length ≤ l.length + 1 := by
 unfold insR
 simp only
 split
 ·omega
 ·rw [List.length_append, List.length_cons, List.length_take, List.length_drop]
  omega
theorem loadR_len {α : Type} (o : α → α → Int) (l : List α) : (loadR o l).length ≤ l.length := by
 unfold loadR
 suffices h : ∀ (l a : List α), (l.foldl (insR o) a).length ≤ a.length + l.length by
  have := h l []
  simpa using this
 intro l
 induction l with
 | nil => intro a; simp
 | cons x r ih =>
  intro a
  rw [List.foldl_cons]
  have h1 := ih (insR o a x)
  have h2 := insR_len o a x
  rw [List.length_cons]
  omega
theorem rise_nodup {w : Way} {T : List Trip} (h : Rise (along w) T) : T.Nodup := h.imp fun {a b} h e => by rw [e, (along_pre w).refl] at h; omega
/-- The triples in a store's order. -/
theorem store_way {F : Nat → Prop} {w : World} {c : Nat} {T : List Trip} (h : StoreAt F w c T) {j : Nat} (hj : j < 6) : ∃ K, InWay T K (wayN j) ∧ OnceH K T ∧ K.length = T.length := by
 obtain ⟨S, ss, cs, _, _, h3⟩ := h.cells
 obtain ⟨ix, hx, _⟩ := h3 j hj
 have hK := inway_of hx h.scal
 have hl : (Kof T ix).length = T.length := by rw [kof_len, hx.len]
 exact ⟨_, hK, ⟨hl, fun t ht => (hK.mem t).1 ht, rise_nodup hK.rise, rise_nodup h.rise⟩, hl⟩
theorem way_full {j : Nat} (hj : j < 6) {t wt : Trip} (h : Full (wayN j) t wt) (sw : Nat → Value) (hs : ∀ i, i < 3 → ∃ A cap, sw i = .slice A 0 cap) :
    ∃ ss, cellsT wt sw = wayC3 (wayN j) t ss ∧ ∀ i, i < 3 → ∃ A cap, ss i = .slice A 0 cap := by
 have e0 := h 0 (by omega)
 have e1 := h 1 (by omega)
 have e2 := h 2 (by omega)
 have e : cellsT wt sw = cellsV (wt.get 0) (sw 0) ++ cellsV (wt.get 1) (sw 1) ++ cellsV (wt.get 2) (sw 2) := rfl
 refine ⟨fun i => if i = (wayN j).get 0 then sw 0 else if i = (wayN j).get 1 then sw 1 else sw 2, ?_, fun i hi => ?_⟩
 ·rw [e, e0, e1, e2]
  unfold wayC3
  rcases (show j = 0 ∨ j = 1 ∨ j = 2 ∨ j = 3 ∨ j = 4 ∨ j = 5 by omega) with rfl | rfl | rfl | rfl | rfl | rfl <;> rfl
 ·dsimp only
  split
  ·exact hs 0 (by omega)
  ·split
   ·exact hs 1 (by omega)
   ·exact hs 2 (by omega)
/-- Where the walk is; how many turns are left. -/
def WkS (K : List Trip) (w : Way) (c : CurA) (wt : Trip) (G : List Trip) (dn : Bool) (st k : Nat) : Prop :=
 (K.length = 0 ∧ c = ⟨[], false⟩ ∧ dn = true ∧ G = [] ∧ st = 0 ∧ k = 500) ∨ (∃ m d, dn = true ∧ WkA K w m d c wt G ∧ st ≤ posA m d ∧ k + posA m d = 500) ∨ (∃ m d, dn = false ∧ WkB K w m d c wt G ∧ st ≤ posB m d ∧ k + posB m d = 500)
section
variable {T K : List Trip} {w : Way} {m d st k : Nat} {c : CurA} {wt : Trip} {G : List Trip}
theorem WkB.keyV (hK : InWay T K w) (hf : ∀ t, t ∈ T → ∀ n, FitV (t.get n)) (h : WkB K w m d c wt G) : KeyV (wt.get d) := by
 have hl := h.len
 obtain ⟨s, hs⟩ : ∃ s, K[m]? = some s := ⟨_, List.getElem?_eq_getElem hl.2.2⟩
 rw [h.2.1 s hs d (by omega)]
 have hT := (hK.mem s).1 (List.mem_of_getElem? hs)
 exact keyT_of (hK.scal s hT) (hf s hT) _
theorem WkS.start (wt : Trip) (K : List Trip) (w : Way) : WkS K w ⟨[], false⟩ wt [] true 0 500 := by
 rcases Nat.eq_zero_or_pos K.length with h | h
 ·exact .inl ⟨h, rfl, rfl, rfl, rfl, rfl⟩
 ·exact .inr (.inl ⟨0, 0, rfl, WkA.start h wt, Nat.zero_le _, rfl⟩)
end
/-- Its memory. -/
structure WkM (F : Nat → Prop) (w0 : World) (q zw j : Nat) (T : List Trip) (c : CurA) (wt : Trip) (sw : Nat → Value) (G : List Trip) (S : Value) (wx : World) : Prop where
 b : Below w0.heap.size w0 wx
 cur : CurRd F wx q j T c
 way : wx.heap[zw]? = some (.cells (cellsT wt sw) 35 (0, 0))
 own : SOwn 41 18 TrS wx (fun b => zw < b ∧ b < wx.heap.size) G S
 sl : ∀ i, i < 3 → ∃ A cap, sw i = .slice A 0 cap
 q0 : w0.heap.size ≤ q
 qz : q < zw
 fz : ∀ b, F b → b < w0.heap.size
section
variable {F : Nat → Prop} {w0 wx w' : World} {q zw j : Nat} {T : List Trip} {c c' : CurA} {wt : Trip} {sw : Nat → Value} {G : List Trip} {S : Value}
theorem WkM.on (h : WkM F w0 q zw j T c wt sw G S wx) (hb : Below wx.heap.size wx w') : WkM F w0 q zw j T c wt sw G S w' :=
 ⟨h.b.trans (hb.mono h.b.size), h.cur.on hb, (hb.block zw (blk_lt h.way)).trans h.way, (h.own.turn TrS.good (Turn.of_below hb) (fun b hb => hb.2) (fun b hb => fun e => by have e : wx.heap.size ≤ b := e; have := hb.2; omega)).mono TrS.good fun b h1 => ⟨h1.1, Nat.lt_of_lt_of_le h1.2 hb.size⟩, h.sl, h.q0, h.qz, h.fz⟩
theorem WkM.drew (h : WkM F w0 q zw j T c wt sw G S wx) : WkM F w0 q zw j T c wt sw G S wx.drew := h.on (Below.refl _ _).drew
theorem WkM.curDo (h : WkM F w0 q zw j T c wt sw G S wx) (hc : CurRd F w' q j T c') (ht : Turn (fun b => b = q) wx w') : WkM F w0 q zw j T c' wt sw G S w' :=
 ⟨below_turn h.b ht (fun b hb => by have hb : b = q := hb; rw [hb]; exact h.q0), hc, ht.heap h.way (fun e => by have e : zw = q := e; have := h.qz; omega), (h.own.turn TrS.good ht (fun b hb => hb.2) (fun b hb => fun e => by have e : b = q := e; have := hb.1; have := h.qz; omega)).mono TrS.good fun b h1 => ⟨h1.1, Nat.lt_of_lt_of_le h1.2 ht.size⟩, h.sl, h.q0, h.qz, h.fz⟩
theorem WkM.setWay (h : WkM F w0 q zw j T c wt sw G S wx) {d : Nat} {v : Val} {A : Option Addr} {cap : Nat} (_ : d < 3) (hw : w'.heap[zw]? = some (.cells (cellsT (wt.set d v) (updV sw d (.slice A 0 cap))) 35 (0, 0))) (ht : Turn (fun b => b = zw) wx w') : WkM F w0 q zw j T c (wt.set d v) (updV sw d (.slice A 0 cap)) G S w' :=
 ⟨below_turn h.b ht (fun b hb => by have hb : b = zw := hb; have := h.q0; have := h.qz; omega), h.cur.turn ht (fun b hb e => by have e : b = zw := e; have := h.fz b hb; have := h.q0; have := h.qz; omega) (fun e => by have e : q = zw := e; have := h.qz; omega), hw, (h.own.turn TrS.good ht (fun b hb => hb.2) (fun b hb => fun e => by have e : b = zw := e; have := hb.1; omega)).mono TrS.good fun b h1 => ⟨h1.1, Nat.lt_of_lt_of_le h1.2 ht.size⟩, fun i hi => by
  unfold updV
  split
  ·exact ⟨_, _, rfl⟩
  ·exact h.sl i hi, h.q0, h.qz, h.fz⟩
theorem WkM.more {g cap n : Nat} {t : Trip} (h : WkM F w0 q zw j T c wt sw G S wx) (hg : wx.grownBy w' S.ownBlock) (hl : S.ownBlock = some g ∨ wx.heap.size ≤ g) (hgw : g < w'.heap.size)
    (ho : SOwn 41 18 TrS w' (fun b => (zw < b ∧ b < wx.heap.size) ∨ b = g) (G ++ [t]) (.slice (some ⟨g, 0, none⟩) n cap)) : WkM F w0 q zw j T c wt sw (G ++ [t]) (.slice (some ⟨g, 0, none⟩) n cap) w' := by
 have hB : ∀ b, S.ownBlock = some b → zw < b ∧ b < wx.heap.size := fun b hb => by
  obtain ⟨_, _, _, hF, _⟩ := h.own
  exact hF b hb
 have ht := Turn.of_grown hg
 refine ⟨below_turn h.b ht (fun b hb => by have := hB b hb.symm; have := h.q0; have := h.qz; omega), h.cur.turn ht (fun b hb e => by have := hB b e.symm; have := h.fz b hb; have := h.q0; have := h.qz; omega) (fun e => by have := hB q e.symm; have := h.qz; omega), ht.heap h.way (fun e => by have := hB zw e.symm; omega), ho.mono TrS.good fun b hb => ?_, h.sl, h.q0, h.qz, h.fz⟩
 rcases hb with hb | rfl
 ·exact ⟨hb.1, Nat.lt_of_lt_of_le hb.2 hg.size⟩
 ·refine ⟨?_, hgw⟩
  rcases hl with h1 | h1
  ·exact (hB _ h1).1
  ·have := blk_lt h.way
   omega
end
def KeySome (v : Val) (w : World) (e : Ending) (w' : World) : Prop := ∃ A cap, e = .returned (.tuple #[.agg (cellsV v (.slice A 0 cap)), .bool true]) ∧ Below w.heap.size w w'
theorem keyS_any {F : Nat → Prop} {q j : Nat} {T : List Trip} {c : CurA} {w : World} (h : CurRd F w q j T c) {v : Val} (hk : keyA c = some v) :
    Calls Tryz.prog 14 #[.pointer (some ⟨q, 0, none⟩)] w (KeySome v w) := by
 have h1 := keyC_any h
 rw [hk] at h1
 exact h1
def DepIs (n : Nat) (w : World) (e : Ending) (w' : World) : Prop := e = .returned (.int .i64 (n : Nat)) ∧ w = w'
theorem dep_any {F : Nat → Prop} {q j n : Nat} {T : List Trip} {c : CurA} {w : World} (h : CurRd F w q j T c) (hn : c.way.length = n) :
    Calls Tryz.prog 11 #[.pointer (some ⟨q, 0, none⟩)] w (DepIs n w) := by
 have h1 := depth_any h
 rw [hn] at h1
 exact h1.mono fun e w' h => ⟨h.1, h.2.symm⟩
theorem idx_wayv (z d : Nat) (hd : d < 3) (w : World) : (Instr.indexAt 35 (.pointer (some ⟨z, 0, none⟩)) (.int .i64 (d : Nat))).run Tryz.prog w = .ok (.pointer (some ⟨z, d * 6, none⟩)) w := by
 rcases (show d = 0 ∨ d = 1 ∨ d = 2 by omega) with rfl | rfl | rfl <;> kernel_rfl
theorem wp_bsL {op : Oper} {a : Act} {K : Act → World → Prop} {Q : Exit → Act → World → Prop} {w : World} (x : Operand) (ho : op.op = .buildSlice 22 1 #[(0, x)]) {c : Array Value} (hx : a.eval x = .agg c) (hc : c.size = 18) (h : K (a.put op.dst (.slice (some ⟨w.heap.size, 0, none⟩) 1 1)) (w.alloc (.cells c 41))) : op.wp Tryz.prog a w K Q := by
 unfold Oper.wp execOp
 simp only [ho, List.map_toArray, List.map_cons, List.map_nil, hx, Sem.run_bind, Sem.run_pure, bs1_run c hc w, Result.andThen_ok]
 exact h
end Go.Proofs.YtijciakkfpjjbaaGreatDoor
