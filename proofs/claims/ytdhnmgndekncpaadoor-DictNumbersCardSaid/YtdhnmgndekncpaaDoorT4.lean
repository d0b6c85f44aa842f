/- Walk of the law DictNumbers. -/
import Derived.Test.YtdhnmgndekncpaaDoorT3
import Derived.Test.YtdhnmgndekncpaaDoorR0
import Derived.Test.YtdhnmgndekncpaaDoorM1
import Derived.Test.YtdhnmgndekncpaaDoorN1
namespace Go.Proofs.YtdhnmgndekncpaaDoor
open Go Go.RowKit Go.Maps Go.WideMaps

/-- Behind j numbers: three dictionaries of the same keys. -/
def ThreeAt (z j : Nat) (X : Obj) (w wr : World) : Prop :=
  ∃ (ks : List Int) (va vb vc : Value) (Da Db Dc : DataW Unit), ks.length ≤ j ∧ Below z w wr ∧ wr.heap[z]? = some X ∧
    DictI wr (z + 1) (z + 2) (z + 1) va ks Da ∧ DictP wr (z + 3) (z + 4) (z + 3) vb ks Db ∧ DictS wr (z + 5) (z + 6) (z + 5) vc (ks.map numS) Dc

set_option maxRecDepth 100000 in
set_option maxHeartbeats 4000000 in
theorem numbers_any (A : Option Addr) (n cap : Nat) (A2 : Option Addr) (n2 cap2 : Nat) (ys : List Int) (w : World) (hr2 : Reads w w.heap.size 1 A2 n2 (ints ys)) (hy : ∀ y ∈ ys, VI y) :
    Calls Tryd.prog 3 #[.agg #[.slice A n cap, .slice A2 n2 cap2]] w fun e w' => e = .returned (.bool true) ∧ Below w.heap.size w w' := by
  have HR2 := Lib.hid hr2
  have HY := Lib.hid hy
  clear hr2 hy
  have HW1 := Lib.hid (show (w.alloc (.cells #[.slice A n cap, .slice A2 n2 cap2] 25)).heap[w.heap.size]? = some (.cells #[.slice A n cap, .slice A2 n2 cap2] 25 (0, 0)) from heap_alloc_new w _)
  have HB1 := Lib.hid ((Below.refl w.heap.size w).alloc (Nat.le_refl _) (.cells #[.slice A n cap, .slice A2 n2 cap2] 25))
  have HS1 := Lib.hid (show (w.alloc (.cells #[.slice A n cap, .slice A2 n2 cap2] 25)).heap.size = w.heap.size + 1 by simp)
  go_enter Tryd.func3, Tryd.ntmps3
  go_wp2_with fail
  refine (newDI_size _).mono ?_
  rintro e w2 ⟨rfl, hd, hb2, hs2⟩
  obtain ⟨z, HZ⟩ := name_it w.heap.size
  rw [HS1.out] at hd hb2 hs2 ⊢
  rw [HZ.out] at HR2 HW1 HB1 hd hb2 hs2 ⊢
  have HW2 := Lib.hid ((hb2.block z (by omega)).trans HW1.out)
  have HA2 := Lib.hid hd
  have HBB2 := Lib.hid (HB1.out.trans (hb2.mono (by omega)))
  have HZ2 := Lib.hid (show w2.heap.size = z + 3 by omega)
  clear hd hb2 hs2
  go_wp2_with fail
  refine (newDP_size _).mono ?_
  rintro e w3 ⟨rfl, hd, hb3, hs3⟩
  rw [HZ2.out] at hd hb3 hs3 ⊢
  have HW3 := Lib.hid ((hb3.block z (by omega)).trans HW2.out)
  have HA3 := Lib.hid (HA2.out.turn (Turn.of_below hb3) (by omega) (by omega) (fun g hg => by cases hg))
  have HP3 := Lib.hid hd
  have HBB3 := Lib.hid (HBB2.out.trans (hb3.mono (by omega)))
  have HZ3 := Lib.hid (show w3.heap.size = z + 5 by omega)
  clear hd hb3 hs3
  go_wp2_with fail
  refine (newS_size _).mono ?_
  rintro e w4 ⟨rfl, hd, hb4, hs4⟩
  rw [HZ3.out] at hd hb4 hs4 ⊢
  have HW4 := Lib.hid ((hb4.block z (by omega)).trans HW3.out)
  have HA4 := Lib.hid (HA3.out.turn (Turn.of_below hb4) (by omega) (by omega) (fun g hg => by cases hg))
  have HP4 := Lib.hid (HP3.out.turn (Turn.of_below hb4) (by omega) (by omega) (fun g hg => by cases hg))
  have HC4 := Lib.hid hd
  have HBB4 := Lib.hid (HBB3.out.trans (hb4.mono (by omega)))
  clear hd hb4 hs4
  go_wp2_with fail
  go_loopw [6] (fun i wr => ∃ j : Nat, j ≤ n2 ∧ j ≤ 200 ∧ i = .int .i64 j ∧ ThreeAt z j (.cells #[.slice A n cap, .slice A2 n2 cap2] 25 (0, 0)) w wr) (fun i _ => n2 - (intOf i).toNat)
  case atStart => exact ⟨0, by omega, by omega, rfl, [], _, _, _, _, _, _, Nat.le_refl _, HBB4.out, HW4.out, HA4.out, HP4.out, HC4.out⟩
  case round =>
    obtain ⟨j, hj2, hj200, rfl, ks, va, vb, vc, Da, Db, Dc, hkl, hbz, hbox, hda, hdb, hdc⟩ := hrel
    have c1 : wr.cell? ⟨z, 1, none⟩ = some (.slice A2 n2 cap2) := Lib.cell_of_heap hbox 1
    have HBZ := Lib.hid hbz
    have HBOX := Lib.hid hbox
    have HA := Lib.hid hda
    have HP := Lib.hid hdb
    have HC := Lib.hid hdc
    clear hbz hbox hda hdb hdc
    go_upto_region 7 with fail
    go_cut [33] (fun s33 wx => s33 = .bool (decide (j < n2 ∧ j < 200)) ∧ wx = wr)
    case first =>
      by_cases h1 : j < n2
      · by_cases h2 : j < 200
        · go_wp2_with fail
          go_meet
          exact ⟨by simp [h1]; omega, rfl⟩
        · go_wp2_with fail
          go_meet
          exact ⟨by simp [h1]; omega, rfl⟩
      · go_wp2_with fail
        go_meet
        exact ⟨by simp [h1], rfl⟩
    case rest =>
      obtain ⟨h33, rfl⟩ := hcut
      by_cases hlt : j < n2 ∧ j < 200
      · have t1 : decide (j < n2 ∧ j < 200) = true := decide_eq_true hlt
        rw [t1] at h33
        subst h33
        clear t1
        obtain ⟨hlt, h200⟩ := hlt
        obtain ⟨ad, y, rfl, hy, hcy⟩ := reads_int (HR2.out.below HBZ.out) hlt
        have hyv : VI y := HY.out y (List.mem_of_getElem? hy)
        have hyb : -9223372036854775808 ≤ y ∧ y ≤ 9223372036854775807 := by
          unfold VI at hyv
          simpa [Lit.wf, IntKind.min, IntKind.max, IntKind.signed, IntKind.bits] using hyv
        have HYV := Lib.hid hyv
        have HYB := Lib.hid hyb
        have hb0 := ad.block
        have e1 : (0 : Int) ≤ j := by omega
        have e2 : (j : Int) < n2 := by omega
        have had : ad.block < z := by
          obtain ⟨ad', e, hb, _⟩ := HR2.out.2 (by omega)
          injection e with e
          subst e
          exact hb
        have hzl : z < wc.heap.size := blk_lt HBOX.out
        have HYC := Lib.hid (show ∀ wx, Below z w wx → wx.cell? (ad.add j) = some (.int .i64 y) from fun wx hbx => (hbx.cell (p := ad.add j) (by rw [block_of_add]; exact had)).trans ((HBZ.out.cell (p := ad.add j) (by rw [block_of_add]; exact had)).symm.trans hcy))
        obtain ⟨p, HPL⟩ := name_it (place (addK ks y) y)
        have hpm : (addK ks y)[p]? = some y := by rw [← HPL.out]; exact place_get (addK_mem ks y)
        have hal := addK_len ks y
        have HPM := Lib.hid hpm
        have hida := idDI_any HA.out y hyv (by omega)
        unfold IdIIs at hida
        rw [HPL.out] at hida
        have HIDA := Lib.hid hida
        clear hy hyv hyb hida hpm hb0
        go_wp2_with fail
        refine HIDA.out.mono ?_
        rintro e w5 ⟨rfl, ⟨va5, Da5, ha5⟩, ht5⟩
        have HA5 := Lib.hid ha5
        have HP5 := Lib.hid (HP.out.kept ht5 HA.out.kinds (by decide) (by decide) (by decide) (by decide) (by omega))
        have HC5 := Lib.hid (HC.out.kept ht5 HA.out.kinds (by decide) (by decide) (by decide) (by decide) (by omega))
        have hnz : ¬ SB (z + 2) (z + 1) va z := fun h => by have := SBI_ge HA.out z h; omega
        have hlo : ∀ i, SB (z + 2) (z + 1) va i → z ≤ i := fun i h => by have := SBI_ge HA.out i h; omega
        have HBZ5 := Lib.hid (HBZ.out.trans (ht5.below (fun i _ h => hlo i h) (Nat.le_of_lt hzl)))
        have HBOX5 := Lib.hid ((ht5.block z hzl hnz).trans HBOX.out)
        have hz5 : z < w5.heap.size := Nat.lt_of_lt_of_le hzl ht5.size
        have c5 : w5.cell? ⟨z, 1, none⟩ = some (.slice (some ad) n2 cap2) := Lib.cell_of_heap HBOX5.out 1
        have hcy5 := HYC.out w5 HBZ5.out
        clear ha5 ht5 c1 hcy hnz hlo
        have hidp := idDP_any HP5.out y HYV.out (by omega)
        unfold IdP2Is at hidp
        rw [HPL.out] at hidp
        have HIDP := Lib.hid hidp
        clear hidp
        go_wp2_with fail
        refine HIDP.out.mono ?_
        rintro e w6 ⟨rfl, ⟨vb6, Db6, hb6⟩, ht6⟩
        have HP6 := Lib.hid hb6
        have HA6 := Lib.hid (HA5.out.kept ht6 HP5.out.kinds (by decide) (by decide) (by decide) (by decide) (by omega))
        have HC6 := Lib.hid (HC5.out.kept ht6 HP5.out.kinds (by decide) (by decide) (by decide) (by decide) (by omega))
        have hnz : ¬ SB (z + 4) (z + 3) vb z := fun h => by have := SBP_ge HP5.out z h; omega
        have hlo : ∀ i, SB (z + 4) (z + 3) vb i → z ≤ i := fun i h => by have := SBP_ge HP5.out i h; omega
        have HBZ6 := Lib.hid (HBZ5.out.trans (ht6.below (fun i _ h => hlo i h) (Nat.le_of_lt hz5)))
        have HBOX6 := Lib.hid ((ht6.block z hz5 hnz).trans HBOX5.out)
        have hz6 : z < w6.heap.size := Nat.lt_of_lt_of_le hz5 ht6.size
        have c6 : w6.cell? ⟨z, 1, none⟩ = some (.slice (some ad) n2 cap2) := Lib.cell_of_heap HBOX6.out 1
        have hcy6 := HYC.out w6 HBZ6.out
        have HNUM := Lib.hid (number_any y HYB.out.1 HYB.out.2)
        have HVS := Lib.hid (numS_len HYB.out.1 HYB.out.2)
        obtain ⟨sy, HSY⟩ := name_it (numS y)
        clear hb6 ht6 hnz hlo c5 hcy5
        go_wp2_with fail
        refine (HNUM.out _).mono ?_
        rintro e w7 ⟨rfl, hb7⟩
        rw [HSY.out]
        have HP7 := Lib.hid (HP6.out.below hb7)
        have HA7 := Lib.hid (HA6.out.turn (Turn.of_below hb7) (by have := HA6.out.lt.1; omega) (by have := HA6.out.lt.2.1; omega) (fun g hg => by have := (HA6.out.lt.2.2 g hg).2; omega))
        have HC7 := Lib.hid (HC6.out.turn (Turn.of_below hb7) (by have := HC6.out.lt.1; omega) (by have := HC6.out.lt.2.1; omega) (fun g hg => by have := (HC6.out.lt.2.2 g hg).2; omega))
        have HBZ7 := Lib.hid (HBZ6.out.trans (hb7.mono (Nat.le_of_lt hz6)))
        have HBOX7 := Lib.hid ((hb7.block z hz6).trans HBOX6.out)
        have hz7 : z < w7.heap.size := Nat.lt_of_lt_of_le hz6 hb7.size
        have hids := idDS_any HC7.out (numS y) HVS.out (by simp; omega)
        unfold IdSIs at hids
        rw [addK_map, place_map, HPL.out, HSY.out] at hids
        have HIDS := Lib.hid hids
        clear hb7 hids c6 hcy6
        go_wp2_with fail
        refine HIDS.out.mono ?_
        rintro e w8 ⟨rfl, ⟨vc8, Dc8, hc8⟩, ht8⟩
        have HC8 := Lib.hid hc8
        have HA8 := Lib.hid (HA7.out.kept ht8 HC7.out.kinds (by decide) (by decide) (by decide) (by decide) (by omega))
        have HP8 := Lib.hid (HP7.out.kept ht8 HC7.out.kinds (by decide) (by decide) (by decide) (by decide) (by omega))
        have hnz : ¬ SB (z + 6) (z + 5) vc z := fun h => by have := SB_ge HC7.out z h; omega
        have hlo : ∀ i, SB (z + 6) (z + 5) vc i → z ≤ i := fun i h => by have := SB_ge HC7.out i h; omega
        have HBZ8 := Lib.hid (HBZ7.out.trans (ht8.below (fun i _ h => hlo i h) (Nat.le_of_lt hz7)))
        have HBOX8 := Lib.hid ((ht8.block z hz7 hnz).trans HBOX7.out)
        have hz8 : z < w8.heap.size := Nat.lt_of_lt_of_le hz7 ht8.size
        have hpl : p < (addK ks y).length := by
          rcases Nat.lt_or_ge p (addK ks y).length with h | h
          · exact h
          · have := HPM.out
            rw [List.getElem?_eq_none h] at this; cases this
        have hpg : (addK ks y)[p] = y := by
          have := HPM.out
          rw [List.getElem?_eq_getElem hpl] at this
          exact Option.some.inj this
        have hk1 := keyDI_yes HA8.out p hpl (by omega)
        have hk2 := keyDP_yes HP8.out p hpl (by omega)
        rw [hpg] at hk1 hk2
        have HK1 := Lib.hid hk1
        have HK2 := Lib.hid hk2
        clear hc8 ht8 hnz hlo hpl hpg hk1 hk2
        go_wp2_with fail
        refine HK1.out.mono ?_
        rintro e w9 ⟨rfl, rfl⟩
        go_wp2_with fail
        refine HK2.out.mono ?_
        rintro e w10 ⟨rfl, hb10⟩
        have hA10 := HA8.out.turn (Turn.of_below hb10) (by have := HA8.out.lt.1; omega) (by have := HA8.out.lt.2.1; omega) (fun g hg => by have := (HA8.out.lt.2.2 g hg).2; omega)
        have hC10 := HC8.out.turn (Turn.of_below hb10) (by have := HC8.out.lt.1; omega) (by have := HC8.out.lt.2.1; omega) (fun g hg => by have := (HC8.out.lt.2.2 g hg).2; omega)
        have hP10 := HP8.out.below hb10
        have hbz10 := HBZ8.out.trans (hb10.mono (Nat.le_of_lt hz8))
        have hbox10 := (hb10.block z hz8).trans HBOX8.out
        have hz10 : z < w10.heap.size := Nat.lt_of_lt_of_le hz8 hb10.size
        have hal11 := (Below.refl w10.heap.size w10).alloc (Nat.le_refl _) (.cells #[.int .i64 y, .int .i64 7] 30)
        have hx11 := heap_alloc_new w10 (.cells #[.int .i64 y, .int .i64 7] 30)
        obtain ⟨W11, HW11⟩ := name_it (w10.alloc (.cells #[.int .i64 y, .int .i64 7] 30))
        rw [HW11.out] at hal11 hx11
        have HA11 := Lib.hid (hA10.turn (Turn.of_below hal11) (by have := hA10.lt.1; omega) (by have := hA10.lt.2.1; omega) (fun g hg => by have := (hA10.lt.2.2 g hg).2; omega))
        have HC11 := Lib.hid (hC10.turn (Turn.of_below hal11) (by have := hC10.lt.1; omega) (by have := hC10.lt.2.1; omega) (fun g hg => by have := (hC10.lt.2.2 g hg).2; omega))
        have HP11 := Lib.hid (hP10.below hal11)
        have HBZ11 := Lib.hid (hbz10.trans (hal11.mono (Nat.le_of_lt hz10)))
        have HBOX11 := Lib.hid ((hal11.block z hz10).trans hbox10)
        obtain ⟨g11, HG11⟩ := name_it w10.heap.size
        rw [HG11.out] at hx11
        have x0 : W11.cell? ⟨g11, 0, none⟩ = some (.int .i64 y) := Lib.cell_of_heap hx11 0
        have x1 : W11.cell? ⟨g11, 1, none⟩ = some (.int .i64 7) := Lib.cell_of_heap hx11 1
        have c11 : W11.cell? ⟨z, 1, none⟩ = some (.slice (some ad) n2 cap2) := Lib.cell_of_heap HBOX11.out 1
        have hcy11 := HYC.out W11 HBZ11.out
        have hyy : (y != y) = false := by simp
        have hneq := fun W => neq30 W y
        have hgd : Tryd.prog.eqGuardType Tryd.prog.depth 30 = false := by kernel_rfl
        clear hA10 hC10 hP10 hbz10 hbox10 hal11 hx11 hb10
        go_upto_region 14 with fail
        rw [HW11.out, HG11.out]
        go_quiet (fail)
        go_wp2_with fail
        go_roundw
        case rel =>
          have hdn := Turn.drewN W11 nq
          have hz11 : z < W11.heap.size := blk_lt HBOX11.out
          exact ⟨j + 1, by omega, by omega, by go_num, addK ks y, _, _, _, _, _, _, by omega, HBZ11.out.trans (hdn.below (fun _ _ h => h.elim) (Nat.le_of_lt hz11)), (hdn.block z hz11 (fun h => h)).trans HBOX11.out,
            HA11.out.turn hdn (fun h => h) (fun h => h) (fun _ _ h => h), HP11.out.turn hdn (fun h => h) (fun h => h) (fun _ _ h => h), HC11.out.turn hdn (fun h => h) (fun h => h) (fun _ _ h => h)⟩
        case measure => simp [intOf]; omega
      · have t1 : decide (j < n2 ∧ j < 200) = false := decide_eq_false hlt
        rw [t1] at h33
        subst h33
        clear t1
        have K1 := Lib.hid (lenDI_any HA.out)
        have K2 := Lib.hid (lenDP_any HP.out)
        have k3 := lenS_any HC.out
        rw [List.length_map] at k3
        have K3 := Lib.hid k3
        clear k3
        go_wp2_with (first
          | ((with_reducible refine K1.out.mono ?_); rintro e w' ⟨rfl, rfl⟩)
          | ((with_reducible refine K2.out.mono ?_); rintro e w' ⟨rfl, rfl⟩)
          | ((with_reducible refine K3.out.mono ?_); rintro e w' ⟨rfl, rfl⟩))
        refine (wakes_any _).mono ?_
        rintro e w9 ⟨rfl, hb9⟩
        go_wp2_with fail
        go_ret
        exact ⟨rfl, by rw [HZ.out]; exact HBZ.out.trans (hb9.mono (Nat.le_of_lt (blk_lt HBOX.out)))⟩
end Go.Proofs.YtdhnmgndekncpaaDoor
