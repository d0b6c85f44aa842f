/- Walk of the law DictKeys. -/
import Derived.Test.YtdhnmgndekncpaaDoorM2
namespace Go.Proofs.YtdhnmgndekncpaaDoor
open Go Go.RowKit Go.Maps Go.WideMaps

/-- Behind k texts: the dictionary and the list hold the same keys. -/
def KeysAt (w : World) (z n : Nat) (A A2 : Option Addr) (cap n2 cap2 : Nat) (k : Nat) (ks : List ByteArray) (D : DataW Unit) (v va : Value) (wr : World) : Prop :=
  k ≤ n ∧ k ≤ 200 ∧ ks.length ≤ k ∧ wr.ownsRow (z + 1) 9 1 va ks.length (ks.map .string) ∧ DictS wr (z + 1) (z + 2) (z + 1) v ks D ∧
    (∀ g, va.ownBlock = some g → v.ownBlock ≠ some g) ∧ Below z w wr ∧ wr.heap[z]? = some (.cells #[.slice A n cap, .slice A2 n2 cap2] 25 (0, 0))

theorem own_ne_map {w : World} {base e size m n' : Nat} {v : Value} {n : Nat} {xs : List Value} {P : Program} {K : TypeId} {R : Value → Option (DataW Unit × List MemPlace)} {D : DataW Unit} (h : w.ownsRow base e size v n xs) (k : w.ownsMap P K R m n' D) : v.ownBlock ≠ some m := fun hg => by
  obtain ⟨cur, h1⟩ := own_type h hg
  obtain ⟨es, clock, hb, _⟩ := k
  rw [hb] at h1
  cases h1

set_option maxRecDepth 100000 in
set_option maxHeartbeats 1000000 in
theorem keys_any (A : Option Addr) (n cap : Nat) (A2 : Option Addr) (n2 cap2 : Nat) (xs : List ByteArray) (ys : List Int) (w : World) (hr : Reads w w.heap.size 1 A n (strs xs)) (hr2 : Reads w w.heap.size 1 A2 n2 (ints ys)) (hx : ∀ s ∈ xs, s.size ≤ maxLen) :
    Calls Tryd.prog 4 #[.agg #[.slice A n cap, .slice A2 n2 cap2]] w fun e w' => e = .returned (.bool true) ∧ Below w.heap.size w w' := by
  have HR := Lib.hid hr
  have HR2 := Lib.hid hr2
  have HX := Lib.hid hx
  clear hr hr2 hx
  have HW1 := Lib.hid (show (w.alloc (.cells #[.slice A n cap, .slice A2 n2 cap2] 25)).heap[w.heap.size]? = some (.cells #[.slice A n cap, .slice A2 n2 cap2] 25 (0, 0)) from heap_alloc_new w _)
  have HB1 := Lib.hid ((Below.refl w.heap.size w).alloc (Nat.le_refl _) (.cells #[.slice A n cap, .slice A2 n2 cap2] 25))
  have HS1 := Lib.hid (show (w.alloc (.cells #[.slice A n cap, .slice A2 n2 cap2] 25)).heap.size = w.heap.size + 1 by simp)
  go_enter Tryd.func4, Tryd.ntmps4
  go_wp2_with fail
  refine (newS_size _).mono ?_
  rintro e w2 ⟨rfl, hd, hb2, hs2⟩
  obtain ⟨z, HZ⟩ := name_it w.heap.size
  rw [HS1.out] at hd hb2 hs2 ⊢
  rw [HZ.out] at HR HR2 HW1 HB1 hd hb2 hs2 ⊢
  have HW2 := Lib.hid ((hb2.block z (by omega)).trans HW1.out)
  have HD2 := Lib.hid hd
  have HBB := Lib.hid (HB1.out.trans (hb2.mono (by omega)))
  have HZ2 := Lib.hid hs2
  clear hd hb2 hs2
  go_wp2_with fail
  go_loopw [4, 5] (fun va i wr => ∃ k ks D v, i = .int .i64 (k : Nat) ∧ KeysAt w z n A A2 cap n2 cap2 k ks D v va wr) (fun _ i _ => n - (intOf i).toNat)
  case atStart =>
    exact ⟨0, [], .map [], _, rfl, by omega, by omega, by simp, World.ownsRow_nil _ _ _ _, HD2.out, (fun g hg => by cases hg), HBB.out, HW2.out⟩
  case round =>
    obtain ⟨k, ks, D, v, rfl, hk⟩ := hrel
    have HK := Lib.hid hk
    obtain ⟨hkn, hk2, hkl, _, _, _, hbz, hbox⟩ := hk
    have c0 : wr.cell? ⟨z, 0, none⟩ = some (.slice A n cap) := Lib.cell_of_heap hbox 0
    have c1 : wr.cell? ⟨z, 1, none⟩ = some (.slice A2 n2 cap2) := Lib.cell_of_heap hbox 1
    have HBZ := Lib.hid hbz
    have HBOX := Lib.hid hbox
    clear hbz hbox
    go_upto_region 6 with fail
    go_cut [24] (fun s24 wx => s24 = .bool (decide (k < n ∧ k < 200)) ∧ wx = wr)
    case first =>
      by_cases h1 : k < n
      · by_cases h2 : k < 200
        · go_wp2_with fail
          go_meet
          exact ⟨by simp [h1]; omega, rfl⟩
        · go_wp2_with fail
          go_meet
          exact ⟨by simp [h1]; omega, rfl⟩
      · go_wp2_with fail
        go_meet
        exact ⟨by simp [h1], rfl⟩
    case rest =>
      obtain ⟨h24, rfl⟩ := hcut
      by_cases hlt : k < n ∧ k < 200
      · have t1 : decide (k < n ∧ k < 200) = true := decide_eq_true hlt
        rw [t1] at h24
        subst h24
        clear t1
        obtain ⟨hlt, h200⟩ := hlt
        obtain ⟨ad, s, rfl, hs, hc⟩ := reads_str (HR.out.below HBZ.out) hlt
        have hsv : VS s := HX.out s (List.mem_of_getElem? hs)
        have HS := Lib.hid hs
        clear hs
        have e1 : (0 : Int) ≤ k := by omega
        have e2 : (k : Int) < n := by omega
        have HI := Lib.hid (index_any (w := wc) (v := u4) (ks := ks) (B := z + 1) (by assumption) s (by omega))
        have HOW := Lib.hid (show wc.ownsRow (z + 1) 9 1 u4 ks.length (ks.map .string) by assumption)
        have HDS := Lib.hid (show DictS wc (z + 1) (z + 2) (z + 1) v ks D by assumption)
        have HSEP := Lib.hid (show ∀ (g : Nat), u4.ownBlock = some g → v.ownBlock ≠ some g by assumption)
        obtain ⟨A4, cp4, h4⟩ := slice_form HOW.out
        subst h4
        by_cases hin : s ∈ ks
        · have hI : idxI ks s = ((place ks s : Nat) : Int) := by unfold idxI; rw [if_pos (place_lt hin)]
          have hF := findS_yes HDS.out s hsv hin
          have hD := idS_old HDS.out s hsv hin
          have hL := lenS_any HDS.out
          obtain ⟨q, HQ⟩ := name_it (place ks s)
          rw [HQ.out] at hI hF hD
          have HF := Lib.hid hF
          have HD := Lib.hid hD
          have HL := Lib.hid hL
          have HI' := Lib.hid hI
          clear hF hD hL hI
          go_wp2_with (first
            | (go_at_call 21; refine HI.out.mono ?_; rintro e w' ⟨rfl, rfl⟩; rw [HI'.out])
            | (go_at_call 22; refine HF.out.mono ?_; rintro e w' ⟨rfl, rfl⟩)
            | (go_at_call 13; refine HD.out.mono ?_; rintro e w' ⟨rfl, rfl⟩)
            | (go_at_call 19; refine HL.out.mono ?_; rintro e w' ⟨rfl, rfl⟩))
          go_roundw
          case rel => exact ⟨k + 1, ks, D, v, by go_num, by omega, by omega, by omega, HOW.out, HDS.out, HSEP.out, HBZ.out, HBOX.out⟩
          case measure => simp [intOf]; omega
        · have hI : idxI ks s = -1 := by unfold idxI; rw [place_no hin, if_neg (by omega)]
          have HF := Lib.hid (findS_no HDS.out s hsv hin)
          have HI' := Lib.hid hI
          have hm1 := own_ne_map HOW.out HDS.out.map
          have hm2 := own_ne HOW.out HDS.out.blk (by decide)
          have HM1 := Lib.hid hm1
          have HM2 := Lib.hid hm2
          have HLO := Lib.hid (show ∀ g, (Value.slice A4 ks.length cp4).ownBlock = some g → z + 1 ≤ g ∧ g < wc.heap.size from fun g hg => HOW.out.lt g hg)
          have hlt2 := HDS.out.lt
          have HDL := Lib.hid hlt2
          have hB : z + 1 ≤ wc.heap.size := by have := hlt2.1; omega
          clear hI hm1 hm2 hlt2
          go_wp2_with (first
            | (go_at_call 21; refine HI.out.mono ?_; rintro e w' ⟨rfl, rfl⟩; rw [HI'.out])
            | (go_at_call 22; refine HF.out.mono ?_; rintro e w' ⟨rfl, rfl⟩)
            | (at_builtin; refine app_new rfl _ _ 22 rfl (z + 1) 9 (.string ⟨#[]⟩) 1 16 Tryd.underlying22 infoString rfl (by decide) _ _ _ rfl HOW.out hB #[.string s] 1 1 rfl rfl (one_str _) (by omega) (by omega) (by decide) ?_))
          intro g4 cp4 w4 ho4 hg4 hl4
          have HO4 := Lib.hid (show w4.ownsRow (z + 1) 9 1 (.slice (some ⟨g4, 0, none⟩) (ks.length + 1) cp4) (ks.length + 1) ((ks ++ [s]).map .string) from by rw [List.map_append]; exact ho4)
          have HT4 := Lib.hid (show Turn (fun i => some i = (Value.slice A4 ks.length _).ownBlock) w' w4 from Turn.of_grown hg4)
          have HL4 := Lib.hid hl4
          have HDS4 := Lib.hid (HDS.out.turn HT4.out (fun e => HM2.out e.symm) (fun e => HM1.out e.symm) (fun g hg e => HSEP.out g e.symm hg))
          have HBOX4 := Lib.hid ((HT4.out.block z (by have := blk_lt HBOX.out; omega) (fun e => by have := (HLO.out z e.symm).1; omega)).trans HBOX.out)
          have d0 : w4.cell? ⟨z, 0, none⟩ = some (.slice (some ad) n cap) := Lib.cell_of_heap HBOX4.out 0
          have HBZ4 := Lib.hid (HBZ.out.trans (HT4.out.below (B := z) (fun i _ e => by have := (HLO.out i e.symm).1; omega) (by omega)))
          have hc4 : w4.cell? (ad.add k) = some (.string s) := by
            obtain ⟨ad', s', ha, hs', hc'⟩ := reads_str (HR.out.below HBZ4.out) hlt
            injection ha with ha
            subst ha
            rw [HS.out] at hs'
            injection hs' with hs'
            subst hs'
            exact hc'
          have hz4 : w'.heap.size ≤ w4.heap.size := HT4.out.size
          have HN := Lib.hid (idS_new HDS4.out s hsv hin (by omega))
          clear ho4 hg4 hl4 hc c0
          go_wp2_with fail
          refine HN.out.mono ?_
          rintro e w5 ⟨rfl, ⟨v5, hd5, hf5⟩, ht5⟩
          have HD5 := Lib.hid hd5
          have HF5 := Lib.hid hf5
          have HT5 := Lib.hid ht5
          have hvlo : ∀ i, SB (z + 2) (z + 1) v i → z + 1 ≤ i := SB_ge HDS4.out
          have HBOX5 := Lib.hid ((HT5.out.block z (by have := blk_lt HBOX4.out; omega) (fun e => by have := hvlo _ e; omega)).trans HBOX4.out)
          have HBZ5 := Lib.hid (HBZ4.out.trans (HT5.out.below (B := z) (fun i _ e => by have := hvlo i e; omega) (by omega)))
          have hg4v : v.ownBlock ≠ some g4 := fun e => by
            rcases HL4.out with h0 | h0
            · exact HSEP.out g4 h0 e
            · have h1 := (HDS.out.lt.2.2 g4 e).2
              have h0 : w'.heap.size ≤ g4 := h0
              omega
          have HO5 := Lib.hid (HT5.out.owns HO4.out (fun i hi e => by
            injection hi with hi
            have hi : g4 = i := hi
            subst hi
            rcases e with e | e | e
            · exact own_ne HO4.out HDS4.out.blk (by decide) (by rw [← e]; rfl)
            · exact own_ne_map HO4.out HDS4.out.map (by rw [← e]; rfl)
            · exact hg4v e.symm))
          have HSEP5 := Lib.hid (show ∀ g, (Value.slice (some ⟨g4, 0, none⟩) (ks.length + 1) cp4).ownBlock = some g → v5.ownBlock ≠ some g from fun g hg e => by
            injection hg with hg
            have hg : g4 = g := hg
            subst hg
            rcases HF5.out with h0 | h0
            · rw [h0] at e; exact hg4v e
            · have := h0 g4 e
              have := (HO4.out.lt g4 rfl).2
              omega)
          have HL5 := lenS_any HD5.out
          rw [List.length_append] at HL5
          have HL5' := Lib.hid (show Calls Tryd.prog 19 #[.pointer (some ⟨z + 2, 0, none⟩)] w5 fun e w' => e = .returned (.int .i64 ((ks.length : Int) + 1)) ∧ w' = w5 from HL5)
          clear hd5 hf5 ht5 HL5 d0 hc4 hvlo
          go_wp2_with (go_at_call 19; refine HL5'.out.mono ?_; rintro e w6 ⟨rfl, rfl⟩)
          go_roundw
          case rel => exact ⟨k + 1, ks ++ [s], _, v5, by go_num, by omega, by omega, by simp; omega, by rw [List.length_append]; exact HO5.out, HD5.out, HSEP5.out, HBZ5.out, HBOX5.out⟩
          case measure => simp [intOf]; omega
      · have t1 : decide (k < n ∧ k < 200) = false := decide_eq_false hlt
        rw [t1] at h24
        subst h24
        clear t1
        have HOW := Lib.hid (show wc.ownsRow (z + 1) 9 1 u4 ks.length (ks.map .string) by assumption)
        have HDS := Lib.hid (show DictS wc (z + 1) (z + 2) (z + 1) v ks D by assumption)
        go_wp2_with fail
        go_loop [9] (fun i => ∃ j : Nat, j ≤ n2 ∧ j ≤ 50 ∧ i = .int .i64 j) (fun i => n2 - (intOf i).toNat)
        case atStart => exact ⟨0, by omega, by omega, rfl⟩
        case round =>
          obtain ⟨j, hj, hj5, rfl⟩ := hrel
          go_upto_region 18 with fail
          go_cut [100] (fun s100 wx => s100 = .bool (decide (j < n2 ∧ j < 50)) ∧ wx = wc)
          case first =>
            by_cases h1 : j < n2
            · by_cases h2 : j < 50
              · go_wp2_with fail
                go_meet
                exact ⟨by simp [h1]; omega, rfl⟩
              · go_wp2_with fail
                go_meet
                exact ⟨by simp [h1]; omega, rfl⟩
            · go_wp2_with fail
              go_meet
              exact ⟨by simp [h1], rfl⟩
          case rest =>
            obtain ⟨h100, rfl⟩ := hcut
            by_cases hjt : j < n2 ∧ j < 50
            · have t2 : decide (j < n2 ∧ j < 50) = true := decide_eq_true hjt
              rw [t2] at h100
              subst h100
              clear t2
              obtain ⟨hjl, hj50⟩ := hjt
              obtain ⟨ad2, y, rfl, hy, hcy⟩ := reads_int (HR2.out.below HBZ.out) hjl
              have e1 : (0 : Int) ≤ j := by omega
              have e2 : (j : Int) < n2 := by omega
              obtain ⟨A4, cp4, h4⟩ := slice_form HOW.out
              subst h4
              have HY := Lib.hid hy
              clear hy
              by_cases h0 : 0 ≤ y
              · obtain ⟨m, rfl⟩ := Int.eq_ofNat_of_zero_le h0
                by_cases hm : m < ks.length
                · obtain ⟨g, cpg, hv, _, _⟩ := HOW.out.form (by omega)
                  injection hv with hv _ hcp
                  subst hv
                  clear hcp
                  have HKY := Lib.hid (keyS_yes HDS.out m hm (by omega))
                  have hcm : wc.cell? ⟨g, m, none⟩ = some (.string (ks[m]'hm)) := by
                    rw [HOW.out.cellAt m (by omega), List.getElem?_map, List.getElem?_eq_getElem hm]; rfl
                  obtain ⟨x, HXX⟩ := name_it (ks[m]'hm)
                  rw [HXX.out] at hcm HKY
                  have e3 : (m : Int) < ks.length := by omega
                  go_wp2_with (go_at_call 23; refine HKY.out.mono ?_; rintro e w6 ⟨rfl, rfl⟩)
                  go_round
                  case rel => exact ⟨j + 1, by omega, by omega, by go_num⟩
                  case measure => simp [intOf]; omega
                · have HKN := Lib.hid (keyS_no HDS.out (m : Int) (.inr (by omega)))
                  have e3 : (ks.length : Int) ≤ m := by omega
                  go_wp2_with (go_at_call 23; refine HKN.out.mono ?_; rintro e w6 ⟨rfl, rfl⟩)
                  go_round
                  case rel => exact ⟨j + 1, by omega, by omega, by go_num⟩
                  case measure => simp [intOf]; omega
              · have HKN := Lib.hid (keyS_no HDS.out y (.inl (by omega)))
                have h0' : y < 0 := by omega
                go_wp2_with (go_at_call 23; refine HKN.out.mono ?_; rintro e w6 ⟨rfl, rfl⟩)
                go_round
                case rel => exact ⟨j + 1, by omega, by omega, by go_num⟩
                case measure => simp [intOf]; omega
            · have t2 : decide (j < n2 ∧ j < 50) = false := decide_eq_false hjt
              rw [t2] at h100
              subst h100
              clear t2
              go_wp2_with fail
              refine (wakes_any _).mono ?_
              rintro e w9 ⟨rfl, hb9⟩
              go_wp2
              go_ret
              exact ⟨rfl, by rw [HZ.out]; exact HBZ.out.trans (hb9.mono (by have := blk_lt HBOX.out; omega))⟩
end Go.Proofs.YtdhnmgndekncpaaDoor
