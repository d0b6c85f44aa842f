/- The walk of 'Load'. -/
import Derived.Test.YtmhjbicbdahllaaGreatDoorGH
namespace Go.Proofs.YtmhjbicbdahllaaGreatDoor
open Go Go.RowKit Go.Maps Go.WideMaps Go.MapKept

set_option maxRecDepth 100000 in
set_option maxHeartbeats 8000000 in
theorem load_any (g : GraphD) (hfit : FitG g) (F : Nat → Prop) (u : Value) (w : World) (hF : ∀ b, F b → b < w.heap.size) (hg : GrR w F g u) (hgl : GlobB w) :
    Calls Tryz.prog 10 #[u] w (LoadIs g w) := by
  have hmm := @run_makeMap Tryz.prog
  obtain ⟨NV, EV, rfl, ⟨AN, cN, rfl, hcN, hlN⟩, AE, cE, rfl, hcE, hlE⟩ := hg
  have HF := Lib.hid hF
  have HG := Lib.hid hgl
  have HFIT := Lib.hid hfit
  have HLN := Lib.hid hlN
  have HLE := Lib.hid hlE
  have hn1 := hfit.1
  have hn2 := hfit.2.1
  obtain ⟨nN, HnN⟩ := name_itV g.nodes.length
  obtain ⟨nE, HnE⟩ := name_itV g.edges.length
  rw [HnN.out] at HLN hn1 ⊢
  rw [HnE.out] at HLE hn2 ⊢
  clear hF hgl hfit hlN hlE hcN hcE
  obtain ⟨z, HZ⟩ := name_itV w.heap.size
  have hmay := Lib.hid (show mayG g = (decide (nN ≤ 131072 ∧ nE ≤ 65536) && (scanG okN NodeD.id [] g.nodes && scanG (okE (g.nodes.map NodeD.id)) EdgeD.id [] g.edges)) from by rw [← HnN.out, ← HnE.out]; rfl)
  by_cases hlen : nN ≤ 131072 ∧ nE ≤ 65536
  · have e1 : decide ((131072 : Int) < nN) = false := decide_eq_false (by omega)
    have e2 : decide ((65536 : Int) < nE) = false := decide_eq_false (by omega)
    rw [decide_eq_true hlen] at hmay
    have hn1 : nN ≤ 131072 := hlen.1
    have hn2 : nE ≤ 65536 := hlen.2
    clear hlen
    go_enter Tryz.func10, Tryz.ntmps10
    go_wp2_with fail
    rw [HZ.out]
    simp only [Nat.add_assoc, Nat.reduceAdd]
    obtain ⟨w6, HW6⟩ := name_itV ((((((w.alloc (.cells #[.slice AN nN cN, .slice AE nE cE] 25)).alloc (.map #[] 0)).alloc (.map #[] 0)).alloc (.map #[] 0)).alloc (.cells #[.slice none 0 0, .slice none 0 0, .map (some (z + 1)), .map (some (z + 2)), .map (some (z + 3))] 65)).alloc (.map #[] 0))
    have HL0 := Lib.hid (show Load1 w z (.slice AN nN cN) (.slice AE nE cE) g.nodes [] 0 [] (.slice none 0 0) w6 from by
      have hz := HZ.out
      have hh := six_new w (.cells #[.slice AN nN cN, .slice AE nE cE] 25) (.map #[] 0) (.map #[] 0) (.map #[] 0) (.cells #[.slice none 0 0, .slice none 0 0, .map (some (z + 1)), .map (some (z + 2)), .map (some (z + 3))] 65) (.map #[] 0)
      rw [HW6.out] at hh
      refine ⟨?_, ?_, ?_, ?_, ?_, ?_, ?_, SOwn.nil .., All2.nil _, rfl⟩
      · rw [← HW6.out]
        exact ((((((Below.refl _ _).alloc (by omega) _).alloc (by simp; omega) _).alloc (by simp; omega) _).alloc (by simp; omega) _).alloc (by simp; omega) _).alloc (by simp; omega) _
      · rw [hh]; exact app_at (i := 0) hz rfl
      · rw [hh]; exact app_at (i := 1) hz rfl
      · rw [hh]; exact app_at (i := 2) hz rfl
      · rw [hh]; exact app_at (i := 3) hz rfl
      · rw [hh]; exact app_at (i := 4) hz rfl
      · exact ⟨.map [], ⟨#[], 0, by rw [hh]; exact app_at (i := 5) hz rfl, ⟨by simp, stamped_empty 0, by simp⟩, Nat.le_refl _, rfl⟩, fun _ _ => rfl⟩)
    rw [HW6.out]
    go_loopw [36] (fun s36 wr => ∃ (k : Nat) (ns : List NodeD) (Ns : Value), k ≤ nN ∧ s36 = .int .i64 (k : Nat) ∧ Hid (Load1 w z (.slice AN nN cN) (.slice AE nE cE) g.nodes ((g.nodes.take k).map NodeD.id) k ns Ns wr)) (fun s36 _ => nN - (intOf s36).toNat)
    case atStart => exact ⟨0, [], _, by omega, rfl, HL0⟩
    case round =>
      obtain ⟨k, ns, Ns, hk, rfl, hM⟩ := hrel
      by_cases hlt : k < nN
      · obtain ⟨x, hx⟩ : ∃ x, g.nodes[k]? = some x := ⟨g.nodes[k]'(by rw [HnN.out]; exact hlt), List.getElem?_eq_getElem _⟩
        have HX := Lib.hid hx
        have hfx := Lib.hid (HFIT.out.2.2.1 x (List.mem_of_getElem? hx))
        have HNO := Lib.hid (fun (h : okN ((g.nodes.take k).map NodeD.id) x = false) => may_no (scan_no (key := NodeD.id) hx h))
        have HYES := Lib.hid (fun (h : okN ((g.nodes.take k).map NodeD.id) x = true) => scan_yes hx h hM.out.ok)
        have hzw := Lib.hid (show z + 5 < wr.heap.size from hM.out.set.lt)
        have HFr := Lib.hid (fun (b : Nat) (hb : F b) => show b < z from by rw [← HZ.out]; exact HF.out b hb)
        obtain ⟨ad, A1, c1, A2, c2, rfl, hFa, hNo, hl1, hl2, d0, d1, d2⟩ := nodesAt (HLN.out.under NoR.good hM.out.below HFr.out) hx
        have HNO2 := Lib.hid hNo
        have HL1 := Lib.hid hl1
        have HL2 := Lib.hid hl2
        clear hx hFa hNo hl1 hl2
        obtain ⟨id, Hxid⟩ := name_itV x.id
        obtain ⟨m1, Hm1⟩ := name_itV x.labels.length
        obtain ⟨m2, Hm2⟩ := name_itV x.props.length
        rw [Hm1.out] at HL1 d1 HNO2
        rw [Hm2.out] at HL2 d2 HNO2
        rw [Hxid.out] at d0 HNO2
        have hm1 : m1 ≤ 2000000 := by rw [← Hm1.out]; exact hfx.out.1.1
        have hm2 : m2 ≤ 2000000 := by rw [← Hm2.out]; exact hfx.out.1.2.1
        obtain ⟨zn, Hzn⟩ := name_itV wr.heap.size
        rw [Hzn.out] at hzw
        obtain ⟨w2, HW2⟩ := name_itV (((wr.alloc (.cells #[.int .i64 id, .slice A1 m1 c1, .slice A2 m2 c2] 38)).alloc (.map #[] 0)).alloc (.cells #[.map (some (zn + 1))] 69))
        have HB2 := Lib.hid (show Below wr.heap.size wr w2 from by rw [← HW2.out]; exact below_new3 wr _ _ _)
        have hh2 := three_new wr (.cells #[.int .i64 id, .slice A1 m1 c1, .slice A2 m2 c2] 38) (.map #[] 0) (.cells #[.map (some (zn + 1))] 69)
        rw [HW2.out] at hh2
        have HK0 := Lib.hid (show w2.heap[zn]? = some (.cells #[.int .i64 id, .slice A1 m1 c1, .slice A2 m2 c2] 38 (0, 0)) from by rw [hh2]; exact app_at (i := 0) Hzn.out rfl)
        have HK1 := Lib.hid (show w2.heap[zn + 1]? = some (.map #[] 0) from by rw [hh2]; exact app_at (i := 1) Hzn.out rfl)
        have HK2 := Lib.hid (show w2.heap[zn + 2]? = some (.cells #[.map (some (zn + 1))] 69 (0, 0)) from by rw [hh2]; exact app_at (i := 2) Hzn.out rfl)
        have HS2 := Lib.hid (show w2.heap.size = zn + 3 from by rw [hh2, ← Hzn.out]; simp)
        clear hh2
        have hcl := Lib.hid (contL_any x.labels (fun s hs => by have := hfx.out.1.2.2.1 s hs; unfold VS maxLen; omega) ⟨zn + 2, 0, none⟩ (zn + 1) F A1 m1 c1 w2 (fun b hb => by have := HFr.out b hb; have := HS2.out; have := hzw.out; omega) (HL1.out.under TxR.good HB2.out (fun b hb => by have := HFr.out b hb; have := Hzn.out; have := hzw.out; omega)) (by omega) (Lib.cell_of_heap HK2.out 0) (by show zn + 2 < _ ∧ zn + 2 ≠ _; rw [HS2.out]; omega) (set_new HK1.out))
        unfold HasBad at hcl
        obtain ⟨lb, HLB⟩ := name_itV (lablG [] x.labels)
        rw [HLB.out] at hcl
        have b1 : w2.cell? ⟨zn, 1, none⟩ = some (.slice A1 m1 c1) := Lib.cell_of_heap HK0.out 1
        have e1 : (0 : Int) ≤ k := by omega
        have e2 : (k : Int) < nN := by omega
        go_upto_region 9 with fail
        rw [Hzn.out]
        simp only [Nat.add_assoc, Nat.reduceAdd]
        rw [HW2.out]
        go_wp2_with fail
        refine hcl.out.mono ?_
        rintro e w3 ⟨rfl, ht3⟩
        have HB3 := Lib.hid (HB2.out.trans (ht3.below (B := wr.heap.size) (fun i _ hi => by rw [hi, Hzn.out]; omega) HB2.out.size))
        have HM3 := Lib.hid (hM.out.on HB3.out)
        have HK03 := Lib.hid ((ht3.block zn (by rw [HS2.out]; omega) (by omega)).trans HK0.out)
        have c0 : w3.cell? ⟨zn, 0, none⟩ = some (.int .i64 id) := Lib.cell_of_heap HK03.out 0
        have hput := Lib.hid (put_int (z + 5) ((g.nodes.take k).map NodeD.id) id (by rw [← Hxid.out]; exact hfx.out.2) (by simp; omega) w3 HM3.out.set)
        obtain ⟨ib, HIB⟩ := name_itV (inB ((g.nodes.take k).map NodeD.id) id)
        obtain ⟨pb, HPB⟩ := name_itV (propsB x.props)
        have HN := Lib.hid (show (decide (0 ≤ id) && (!ib && (lb && (decide (m1 ≤ 65536) && pb)))) = false → mayG g = false from fun h => HNO.out (by unfold okN; rw [Hxid.out, HIB.out, HLB.out, Hm1.out, HPB.out]; exact h))
        have HY := Lib.hid (show (decide (0 ≤ id) && (!ib && (lb && (decide (m1 ≤ 65536) && pb)))) = true → scanG okN NodeD.id [] (g.nodes.take (k + 1)) = true from fun h => HYES.out (by unfold okN; rw [Hxid.out, HIB.out, HLB.out, Hm1.out, HPB.out]; exact h))
        clear ht3 b1 d0 d1 d2
        by_cases hid0 : id < 0
        · have q1 : decide (id < 0) = true := decide_eq_true hid0
          have HR := Lib.hid (HN.out (by rw [decide_eq_false (by omega)]; rfl))
          clear hid0
          go_wp2_with fail
          go_ret2
          exact ⟨by rw [HZ.out]; exact HM3.out.below, .inl ⟨HR.out, rfl⟩⟩
        · have q1 : decide (id < 0) = false := decide_eq_false hid0
          rw [decide_eq_true (show 0 ≤ id by omega)] at HN HY
          clear hid0
          go_wp2_with fail
          refine hput.out.mono ?_
          rintro e w4 ⟨rfl, hset, ht4⟩
          rw [HIB.out]
          have HT4 := Lib.hid ht4
          have HSET := Lib.hid hset
          have HB4 := Lib.hid (show Below z w w4 from HM3.out.below.trans (ht4.below (B := z) (fun i _ hi => by omega) (by have := HM3.out.set.lt; omega)))
          clear ht4 hset
          cases ib with
          | true =>
            have HR := Lib.hid (HN.out rfl)
            go_wp2_with fail
            go_ret2
            exact ⟨by rw [HZ.out]; exact HB4.out, .inl ⟨HR.out, rfl⟩⟩
          | false =>
            cases lb with
            | false =>
              have HR := Lib.hid (HN.out rfl)
              go_wp2_with fail
              go_ret2
              exact ⟨by rw [HZ.out]; exact HB4.out, .inl ⟨HR.out, rfl⟩⟩
            | true =>
              have hsz34 : w3.heap.size ≤ w4.heap.size := HT4.out.size
              have HK04 := Lib.hid ((HT4.out.block zn (blk_lt HK03.out) (by have := hzw.out; omega)).trans HK03.out)
              have k1 : w4.cell? ⟨zn, 1, none⟩ = some (.slice A1 m1 c1) := Lib.cell_of_heap HK04.out 1
              have k2 : w4.cell? ⟨zn, 2, none⟩ = some (.slice A2 m2 c2) := Lib.cell_of_heap HK04.out 2
              by_cases hm65 : m1 ≤ 65536
              · have q2 : decide ((65536 : Int) < m1) = false := decide_eq_false (by omega)
                rw [decide_eq_true hm65] at HN HY
                have HBz4 := Lib.hid (show Below z wr w4 from (HB3.out.mono (by have := Hzn.out; have := hzw.out; omega)).trans (HT4.out.below (B := z) (fun i _ hi => by omega) (by have := HM3.out.set.lt; omega)))
                have hpr := Lib.hid (props_any x.props hfx.out.1.2.2.2 hfx.out.1.2.1 F A2 m2 c2 w4 (fun b hb => by have := HFr.out b hb; have := HM3.out.set.lt; omega) (HL2.out.under PaR.good HBz4.out (fun b hb => HFr.out b hb)) (glob_z HG.out HZ.out HB4.out))
                rw [HPB.out] at hpr
                clear hm65
                go_wp2_with fail
                refine hpr.out.mono ?_
                rintro e w5 ⟨rfl, hb5⟩
                have HM5 := Lib.hid ((HM3.out.put HT4.out HSET.out).on hb5)
                have HK05 := Lib.hid ((hb5.block zn (blk_lt HK04.out)).trans HK04.out)
                have HBz5 := Lib.hid (HBz4.out.trans (hb5.mono (by have := HM3.out.set.lt; omega)))
                clear hb5
                cases pb with
                | false =>
                  have HR := Lib.hid (HN.out rfl)
                  go_wp2_with fail
                  go_ret2
                  exact ⟨by rw [HZ.out]; exact HM5.out.below, .inl ⟨HR.out, rfl⟩⟩
                | true =>
                  have HYY := Lib.hid (HY.out rfl)
                  have hlen : ns.length = k := by rw [← HM5.out.all.1, List.length_take, HnN.out]; omega
                  have HLEN := Lib.hid hlen
                  obtain ⟨A3, c3, h3⟩ := HM5.out.own.form
                  rw [hlen] at h3
                  subst h3
                  have hnd := Lib.hid (node_any x hfx.out.1 (propsB_flat HPB.out) F _ w5.drew (fun b hb => by have := HFr.out b hb; have := HM5.out.set.lt; show b < w5.heap.size; omega) (NoR.good.keep HNO2.out (w' := w5.drew) (fun p hp => HBz5.out.cell (HFr.out _ hp))))
                  obtain ⟨cs, hrow, h3c, hFw, hr⟩ := HM5.out.own
                  rw [hlen] at hrow h3c
                  have HROW := Lib.hid hrow
                  have HFW := Lib.hid (show ∀ b, (Value.slice A3 k c3).ownBlock = some b → z + 6 ≤ b ∧ b < w5.heap.size from hFw)
                  have HREST := Lib.hid (And.intro h3c hr)
                  have g0 : w5.drew.cell? ⟨z + 4, 0, none⟩ = some (.slice A3 k c3) := Lib.cell_of_heap HM5.out.store 0
                  have n0 : w5.drew.cell? ⟨zn, 0, none⟩ = some (.int .i64 id) := Lib.cell_of_heap HK05.out 0
                  have n1 : w5.drew.cell? ⟨zn, 1, none⟩ = some (.slice A1 m1 c1) := Lib.cell_of_heap HK05.out 1
                  have n2 : w5.drew.cell? ⟨zn, 2, none⟩ = some (.slice A2 m2 c2) := Lib.cell_of_heap HK05.out 2
                  clear hlen hrow h3c hFw hr k1 k2 c0
                  obtain ⟨i0, hi0, hz0a, hz1a, hz2a⟩ := info_parts infoNode
                  go_upto_region 12 with fail
                  go_region_law (first | (refine step_append_lies _ rfl _ _ 22 rfl 0 38 i0 (.agg #[.int .i64 0, .slice none 0 0, .slice none 0 0]) 3 56 Tryz.underlying22 hi0 hz0a hz1a hz2a rfl (by decide) (.slice A3 k c3) k (flatC cs k) rfl (by exact HROW6.out.alloc _) ⟨w6.heap.size, 0, none⟩ 1 1 [.int .i64 id, .slice A6 q6 c6, .slice B6 r6 cb6] rfl rfl (World.news_of_block (cs := #[.int .i64 id, .slice A6 q6 c6, .slice B6 r6 cb6]) (by exact NB.out)) HONE.out (by omega) (by unfold maxLen; omega) (by omega) (Nat.zero_le _) (w6.heap.size + 1) (by exact HS6.out) (fun g7 c7 w7 ho7 hg7 hl7 _ => ?_); have HO7 := Lib.hid ho7; have HG7 := Lib.hid (show w6.grownBy w7 (Value.slice A3 k c3).ownBlock from grown_after (w := w6) (o := .cells #[.int .i64 id, .slice A6 q6 c6, .slice B6 r6 cb6] 38) ⟨hg7.os, hg7.tape, hg7.output, hg7.size, hg7.block⟩); have HL7 := Lib.hid (show (Value.slice A3 k c3).ownBlock = some g7 ∨ g7 = w6.heap.size + 1 from hl7); have HC7 := Lib.hid ((HG7.out.block (z + 4) (by have := HSZ6.out; omega) (fun e => by have := HFW.out (z + 4) e.symm; omega)).trans HST6.out); have f7 : w7.frozen? ⟨z + 4, 0, none⟩ = false := Lib.frozen_of_heap HC7.out 0; have g7c : w7.cell? ⟨z + 4, 0, none⟩ = some (.slice A3 k c3) := Lib.cell_of_heap HC7.out 0; clear ho7 hg7 hl7) | (go_simp; go_at_call 31; (with_reducible refine hnd.out.mono ?_); rintro e w6 ⟨cc, n', rfl, hb6, hsrt, hno6⟩; have HN6 := Lib.hid hno6; obtain ⟨L6, P6, rfl, ⟨A6, c6, rfl, _, _⟩, B6, cb6, rfl, _, _⟩ := hno6; obtain ⟨q6, Hq6⟩ := name_itV n'.labels.length; obtain ⟨r6, Hr6⟩ := name_itV n'.props.length; rw [Hq6.out, Hr6.out] at HN6 ⊢; rw [hsrt.1, Hxid.out] at HN6 ⊢; have HB6 := Lib.hid hb6; have HSRT := Lib.hid hsrt; have HSZ6 := Lib.hid (show z + 5 < w6.heap.size from by have h1 : w5.heap.size ≤ w6.heap.size := hb6.size; have := HM5.out.set.lt; omega); have HROW6 := Lib.hid ((Turn.of_below hb6).owns HROW.out (fun g hg h => by have := HFW.out g hg; have h2 : w5.heap.size ≤ g := h; omega)); have HST6 := Lib.hid ((hb6.block (z + 4) (by show z + 4 < w5.heap.size; have := HM5.out.set.lt; omega)).trans HM5.out.store); have g6a : w6.cell? ⟨z + 4, 0, none⟩ = some (.slice A3 k c3) := Lib.cell_of_heap HST6.out 0; have g6b : (w6.alloc (.cells #[.int .i64 id, .slice A6 q6 c6, .slice B6 r6 cb6] 38)).cell? ⟨z + 4, 0, none⟩ = some (.slice A3 k c3) := (World.cell?_alloc_lt w6 _ _ (by show z + 4 < _; have := HSZ6.out; omega)).trans g6a; have HONE := Lib.hid (show ∀ u ∈ ([.int .i64 id, .slice A6 q6 c6, .slice B6 r6 cb6] : List Value), u.oneCell' = true from fun u hu => by simp at hu; rcases hu with rfl | rfl | rfl <;> rfl); have NB := Lib.hid (heap_alloc_new w6 (.cells #[.int .i64 id, .slice A6 q6 c6, .slice B6 r6 cb6] 38)); have HS6 := Lib.hid (show (w6.alloc (.cells #[.int .i64 id, .slice A6 q6 c6, .slice B6 r6 cb6] 38)).heap.size = w6.heap.size + 1 by simp); clear hb6 hsrt))
                  all_goals (
                    have w1 : IntKind.i64.wrap ((k : Int) + 1) = (k : Int) + 1 := IntWalk.i64_in _ (by omega)
                    go_wp2_with fail
                    go_roundw)
                  all_goals first
                    | (case measure => simp [intOf]; omega)
                    | (case rel =>
                        refine ⟨k + 1, ns ++ [n'], .slice (some ⟨g7, 0, none⟩) (k + 1) c7, by omega, by go_num, Lib.hid ?_⟩
                        have h := Load1.more HM5.out HLEN.out HFW.out HREST.out.1 HREST.out.2 HX.out (below_of_drew HB6.out) HSRT.out HN6.out rfl HG7.out HL7.out HO7.out HYY.out
                        have e1 : setPut ((g.nodes.take k).map NodeD.id) id = (g.nodes.take (k + 1)).map NodeD.id := by
                          unfold setPut
                          rw [HIB.out, if_neg (by decide), take_oneMore HX.out, List.map_append, ← Hxid.out]
                          rfl
                        rw [e1] at h
                        exact h)
              · have q2 : decide ((65536 : Int) < m1) = true := decide_eq_true (by omega)
                have HR := Lib.hid (HN.out (by rw [decide_eq_false hm65]; rfl))
                clear hm65
                go_wp2_with fail
                go_ret2
                exact ⟨by rw [HZ.out]; exact HB4.out, .inl ⟨HR.out, rfl⟩⟩
      · have hke : k = nN := by omega
        have htk := Lib.hid (show g.nodes.take k = g.nodes from List.take_of_length_le (by rw [HnN.out, hke]; exact Nat.le_refl _))
        have hMn := hM.out
        have hokN := Lib.hid (show scanG okN NodeD.id [] g.nodes = true from by have h := hMn.ok; rw [htk.out] at h; exact h)
        have hall := Lib.hid (show All2 SrtN g.nodes ns from by have h := hMn.all; rw [htk.out] at h; exact h)
        rw [htk.out] at hMn
        have hbx := Lib.hid ((hMn.on ((Below.refl wr.heap.size wr).alloc (Nat.le_refl _) (.map #[] 0))).box)
        have HM0 := Lib.hid (hMn.next g.edges)
        have hzz := Lib.hid hMn.set.lt
        obtain ⟨z2, Hz2⟩ := name_itV wr.heap.size
        obtain ⟨wa, HWA⟩ := name_itV (wr.alloc (.map #[] 0))
        rw [Hz2.out] at HM0 hzz
        rw [HWA.out] at HM0 hbx
        have b1 : wa.cell? ⟨z, 1, none⟩ = some (.slice AE nE cE) := Lib.cell_of_heap hbx.out 1
        clear hMn
        subst hke
        go_upto_region 15 with fail
        rw [Hz2.out, HWA.out]
        go_wp2_with fail
        clear b1
        go_loopw [86] (fun s86 wx => ∃ (k : Nat) (es : List EdgeD) (Es : Value), k ≤ nE ∧ s86 = .int .i64 (k : Nat) ∧ Hid (Load2 w z z2 (g.nodes.map NodeD.id) ns Ns g.edges ((g.edges.take k).map EdgeD.id) k es Es wx)) (fun s86 _ => nE - (intOf s86).toNat)
        case atStart => exact ⟨0, [], _, by omega, rfl, HM0⟩
        case round =>
          clear HM0 hbx hM
          obtain ⟨k, es, Es, hk, rfl, hM⟩ := hrel
          by_cases hlt : k < nE
          · obtain ⟨x, hx⟩ : ∃ x, g.edges[k]? = some x := ⟨g.edges[k]'(by rw [HnE.out]; exact hlt), List.getElem?_eq_getElem _⟩
            have HX := Lib.hid hx
            have hfx := Lib.hid (HFIT.out.2.2.2 x (List.mem_of_getElem? hx))
            have HNO := Lib.hid (fun (h : okE (g.nodes.map NodeD.id) ((g.edges.take k).map EdgeD.id) x = false) => may_noE (scan_no (key := EdgeD.id) hx h))
            have HYES := Lib.hid (fun (h : okE (g.nodes.map NodeD.id) ((g.edges.take k).map EdgeD.id) x = true) => scan_yes hx h hM.out.ok)
            have hfar := Lib.hid hM.out.far
            have hzw := Lib.hid (show z2 < wr.heap.size from hM.out.set.lt)
            have HFr := Lib.hid (fun (b : Nat) (hb : F b) => show b < z from by rw [← HZ.out]; exact HF.out b hb)
            obtain ⟨ad2, A2, c2, rfl, hFa, hEd, hl2, d0, d1, d2, d3, d4⟩ := edgesAt (HLE.out.under EdR.good hM.out.below HFr.out) hx
            have HNO2 := Lib.hid hEd
            have HL2 := Lib.hid hl2
            clear hx hFa hEd hl2
            obtain ⟨id, Hxid⟩ := name_itV x.id
            obtain ⟨src, Hsrc⟩ := name_itV x.src
            obtain ⟨dst, Hdst⟩ := name_itV x.dst
            obtain ⟨typ, Htyp⟩ := name_itV x.type
            obtain ⟨m2, Hm2⟩ := name_itV x.props.length
            rw [Hm2.out] at HL2 d4 HNO2
            rw [Hxid.out] at d0 HNO2
            rw [Hsrc.out] at d1 HNO2
            rw [Hdst.out] at d2 HNO2
            rw [Htyp.out] at d3 HNO2
            have hm2 : m2 ≤ 2000000 := by rw [← Hm2.out]; exact hfx.out.1.2.1
            obtain ⟨zn, Hzn⟩ := name_itV wr.heap.size
            rw [Hzn.out] at hzw
            obtain ⟨w2, HW2⟩ := name_itV (wr.alloc (.cells #[.int .i64 id, .int .i64 src, .int .i64 dst, .string typ, .slice A2 m2 c2] 41))
            have HB2 := Lib.hid (show Below wr.heap.size wr w2 from by rw [← HW2.out]; exact (Below.refl _ _).alloc (Nat.le_refl _) _)
            have HK0 := Lib.hid (show w2.heap[zn]? = some (.cells #[.int .i64 id, .int .i64 src, .int .i64 dst, .string typ, .slice A2 m2 c2] 41 (0, 0)) from by rw [← HW2.out, ← Hzn.out]; exact heap_alloc_new wr _)
            have HM3 := Lib.hid (hM.out.on HB2.out)
            have c0 : w2.cell? ⟨zn, 0, none⟩ = some (.int .i64 id) := Lib.cell_of_heap HK0.out 0
            have e1 : (0 : Int) ≤ k := by omega
            have e2 : (k : Int) < nE := by omega
            have hput := Lib.hid (put_int z2 ((g.edges.take k).map EdgeD.id) id (by rw [← Hxid.out]; exact hfx.out.2.1) (by simp; omega) w2 HM3.out.set)
            have hhs := Lib.hid (fun (W : World) (h : SetAt 2 VI litI W (z + 5) (g.nodes.map NodeD.id)) => has_int (z + 5) (g.nodes.map NodeD.id) src (by rw [← Hsrc.out]; exact hfx.out.2.2.1) W h)
            have hhd := Lib.hid (fun (W : World) (h : SetAt 2 VI litI W (z + 5) (g.nodes.map NodeD.id)) => has_int (z + 5) (g.nodes.map NodeD.id) dst (by rw [← Hdst.out]; exact hfx.out.2.2.2) W h)
            have htx := Lib.hid (fun W => text_ok typ W)
            obtain ⟨ib, HIB⟩ := name_itV (inB ((g.edges.take k).map EdgeD.id) id)
            obtain ⟨sb, HSB⟩ := name_itV (inB (g.nodes.map NodeD.id) src)
            obtain ⟨db, HDB⟩ := name_itV (inB (g.nodes.map NodeD.id) dst)
            obtain ⟨tb, HTB⟩ := name_itV (textB typ)
            obtain ⟨pb, HPB⟩ := name_itV (propsB x.props)
            rw [HTB.out] at htx
            have HN := Lib.hid (show (decide (0 ≤ id) && (!ib && (sb && (db && (tb && pb))))) = false → mayG g = false from fun h => HNO.out (by unfold okE; rw [Hxid.out, Hsrc.out, Hdst.out, Htyp.out, HIB.out, HSB.out, HDB.out, HTB.out, HPB.out]; exact h))
            have HY := Lib.hid (show (decide (0 ≤ id) && (!ib && (sb && (db && (tb && pb))))) = true → scanG (okE (g.nodes.map NodeD.id)) EdgeD.id [] (g.edges.take (k + 1)) = true from fun h => HYES.out (by unfold okE; rw [Hxid.out, Hsrc.out, Hdst.out, Htyp.out, HIB.out, HSB.out, HDB.out, HTB.out, HPB.out]; exact h))
            go_upto_region 18 with fail
            rw [Hzn.out, HW2.out]
            clear d0 d1 d2 d3 d4
            by_cases hid0 : id < 0
            · have q1 : decide (id < 0) = true := decide_eq_true hid0
              have HR := Lib.hid (HN.out (by rw [decide_eq_false (by omega)]; rfl))
              clear hid0
              go_wp2_with fail
              go_ret2
              exact ⟨by rw [HZ.out]; exact HM3.out.below, .inl ⟨HR.out, rfl⟩⟩
            · have q1 : decide (id < 0) = false := decide_eq_false hid0
              rw [decide_eq_true (show 0 ≤ id by omega)] at HN HY
              clear hid0
              go_wp2_with fail
              refine hput.out.mono ?_
              rintro e w4 ⟨rfl, hset, ht4⟩
              rw [HIB.out]
              have HM4 := Lib.hid (HM3.out.put ht4 hset)
              have HK04 := Lib.hid ((ht4.block zn (blk_lt HK0.out) (by have := hzw.out; omega)).trans HK0.out)
              have HBz4 := Lib.hid (show Below z wr w4 from (HB2.out.mono (by have := Hzn.out; have := hzw.out; have := hfar.out; omega)).trans (ht4.below (B := z) (fun i _ hi => by have := hfar.out; omega) (by have := HM3.out.set.lt; have := hfar.out; omega)))
              clear ht4 hset c0
              cases ib with
              | true =>
                have HR := Lib.hid (HN.out rfl)
                go_wp2_with fail
                go_ret2
                exact ⟨by rw [HZ.out]; exact HM4.out.below, .inl ⟨HR.out, rfl⟩⟩
              | false =>
                have k1 : w4.cell? ⟨zn, 1, none⟩ = some (.int .i64 src) := Lib.cell_of_heap HK04.out 1
                go_wp2_with fail
                refine (hhs.out _ HM4.out.nset).mono ?_
                rintro e w5 ⟨rfl, hb5⟩
                rw [HSB.out]
                have HM5 := Lib.hid (HM4.out.on hb5)
                have HK05 := Lib.hid ((hb5.block zn (blk_lt HK04.out)).trans HK04.out)
                have HBz5 := Lib.hid (HBz4.out.trans (hb5.mono (by have := HM4.out.set.lt; have := hfar.out; omega)))
                clear hb5 k1
                cases sb with
                | false =>
                  have HR := Lib.hid (HN.out rfl)
                  go_wp2_with fail
                  go_ret2
                  exact ⟨by rw [HZ.out]; exact HM5.out.below, .inl ⟨HR.out, rfl⟩⟩
                | true =>
                  have k2 : w5.cell? ⟨zn, 2, none⟩ = some (.int .i64 dst) := Lib.cell_of_heap HK05.out 2
                  go_wp2_with fail
                  refine (hhd.out _ HM5.out.nset).mono ?_
                  rintro e w6 ⟨rfl, hb6⟩
                  rw [HDB.out]
                  have HM6 := Lib.hid (HM5.out.on hb6)
                  have HK06 := Lib.hid ((hb6.block zn (blk_lt HK05.out)).trans HK05.out)
                  have HBz6 := Lib.hid (HBz5.out.trans (hb6.mono (by have := HM5.out.set.lt; have := hfar.out; omega)))
                  clear hb6 k2
                  cases db with
                  | false =>
                    have HR := Lib.hid (HN.out rfl)
                    go_wp2_with fail
                    go_ret2
                    exact ⟨by rw [HZ.out]; exact HM6.out.below, .inl ⟨HR.out, rfl⟩⟩
                  | true =>
                    have k3 : w6.cell? ⟨zn, 3, none⟩ = some (.string typ) := Lib.cell_of_heap HK06.out 3
                    have k4 : w6.cell? ⟨zn, 4, none⟩ = some (.slice A2 m2 c2) := Lib.cell_of_heap HK06.out 4
                    go_wp2_with fail
                    refine (htx.out _).mono ?_
                    rintro e w6b ⟨rfl, hw6⟩
                    subst hw6
                    cases tb with
                    | false =>
                      have HR := Lib.hid (HN.out rfl)
                      go_wp2_with fail
                      go_ret2
                      exact ⟨by rw [HZ.out]; exact HM6.out.below, .inl ⟨HR.out, rfl⟩⟩
                    | true =>
                      have hpr := Lib.hid (props_any x.props hfx.out.1.2.2 hfx.out.1.2.1 F A2 m2 c2 w6b (fun b hb => by have := HFr.out b hb; have := HM6.out.set.lt; have := hfar.out; omega) (HL2.out.under PaR.good HBz6.out (fun b hb => HFr.out b hb)) (glob_z HG.out HZ.out HM6.out.below))
                      rw [HPB.out] at hpr
                      go_wp2_with fail
                      refine hpr.out.mono ?_
                      rintro e w5 ⟨rfl, hb5⟩
                      clear HM5 HK05 HBz5
                      have HM5 := Lib.hid (HM6.out.on hb5)
                      have HK05 := Lib.hid ((hb5.block zn (blk_lt HK06.out)).trans HK06.out)
                      have HBz5 := Lib.hid (HBz6.out.trans (hb5.mono (by have := HM6.out.set.lt; have := hfar.out; omega)))
                      clear hb5 k3 k4
                      cases pb with
                      | false =>
                        have HR := Lib.hid (HN.out rfl)
                        go_wp2_with fail
                        go_ret2
                        exact ⟨by rw [HZ.out]; exact HM5.out.below, .inl ⟨HR.out, rfl⟩⟩
                      | true =>
                        have HYY := Lib.hid (HY.out rfl)
                        have hlen : es.length = k := by rw [← HM5.out.all.1, List.length_take, HnE.out]; omega
                        have HLEN := Lib.hid hlen
                        obtain ⟨A3, c3, h3⟩ := HM5.out.own.form
                        rw [hlen] at h3
                        subst h3
                        have hnd := Lib.hid (edge_any x hfx.out.1 (propsB_flat HPB.out) F _ w5.drew (fun b hb => by have := HFr.out b hb; have := HM5.out.set.lt; have := hfar.out; show b < w5.heap.size; omega) (EdR.good.keep HNO2.out (w' := w5.drew) (fun p hp => HBz5.out.cell (HFr.out _ hp))))
                        obtain ⟨cs, hrow, h3c, hFw, hr⟩ := HM5.out.own
                        rw [hlen] at hrow h3c
                        have HROW := Lib.hid hrow
                        have HFW := Lib.hid (show ∀ b, (Value.slice A3 k c3).ownBlock = some b → z2 + 1 ≤ b ∧ b < w5.heap.size from hFw)
                        have HREST := Lib.hid (And.intro h3c hr)
                        have hfar1 : z + 6 ≤ z2 := hfar.out
                        have g0 : w5.drew.cell? ⟨z + 4, 1, none⟩ = some (.slice A3 k c3) := Lib.cell_of_heap HM5.out.store 1
                        have n0 : w5.drew.cell? ⟨zn, 0, none⟩ = some (.int .i64 id) := Lib.cell_of_heap HK05.out 0
                        have n1 : w5.drew.cell? ⟨zn, 1, none⟩ = some (.int .i64 src) := Lib.cell_of_heap HK05.out 1
                        have n2 : w5.drew.cell? ⟨zn, 2, none⟩ = some (.int .i64 dst) := Lib.cell_of_heap HK05.out 2
                        have n3 : w5.drew.cell? ⟨zn, 3, none⟩ = some (.string typ) := Lib.cell_of_heap HK05.out 3
                        have n4 : w5.drew.cell? ⟨zn, 4, none⟩ = some (.slice A2 m2 c2) := Lib.cell_of_heap HK05.out 4
                        clear hlen hrow h3c hFw hr
                        obtain ⟨i0, hi0, hz0a, hz1a, hz2a⟩ := info_parts infoEdge
                        go_upto_region 20 with fail
                        go_region_law (first | (refine step_append_lies _ rfl _ _ 23 rfl 0 41 i0 (.agg #[.int .i64 0, .int .i64 0, .int .i64 0, .string ⟨#[]⟩, .slice none 0 0]) 5 64 Tryz.underlying23 hi0 hz0a hz1a hz2a rfl (by decide) (.slice A3 k c3) k (flatC cs k) rfl (by exact HROW6.out.alloc _) ⟨w6.heap.size, 0, none⟩ 1 1 [.int .i64 id, .int .i64 src, .int .i64 dst, .string typ, .slice B6 r6 cb6] rfl rfl (World.news_of_block (cs := #[.int .i64 id, .int .i64 src, .int .i64 dst, .string typ, .slice B6 r6 cb6]) (by exact NB.out)) HONE.out (by omega) (by unfold maxLen; omega) (by omega) (Nat.zero_le _) (w6.heap.size + 1) (by exact HS6.out) (fun g7 c7 w7 ho7 hg7 hl7 _ => ?_); have HO7 := Lib.hid ho7; have HG7 := Lib.hid (show w6.grownBy w7 (Value.slice A3 k c3).ownBlock from grown_after (w := w6) (o := .cells #[.int .i64 id, .int .i64 src, .int .i64 dst, .string typ, .slice B6 r6 cb6] 41) ⟨hg7.os, hg7.tape, hg7.output, hg7.size, hg7.block⟩); have HL7 := Lib.hid (show (Value.slice A3 k c3).ownBlock = some g7 ∨ g7 = w6.heap.size + 1 from hl7); have HC7 := Lib.hid ((HG7.out.block (z + 4) (by have := HSZ6.out; omega) (fun e => by have := HFW.out (z + 4) e.symm; omega)).trans HST6.out); have f7 : w7.frozen? ⟨z + 4, 1, none⟩ = false := Lib.frozen_of_heap HC7.out 1; have g7c : w7.cell? ⟨z + 4, 1, none⟩ = some (.slice A3 k c3) := Lib.cell_of_heap HC7.out 1; clear ho7 hg7 hl7) | (go_simp; go_at_call 33; (with_reducible refine hnd.out.mono ?_); rintro e w6 ⟨cc, n', rfl, hb6, hsrt, hno6⟩; have HN6 := Lib.hid hno6; obtain ⟨P6, rfl, B6, cb6, rfl, _, _⟩ := hno6; obtain ⟨r6, Hr6⟩ := name_itV n'.props.length; rw [Hr6.out] at HN6 ⊢; rw [hsrt.1, hsrt.2.1, hsrt.2.2.1, hsrt.2.2.2.1, Hxid.out, Hsrc.out, Hdst.out, Htyp.out] at HN6 ⊢; have HB6 := Lib.hid hb6; have HSRT := Lib.hid hsrt; have HSZ6 := Lib.hid (show z2 < w6.heap.size from by have h1 : w5.heap.size ≤ w6.heap.size := hb6.size; have := HM5.out.set.lt; omega); have HROW6 := Lib.hid ((Turn.of_below hb6).owns HROW.out (fun g hg h => by have := HFW.out g hg; have h2 : w5.heap.size ≤ g := h; omega)); have HST6 := Lib.hid ((hb6.block (z + 4) (by show z + 4 < w5.heap.size; have := HM5.out.set.lt; omega)).trans HM5.out.store); have g6a : w6.cell? ⟨z + 4, 1, none⟩ = some (.slice A3 k c3) := Lib.cell_of_heap HST6.out 1; have g6b : (w6.alloc (.cells #[.int .i64 id, .int .i64 src, .int .i64 dst, .string typ, .slice B6 r6 cb6] 41)).cell? ⟨z + 4, 1, none⟩ = some (.slice A3 k c3) := (World.cell?_alloc_lt w6 _ _ (by show z + 4 < _; have := HSZ6.out; omega)).trans g6a; have HONE := Lib.hid (show ∀ u ∈ ([.int .i64 id, .int .i64 src, .int .i64 dst, .string typ, .slice B6 r6 cb6] : List Value), u.oneCell' = true from fun u hu => by simp at hu; rcases hu with rfl | rfl | rfl | rfl | rfl <;> rfl); have NB := Lib.hid (heap_alloc_new w6 (.cells #[.int .i64 id, .int .i64 src, .int .i64 dst, .string typ, .slice B6 r6 cb6] 41)); have HS6 := Lib.hid (show (w6.alloc (.cells #[.int .i64 id, .int .i64 src, .int .i64 dst, .string typ, .slice B6 r6 cb6] 41)).heap.size = w6.heap.size + 1 by simp); clear hb6 hsrt))
                        all_goals (
                          have w1 : IntKind.i64.wrap ((k : Int) + 1) = (k : Int) + 1 := IntWalk.i64_in _ (by omega)
                          go_wp2_with fail
                          go_roundw)
                        all_goals first
                          | (case measure => simp [intOf]; omega)
                          | (case rel =>
                              refine ⟨k + 1, es ++ [n'], .slice (some ⟨g7, 0, none⟩) (k + 1) c7, by omega, by go_num, Lib.hid ?_⟩
                              have h := Load2.more HM5.out HLEN.out HFW.out HREST.out.1 HREST.out.2 HX.out (below_of_drew HB6.out) HSRT.out HN6.out rfl HG7.out HL7.out HO7.out HYY.out
                              have e1 : setPut ((g.edges.take k).map EdgeD.id) id = (g.edges.take (k + 1)).map EdgeD.id := by
                                unfold setPut
                                rw [HIB.out, if_neg (by decide), take_oneMore HX.out, List.map_append, ← Hxid.out]
                                rfl
                              rw [e1] at h
                              exact h)
          · have hke : k = nE := by omega
            have htkE := Lib.hid (show g.edges.take k = g.edges from List.take_of_length_le (by rw [HnE.out, hke]; exact Nat.le_refl _))
            have hMn := hM.out
            have hokE := Lib.hid (show scanG (okE (g.nodes.map NodeD.id)) EdgeD.id [] g.edges = true from by have h := hMn.ok; rw [htkE.out] at h; exact h)
            have halE := Lib.hid (show All2 SrtE g.edges es from by have h := hMn.all; rw [htkE.out] at h; exact h)
            rw [htkE.out] at hMn
            have hM5 := Lib.hid hMn
            have hnsl : ns.length ≤ 100000000 := by rw [← hall.out.1, HnN.out]; omega
            have hesl : es.length ≤ 100000000 := by rw [← halE.out.1, HnE.out]; omega
            have hsrt := Lib.hid (sortN_any hMn.nodes hnsl (fun b hb => by have := hMn.set.lt; omega))
            have st0 : wr.cell? ⟨z + 4, 0, none⟩ = some Ns := Lib.cell_of_heap hMn.store 0
            clear hMn hM
            subst hke
            go_upto_region 22 with fail
            go_wp2_with fail
            refine hsrt.out.mono ?_
            rintro e w4 ⟨rfl, NS, hps, hNS, ht4⟩
            have HPN := Lib.hid hps
            have HNS := Lib.hid hNS
            have HT4 := Lib.hid ht4
            have HNO := Lib.hid (show ∀ b, Ns.ownBlock = some b → z + 6 ≤ b ∧ b < z2 from fun b hb => by obtain ⟨cs, _, _, hFw, _⟩ := hM5.out.nodes; exact hFw b hb)
            have st1 : w4.cell? ⟨z + 4, 1, none⟩ = some Es := Lib.cell_of_heap ((ht4.block (z + 4) (by have := hM5.out.set.lt; have := hM5.out.far; omega) (fun hx => by have := (HNO.out _ hx).1; omega)).trans hM5.out.store) 1
            have hsrE := Lib.hid (sortE_any ((hM5.out.own.turn EdR.good ht4 (fun b hb => hb.2) (fun b hb hx => by have := (HNO.out _ hx).2; omega)).mono EdR.good (F' := fun b => z2 + 1 ≤ b ∧ b < w4.heap.size) (fun b hb => ⟨hb.1, Nat.lt_of_lt_of_le hb.2 ht4.size⟩)) hesl (fun b hb => hb.2))
            clear hps hNS ht4 st0 hsrt
            go_wp2_with fail
            refine hsrE.out.mono ?_
            rintro e w5 ⟨rfl, ES, hps, hES, ht5⟩
            have HPE := Lib.hid hps
            have HL3 := Lib.hid (hM5.out.next HNS.out HT4.out hES ht5)
            have HIN := Lib.hid (srt_nodes HFIT.out hokN.out hall.out HPN.out.1)
            have HIE := Lib.hid (srt_edges HFIT.out hokE.out halE.out hps.1)
            have hn5 : NS.length ≤ 131072 := by rw [HPN.out.1.length_eq, ← hall.out.1, HnN.out]; omega
            have hn6 : ES.length ≤ 65536 := by rw [hps.1.length_eq, ← halE.out.1, HnE.out]; omega
            clear hps hES ht5 st1 hsrE
            obtain ⟨n5, Hn5⟩ := name_itV NS.length
            obtain ⟨n6, Hn6⟩ := name_itV ES.length
            rw [Hn5.out] at hn5
            rw [Hn6.out] at hn6
            obtain ⟨mid, Hmid⟩ := name_itV w5.heap.size
            rw [Hmid.out] at HL3
            obtain ⟨A5, c5, hAe⟩ : ∃ A5 c5, Ns = .slice A5 n5 c5 := by
              obtain ⟨A, c, h, _⟩ := HNS.out
              exact ⟨A, c, by rw [h, Hn5.out]⟩
            obtain ⟨A6, c6, hAf⟩ : ∃ A6 c6, Es = .slice A6 n6 c6 := by
              obtain ⟨A, c, h, _⟩ := HL3.out.edges
              exact ⟨A, c, by rw [h, Hn6.out]⟩
            subst hAe hAf
            have st2 : w5.cell? ⟨z + 4, 0, none⟩ = some (.slice A5 n5 c5) := Lib.cell_of_heap HL3.out.store 0
            clear hM5 HNO HT4 HNS
            go_wp2_with fail
            clear st2
            go_loopw [153] (fun s153 wx => ∃ k : Nat, k ≤ n5 ∧ s153 = .int .i64 (k : Nat) ∧ Hid (Load3 w z mid NS ES (.slice A5 n5 c5) (.slice A6 n6 c6) ((NS.take k).map NodeD.id) [] 0 (hopsG []) wx)) (fun s153 _ => n5 - (intOf s153).toNat)
            case atStart => exact ⟨0, by omega, rfl, HL3⟩
            case round =>
              clear HL3
              obtain ⟨k, hk, rfl, hM⟩ := hrel
              by_cases hlt : k < n5
              · obtain ⟨x, hx⟩ : ∃ x, NS[k]? = some x := ⟨NS[k]'(by rw [Hn5.out]; exact hlt), List.getElem?_eq_getElem _⟩
                have HX := Lib.hid hx
                obtain ⟨ad, A1, d1, A2, d2, rfl, hFa, hNo, hl1, hl2, q0, q1, q2⟩ := nodesAt hM.out.nodes.rd hx
                clear hFa hNo hl1 hl2
                obtain ⟨id, Hxid⟩ := name_itV x.id
                obtain ⟨m1, Hm1⟩ := name_itV x.labels.length
                obtain ⟨m2, Hm2⟩ := name_itV x.props.length
                rw [Hxid.out] at q0
                rw [Hm1.out] at q1
                rw [Hm2.out] at q2
                obtain ⟨zn, Hzn⟩ := name_itV wr.heap.size
                obtain ⟨w2, HW2⟩ := name_itV (wr.alloc (.cells #[.int .i64 id, .slice A1 m1 d1, .slice A2 m2 d2] 38))
                have HM2 := Lib.hid (hM.out.on (w2 := w2.drew) (by rw [← HW2.out]; exact ((Below.refl _ _).alloc (Nat.le_refl _) _).drew))
                have b0 : w2.drew.cell? ⟨zn, 0, none⟩ = some (.int .i64 id) := Lib.cell_of_heap (w := w2.drew) (show w2.heap[zn]? = some (.cells #[.int .i64 id, .slice A1 m1 d1, .slice A2 m2 d2] 38 (0, 0)) from by rw [← HW2.out, ← Hzn.out]; exact heap_alloc_new wr _) 0
                have g4 : w2.drew.cell? ⟨z + 4, 4, none⟩ = some (.map (some (z + 3))) := Lib.cell_of_heap HM2.out.store 4
                obtain ⟨w3, hrun3, hat3, ht3⟩ := HM2.out.at_.more (x := id) (by rw [← Hxid.out]; exact HIN.out.2 x (List.mem_of_getElem? hx)) (by rw [← Hxid.out]; exact take_new HIN.out.1 hx) (by simp; omega)
                rw [show ((NS.take k).map NodeD.id).length = k by rw [List.length_map, List.length_take, Hn5.out]; omega] at hrun3
                have HM3 := Lib.hid (HM2.out.upd (ids' := (NS.take (k + 1)).map NodeD.id) ht3 (fun b hb => .inl ⟨by omega, by omega⟩) (by
                  rw [take_oneMore hx, List.map_append]
                  show PlaceAt w3 (z + 3) (_ ++ [x.id])
                  rw [Hxid.out]; exact hat3) (HM2.out.types.turn ht3 (fun h => by omega)) (HM2.out.hops.turn ht3 (fun h => by omega) (fun b hb h => by have := HM2.out.loc.1; omega)))
                clear hat3 ht3 hx
                have e1 : (0 : Int) ≤ k := by omega
                have e2 : (k : Int) < n5 := by omega
                have w1 : IntKind.i64.wrap ((k : Int) + 1) = (k : Int) + 1 := IntWalk.i64_in _ (by omega)
                go_upto_region 27 with fail
                rw [Hzn.out, HW2.out]
                go_region
                all_goals (go_wp2_with fail; go_roundw)
                all_goals first
                  | (case measure => simp [intOf]; omega)
                  | (case rel => exact ⟨k + 1, by omega, by go_num, HM3⟩)
              · have hke : n5 = k := by omega
                have HL4 := Lib.hid (show Load3 w z mid NS ES (.slice A5 n5 c5) (.slice A6 n6 c6) (NS.map NodeD.id) [] 0 (hopsG []) wr from by
                  have h := hM.out
                  rw [List.take_of_length_le (by rw [Hn5.out]; omega)] at h
                  exact h)
                clear hM
                subst hke
                have st3 : wr.cell? ⟨z + 4, 1, none⟩ = some (.slice A6 n6 c6) := Lib.cell_of_heap HL4.out.store 1
                go_upto_region 29 with fail
                go_wp2_with fail
                clear st3
                go_loopw [171] (fun s171 wx => ∃ (k n : Nat), k ≤ n6 ∧ n ≤ 4 * k ∧ s171 = .int .i64 (k : Nat) ∧ Hid (Load3 w z mid NS ES (.slice A5 n5 c5) (.slice A6 n6 c6) (NS.map NodeD.id) ((ES.take k).map EdgeD.id) n (hopsG (ES.take k)) wx)) (fun s171 _ => n6 - (intOf s171).toNat)
                case atStart => exact ⟨0, 0, by omega, by omega, rfl, HL4⟩
                case round =>
                  clear HL4
                  obtain ⟨k, n, hk, hnk, rfl, hM⟩ := hrel
                  by_cases hlt : k < n6
                  · obtain ⟨x, hx⟩ : ∃ x, ES[k]? = some x := ⟨ES[k]'(by rw [Hn6.out]; exact hlt), List.getElem?_eq_getElem _⟩
                    have HX := Lib.hid hx
                    obtain ⟨hvi, hvs, hvd⟩ := HIE.out.2 x (List.mem_of_getElem? hx)
                    obtain ⟨ad, A2, d2, rfl, hFa, hEd, hl2, q0, q1, q2, q3, q4⟩ := edgesAt hM.out.edges.rd hx
                    clear hFa hEd hl2
                    obtain ⟨id, Hxid⟩ := name_itV x.id
                    obtain ⟨src, Hsrc⟩ := name_itV x.src
                    obtain ⟨dst, Hdst⟩ := name_itV x.dst
                    obtain ⟨typ, Htyp⟩ := name_itV x.type
                    obtain ⟨m2, Hm2⟩ := name_itV x.props.length
                    rw [Hxid.out] at q0 hvi
                    rw [Hsrc.out] at q1 hvs
                    rw [Hdst.out] at q2 hvd
                    rw [Htyp.out] at q3
                    rw [Hm2.out] at q4
                    have HVS := Lib.hid hvs
                    have HVD := Lib.hid hvd
                    obtain ⟨zn, Hzn⟩ := name_itV wr.heap.size
                    obtain ⟨w2, HW2⟩ := name_itV (wr.alloc (.cells #[.int .i64 id, .int .i64 src, .int .i64 dst, .string typ, .slice A2 m2 d2] 41))
                    have HM2 := Lib.hid (hM.out.on (w2 := w2.drew) (by rw [← HW2.out]; exact ((Below.refl _ _).alloc (Nat.le_refl _) _).drew))
                    have HK2 := Lib.hid (show w2.drew.heap[zn]? = some (.cells #[.int .i64 id, .int .i64 src, .int .i64 dst, .string typ, .slice A2 m2 d2] 41 (0, 0)) from by rw [← HW2.out, ← Hzn.out]; exact heap_alloc_new wr _)
                    have b0 : w2.drew.cell? ⟨zn, 0, none⟩ = some (.int .i64 id) := Lib.cell_of_heap HK2.out 0
                    have g3 : w2.drew.cell? ⟨z + 4, 3, none⟩ = some (.map (some (z + 2))) := Lib.cell_of_heap HM2.out.store 3
                    have HLOC := Lib.hid (show z + 6 ≤ mid ∧ mid ≤ zn from by rw [← Hzn.out]; exact hM.out.loc)
                    obtain ⟨w3, hrun3, hat3, ht3⟩ := HM2.out.types.more (x := id) hvi (by rw [← Hxid.out]; exact take_new HIE.out.1 hx) (by simp; omega)
                    rw [show ((ES.take k).map EdgeD.id).length = k by rw [List.length_map, List.length_take, Hn6.out]; omega] at hrun3
                    have HM3 := Lib.hid (HM2.out.upd (eids' := (ES.take (k + 1)).map EdgeD.id) ht3 (fun b hb => .inl ⟨by omega, by omega⟩) (HM2.out.at_.turn ht3 (fun h => by omega)) (by
                      rw [take_oneMore hx, List.map_append]
                      show PlaceAt w3 (z + 2) (_ ++ [x.id])
                      rw [Hxid.out]; exact hat3) (HM2.out.hops.turn ht3 (fun h => by omega) (fun b hb h => by have := HM2.out.loc.1; omega)))
                    have HK3 := Lib.hid ((ht3.block zn (blk_lt HK2.out) (by have := HLOC.out; omega)).trans HK2.out)
                    have n1 : w3.cell? ⟨zn, 1, none⟩ = some (.int .i64 src) := Lib.cell_of_heap HK3.out 1
                    have hs1 := Lib.hid (spoke_any (z + 4) mid (z + 1) n (hopsG (ES.take k)) src 1 k _ _ _ _ w3 HM3.out.store HM3.out.hops hvs vi1 (by omega) (by omega) HM3.out.loc.2)
                    clear hat3 ht3 hx hvi hvs hvd
                    have e1 : (0 : Int) ≤ k := by omega
                    have e2 : (k : Int) < n6 := by omega
                    have w1 : IntKind.i64.wrap ((k : Int) + 1) = (k : Int) + 1 := IntWalk.i64_in _ (by omega)
                    go_upto_region 32 with fail
                    rw [Hzn.out, HW2.out]
                    clear q0 q1 q2 q3 q4
                    go_region
                    all_goals go_wp2_with fail
                    all_goals refine hs1.out.mono ?_
                    all_goals rintro e w4 ⟨rfl, hh4, ht4⟩
                    all_goals (
                      have HM4 := Lib.hid (HM3.out.spoke hh4 ht4)
                      have HK4 := Lib.hid (box_keep HK3.out (by have := HLOC.out; omega) ht4)
                      have n2 : w4.cell? ⟨zn, 2, none⟩ = some (.int .i64 dst) := Lib.cell_of_heap HK4.out 2
                      have hs2 := Lib.hid (spoke_any (z + 4) mid (z + 1) (n + 1) _ dst (-1) k _ _ _ _ w4 HM4.out.store HM4.out.hops HVD.out vim (by omega) (by omega) HM4.out.loc.2)
                      clear hh4 ht4 n1 hs1
                      go_wp2_with fail
                      refine hs2.out.mono ?_
                      rintro e w5 ⟨rfl, hh5, ht5⟩
                      have HM5 := Lib.hid (HM4.out.spoke hh5 ht5)
                      have HK5 := Lib.hid (box_keep HK4.out (by have := HLOC.out; omega) ht5)
                      have n3 : w5.cell? ⟨zn, 1, none⟩ = some (.int .i64 src) := Lib.cell_of_heap HK5.out 1
                      have hs3 := Lib.hid (spoke_any (z + 4) mid (z + 1) (n + 1 + 1) _ src 0 k _ _ _ _ w5 HM5.out.store HM5.out.hops HVS.out vi0 (by omega) (by omega) HM5.out.loc.2)
                      clear hh5 ht5 n2 hs2
                      go_wp2_with fail
                      refine hs3.out.mono ?_
                      rintro e w6 ⟨rfl, hh6, ht6⟩
                      have HM6 := Lib.hid (HM5.out.spoke hh6 ht6)
                      have HK6 := Lib.hid (box_keep HK5.out (by have := HLOC.out; omega) ht6)
                      have n4 : w6.cell? ⟨zn, 1, none⟩ = some (.int .i64 src) := Lib.cell_of_heap HK6.out 1
                      have n5' : w6.cell? ⟨zn, 2, none⟩ = some (.int .i64 dst) := Lib.cell_of_heap HK6.out 2
                      clear hh6 ht6 n3 hs3
                      by_cases hds : dst = src
                      · have q5 : (dst != src) = false := by rw [hds]; exact bne_self_eq_false src
                        have HM7 := Lib.hid (show Load3 w z mid NS ES (.slice A5 n5 c5) (.slice (some ad) n6 c6) (NS.map NodeD.id) ((ES.take (k + 1)).map EdgeD.id) (n + 1 + 1 + 1) (hopsG (ES.take (k + 1))) w6 from by
                          rw [take_oneMore HX.out, hops_more, Hsrc.out, Hdst.out, if_pos hds, List.length_take, Hn6.out, Nat.min_eq_left hk, ← take_oneMore HX.out]
                          exact HM6.out)
                        clear hds HM6
                        go_wp2_with fail
                        exact ⟨⟨k + 1, n + 1 + 1 + 1, by omega, by omega, by go_num, HM7⟩, by simp [intOf]; omega⟩
                      · have q5 : (dst != src) = true := bne_iff_ne.2 hds
                        have hs4 := Lib.hid (spoke_any (z + 4) mid (z + 1) (n + 1 + 1 + 1) _ dst 0 k _ _ _ _ w6 HM6.out.store HM6.out.hops HVD.out vi0 (by omega) (by omega) HM6.out.loc.2)
                        go_wp2_with fail
                        refine hs4.out.mono ?_
                        rintro e w7 ⟨rfl, hh7, ht7⟩
                        have HM7 := Lib.hid (show Load3 w z mid NS ES (.slice A5 n5 c5) (.slice (some ad) n6 c6) (NS.map NodeD.id) ((ES.take (k + 1)).map EdgeD.id) (n + 1 + 1 + 1 + 1) (hopsG (ES.take (k + 1))) w7 from by
                          rw [take_oneMore HX.out, hops_more, Hsrc.out, Hdst.out, if_neg hds, List.length_take, Hn6.out, Nat.min_eq_left hk, ← take_oneMore HX.out]
                          exact HM6.out.spoke hh7 ht7)
                        clear hds HM6 hh7 ht7 n4 n5' hs4
                        go_wp2_with fail
                        exact ⟨⟨k + 1, n + 1 + 1 + 1 + 1, by omega, by omega, by go_num, HM7⟩, by simp [intOf]; omega⟩)
                  · have hke : n6 = k := by omega
                    have HL5 := Lib.hid (show Load3 w z mid NS ES (.slice A5 n5 c5) (.slice A6 n6 c6) (NS.map NodeD.id) (ES.map EdgeD.id) n (hopsG ES) wr from by
                      have h := hM.out
                      rw [List.take_of_length_le (by rw [Hn6.out]; omega)] at h
                      exact h)
                    clear hM
                    subst hke
                    have HMAY := Lib.hid (show mayG g = true from by rw [hmay.out, hokN.out, hokE.out]; rfl)
                    have HSRT := Lib.hid (show SrtG g ⟨NS, ES⟩ from ⟨⟨ns, hall.out, HPN.out.1, HPN.out.2⟩, ⟨es, halE.out, HPE.out.1, HPE.out.2⟩⟩)
                    go_upto_region 39 with fail
                    go_wp2_with fail
                    go_ret2
                    exact ⟨by rw [HZ.out]; exact HL5.out.below, .inr ⟨HMAY.out, z + 4, ⟨NS, ES⟩, rfl, by rw [HZ.out]; exact HL5.out.done (by omega), HSRT.out⟩⟩
  · have hno := Lib.hid (show mayG g = false from by rw [hmay.out, decide_eq_false hlen]; rfl)
    have HB := Lib.hid (show Below w.heap.size w (w.alloc (.cells #[.slice AN nN cN, .slice AE nE cE] 25)) from (Below.refl _ _).alloc (Nat.le_refl _) _)
    by_cases h1 : nN ≤ 131072
    · have e1 : decide ((131072 : Int) < nN) = false := decide_eq_false (by omega)
      have e2 : decide ((65536 : Int) < nE) = true := decide_eq_true (by omega)
      clear hlen h1
      go_enter Tryz.func10, Tryz.ntmps10
      go_wp2_with fail
      go_ret2
      exact ⟨HB.out, .inl ⟨hno.out, rfl⟩⟩
    · have e1 : decide ((131072 : Int) < nN) = true := decide_eq_true (by omega)
      clear hlen h1
      go_enter Tryz.func10, Tryz.ntmps10
      go_wp2_with fail
      go_ret2
      exact ⟨HB.out, .inl ⟨hno.out, rfl⟩⟩
end Go.Proofs.YtmhjbicbdahllaaGreatDoor
