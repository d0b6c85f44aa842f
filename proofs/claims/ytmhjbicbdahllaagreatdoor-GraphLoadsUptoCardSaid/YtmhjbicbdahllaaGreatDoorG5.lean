/- The walk of 'properties'. -/
import Derived.Test.YtmhjbicbdahllaaGreatDoorG4
namespace Go.Proofs.YtmhjbicbdahllaaGreatDoor
open Go Go.RowKit Go.Maps Go.WideMaps

theorem plain_list {v : Val} (h : v.kind = 5) : plainB v = (mayV v 0 && !(v.list.any fun x => !scalarB x)) := by
  unfold plainB
  rw [if_pos h]
  congr 1
  induction v.list with
  | nil => rfl
  | cons a r ih => rw [List.all_cons, List.any_cons, Bool.not_or, Bool.not_not, ih]
theorem plain_one {v : Val} (h : v.kind ≠ 5) : plainB v = scalarB v := by unfold plainB; rw [if_neg h]

set_option maxRecDepth 100000 in
set_option maxHeartbeats 2000000 in
theorem props_any (l : List PairD) (hfit : ∀ p, p ∈ l → FitP p) (hlen : l.length ≤ 2000000) (F : Nat → Prop) (A : Option Addr) (n cap : Nat) (w : World) (hF : ∀ g, F g → g < w.heap.size) (hl : SRd 7 PaR w F l A n) (hg : GlobB w) :
    Calls Tryz.prog 30 #[.slice A n cap] w (ToldB (propsB l) w) := by
  have hmm := @run_makeMap Tryz.prog
  have HL := Lib.hid hl
  have HF := Lib.hid hF
  have HG := Lib.hid hg
  have HFIT := Lib.hid hfit
  have hln := Lib.hid hl.1
  have hn2 : n ≤ 2000000 := by rw [hl.1]; exact hlen
  clear hl hF hg hfit
  obtain ⟨m, Hm⟩ := name_itV w.heap.size
  have HP := Lib.hid (show propsB l = (propsG [] l && decide (l.length ≤ 65536)) from rfl)
  obtain ⟨pb, HPB⟩ := name_itV (propsB l)
  rw [HPB.out] at HP ⊢
  have HNO := Lib.hid (fun (k : Nat) (x : PairD) (hx : l[k]? = some x) (h : (textB x.key && (!inB ((l.take k).map PairD.key) x.key && plainB x.v)) = false) => HPB.out.symm.trans (props_no hx h))
  go_enter Tryz.func30, Tryz.ntmps30
  go_wp2_with fail
  rw [Hm.out]
  go_loopw [10] (fun s10 wr => ∃ k : Nat, k ≤ n ∧ s10 = .int .i64 (k : Nat) ∧ Hid (PropsM w m l k wr)) (fun s10 _ => n - (intOf s10).toNat)
  case atStart =>
    refine ⟨0, by omega, rfl, Lib.hid ⟨(Below.refl _ _).alloc (Nat.le_refl _) _, by rw [← Hm.out]; exact Nat.le_refl _, ?_, rfl⟩⟩
    rw [← Hm.out]
    exact SetAt.made _ _ _ _
  case round =>
    obtain ⟨k, hk, rfl, hM⟩ := hrel
    by_cases hlt : k < n
    · obtain ⟨x, hx⟩ : ∃ x, l[k]? = some x := ⟨l[k]'(by rw [← hln.out]; exact hlt), List.getElem?_eq_getElem _⟩
      have HX := Lib.hid hx
      have hfx := Lib.hid (HFIT.out x (List.mem_of_getElem? hx))
      obtain ⟨ad, s, rfl, hFa, hv, c0, c1, c2, c3, c4, c5, c6⟩ := pairsAt (HL.out.under PaR.good hM.out.below HF.out) hx
      obtain ⟨B, cb, hu, _, _⟩ := hv.inv
      injection hu with hu
      obtain rfl : s = .slice B x.v.list.length cb := by
        have := congrArg (fun a : Array Value => a[5]?) hu
        simpa [cellsV] using this
      have HV := Lib.hid hv
      clear hx hFa hv hu
      obtain ⟨lx, Hlx⟩ := name_itV x.v.list.length
      rw [Hlx.out] at c6 HV
      obtain ⟨z, Hz⟩ := name_itV wr.heap.size
      obtain ⟨w5, HW5⟩ := name_itV (wr.alloc (.cells #[.string x.key, .int .i64 x.v.kind, .bool x.v.truth, .int .i64 x.v.num, .string x.v.text, .string x.v.extra, .slice B lx cb] 57))
      have HB5 := Lib.hid (show Below wr.heap.size wr w5 from by rw [← HW5.out]; exact (Below.refl _ _).alloc (Nat.le_refl _) _)
      have HK5 := Lib.hid (show w5.heap[z]? = some (.cells #[.string x.key, .int .i64 x.v.kind, .bool x.v.truth, .int .i64 x.v.num, .string x.v.text, .string x.v.extra, .slice B lx cb] 57 (0, 0)) from by rw [← HW5.out, ← Hz.out]; exact heap_alloc_new wr _)
      have HS5 := Lib.hid (show w5.heap.size = z + 1 from by rw [← HW5.out, ← Hz.out]; simp)
      have e1 : (0 : Int) ≤ k := by omega
      have e2 : (k : Int) < n := by omega
      go_upto_region 5 with fail
      rw [HW5.out, Hz.out]
      have hszw : w.heap.size ≤ wr.heap.size := hM.out.below.size
      have HF5 := Lib.hid (fun (W : World) (hW : Below wr.heap.size wr W) (g : Nat) (hg : F g) => show g < W.heap.size from Nat.lt_of_lt_of_le (HF.out g hg) (Nat.le_trans hszw hW.size))
      have HFr := Lib.hid (fun (g : Nat) (hg : F g) => show g < wr.heap.size from Nat.lt_of_lt_of_le (HF.out g hg) hszw)
      have HGr := Lib.hid (glob_under HG.out hM.out.below)
      have hsc := Lib.hid (scalar_any x.v (by have := hfx.out.2; omega) F _ w5 (HF5.out w5 HB5.out) (HV.out.under HB5.out HFr.out) (glob_under HGr.out HB5.out))
      obtain ⟨sc, HSC⟩ := name_itV (scalarB x.v)
      rw [HSC.out] at hsc
      unfold cellsV at hsc
      have d1 : w5.cell? ⟨z, 1, none⟩ = some (.int .i64 x.v.kind) := Lib.cell_of_heap HK5.out 1
      have d2 : w5.cell? ⟨z, 2, none⟩ = some (.bool x.v.truth) := Lib.cell_of_heap HK5.out 2
      have d3 : w5.cell? ⟨z, 3, none⟩ = some (.int .i64 x.v.num) := Lib.cell_of_heap HK5.out 3
      have d4 : w5.cell? ⟨z, 4, none⟩ = some (.string x.v.text) := Lib.cell_of_heap HK5.out 4
      have d5 : w5.cell? ⟨z, 5, none⟩ = some (.string x.v.extra) := Lib.cell_of_heap HK5.out 5
      have d6 : w5.cell? ⟨z, 6, none⟩ = some (.slice B lx cb) := Lib.cell_of_heap HK5.out 6
      clear c0 c1 c2 c3 c4 c5 c6
      go_wp2_with fail
      refine hsc.out.mono ?_
      rintro e w6 ⟨rfl, hb6⟩
      have HB6 := Lib.hid (HB5.out.trans (hb6.mono (by rw [HS5.out, Hz.out]; omega)))
      have HK6 := Lib.hid ((hb6.block z (by rw [HS5.out]; omega)).trans HK5.out)
      have hz6 := Lib.hid (show z < w6.heap.size from Nat.lt_of_lt_of_le (by rw [HS5.out]; omega) hb6.size)
      clear hb6 d1 d2 d3 d4 d5 d6
      have d1 : w6.cell? ⟨z, 1, none⟩ = some (.int .i64 x.v.kind) := Lib.cell_of_heap HK6.out 1
      go_upto_if 20 with fail
      go_cut [6] (fun s6 wx => s6 = .bool (plainB x.v) ∧ Hid (Below w6.heap.size w6 wx))
      case first =>
        by_cases h5 : x.v.kind = 5
        · have q5 : (x.v.kind == 5) = true := by rw [h5]; rfl
          have hpl := Lib.hid (plain_list h5)
          have hck := Lib.hid (check_any x.v (by have := hfx.out.2; omega) F _ w6 (HF5.out w6 HB6.out) (HV.out.under HB6.out HFr.out) (glob_under HGr.out HB6.out))
          obtain ⟨mv, HMV⟩ := name_itV (mayV x.v 0)
          rw [HMV.out] at hck hpl
          unfold cellsV at hck
          have d2 : w6.cell? ⟨z, 2, none⟩ = some (.bool x.v.truth) := Lib.cell_of_heap HK6.out 2
          have d3 : w6.cell? ⟨z, 3, none⟩ = some (.int .i64 x.v.num) := Lib.cell_of_heap HK6.out 3
          have d4 : w6.cell? ⟨z, 4, none⟩ = some (.string x.v.text) := Lib.cell_of_heap HK6.out 4
          have d5 : w6.cell? ⟨z, 5, none⟩ = some (.string x.v.extra) := Lib.cell_of_heap HK6.out 5
          have d6 : w6.cell? ⟨z, 6, none⟩ = some (.slice B lx cb) := Lib.cell_of_heap HK6.out 6
          clear h5
          go_wp2_with fail
          refine hck.out.mono ?_
          rintro e w7 ⟨rfl, hb7⟩
          have HB7 := Lib.hid hb7
          have HB7r := Lib.hid (HB6.out.trans (hb7.mono (by have := HB6.out.size; omega)))
          have d6 : w7.cell? ⟨z, 6, none⟩ = some (.slice B lx cb) := Lib.cell_of_heap ((hb7.block z hz6.out).trans HK6.out) 6
          clear hb7
          cases mv with
          | false =>
            go_wp2_with fail
            go_meet
            exact ⟨by rw [hpl.out]; rfl, HB7⟩
          | true =>
            have hcv := Lib.hid (show Calls Tryz.prog 57 #[.slice B lx cb, .func (.func 58) #[] #[]] w7 (ToldB (x.v.list.any fun v => !scalarB v) w7) from by
              obtain ⟨B', cb', hu, _, hl⟩ := (HV.out.under HB7r.out HFr.out).inv
              injection hu with hu
              have h5 := congrArg (fun a : Array Value => a[5]?) hu
              simp [cellsV] at h5
              obtain ⟨rfl, rfl, rfl⟩ := h5
              exact contV_any x.v.list (by have := hfx.out.2; have := sizeL_list x.v; omega) F _ _ _ w7 (HF5.out w7 HB7r.out) hl (glob_under HGr.out HB7r.out))
            obtain ⟨av, HAV⟩ := name_itV (x.v.list.any fun v => !scalarB v)
            rw [HAV.out] at hcv hpl
            go_wp2_with fail
            refine hcv.out.mono ?_
            rintro e w8 ⟨rfl, hb8⟩
            have HB8 := Lib.hid (HB7.out.trans (hb8.mono HB7.out.size))
            clear hb8
            go_wp2_with fail
            go_meet
            exact ⟨by rw [hpl.out]; rfl, HB8⟩
        · have q5 : (x.v.kind == 5) = false := by simp [h5]
          have hpl := Lib.hid (plain_one h5)
          clear h5
          go_wp2_with fail
          go_meet
          exact ⟨by rw [hpl.out, HSC.out], Lib.hid (Below.refl _ _)⟩
      case rest =>
        obtain ⟨h6, hbc⟩ := hcut
        subst h6
        obtain ⟨pv, HPV⟩ := name_itV (plainB x.v)
        rw [HPV.out]
        have HBc := Lib.hid (HB6.out.trans (hbc.out.mono (by have := HB6.out.size; omega)))
        have HMc := Lib.hid (show PropsM w m l k wc from ⟨hM.out.below.trans (HBc.out.mono hszw), hM.out.loc, hM.out.set.below HBc.out, hM.out.ok⟩)
        have d0 : wc.cell? ⟨z, 0, none⟩ = some (.string x.key) := Lib.cell_of_heap ((hbc.out.block z hz6.out).trans HK6.out) 0
        have htx := Lib.hid (fun W => text_ok x.key W)
        have hno := Lib.hid (HNO.out k x HX.out)
        have hyes := Lib.hid (fun h => props_yes HX.out h hM.out.ok)
        have hput := Lib.hid (put_str m ((l.take k).map PairD.key) x.key (by have := hfx.out.1; unfold VS maxLen; omega) (by simp; omega) wc HMc.out.set)
        rw [HPV.out] at hno hyes
        obtain ⟨tb, HTB⟩ := name_itV (textB x.key)
        rw [HTB.out] at htx hno hyes
        obtain ⟨ib, HIB⟩ := name_itV (inB ((l.take k).map PairD.key) x.key)
        rw [HIB.out] at hno hyes
        clear d1
        go_wp2_with fail
        refine (htx.out _).mono ?_
        rintro e w9 ⟨rfl, hw9⟩
        subst hw9
        cases tb with
        | false =>
          have HR := Lib.hid (hno.out rfl)
          go_wp2_with fail
          go_ret
          exact ⟨by rw [HR.out]; rfl, HMc.out.below⟩
        | true =>
          go_wp2_with fail
          refine hput.out.mono ?_
          rintro e w10 ⟨rfl, hset, ht10⟩
          rw [HIB.out]
          have HB10 := Lib.hid (HMc.out.below.trans (ht10.below (B := w.heap.size) (fun i _ hi => by rw [hi]; exact HMc.out.loc) HMc.out.below.size))
          have HSET := Lib.hid hset
          clear hset ht10
          cases ib with
          | true =>
            have HR := Lib.hid (hno.out rfl)
            go_wp2_with fail
            go_ret
            exact ⟨by rw [HR.out]; rfl, HB10.out⟩
          | false =>
            cases pv with
            | false =>
              have HR := Lib.hid (hno.out rfl)
              go_wp2_with fail
              go_ret
              exact ⟨by rw [HR.out]; rfl, HB10.out⟩
            | true =>
              have HY := Lib.hid (hyes.out rfl)
              have w1 : IntKind.i64.wrap ((k : Int) + 1) = (k : Int) + 1 := IntWalk.i64_in _ (by omega)
              go_wp2_with fail
              go_roundw
              case rel =>
                refine ⟨k + 1, by omega, by go_num, Lib.hid ⟨HB10.out, HMc.out.loc, ?_, HY.out⟩⟩
                have h := HSET.out
                unfold setPut at h
                rw [HIB.out, if_neg (by decide)] at h
                rw [take_oneMore HX.out, List.map_append]
                exact h
              case measure => simp [intOf]; omega
    · have hke : k = n := by omega
      subst hke
      have HR := Lib.hid (show pb = decide (k ≤ 65536) from by
        have h := hM.out.ok
        rw [List.take_of_length_le (by rw [hln.out]; exact Nat.le_refl _)] at h
        rw [HP.out, h, hln.out]; rfl)
      by_cases h6 : k ≤ 65536
      · have e6 : decide ((k : Int) ≤ 65536) = true := decide_eq_true (by omega)
        rw [decide_eq_true h6] at HR
        go_wp2_with fail
        go_ret
        exact ⟨by rw [HR.out]; rfl, hM.out.below⟩
      · have e6 : decide ((k : Int) ≤ 65536) = false := decide_eq_false (by omega)
        rw [decide_eq_false h6] at HR
        go_wp2_with fail
        go_ret
        exact ⟨by rw [HR.out]; rfl, hM.out.below⟩
end Go.Proofs.YtmhjbicbdahllaaGreatDoor
