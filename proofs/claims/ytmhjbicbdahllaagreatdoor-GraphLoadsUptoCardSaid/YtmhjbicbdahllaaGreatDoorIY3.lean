/- GraphLoads answers true where what it reads is of bulk at most 1048576: any graph: it loads just if it may be, and then tells itself, sorted, each time anew, whatever is written over what was handed in and what was told; else the refusal; no other condition. -/
import Derived.Test.YtmhjbicbdahllaaGreatDoorGK
import Derived.Test.YtmhjbicbdahllaaGreatDoorGD
import Derived.Test.YtmhjbicbdahllaaGreatDoorGE
import Derived.Test.YtmhjbicbdahllaaGreatDoorG6
import Derived.Deep.RegionHeld3
import Derived.Test.YtmhjbicbdahllaaGreatDoorIY2
import Derived.Test.YtmhjbicbdahllaaGreatDoorIY1
import Derived.Test.YtmhjbicbdahllaaGreatDoorGF
import Derived.Test.YtmhjbicbdahllaaGreatDoorCards
import Derived.Test.YtmhjbicbdahllaaGreatDoorTie
import Derived.ProofKit
import Derived.OpenShut
import Derived.ChangeSame
import Derived.Lib.SmallJoins
import Derived.Carry
import Derived.Lay
import Derived.LaidOnce
import Derived.SevenTiedAt
import Derived.Deep.DeepHandedRow
import Derived.Shelf.Vars
namespace Go.Proofs.YtmhjbicbdahllaaGreatDoor
open Go Go.RowKit

set_option maxRecDepth 100000 in
set_option maxHeartbeats 400000 in
theorem word_ok (s : ByteArray) (w : World) : Calls Tryz.prog 45 #[.string s] w fun e w' => e = .returned (.bool (textB s)) ∧ w' = w := by
  have hB : textB s = decide (1 ≤ s.size ∧ s.size ≤ 1048576) := rfl
  generalize textB s = r at hB ⊢
  have HB := Lib.hid hB
  clear hB
  by_cases h1 : 1 ≤ s.size
  · by_cases h2 : s.size ≤ 1048576
    · have e1 : decide ((1 : Int) ≤ s.size) = true := decide_eq_true (by omega)
      have e2 : decide ((s.size : Int) ≤ 1048576) = true := decide_eq_true (by omega)
      have HR : r = true := by rw [HB.out]; exact decide_eq_true ⟨h1, h2⟩
      clear h1 h2
      go_enter Tryz.func45, Tryz.ntmps45
      go_wp2
      go_ret
      exact ⟨by rw [HR]; rfl, rfl⟩
    · have e1 : decide ((1 : Int) ≤ s.size) = true := decide_eq_true (by omega)
      have e2 : decide ((s.size : Int) ≤ 1048576) = false := decide_eq_false (by omega)
      have HR : r = false := by rw [HB.out]; exact decide_eq_false (fun h => h2 h.2)
      clear h1 h2
      go_enter Tryz.func45, Tryz.ntmps45
      go_wp2
      go_ret
      exact ⟨by rw [HR]; rfl, rfl⟩
  · have e1 : decide ((1 : Int) ≤ s.size) = false := decide_eq_false (by omega)
    have HR : r = false := by rw [HB.out]; exact decide_eq_false (fun h => h1 h.1)
    clear h1
    go_enter Tryz.func45, Tryz.ntmps45
    go_wp2
    go_ret
    exact ⟨by rw [HR]; rfl, rfl⟩

set_option maxRecDepth 100000 in
set_option maxHeartbeats 1000000 in
theorem idxR_any (l : List ByteArray) (x : ByteArray) (F : Nat → Prop) (A : Option Addr) (n c : Nat) (w : World) (h : SRd 1 TxR w F l A n) (hn : n ≤ 1000000000) :
    Calls Tryz.prog 67 #[.slice A n c, .string x] w (IdxB (inB l x) w) := by
  have H1 := Lib.hid h
  have L1 := Lib.hid h.1
  clear h
  obtain ⟨r, HR⟩ := name_itV (inB l x)
  rw [HR.out]
  go_enter Tryz.func67, Tryz.ntmps67
  go_wp2_with fail
  go_loopw [5] (fun s5 wx => ∃ k : Nat, k ≤ n ∧ s5 = .int .i64 (k : Nat) ∧ Hid (wx = w ∧ x ∉ l.take k)) (fun s5 _ => n - (intOf s5).toNat)
  case atStart => exact ⟨0, by omega, rfl, Lib.hid ⟨rfl, by simp⟩⟩
  case round =>
    obtain ⟨k, hk, rfl, hM⟩ := hrel
    by_cases hlt : k < n
    · obtain ⟨y, hy⟩ : ∃ y, l[k]? = some y := ⟨l[k]'(by rw [← L1.out]; exact hlt), List.getElem?_eq_getElem _⟩
      have HY := Lib.hid hy
      obtain ⟨ad, rfl, _, q0⟩ := textAt (H1.out.keep TxR.good (w' := wr) (fun p _ => by rw [hM.out.1])) hy
      clear hy
      have e1 : (0 : Int) ≤ k := by omega
      have e2 : (k : Int) < n := by omega
      have w1 : IntKind.i64.wrap ((k : Int) + 1) = (k : Int) + 1 := IntWalk.i64_in _ (by omega)
      by_cases hxy : x = y
      · subst hxy
        have HN := Lib.hid (show r = true from by rw [← HR.out]; exact inB_yes (List.mem_of_getElem? HY.out))
        go_wp2_with fail
        go_ret
        exact ⟨(k : Int), rfl, by rw [HN.out]; simp, hM.out.1⟩
      · have t1 := strV_ne (fun e => hxy e.symm)
        have HXY := Lib.hid hxy
        clear hxy
        go_wp2_with fail
        go_roundw
        case rel =>
          refine ⟨k + 1, by omega, by go_num, Lib.hid ⟨hM.out.1, fun hm => ?_⟩⟩
          rw [take_oneMore HY.out] at hm
          rcases List.mem_append.1 hm with hm | hm
          · exact hM.out.2 hm
          · exact HXY.out (List.mem_singleton.1 hm)
        case measure => simp [intOf]; omega
    · have hke : n = k := by omega
      subst hke
      have HN := Lib.hid (show r = false from by
        rw [← HR.out]
        refine inB_no ?_
        have h := hM.out.2
        rw [List.take_of_length_le (by rw [← L1.out]; exact Nat.le_refl _)] at h
        exact h)
      go_wp2_with fail
      go_ret
      exact ⟨-1, rfl, by rw [HN.out]; simp, hM.out.1⟩
/-- May a value be a property's, or, where lists may not be, a list's? -/
def plainR (v : Val) (b : Bool) : Bool := if v.kind = 5 then b && (mayV v 0 && v.list.all scalarB) else scalarB v
theorem plainR_true (v : Val) : plainR v true = plainB v := by unfold plainR plainB; simp
theorem plainR_false (v : Val) : plainR v false = scalarB v := by
  unfold plainR scalarB
  split
  · rename_i h; rw [h]; simp
  · rfl
theorem plainR_one {v : Val} {b : Bool} {k : Int} (hk : v.kind = k) (h : k = 1 ∨ k = 2 ∨ k = 3 ∨ k = 4) : plainR v b = mayV v 0 := by
  unfold plainR scalarB
  rw [hk]
  rcases h with h | h | h | h <;> subst h <;> simp
theorem plainR_five {v : Val} {b : Bool} (h : v.kind = 5) : plainR v b = (b && (mayV v 0 && v.list.all scalarB)) := by unfold plainR; rw [if_pos h]
theorem plainR_no {v : Val} {b : Bool} {k : Int} (hk : v.kind = k) (h1 : k ≠ 1) (h2 : k ≠ 2) (h3 : k ≠ 3) (h4 : k ≠ 4) (h5 : k ≠ 5) : plainR v b = false := by
  unfold plainR scalarB
  rw [hk, if_neg h5]
  simp [h1, h2, h3, h4]
set_option maxRecDepth 100000 in
set_option maxHeartbeats 8000000 in
theorem plainR_any (N : Nat) : ∀ (v : Val) (_ : sizeV v < N) (_ : sizeV v ≤ 10000000000) (b : Bool) (F : Nat → Prop) (u : Value) (w : World) (_ : ∀ g, F g → g < w.heap.size) (_ : VRd w F v u),
    Calls Tryz.prog 68 #[u, .bool b] w (ToldB (plainR v b) w) := by
  induction N with
  | zero => exact fun _ h => absurd h (Nat.not_lt_zero _)
  | succ N ih =>
    intro v hN hs b F u w hF hv
    have hck := Lib.hid (fun (W : World) (hW : Below w.heap.size w W) => refMay_any v hs F u W (fun g hg => Nat.lt_of_lt_of_le (hF g hg) hW.size) (hv.under hW hF))
    obtain ⟨A, cap, rfl, hcap, hl⟩ := hv.inv
    have IH := Lib.hid ih
    have HL := Lib.hid hl
    have HF := Lib.hid hF
    clear ih hl hF hv hcap
    obtain ⟨pr, HPR⟩ := name_itV (plainR v b)
    obtain ⟨mv, HMV⟩ := name_itV (mayV v 0)
    rw [HPR.out]
    rw [HMV.out] at hck
    obtain ⟨ln, HLN⟩ := name_itV v.list.length
    have hsz := Lib.hid (show ln ≤ 10000000000 ∧ sizeL v.list < N ∧ sizeL v.list ≤ 10000000000 from by
      have h1 := sizeL_list v
      have h2 := len_le_size v.list
      rw [HLN.out] at h2
      omega)
    have hll := hsz.out.1
    clear hN hs
    obtain ⟨k, Hk⟩ := name_itV v.kind
    obtain ⟨tr, Htr⟩ := name_itV v.truth
    obtain ⟨nu, Hnu⟩ := name_itV v.num
    obtain ⟨tx, Htx⟩ := name_itV v.text
    obtain ⟨ex, Hex⟩ := name_itV v.extra
    unfold cellsV at hck ⊢
    rw [HLN.out] at HL hck ⊢
    rw [Hk.out, Htr.out, Hnu.out, Htx.out, Hex.out] at hck ⊢
    obtain ⟨h, Hh⟩ := name_itV w.heap.size
    obtain ⟨w0, HW0⟩ := name_itV (w.alloc (.cells #[.int .i64 k, .bool tr, .int .i64 nu, .string tx, .string ex, .slice A ln cap] 55))
    have hb0 := Lib.hid (show Below w.heap.size w w0 from by rw [← HW0.out]; exact (Below.refl _ _).alloc (Nat.le_refl _) _)
    have hblk := Lib.hid (show w0.heap[h]? = some (.cells #[.int .i64 k, .bool tr, .int .i64 nu, .string tx, .string ex, .slice A ln cap] 55 (0, 0)) from by rw [← HW0.out, ← Hh.out]; exact heap_alloc_new w _)
    have hhs := Lib.hid (blk_lt hblk.out)
    have r0 : w0.cell? ⟨h, 0, none⟩ = some (.int .i64 k) := Lib.cell_of_heap hblk.out 0
    have r1 : w0.cell? ⟨h, 1, none⟩ = some (.bool tr) := Lib.cell_of_heap hblk.out 1
    have r2 : w0.cell? ⟨h, 2, none⟩ = some (.int .i64 nu) := Lib.cell_of_heap hblk.out 2
    have r3 : w0.cell? ⟨h, 3, none⟩ = some (.string tx) := Lib.cell_of_heap hblk.out 3
    have r4 : w0.cell? ⟨h, 4, none⟩ = some (.string ex) := Lib.cell_of_heap hblk.out 4
    have r5 : w0.cell? ⟨h, 5, none⟩ = some (.slice A ln cap) := Lib.cell_of_heap hblk.out 5
    go_enter Tryz.func68, Tryz.ntmps68
    go_upto_region 1 with fail
    rw [HW0.out, Hh.out]
    by_cases h1 : k = 1
    · have HS := Lib.hid (show mv = pr from by rw [← HPR.out, ← HMV.out]; exact (plainR_one Hk.out (.inl h1)).symm)
      subst h1
      go_wp2_with fail
      refine (hck.out w0 hb0.out).mono ?_
      rintro e w2 ⟨rfl, hb2⟩
      have HB2 := Lib.hid (hb0.out.trans (hb2.mono hb0.out.size))
      clear hb2
      go_wp2_with fail
      go_ret
      exact ⟨ret_b HS.out, HB2.out⟩
    · have n1 : ((k : Int) == 1) = false := beq_eq_false_iff_ne.2 h1
      by_cases h2 : k = 2
      · have HS := Lib.hid (show mv = pr from by rw [← HPR.out, ← HMV.out]; exact (plainR_one Hk.out (.inr (.inl h2))).symm)
        subst h2
        go_wp2_with fail
        refine (hck.out w0 hb0.out).mono ?_
        rintro e w2 ⟨rfl, hb2⟩
        have HB2 := Lib.hid (hb0.out.trans (hb2.mono hb0.out.size))
        clear hb2
        go_wp2_with fail
        go_ret
        exact ⟨ret_b HS.out, HB2.out⟩
      · have n2 : ((k : Int) == 2) = false := beq_eq_false_iff_ne.2 h2
        by_cases h3 : k = 3
        · have HS := Lib.hid (show mv = pr from by rw [← HPR.out, ← HMV.out]; exact (plainR_one Hk.out (.inr (.inr (.inl h3)))).symm)
          subst h3
          go_wp2_with fail
          refine (hck.out w0 hb0.out).mono ?_
          rintro e w2 ⟨rfl, hb2⟩
          have HB2 := Lib.hid (hb0.out.trans (hb2.mono hb0.out.size))
          clear hb2
          go_wp2_with fail
          go_ret
          exact ⟨ret_b HS.out, HB2.out⟩
        · have n3 : ((k : Int) == 3) = false := beq_eq_false_iff_ne.2 h3
          by_cases h4 : k = 4
          · have HS := Lib.hid (show mv = pr from by rw [← HPR.out, ← HMV.out]; exact (plainR_one Hk.out (.inr (.inr (.inr h4)))).symm)
            subst h4
            go_wp2_with fail
            refine (hck.out w0 hb0.out).mono ?_
            rintro e w2 ⟨rfl, hb2⟩
            have HB2 := Lib.hid (hb0.out.trans (hb2.mono hb0.out.size))
            clear hb2
            go_wp2_with fail
            go_ret
            exact ⟨ret_b HS.out, HB2.out⟩
          · have n4 : ((k : Int) == 4) = false := beq_eq_false_iff_ne.2 h4
            by_cases h5 : k = 5
            · have HS0 := Lib.hid (show pr = (b && (mv && v.list.all scalarB)) from by rw [← HPR.out, ← HMV.out]; exact plainR_five (Hk.out.trans h5))
              subst h5
              clear n1 n2 n3 n4 h1 h2 h3 h4
              go_wp2_with fail
              go_loopw [5] (fun s5 wr => ∃ i : Nat, i ≤ ln ∧ s5 = .int .i64 (i : Nat) ∧ Hid (((v.list.take i).all scalarB) = true) ∧ Hid (Below w0.heap.size w0 wr)) (fun s5 _ => ln - (intOf s5).toNat)
              case atStart => exact ⟨0, by omega, rfl, Lib.hid (by simp), Lib.hid (Below.refl _ _)⟩
              case round =>
                clear r0 r1 r2 r3 r4 r5
                obtain ⟨i, hi, rfl, hall, hB⟩ := hrel
                have HBw := Lib.hid (hb0.out.trans (hB.out.mono hb0.out.size))
                have hbw := Lib.hid ((hB.out.block h hhs.out).trans hblk.out)
                have r5 : wr.cell? ⟨h, 5, none⟩ = some (.slice A ln cap) := Lib.cell_of_heap hbw.out 5
                by_cases hlt : i < ln
                · obtain ⟨y, hy⟩ : ∃ y, v.list[i]? = some y := ⟨v.list[i]'(by rw [HLN.out]; exact hlt), List.getElem?_eq_getElem _⟩
                  have HR := Lib.hid (HL.out.under HBw.out HF.out)
                  obtain ⟨ad, s, rfl, hFa, ⟨B, capy, rfl, hcapy, hly⟩, hvy, e0, e1, e2, e3, e4, e5⟩ := HR.out.cellsAt hy
                  have HY := Lib.hid hy
                  have hmem := Lib.hid (List.mem_of_getElem? hy)
                  have hsy := sizeV_mem hmem.out
                  have hih := Lib.hid (IH.out y (by have := hsz.out; omega) (by have := hsz.out; omega) false F _ wr (fun g hg => Nat.lt_of_lt_of_le (HF.out g hg) HBw.out.size) hvy)
                  rw [plainR_false] at hih
                  unfold cellsV at hih
                  have hmore := Lib.hid (fun (h : scalarB y = true) => show ((v.list.take (i + 1)).all scalarB) = true from by
                    rw [take_oneMore HY.out, List.all_append, hall.out]; simp [h])
                  have hstop := Lib.hid (fun (h : scalarB y = false) => show v.list.all scalarB = false from by
                    rw [List.all_eq_false]
                    exact ⟨y, hmem.out, by simp [h]⟩)
                  obtain ⟨r, Hr⟩ := name_itV (scalarB y)
                  rw [Hr.out] at hih hmore hstop
                  have q1 : (0 : Int) ≤ i := by omega
                  have q2 : (i : Int) < ln := by omega
                  clear hy hly hvy hFa hsy
                  go_wp2_with fail
                  refine hih.out.mono ?_
                  rintro e w2 ⟨rfl, hb2⟩
                  have HB2 := Lib.hid (hB.out.trans (hb2.mono hB.out.size))
                  clear hb2
                  cases r with
                  | true =>
                    have HM := Lib.hid (hmore.out rfl)
                    have w3 : IntKind.i64.wrap ((i : Int) + 1) = (i : Int) + 1 := IntWalk.i64_in _ (by omega)
                    go_wp2_with fail
                    go_roundw
                    case rel => exact ⟨i + 1, by omega, by go_num, HM, HB2⟩
                    case measure => simp [intOf]; omega
                  | false =>
                    have HS := Lib.hid (show false = pr from by rw [HS0.out, hstop.out rfl]; simp)
                    have HB3 := Lib.hid (hb0.out.trans (HB2.out.mono hb0.out.size))
                    go_wp2_with fail
                    go_ret
                    exact ⟨ret_b HS.out, HB3.out⟩
                · have hie : i = ln := by omega
                  have HA := Lib.hid (show v.list.all scalarB = true from by
                    have := hall.out
                    rw [List.take_of_length_le (by rw [hie, HLN.out]; exact Nat.le_refl _)] at this
                    exact this)
                  clear hie
                  cases b with
                  | false =>
                    have HS := Lib.hid (show false = pr from by rw [HS0.out]; simp)
                    go_wp2_with fail
                    go_ret
                    exact ⟨ret_b HS.out, HBw.out⟩
                  | true =>
                    have HS := Lib.hid (show mv = pr from by rw [HS0.out, HA.out]; simp)
                    have r0 : wr.cell? ⟨h, 0, none⟩ = some (.int .i64 5) := Lib.cell_of_heap hbw.out 0
                    have r1 : wr.cell? ⟨h, 1, none⟩ = some (.bool tr) := Lib.cell_of_heap hbw.out 1
                    have r2 : wr.cell? ⟨h, 2, none⟩ = some (.int .i64 nu) := Lib.cell_of_heap hbw.out 2
                    have r3 : wr.cell? ⟨h, 3, none⟩ = some (.string tx) := Lib.cell_of_heap hbw.out 3
                    have r4 : wr.cell? ⟨h, 4, none⟩ = some (.string ex) := Lib.cell_of_heap hbw.out 4
                    go_wp2_with fail
                    refine (hck.out wr HBw.out).mono ?_
                    rintro e w2 ⟨rfl, hb2⟩
                    have HB2 := Lib.hid (HBw.out.trans (hb2.mono HBw.out.size))
                    clear hb2
                    go_wp2_with fail
                    go_ret
                    exact ⟨ret_b HS.out, HB2.out⟩
            · have n5 : ((k : Int) == 5) = false := beq_eq_false_iff_ne.2 h5
              have HS := Lib.hid (show false = pr from by rw [← HPR.out]; exact (plainR_no Hk.out h1 h2 h3 h4 h5).symm)
              clear h1 h2 h3 h4 h5
              go_wp2_with fail
              go_ret
              exact ⟨ret_b HS.out, hb0.out⟩
end Go.Proofs.YtmhjbicbdahllaaGreatDoor

namespace Go.Proofs.YtmhjbicbdahllaaGreatDoor
open Go Go.RowKit

set_option maxRecDepth 100000 in
set_option maxHeartbeats 8000000 in
theorem propsR_any (l : List PairD) (hfit : ∀ p, p ∈ l → FitP p) (F : Nat → Prop) (A : Option Addr) (n cap : Nat) (hn : n ≤ 2000000) (w : World) (hF : ∀ g, F g → g < w.heap.size) (hl : SRd 7 PaR w F l A n) :
    Calls Tryz.prog 44 #[.slice A n cap] w (ToldB (propsB l) w) := by
  have HL := Lib.hid hl
  have HF := Lib.hid hF
  have HFIT := Lib.hid hfit
  have hln := Lib.hid hl.1
  clear hl hF hfit
  have HP := Lib.hid (show propsB l = (propsG [] l && decide (l.length ≤ 65536)) from rfl)
  obtain ⟨pb, HPB⟩ := name_itV (propsB l)
  rw [HPB.out] at HP ⊢
  have HNO := Lib.hid (fun (k : Nat) (x : PairD) (hx : l[k]? = some x) (h : (textB x.key && (!inB ((l.take k).map PairD.key) x.key && plainB x.v)) = false) => HPB.out.symm.trans (props_no hx h))
  by_cases hbig : 65536 < n
  · have g1 : (65536 : Int) < (n : Int) := by omega
    have HS := Lib.hid (show false = pb from by rw [HP.out, decide_eq_false (by rw [← hln.out]; omega)]; simp)
    clear hbig
    go_enter Tryz.func44, Tryz.ntmps44
    go_wp2_with fail
    go_ret
    exact ⟨ret_b HS.out, Below.refl _ _⟩
  · have g1 : ¬ (65536 : Int) < (n : Int) := by omega
    go_enter Tryz.func44, Tryz.ntmps44
    go_wp2_with fail
    clear g1
    go_loopw [3] (fun s wx => ∃ k : Nat, k ≤ n ∧ s = .int .i64 (k : Nat) ∧ Hid (Below w.heap.size w wx ∧ propsG [] (l.take k) = true)) (fun s _ => n - (intOf s).toNat)
    case atStart => exact ⟨0, by omega, rfl, Lib.hid ⟨Below.refl _ _, by rw [List.take_zero]; rfl⟩⟩
    case round =>
      obtain ⟨k, hk, rfl, hM⟩ := hrel
      by_cases hlt : k < n
      · obtain ⟨x, hx⟩ : ∃ x, l[k]? = some x := ⟨l[k]'(by rw [← hln.out]; exact hlt), List.getElem?_eq_getElem _⟩
        have HX := Lib.hid hx
        have hfx := Lib.hid (HFIT.out x (List.mem_of_getElem? hx))
        obtain ⟨ad, s, rfl, hFa, hv, c0, c1, c2, c3, c4, c5, c6⟩ := pairsAt (HL.out.under PaR.good hM.out.1 HF.out) hx
        obtain ⟨B, cb, hu, _, _⟩ := hv.inv
        have es : s = .slice B x.v.list.length cb := by
          injection hu with hu
          have := congrArg (fun a : Array Value => a[5]?) hu
          simpa [cellsV] using this
        obtain ⟨lx, Hlx⟩ := name_itV x.v.list.length
        rw [Hlx.out] at es
        subst es
        have hpl := Lib.hid (fun (W : World) (hW : Below wr.heap.size wr W) => plainR_any (sizeV x.v + 1) x.v (by omega) (by have := hfx.out.2; omega) true F _ W (fun g hg => Nat.lt_of_lt_of_le (Nat.lt_of_lt_of_le (HF.out g hg) hM.out.1.size) hW.size) (hv.under hW (fun g hg => Nat.lt_of_lt_of_le (HF.out g hg) hM.out.1.size)))
        rw [plainR_true] at hpl
        unfold cellsV at hpl
        obtain ⟨tb, HTB⟩ := name_itV (textB x.key)
        obtain ⟨qb, HQB⟩ := name_itV (plainB x.v)
        have hw := Lib.hid (fun W => word_ok x.key W)
        rw [HTB.out] at hw
        rw [HQB.out] at hpl
        have HNX := Lib.hid (fun h => HNO.out k x HX.out h)
        rw [HTB.out, HQB.out] at HNX
        have e1 : (0 : Int) ≤ k := by omega
        have e2 : (k : Int) < n := by omega
        clear hx hFa hv hu
        cases tb with
        | false =>
          have HS := Lib.hid (show false = pb from (HNX.out (by simp)).symm)
          go_wp2_with fail
          refine (hw.out wr).mono ?_
          rintro e w2 ⟨rfl, rfl⟩
          go_wp2_with fail
          go_ret
          exact ⟨ret_b HS.out, hM.out.1⟩
        | true =>
          go_wp2_with fail
          refine (hw.out wr).mono ?_
          rintro e w2 ⟨rfl, hw2⟩
          subst hw2
          go_wp2_with fail
          refine (hpl.out _ (Below.refl _ _)).mono ?_
          rintro e w3 ⟨rfl, hb3⟩
          have HB3 := Lib.hid (hM.out.1.trans (hb3.mono hM.out.1.size))
          clear hb3 c0 c1 c2 c3 c4 c5 c6
          cases qb with
          | false =>
            have HS := Lib.hid (show false = pb from (HNX.out (by simp)).symm)
            go_wp2_with fail
            go_ret
            exact ⟨ret_b HS.out, HB3.out⟩
          | true =>
            have w1 : IntKind.i64.wrap ((k : Int) + 1) = (k : Int) + 1 := IntWalk.i64_in _ (by omega)
            go_wp2_with fail
            go_loopw [4] (fun s wx => ∃ j : Nat, j ≤ k ∧ s = .int .i64 (j : Nat) ∧ Hid (Below w.heap.size w wx ∧ x.key ∉ (l.take j).map PairD.key)) (fun s _ => k - (intOf s).toNat)
            case atStart => exact ⟨0, by omega, rfl, Lib.hid ⟨HB3.out, by simp⟩⟩
            case round =>
              obtain ⟨j, hj, rfl, hM4⟩ := hrel
              by_cases hlj : j < k
              · obtain ⟨y, hy⟩ : ∃ y, l[j]? = some y := ⟨l[j]'(by rw [← hln.out]; omega), List.getElem?_eq_getElem _⟩
                have HY := Lib.hid hy
                obtain ⟨ad', s', hA, _, _, d0, _⟩ := pairsAt (HL.out.under PaR.good hM4.out.1 HF.out) hy
                obtain rfl : ad = ad' := by injection hA
                obtain ⟨ad', s2', hA2, _, _, d1, _⟩ := pairsAt (HL.out.under PaR.good hM4.out.1 HF.out) HX.out
                obtain rfl : ad = ad' := by injection hA2
                have q1 : (0 : Int) ≤ j := by omega
                have q2 : (j : Int) < n := by omega
                have q3 : (j : Int) < k := by omega
                have w4 : IntKind.i64.wrap ((j : Int) + 1) = (j : Int) + 1 := IntWalk.i64_in _ (by omega)
                clear hy hA hA2
                by_cases hxy : y.key = x.key
                · have t1 : (y.key.toList == x.key.toList) = true := by rw [hxy]; exact beq_self_eq_true _
                  have HS := Lib.hid (show false = pb from (HNX.out (by
                    have hlt2 : y ∈ l.take k := List.mem_of_getElem? (by rw [List.getElem?_take]; rw [if_pos hlj]; exact HY.out)
                    rw [inB_yes (List.mem_map.2 ⟨y, hlt2, hxy⟩)]
                    simp)).symm)
                  clear hxy
                  go_upto_region 11 with fail
                  go_quiet (fail)
                  go_wp2_with fail
                  go_ret
                  exact ⟨ret_b HS.out, below_drewN hM4.out.1 nq⟩
                · have t1 : (y.key.toList == x.key.toList) = false := strV_ne hxy
                  have HXY := Lib.hid hxy
                  clear hxy
                  go_upto_region 11 with fail
                  go_quiet (fail)
                  go_wp2_with fail
                  go_roundw
                  case measure => simp [intOf]; omega
                  case rel =>
                    refine ⟨j + 1, by omega, by go_num, Lib.hid ⟨below_drewN hM4.out.1 nq, fun hm => ?_⟩⟩
                    rw [take_oneMore HY.out, List.map_append] at hm
                    rcases List.mem_append.1 hm with hm | hm
                    · exact hM4.out.2 hm
                    · exact HXY.out (List.mem_singleton.1 hm).symm
              · have hjk : j = k := by omega
                have HYES := Lib.hid (show propsG [] (l.take (k + 1)) = true from props_yes HX.out (by
                  have h4 := hM4.out.2
                  rw [hjk] at h4
                  rw [HTB.out, HQB.out, inB_no h4]
                  rfl) hM.out.2)
                have q3 : ¬ (j : Int) < k := by omega
                clear hjk
                go_wp2_with fail
                go_roundw
                case measure => simp [intOf]; omega
                case rel => exact ⟨k + 1, by omega, by go_num, Lib.hid ⟨hM4.out.1, HYES.out⟩⟩
      · have hkn : k = n := by omega
        have HS := Lib.hid (show true = pb from by
          have h2 := hM.out.2
          rw [List.take_of_length_le (by rw [← hln.out, hkn]; exact Nat.le_refl _)] at h2
          rw [HP.out, h2, decide_eq_true (by rw [← hln.out]; omega)]
          rfl)
        clear hkn
        go_wp2_with fail
        go_ret
        exact ⟨ret_b HS.out, hM.out.1⟩
theorem SRd.take {α : Type} {R : Lies α} {sz : Nat} {w : World} {F : Nat → Prop} {l : List α} {A : Option Addr} {n k : Nat} (h : SRd sz R w F l A n) (hk : k ≤ n) : SRd sz R w F (l.take k) A k := by
  refine ⟨by rw [List.length_take]; have := h.1; omega, fun h0 => ?_⟩
  obtain ⟨ad, e, hF, hc⟩ := h.2 (by omega)
  refine ⟨ad, e, hF, fun i x hx => ?_⟩
  have hik := idx_lt hx
  rw [List.length_take] at hik
  rw [List.getElem?_take, if_pos (by omega)] at hx
  exact hc i x hx
/-- A node's place. -/
def NodeIx (l : List NodeD) (id : Int) (r : Int) : Prop := (r = -1 ∧ id ∉ l.map NodeD.id) ∨ ∃ p x, r = ((p : Nat) : Int) ∧ l[p]? = some x ∧ x.id = id ∧ id ∉ (l.take p).map NodeD.id
def NodeIxIs (l : List NodeD) (id : Int) (w : World) (e : Ending) (w' : World) : Prop := ∃ r : Int, e = .returned (.int .i64 r) ∧ NodeIx l id r ∧ Below w.heap.size w w'
theorem NodeIx.low {l : List NodeD} {id r : Int} (h : NodeIx l id r) : decide (r < 0) = !inB (l.map NodeD.id) id := by
  rcases h with ⟨h1, h2⟩ | ⟨p, x, h1, h2, h3, _⟩
  · rw [inB_no h2, decide_eq_true (by omega)]; rfl
  · rw [inB_yes (List.mem_map.2 ⟨x, List.mem_of_getElem? h2, h3⟩), decide_eq_false (by omega)]; rfl
theorem NodeIx.at_ {l : List NodeD} {r : Int} {i : Nat} {x : NodeD} (h : NodeIx l x.id r) (hx : l[i]? = some x) : (r != (i : Int)) = inB ((l.take i).map NodeD.id) x.id := by
  rcases h with ⟨_, h2⟩ | ⟨p, y, h1, h2, h3, h4⟩
  · exact absurd (List.mem_map.2 ⟨x, List.mem_of_getElem? hx, rfl⟩) h2
  · subst h1
    by_cases e : p = i
    · subst e
      rw [inB_no h4]
      simp
    · rcases Nat.lt_or_ge p i with hp | hp
      · have hm : y ∈ l.take i := List.mem_of_getElem? (show (l.take i)[p]? = some y from by rw [List.getElem?_take, if_pos hp]; exact h2)
        rw [inB_yes (List.mem_map.2 ⟨y, hm, h3⟩)]
        simp only [bne_iff_ne, ne_eq]
        omega
      · have hm : x ∈ l.take p := List.mem_of_getElem? (show (l.take p)[i]? = some x from by rw [List.getElem?_take, if_pos (by omega)]; exact hx)
        exact absurd (List.mem_map.2 ⟨x, hm, rfl⟩) h4
set_option maxRecDepth 100000 in
set_option maxHeartbeats 4000000 in
theorem nodeR_any (l : List NodeD) (id : Int) (E : Value) (F : Nat → Prop) (A : Option Addr) (n cap : Nat) (hn : n ≤ 2000000) (w : World) (hF : ∀ g, F g → g < w.heap.size) (hl : SRd 3 NoR w F l A n) (hE : ∃ B m c, E = .slice B m c) :
    Calls Tryz.prog 42 #[.agg #[.slice A n cap, E], .int .i64 id] w (NodeIxIs l id w) := by
  obtain ⟨BE, mE, cE, rfl⟩ := hE
  have HL := Lib.hid hl
  have HF := Lib.hid hF
  have hln := Lib.hid hl.1
  clear hl hF
  obtain ⟨z, Hz⟩ := name_itV w.heap.size
  obtain ⟨w1, HW1⟩ := name_itV (w.alloc (.cells #[.slice A n cap, .slice BE mE cE] 25))
  have HB1 := Lib.hid (show Below w.heap.size w w1 from by rw [← HW1.out]; exact (Below.refl _ _).alloc (Nat.le_refl _) _)
  have HK1 := Lib.hid (show w1.heap[z]? = some (.cells #[.slice A n cap, .slice BE mE cE] 25 (0, 0)) from by rw [← HW1.out, ← Hz.out]; exact heap_alloc_new w _)
  have HL1 := Lib.hid (HL.out.under NoR.good HB1.out HF.out)
  have c0 : w1.cell? ⟨z, 0, none⟩ = some (.slice A n cap) := Lib.cell_of_heap HK1.out 0
  go_enter Tryz.func42, Tryz.ntmps42
  go_upto_region 1 with fail
  rw [HW1.out, Hz.out]
  go_wp2_with fail
  go_loopw [5] (fun s wx => ∃ k : Nat, k ≤ n ∧ s = .int .i64 (k : Nat) ∧ wx = w1 ∧ Hid (id ∉ (l.take k).map NodeD.id)) (fun s _ => n - (intOf s).toNat)
  case atStart => exact ⟨0, by omega, rfl, rfl, Lib.hid (by simp)⟩
  case round =>
    obtain ⟨k, hk, rfl, rfl, hM⟩ := hrel
    by_cases hlt : k < n
    · obtain ⟨x, hx⟩ : ∃ x, l[k]? = some x := ⟨l[k]'(by rw [← hln.out]; exact hlt), List.getElem?_eq_getElem _⟩
      have HX := Lib.hid hx
      obtain ⟨ad, A1, d1, A2, d2, rfl, _, _, _, _, q0, _, _⟩ := nodesAt HL1.out hx
      obtain ⟨xid, Hxid⟩ := name_itV x.id
      rw [Hxid.out] at q0
      clear hx
      have e1 : (0 : Int) ≤ k := by omega
      have e2 : (k : Int) < n := by omega
      have w2 : IntKind.i64.wrap ((k : Int) + 1) = (k : Int) + 1 := IntWalk.i64_in _ (by omega)
      by_cases hxy : xid = id
      · subst hxy
        have t1 : ((xid : Int) == xid) = true := beq_self_eq_true _
        go_wp2_with fail
        go_ret
        exact ⟨(k : Int), rfl, .inr ⟨k, x, rfl, HX.out, Hxid.out, hM.out⟩, HB1.out⟩
      · have t1 : ((xid : Int) == id) = false := beq_eq_false_iff_ne.2 hxy
        have HXY := Lib.hid hxy
        clear hxy
        go_wp2_with fail
        go_roundw
        case measure => simp [intOf]; omega
        case rel =>
          refine ⟨k + 1, by omega, by go_num, by trivial, Lib.hid fun hm => ?_⟩
          rw [take_oneMore HX.out, List.map_append] at hm
          rcases List.mem_append.1 hm with hm | hm
          · exact hM.out hm
          · exact HXY.out (Hxid.out.symm.trans (List.mem_singleton.1 hm).symm)
    · have hkn : k = n := by omega
      have HS := Lib.hid (show id ∉ l.map NodeD.id from by
        have h := hM.out
        rw [List.take_of_length_le (by rw [← hln.out, hkn]; exact Nat.le_refl _)] at h
        exact h)
      clear hkn
      go_wp2_with fail
      go_ret
      exact ⟨-1, rfl, .inl ⟨rfl, HS.out⟩, HB1.out⟩
set_option maxRecDepth 100000 in
set_option maxHeartbeats 4000000 in
theorem labelsR_any (l : List ByteArray) (F : Nat → Prop) (A : Option Addr) (n cap : Nat) (hn : n ≤ 2000000) (hcap : n ≤ cap) (w : World) (_hF : ∀ g, F g → g < w.heap.size) (hl : SRd 1 TxR w F l A n) :
    Calls Tryz.prog 43 #[.slice A n cap] w (ToldB (lablG [] l && decide (l.length ≤ 65536)) w) := by
  have HL := Lib.hid hl
  have hln := Lib.hid hl.1
  clear hl
  obtain ⟨pb, HPB⟩ := name_itV (lablG [] l && decide (l.length ≤ 65536))
  rw [HPB.out]
  have HNO := Lib.hid (fun (k : Nat) (x : ByteArray) (hx : l[k]? = some x) (h : (textB x && !inB (l.take k) x) = false) => (show false = pb from by rw [← HPB.out, labl_no hx h]; rfl))
  go_enter Tryz.func43, Tryz.ntmps43
  go_wp2_with fail
  go_loopw [3] (fun s wx => ∃ k q : Nat, k ≤ n ∧ s = .int .i64 (k : Nat) ∧ Hid (wx = w.drewN q ∧ lablG [] (l.take k) = true)) (fun s _ => n - (intOf s).toNat)
  case atStart => exact ⟨0, 0, by omega, rfl, Lib.hid ⟨rfl, by rw [List.take_zero]; rfl⟩⟩
  case round =>
    obtain ⟨k, q, hk, rfl, hM⟩ := hrel
    by_cases hlt : k < n
    · obtain ⟨x, hx⟩ : ∃ x, l[k]? = some x := ⟨l[k]'(by rw [← hln.out]; exact hlt), List.getElem?_eq_getElem _⟩
      have HX := Lib.hid hx
      have HLR := Lib.hid (show SRd 1 TxR wr F l A n from by rw [hM.out.1]; exact HL.out.drewN TxR.good q)
      obtain ⟨ad, rfl, _, q0⟩ := textAt HLR.out hx
      obtain ⟨tb, HTB⟩ := name_itV (textB x)
      obtain ⟨ib, HIB⟩ := name_itV (inB (l.take k) x)
      have hw := Lib.hid (fun W => word_ok x W)
      have hix := Lib.hid (fun (W : World) (hW : SRd 1 TxR W F (l.take k) (some ad) k) (c : Nat) => idxR_any (l.take k) x F (some ad) k c W hW (by omega))
      rw [HTB.out] at hw
      rw [HIB.out] at hix
      have HNX := Lib.hid (fun h => HNO.out k x HX.out h)
      rw [HTB.out, HIB.out] at HNX
      have HBD := Lib.hid (show Below w.heap.size w wr from by rw [hM.out.1]; exact below_drewN (Below.refl _ _) q)
      have s1 := Lib.hid (show wr.drew.cell? (ad.add k) = some (.string x) from q0)
      have HSD := Lib.hid (show SRd 1 TxR wr.drew F (l.take k) (some ad) k from (HLR.out.drewN TxR.good 1).take hk)
      have e1 : (0 : Int) ≤ k := by omega
      have e2 : (k : Int) < n := by omega
      have e3 : (k : Int) ≤ cap := by omega
      have e4 : (k : Int) ≤ n := by omega
      have w1 : IntKind.i64.wrap ((k : Int) + 1) = (k : Int) + 1 := IntWalk.i64_in _ (by omega)
      clear hx
      cases tb with
      | false =>
        have HS := Lib.hid (HNX.out (by simp))
        go_upto_region 4 with fail
        go_quiet ((go_at_call 45; exact Calls.quiet_of_same (hw.out _)))
        go_wp2_with fail
        go_ret
        exact ⟨ret_b HS.out, below_drewN HBD.out nq⟩
      | true =>
        cases ib with
        | true =>
          have HS := Lib.hid (HNX.out (by simp))
          go_upto_region 4 with fail
          go_region_held3 (fun W' => W'.cell? (ad.add k) = some (.string x)) (exact s1.out)
            (first | (go_at_call 45; (with_reducible refine (hw.out _).mono ?_); rintro e w2 ⟨rfl, rfl⟩) | (go_at_call 67; (with_reducible refine (hix.out _ HSD.out _).mono ?_); rintro e w2 ⟨r, rfl, hr, rfl⟩))
          go_wp2_with fail
          go_ret
          exact ⟨ret_b HS.out, HBD.out.drew⟩
        | false =>
          have HYES := Lib.hid (show lablG [] (l.take (k + 1)) = true from labl_yes HX.out (by rw [HTB.out, HIB.out]; rfl) hM.out.2)
          go_upto_region 4 with fail
          go_region_held3 (fun W' => W'.cell? (ad.add k) = some (.string x)) (exact s1.out)
            (first | (go_at_call 45; (with_reducible refine (hw.out _).mono ?_); rintro e w2 ⟨rfl, rfl⟩) | (go_at_call 67; (with_reducible refine (hix.out _ HSD.out _).mono ?_); rintro e w2 ⟨r, rfl, hr, rfl⟩))
          have HW := Lib.hid (show wr.drew = w.drewN (q + 1) by rw [hM.out.1]; rfl)
          clear hM
          go_wp2_with fail
          go_roundw
          case measure => simp [intOf]; omega
          case rel => exact ⟨k + 1, q + 1, by omega, by go_num, Lib.hid ⟨HW.out, HYES.out⟩⟩
    · have hkn : k = n := by omega
      have HBD := Lib.hid (show Below w.heap.size w wr from by rw [hM.out.1]; exact below_drewN (Below.refl _ _) q)
      have HS0 := Lib.hid (show decide (n ≤ 65536) = pb from by
        have h2 := hM.out.2
        rw [List.take_of_length_le (by rw [← hln.out, hkn]; exact Nat.le_refl _)] at h2
        rw [← HPB.out, h2, hln.out]; rfl)
      clear hkn
      by_cases hbig : n ≤ 65536
      · have g1 : (n : Int) ≤ 65536 := by omega
        have HS := Lib.hid (show true = pb from by rw [← HS0.out]; exact (decide_eq_true hbig).symm)
        go_wp2_with fail
        go_ret
        exact ⟨ret_b HS.out, HBD.out⟩
      · have g1 : ¬ (n : Int) ≤ 65536 := by omega
        have HS := Lib.hid (show false = pb from by rw [← HS0.out]; exact (decide_eq_false hbig).symm)
        go_wp2_with fail
        go_ret
        exact ⟨ret_b HS.out, HBD.out⟩
end Go.Proofs.YtmhjbicbdahllaaGreatDoor

namespace Go.Proofs.YtmhjbicbdahllaaGreatDoor
open Go Go.RowKit

theorem NoR.cap {w : World} {F : Nat → Prop} {x : NodeD} {id : Value} {A1 : Option Addr} {m1 d1 : Nat} {P : Value} (h : NoR w F x #[id, .slice A1 m1 d1, P]) : m1 ≤ d1 := by
  obtain ⟨L', P', e, ⟨A', c', eL, hc, _⟩, _⟩ := h
  subst eL
  simp only [Array.mk.injEq, List.cons.injEq, Value.slice.injEq] at e
  omega
set_option maxRecDepth 100000 in
set_option maxHeartbeats 16000000 in
theorem mayR_any (G : GraphD) (hfit : FitG G) (F : Nat → Prop) (u : Value) (w : World) (hF : ∀ b, F b → b < w.heap.size) (hg : GrR w F G u) :
    Calls Tryz.prog 13 #[u] w (ToldB (mayG G) w) := by
  have HFIT := Lib.hid hfit
  have HF := Lib.hid hF
  obtain ⟨uN, uE, rfl, ⟨AN, cN, hNe, _, hNr⟩, AE, cE, hEe, _, hEr⟩ := hg
  obtain ⟨nN, HnN⟩ := name_itV G.nodes.length
  obtain ⟨nE, HnE⟩ := name_itV G.edges.length
  have hgn : nN ≤ 2000000 := by rw [← HnN.out]; exact hfit.1
  have hge : nE ≤ 2000000 := by rw [← HnE.out]; exact hfit.2.1
  rw [HnN.out] at hNe hNr
  rw [HnE.out] at hEe hEr
  subst hNe hEe
  obtain ⟨mb, HMB⟩ := name_itV (mayG G)
  rw [HMB.out]
  have HM0 := Lib.hid (show mb = (decide (nN ≤ 131072 ∧ nE ≤ 65536) && (scanG okN NodeD.id [] G.nodes && scanG (okE (G.nodes.map NodeD.id)) EdgeD.id [] G.edges)) from by rw [← HMB.out, ← HnN.out, ← HnE.out]; rfl)
  obtain ⟨z, Hz⟩ := name_itV w.heap.size
  obtain ⟨w1, HW1⟩ := name_itV (w.alloc (.cells #[.slice AN nN cN, .slice AE nE cE] 25))
  have HB1 := Lib.hid (show Below w.heap.size w w1 from by rw [← HW1.out]; exact (Below.refl _ _).alloc (Nat.le_refl _) _)
  have HK1 := Lib.hid (show w1.heap[z]? = some (.cells #[.slice AN nN cN, .slice AE nE cE] 25 (0, 0)) from by rw [← HW1.out, ← Hz.out]; exact heap_alloc_new w _)
  have hz1 := Lib.hid (blk_lt HK1.out)
  have HNR := Lib.hid (hNr.under NoR.good HB1.out hF)
  have HER := Lib.hid (hEr.under EdR.good HB1.out hF)
  have HF1 := Lib.hid (fun (b : Nat) (hb : F b) => Nat.lt_of_lt_of_le (hF b hb) HB1.out.size)
  have HBX := Lib.hid (fun (W : World) (hW : Below w1.heap.size w1 W) => (hW.block z hz1.out).trans HK1.out)
  have hnd := Lib.hid (fun (W : World) (hW : Below w1.heap.size w1 W) (i : Int) => nodeR_any G.nodes i (.slice AE nE cE) F AN nN cN hgn W (fun b hb => Nat.lt_of_lt_of_le (HF1.out b hb) hW.size) (HNR.out.under NoR.good hW HF1.out) ⟨_, _, _, rfl⟩)
  have x0 : w1.cell? ⟨z, 0, none⟩ = some (.slice AN nN cN) := Lib.cell_of_heap HK1.out 0
  have x1 : w1.cell? ⟨z, 1, none⟩ = some (.slice AE nE cE) := Lib.cell_of_heap HK1.out 1
  clear hfit hF hNr hEr
  go_enter Tryz.func13, Tryz.ntmps13
  go_upto_region 1 with fail
  rw [HW1.out, Hz.out]
  by_cases hbn : 131072 < nN
  · have g1 : (131072 : Int) < (nN : Int) := by omega
    have HS := Lib.hid (show false = mb from by rw [HM0.out, decide_eq_false (by omega)]; rfl)
    clear hbn
    go_wp2_with fail
    go_ret
    exact ⟨ret_b HS.out, HB1.out⟩
  · have g1 : ¬ (131072 : Int) < (nN : Int) := by omega
    by_cases hbe : 65536 < nE
    · have g2 : (65536 : Int) < (nE : Int) := by omega
      have HS := Lib.hid (show false = mb from by rw [HM0.out, decide_eq_false (by omega)]; rfl)
      clear hbn hbe
      go_wp2_with fail
      go_ret
      exact ⟨ret_b HS.out, HB1.out⟩
    · have g2 : ¬ (65536 : Int) < (nE : Int) := by omega
      have HM1 := Lib.hid (show mb = (scanG okN NodeD.id [] G.nodes && scanG (okE (G.nodes.map NodeD.id)) EdgeD.id [] G.edges) from by rw [HM0.out, decide_eq_true (by omega)]; rfl)
      clear hbn hbe
      go_wp2_with fail
      clear g1 g2 x0 x1
      go_loopw [3] (fun s wx => ∃ k : Nat, k ≤ nN ∧ s = .int .i64 (k : Nat) ∧ Hid (Below w1.heap.size w1 wx ∧ scanG okN NodeD.id [] (G.nodes.take k) = true)) (fun s _ => nN - (intOf s).toNat)
      case atStart => exact ⟨0, by omega, rfl, Lib.hid ⟨Below.refl _ _, by rw [List.take_zero]; rfl⟩⟩
      case round =>
        obtain ⟨k, hk, rfl, hM⟩ := hrel
        have b0 : wr.cell? ⟨z, 0, none⟩ = some (.slice AN nN cN) := Lib.cell_of_heap (HBX.out wr hM.out.1) 0
        have HBW := Lib.hid (HB1.out.trans (hM.out.1.mono HB1.out.size))
        by_cases hlt : k < nN
        · obtain ⟨x, hx⟩ : ∃ x, G.nodes[k]? = some x := ⟨G.nodes[k]'(by rw [HnN.out]; exact hlt), List.getElem?_eq_getElem _⟩
          have HX := Lib.hid hx
          have hfx := Lib.hid (HFIT.out.2.2.1 x (List.mem_of_getElem? hx))
          obtain ⟨ad, A1, d1, A2, d2, rfl, _, hNo, hl1, hl2, q0, q1, q2⟩ := nodesAt (HNR.out.under NoR.good hM.out.1 HF1.out) hx
          have hcap := hNo.cap
          have HSTOP := Lib.hid (fun (h : okN ((G.nodes.take k).map NodeD.id) x = false) => (show false = mb from by rw [HM1.out, scan_no HX.out h]; rfl))
          have HMORE := Lib.hid (fun (h : okN ((G.nodes.take k).map NodeD.id) x = true) => scan_yes (key := NodeD.id) HX.out h hM.out.2)
          have hatx := Lib.hid (fun (r : Int) (h : NodeIx G.nodes x.id r) => h.at_ HX.out)
          obtain ⟨ib, HIB⟩ := name_itV (inB ((G.nodes.take k).map NodeD.id) x.id)
          obtain ⟨lb, HLB⟩ := name_itV (lablG [] x.labels && decide (x.labels.length ≤ 65536))
          obtain ⟨pb, HPB⟩ := name_itV (propsB x.props)
          have HOK := Lib.hid (show okN ((G.nodes.take k).map NodeD.id) x = (decide (0 ≤ x.id) && (!ib && (lb && pb))) from by
            rw [← HIB.out, ← HLB.out, ← HPB.out]
            unfold okN
            rw [Bool.and_assoc])
          rw [HOK.out] at HSTOP HMORE
          rw [HIB.out] at hatx
          have hlab := Lib.hid (fun (W : World) (hW : Below wr.heap.size wr W) => labelsR_any x.labels F A1 x.labels.length d1 hfx.out.1.1 hcap W (fun b hb => Nat.lt_of_lt_of_le (Nat.lt_of_lt_of_le (HF1.out b hb) hM.out.1.size) hW.size) (hl1.under TxR.good hW (fun b hb => Nat.lt_of_lt_of_le (HF1.out b hb) hM.out.1.size)))
          have hpro := Lib.hid (fun (W : World) (hW : Below wr.heap.size wr W) => propsR_any x.props hfx.out.1.2.2.2 F A2 x.props.length d2 hfx.out.1.2.1 W (fun b hb => Nat.lt_of_lt_of_le (Nat.lt_of_lt_of_le (HF1.out b hb) hM.out.1.size) hW.size) (hl2.under PaR.good hW (fun b hb => Nat.lt_of_lt_of_le (HF1.out b hb) hM.out.1.size)))
          rw [HLB.out] at hlab
          rw [HPB.out] at hpro
          obtain ⟨id, Hxid⟩ := name_itV x.id
          rw [Hxid.out] at q0 hatx HSTOP HMORE
          obtain ⟨m1, Hm1⟩ := name_itV x.labels.length
          obtain ⟨m2, Hm2⟩ := name_itV x.props.length
          rw [Hm1.out] at q1 hlab
          rw [Hm2.out] at q2 hpro
          obtain ⟨zn, Hzn⟩ := name_itV wr.heap.size
          obtain ⟨w5, HW5⟩ := name_itV (wr.alloc (.cells #[.int .i64 id, .slice A1 m1 d1, .slice A2 m2 d2] 38))
          have HB5 := Lib.hid (show Below wr.heap.size wr w5 from by rw [← HW5.out]; exact (Below.refl _ _).alloc (Nat.le_refl _) _)
          have HK5 := Lib.hid (show w5.heap[zn]? = some (.cells #[.int .i64 id, .slice A1 m1 d1, .slice A2 m2 d2] 38 (0, 0)) from by rw [← HW5.out, ← Hzn.out]; exact heap_alloc_new wr _)
          have hzn5 := Lib.hid (blk_lt HK5.out)
          have HNX := Lib.hid (fun (W : World) (hW : Below w5.heap.size w5 W) => (hW.block zn hzn5.out).trans HK5.out)
          have HB15 := Lib.hid (hM.out.1.trans (HB5.out.mono hM.out.1.size))
          have e1 : (0 : Int) ≤ k := by omega
          have e2 : (k : Int) < nN := by omega
          have w2 : IntKind.i64.wrap ((k : Int) + 1) = (k : Int) + 1 := IntWalk.i64_in _ (by omega)
          clear hx hNo hl1 hl2 hcap
          go_upto_region 7 with fail
          rw [Hzn.out, HW5.out]
          clear q0 q1 q2 b0
          have n0 : w5.cell? ⟨zn, 0, none⟩ = some (.int .i64 id) := Lib.cell_of_heap HK5.out 0
          have b0 : w5.cell? ⟨z, 0, none⟩ = some (.slice (some ad) nN cN) := Lib.cell_of_heap (HBX.out w5 HB15.out) 0
          have b1 : w5.cell? ⟨z, 1, none⟩ = some (.slice AE nE cE) := Lib.cell_of_heap (HBX.out w5 HB15.out) 1
          by_cases hid : id < 0
          · have HS := Lib.hid (HSTOP.out (by rw [decide_eq_false (by omega)]; rfl))
            have HBR := Lib.hid (HB1.out.trans (HB15.out.mono HB1.out.size))
            go_wp2_with fail
            go_ret
            exact ⟨ret_b HS.out, HBR.out⟩
          · have HID := Lib.hid (show decide (0 ≤ id) = true from decide_eq_true (by omega))
            rw [HID.out] at HSTOP HMORE
            go_wp2_with fail
            refine (hnd.out w5 HB15.out id).mono ?_
            rintro e w6 ⟨r, rfl, hr, hb6⟩
            have hne : (r != (k : Int)) = ib := hatx.out r hr
            have HB6 := Lib.hid (HB15.out.trans (hb6.mono HB15.out.size))
            have HB56 := Lib.hid hb6
            have HBR6 := Lib.hid (HB1.out.trans (HB6.out.mono HB1.out.size))
            have n1 : w6.cell? ⟨zn, 1, none⟩ = some (.slice A1 m1 d1) := Lib.cell_of_heap (HNX.out w6 hb6) 1
            clear hr hb6 n0 b0 b1
            cases ib with
            | true =>
              have HS := Lib.hid (HSTOP.out rfl)
              go_wp2_with fail
              go_ret
              exact ⟨ret_b HS.out, HBR6.out⟩
            | false =>
              go_wp2_with fail
              refine (hlab.out w6 (HB5.out.trans (HB56.out.mono HB5.out.size))).mono ?_
              rintro e w7 ⟨rfl, hb7⟩
              have HB57 := Lib.hid (HB56.out.trans (hb7.mono HB56.out.size))
              have HB7 := Lib.hid (HB6.out.trans (hb7.mono HB6.out.size))
              have HBR7 := Lib.hid (HB1.out.trans (HB7.out.mono HB1.out.size))
              have n2 : w7.cell? ⟨zn, 2, none⟩ = some (.slice A2 m2 d2) := Lib.cell_of_heap (HNX.out w7 HB57.out) 2
              clear hb7 n1
              cases lb with
              | false =>
                have HS := Lib.hid (HSTOP.out rfl)
                go_wp2_with fail
                go_ret
                exact ⟨ret_b HS.out, HBR7.out⟩
              | true =>
                go_wp2_with fail
                refine (hpro.out w7 (HB5.out.trans (HB57.out.mono HB5.out.size))).mono ?_
                rintro e w8 ⟨rfl, hb8⟩
                have HB8 := Lib.hid (HB7.out.trans (hb8.mono HB7.out.size))
                have HBR8 := Lib.hid (HB1.out.trans (HB8.out.mono HB1.out.size))
                clear hb8 n2
                cases pb with
                | false =>
                  have HS := Lib.hid (HSTOP.out rfl)
                  go_wp2_with fail
                  go_ret
                  exact ⟨ret_b HS.out, HBR8.out⟩
                | true =>
                  have HYES := Lib.hid (HMORE.out rfl)
                  go_wp2_with fail
                  go_roundw
                  case measure => simp [intOf]; omega
                  case rel => exact ⟨k + 1, by omega, by go_num, Lib.hid ⟨HB8.out, HYES.out⟩⟩
        · have hkn : k = nN := by omega
          have HM2 := Lib.hid (show mb = scanG (okE (G.nodes.map NodeD.id)) EdgeD.id [] G.edges from by
            have h2 := hM.out.2
            rw [List.take_of_length_le (by rw [HnN.out, hkn]; exact Nat.le_refl _)] at h2
            rw [HM1.out, h2]; rfl)
          have HBS := Lib.hid hM.out.1
          clear hM hkn HBW
          go_wp2_with fail
          clear b0
          go_loopw [5] (fun s wx => ∃ k : Nat, k ≤ nE ∧ s = .int .i64 (k : Nat) ∧ Hid (Below w1.heap.size w1 wx ∧ scanG (okE (G.nodes.map NodeD.id)) EdgeD.id [] (G.edges.take k) = true)) (fun s _ => nE - (intOf s).toNat)
          case atStart => exact ⟨0, by omega, rfl, Lib.hid ⟨HBS.out, by rw [List.take_zero]; rfl⟩⟩
          case round =>
            clear HBS
            obtain ⟨k, hk, rfl, hM⟩ := hrel
            have b1 : wr.cell? ⟨z, 1, none⟩ = some (.slice AE nE cE) := Lib.cell_of_heap (HBX.out wr hM.out.1) 1
            have HBW := Lib.hid (HB1.out.trans (hM.out.1.mono HB1.out.size))
            by_cases hlt : k < nE
            · obtain ⟨x, hx⟩ : ∃ x, G.edges[k]? = some x := ⟨G.edges[k]'(by rw [HnE.out]; exact hlt), List.getElem?_eq_getElem _⟩
              have HX := Lib.hid hx
              have hfx := Lib.hid (HFIT.out.2.2.2 x (List.mem_of_getElem? hx))
              obtain ⟨ad, A2, d2, rfl, _, hEd, hl2, q0, q1, q2, q3, q4⟩ := edgesAt (HER.out.under EdR.good hM.out.1 HF1.out) hx
              have HSTOP := Lib.hid (fun (h : okE (G.nodes.map NodeD.id) ((G.edges.take k).map EdgeD.id) x = false) => (show false = mb from by rw [HM2.out, scan_no HX.out h]))
              have HMORE := Lib.hid (fun (h : okE (G.nodes.map NodeD.id) ((G.edges.take k).map EdgeD.id) x = true) => scan_yes (key := EdgeD.id) HX.out h hM.out.2)
              obtain ⟨ib, HIB⟩ := name_itV (inB ((G.edges.take k).map EdgeD.id) x.id)
              obtain ⟨sb, HSB⟩ := name_itV (inB (G.nodes.map NodeD.id) x.src)
              obtain ⟨db, HDB⟩ := name_itV (inB (G.nodes.map NodeD.id) x.dst)
              obtain ⟨tb, HTB⟩ := name_itV (textB x.type)
              obtain ⟨pb, HPB⟩ := name_itV (propsB x.props)
              have HOK := Lib.hid (show okE (G.nodes.map NodeD.id) ((G.edges.take k).map EdgeD.id) x = (decide (0 ≤ x.id) && (!ib && (sb && (db && (tb && pb))))) from by
                rw [← HIB.out, ← HSB.out, ← HDB.out, ← HTB.out, ← HPB.out]
                rfl)
              rw [HOK.out] at HSTOP HMORE
              have hlS := Lib.hid (fun (r : Int) (h : NodeIx G.nodes x.src r) => h.low)
              have hlD := Lib.hid (fun (r : Int) (h : NodeIx G.nodes x.dst r) => h.low)
              rw [HSB.out] at hlS
              rw [HDB.out] at hlD
              have hw := Lib.hid (fun W => word_ok x.type W)
              rw [HTB.out] at hw
              have hpro := Lib.hid (fun (W : World) (hW : Below wr.heap.size wr W) => propsR_any x.props hfx.out.1.2.2 F A2 x.props.length d2 hfx.out.1.2.1 W (fun b hb => Nat.lt_of_lt_of_le (Nat.lt_of_lt_of_le (HF1.out b hb) hM.out.1.size) hW.size) (hl2.under PaR.good hW (fun b hb => Nat.lt_of_lt_of_le (HF1.out b hb) hM.out.1.size)))
              rw [HPB.out] at hpro
              obtain ⟨id, Hxid⟩ := name_itV x.id
              obtain ⟨src, Hsrc⟩ := name_itV x.src
              obtain ⟨dst, Hdst⟩ := name_itV x.dst
              obtain ⟨typ, Htyp⟩ := name_itV x.type
              obtain ⟨m2, Hm2⟩ := name_itV x.props.length
              rw [Hxid.out] at q0 HSTOP HMORE
              rw [Hsrc.out] at q1 hlS
              rw [Hdst.out] at q2 hlD
              rw [Htyp.out] at q3 hw
              rw [Hm2.out] at q4 hpro
              obtain ⟨zn, Hzn⟩ := name_itV wr.heap.size
              obtain ⟨w5, HW5⟩ := name_itV (wr.alloc (.cells #[.int .i64 id, .int .i64 src, .int .i64 dst, .string typ, .slice A2 m2 d2] 41))
              have HB5 := Lib.hid (show Below wr.heap.size wr w5 from by rw [← HW5.out]; exact (Below.refl _ _).alloc (Nat.le_refl _) _)
              have HK5 := Lib.hid (show w5.heap[zn]? = some (.cells #[.int .i64 id, .int .i64 src, .int .i64 dst, .string typ, .slice A2 m2 d2] 41 (0, 0)) from by rw [← HW5.out, ← Hzn.out]; exact heap_alloc_new wr _)
              have hzn5 := Lib.hid (blk_lt HK5.out)
              have HNX := Lib.hid (fun (W : World) (hW : Below w5.heap.size w5 W) => (hW.block zn hzn5.out).trans HK5.out)
              have HB15 := Lib.hid (hM.out.1.trans (HB5.out.mono hM.out.1.size))
              have e1 : (0 : Int) ≤ k := by omega
              have e2 : (k : Int) < nE := by omega
              have w2 : IntKind.i64.wrap ((k : Int) + 1) = (k : Int) + 1 := IntWalk.i64_in _ (by omega)
              clear hx hEd hl2
              go_upto_region 13 with fail
              rw [Hzn.out, HW5.out]
              clear q0 q1 q2 q3 q4 b1
              have n0 : w5.cell? ⟨zn, 0, none⟩ = some (.int .i64 id) := Lib.cell_of_heap HK5.out 0
              have n1 : w5.cell? ⟨zn, 1, none⟩ = some (.int .i64 src) := Lib.cell_of_heap HK5.out 1
              have b0 : w5.cell? ⟨z, 0, none⟩ = some (.slice AN nN cN) := Lib.cell_of_heap (HBX.out w5 HB15.out) 0
              have b1 : w5.cell? ⟨z, 1, none⟩ = some (.slice (some ad) nE cE) := Lib.cell_of_heap (HBX.out w5 HB15.out) 1
              by_cases hid : id < 0
              · have HS := Lib.hid (HSTOP.out (by rw [decide_eq_false (by omega)]; rfl))
                have HBR := Lib.hid (HB1.out.trans (HB15.out.mono HB1.out.size))
                go_wp2_with fail
                go_ret
                exact ⟨ret_b HS.out, HBR.out⟩
              · have HID := Lib.hid (show decide (0 ≤ id) = true from decide_eq_true (by omega))
                rw [HID.out] at HSTOP HMORE
                go_wp2_with fail
                refine (hnd.out w5 HB15.out src).mono ?_
                rintro e w6 ⟨r, rfl, hr, hb6⟩
                have hlow : decide (r < 0) = !sb := hlS.out r hr
                have HB6 := Lib.hid (HB15.out.trans (hb6.mono HB15.out.size))
                have HB56 := Lib.hid hb6
                have HBR6 := Lib.hid (HB1.out.trans (HB6.out.mono HB1.out.size))
                have n2 : w6.cell? ⟨zn, 2, none⟩ = some (.int .i64 dst) := Lib.cell_of_heap (HNX.out w6 hb6) 2
                have d0 : w6.cell? ⟨z, 0, none⟩ = some (.slice AN nN cN) := Lib.cell_of_heap (HBX.out w6 HB6.out) 0
                have d1 : w6.cell? ⟨z, 1, none⟩ = some (.slice (some ad) nE cE) := Lib.cell_of_heap (HBX.out w6 HB6.out) 1
                clear hr hb6 n0 n1 b0 b1
                cases sb with
                | false =>
                  have HS := Lib.hid (HSTOP.out (by simp))
                  have hr0 : r < 0 := of_decide_eq_true hlow
                  go_wp2_with fail
                  go_ret
                  exact ⟨ret_b HS.out, HBR6.out⟩
                | true =>
                  have hr0 : ¬ r < 0 := of_decide_eq_false hlow
                  go_wp2_with fail
                  refine (hnd.out w6 HB6.out dst).mono ?_
                  rintro e w7 ⟨r2, rfl, hr, hb7⟩
                  have hlow2 : decide (r2 < 0) = !db := hlD.out r2 hr
                  have HB57 := Lib.hid (HB56.out.trans (hb7.mono HB56.out.size))
                  have HB7 := Lib.hid (HB6.out.trans (hb7.mono HB6.out.size))
                  have HBR7 := Lib.hid (HB1.out.trans (HB7.out.mono HB1.out.size))
                  have n3 : w7.cell? ⟨zn, 3, none⟩ = some (.string typ) := Lib.cell_of_heap (HNX.out w7 HB57.out) 3
                  have n4 : w7.cell? ⟨zn, 4, none⟩ = some (.slice A2 m2 d2) := Lib.cell_of_heap (HNX.out w7 HB57.out) 4
                  clear hb7 hr n2 d0 d1 hlow
                  cases db with
                  | false =>
                    have HS := Lib.hid (HSTOP.out (by simp))
                    have hr1 : r2 < 0 := of_decide_eq_true hlow2
                    go_wp2_with fail
                    go_ret
                    exact ⟨ret_b HS.out, HBR7.out⟩
                  | true =>
                    have hr1 : ¬ r2 < 0 := of_decide_eq_false hlow2
                    go_wp2_with fail
                    refine (hw.out w7).mono ?_
                    rintro e w7' ⟨rfl, hw7⟩
                    subst hw7
                    cases tb with
                    | false =>
                      have HS := Lib.hid (HSTOP.out (by simp))
                      go_wp2_with fail
                      go_ret
                      exact ⟨ret_b HS.out, HBR7.out⟩
                    | true =>
                      go_wp2_with fail
                      refine (hpro.out _ (HB5.out.trans (HB57.out.mono HB5.out.size))).mono ?_
                      rintro e w8 ⟨rfl, hb8⟩
                      have HB58 := Lib.hid (HB57.out.trans (hb8.mono HB57.out.size))
                      have HB8 := Lib.hid (HB7.out.trans (hb8.mono HB7.out.size))
                      have HBR8 := Lib.hid (HB1.out.trans (HB8.out.mono HB1.out.size))
                      clear hb8 n3 n4 hlow2 hr0 hr1
                      cases pb with
                      | false =>
                        have HS := Lib.hid (HSTOP.out (by simp))
                        go_wp2_with fail
                        go_ret
                        exact ⟨ret_b HS.out, HBR8.out⟩
                      | true =>
                        go_wp2_with fail
                        go_loopw [7] (fun s wx => ∃ (j q : Nat), j ≤ k ∧ s = .int .i64 (j : Nat) ∧ Hid (wx = w8.drewN q ∧ id ∉ (G.edges.take j).map EdgeD.id)) (fun s _ => k - (intOf s).toNat)
                        case atStart => exact ⟨0, 0, by omega, rfl, Lib.hid ⟨rfl, by simp⟩⟩
                        case round =>
                          obtain ⟨j, q, hj, rfl, hJ⟩ := hrel
                          have HB1r := Lib.hid (show Below w1.heap.size w1 wr from by rw [hJ.out.1]; exact below_drewN HB8.out q)
                          by_cases hlj : j < k
                          · obtain ⟨y, hy⟩ : ∃ y, G.edges[j]? = some y := ⟨G.edges[j]'(by rw [HnE.out]; omega), List.getElem?_eq_getElem _⟩
                            have HY := Lib.hid hy
                            obtain ⟨ad', A3, d3, hA, _, _, _, p0, _⟩ := edgesAt (HER.out.under EdR.good HB1r.out HF1.out) hy
                            obtain rfl : ad = ad' := by injection hA
                            have b1 : wr.cell? ⟨z, 1, none⟩ = some (.slice (some ad) nE cE) := Lib.cell_of_heap (HBX.out wr HB1r.out) 1
                            have n0 : wr.cell? ⟨zn, 0, none⟩ = some (.int .i64 id) := Lib.cell_of_heap (HNX.out wr (by rw [hJ.out.1]; exact below_drewN HB58.out q)) 0
                            obtain ⟨yid, Hyid⟩ := name_itV y.id
                            rw [Hyid.out] at p0
                            have q1 : (0 : Int) ≤ j := by omega
                            have q2 : (j : Int) < nE := by omega
                            have q3 : (j : Int) < k := by omega
                            have w4 : IntKind.i64.wrap ((j : Int) + 1) = (j : Int) + 1 := IntWalk.i64_in _ (by omega)
                            clear hy hA
                            by_cases hxy : yid = id
                            · subst hxy
                              have t1 : ((yid : Int) == yid) = true := beq_self_eq_true _
                              have HS := Lib.hid (HSTOP.out (by
                                have hm : y ∈ G.edges.take k := List.mem_of_getElem? (by rw [List.getElem?_take, if_pos hlj]; exact HY.out)
                                rw [← HIB.out, inB_yes (List.mem_map.2 ⟨y, hm, Hyid.out.trans Hxid.out.symm⟩)]
                                rfl))
                              have HBRr := Lib.hid (HB1.out.trans (HB1r.out.mono HB1.out.size))
                              go_upto_region 18 with fail
                              go_quiet (fail)
                              go_wp2_with fail
                              go_ret
                              exact ⟨ret_b HS.out, below_drewN HBRr.out nq⟩
                            · have t1 : ((yid : Int) == id) = false := beq_eq_false_iff_ne.2 hxy
                              have HXY := Lib.hid hxy
                              clear hxy
                              go_upto_region 18 with fail
                              go_quiet (fail)
                              have HWQ := Lib.hid (show wr.drewN nq = w8.drewN (q + nq) by rw [hJ.out.1, World.drewN_drewN])
                              have HJ2 := Lib.hid hJ.out.2
                              clear hJ
                              go_wp2_with fail
                              go_roundw
                              case measure => simp [intOf]; omega
                              case rel =>
                                refine ⟨j + 1, q + nq, by omega, by go_num, Lib.hid ⟨HWQ.out, fun hm => ?_⟩⟩
                                rw [take_oneMore HY.out, List.map_append] at hm
                                rcases List.mem_append.1 hm with hm | hm
                                · exact HJ2.out hm
                                · exact HXY.out (Hyid.out.symm.trans (List.mem_singleton.1 hm).symm)
                          · have hjk : j = k := by omega
                            have HYES := Lib.hid (HMORE.out (by
                              have h4 := hJ.out.2
                              rw [hjk] at h4
                              rw [← HIB.out, Hxid.out, inB_no h4]
                              rfl))
                            have q3 : ¬ (j : Int) < k := by omega
                            clear hjk
                            go_wp2_with fail
                            go_roundw
                            case measure => simp [intOf]; omega
                            case rel => exact ⟨k + 1, by omega, by go_num, Lib.hid ⟨HB1r.out, HYES.out⟩⟩
            · have hkn : k = nE := by omega
              have HS := Lib.hid (show true = mb from by
                have h2 := hM.out.2
                rw [List.take_of_length_le (by rw [HnE.out, hkn]; exact Nat.le_refl _)] at h2
                rw [HM2.out, h2])
              clear hkn
              go_wp2_with fail
              go_ret
              exact ⟨ret_b HS.out, HBW.out⟩
end Go.Proofs.YtmhjbicbdahllaaGreatDoor

namespace Go.Proofs.YtmhjbicbdahllaaGreatDoor
open Go Go.RowKit

/-- From the i-th node on: the labels of a row of nodes may be written, each in a block of its own. -/
def LabW (w : World) (lo hi : Nat) (A : Option Addr) (n cp i : Nat) : Prop :=
  ∃ (Ls : Nat → Value) (xs : List Value), w.ownsRow 0 38 3 (.slice A n cp) n xs ∧ (∀ g, (Value.slice A n cp).ownBlock = some g → lo ≤ g ∧ g < hi) ∧ hi ≤ w.heap.size ∧
    (∀ p, i ≤ p → p < n → (∃ g, A = some ⟨g, 0, none⟩ ∧ w.cell? ⟨g, p * 3 + 1, none⟩ = some (Ls p)) ∧ WT w (Ls p) ∧ ∀ b, (Ls p).ownBlock = some b → lo ≤ b ∧ b < hi) ∧
    ∀ p q b, p < q → q < n → (Ls p).ownBlock = some b → (Ls q).ownBlock ≠ some b
section
variable {w w' : World} {lo hi n cp i : Nat} {A : Option Addr}
theorem LabW.turn {S : Nat → Prop} (h : LabW w lo hi A n cp i) (ht : Turn S w w') (hS : ∀ b, lo ≤ b → b < hi → ¬ S b) : LabW w' lo hi A n cp i := by
  obtain ⟨Ls, xs, hr, ho, hh, hp, hd⟩ := h
  refine ⟨Ls, xs, ht.owns hr (fun g hg => hS g (ho g hg).1 (ho g hg).2), ho, Nat.le_trans hh ht.size, fun p h1 h2 => ?_, hd⟩
  obtain ⟨⟨g, hA, hc⟩, hw, hb⟩ := hp p h1 h2
  have hg := ho g (by rw [hA]; rfl)
  exact ⟨⟨g, hA, (ht.cell (p := ⟨g, p * 3 + 1, none⟩) (show g < _ by omega) (hS g hg.1 hg.2)).trans hc⟩, hw.turn ht (fun b h3 => hS b (hb b h3).1 (hb b h3).2), hb⟩
/-- The i-th node's labels. -/
theorem LabW.at_ (h : LabW w lo hi A n cp i) (hi' : i < n) : ∃ g L, A = some ⟨g, 0, none⟩ ∧ lo ≤ g ∧ g < hi ∧ hi ≤ w.heap.size ∧ w.cell? ⟨g, i * 3 + 1, none⟩ = some L ∧ WT w L ∧ (∀ b, L.ownBlock = some b → lo ≤ b ∧ b < hi ∧ b ≠ g) ∧ (∀ o, w.frozen? ⟨g, o, none⟩ = false) ∧
    ∀ w', Turn (fun b => L.ownBlock = some b) w w' → LabW w' lo hi A n cp (i + 1) ∧ ∀ o, w'.frozen? ⟨g, o, none⟩ = false := by
  obtain ⟨Ls, xs, hr, ho, hh, hp, hd⟩ := h
  obtain ⟨⟨g, hA, hc⟩, hw, hb⟩ := hp i (Nat.le_refl _) hi'
  subst hA
  have hg := ho g rfl
  have hne : ∀ b, (Ls i).ownBlock = some b → b ≠ g := fun b h1 e => by
    subst e
    obtain ⟨cur, hcur⟩ := own_type hr rfl
    exact hw.ne hcur (by decide) h1
  refine ⟨g, Ls i, rfl, hg.1, hg.2, hh, hc, hw, fun b h1 => ⟨(hb b h1).1, (hb b h1).2, hne b h1⟩, fun o => frozen_row hr rfl o, fun w' ht => ?_⟩
  have hr' := ht.owns hr (fun k hk h2 => hne k h2 (by have : g = k := by injection hk
                                                      omega))
  refine ⟨⟨Ls, xs, hr', ho, Nat.le_trans hh ht.size, fun p h1 h2 => ?_, hd⟩, fun o => frozen_row hr' rfl o⟩
  obtain ⟨⟨g', hA', hc'⟩, hw', hb'⟩ := hp p (by omega) h2
  obtain rfl : g = g' := by injection hA' with hA'; injection hA'
  exact ⟨⟨g, rfl, (ht.cell (p := ⟨g, p * 3 + 1, none⟩) (show g < _ by omega) (fun h3 => hne g h3 rfl)).trans hc'⟩, hw'.turn ht (fun b h3 h4 => hd i p b (by omega) h2 h4 h3), hb'⟩
/-- A cell of a node behind which we are is written. -/
theorem LabW.put {g o : Nat} (h : LabW w lo hi (some ⟨g, 0, none⟩) n cp i) (hoi : o < i * 3) (v : Value) : LabW (w.setCell ⟨g, o, none⟩ v) lo hi (some ⟨g, 0, none⟩) n cp i := by
  obtain ⟨Ls, xs, hr, ho, hh, hp, hd⟩ := h
  refine ⟨Ls, xs.set o v, (hr.stored o v).1, ho, by simpa using hh, fun p h1 h2 => ?_, hd⟩
  obtain ⟨⟨g', hA', hc'⟩, hw', hb'⟩ := hp p h1 h2
  obtain rfl : g = g' := by injection hA' with hA'; injection hA'
  have hp3 : i * 3 ≤ p * 3 := Nat.mul_le_mul_right 3 h1
  refine ⟨⟨g, rfl, (World.cell?_setCell_other w _ _ v (fun e => by injection e with _ e; omega)).trans hc'⟩, hw'.turn ((Turn.refl (fun b => b = g) w).setCell (p := ⟨g, o, none⟩) (.inr rfl) v) (fun b h3 e => ?_), hb'⟩
  subst e
  obtain ⟨cur, hcur⟩ := own_type hr rfl
  exact hw'.ne hcur (by decide) h3
end
/-- What 'Plain' tells. -/
theorem LabS.m {w : World} {lo hi n cp : Nat} {A : Option Addr} {F : Nat → Prop} {l : List NodeD} (h : LabS w lo hi (.slice A n cp) n) (hr : SOwn 38 3 NoR w F l (.slice A n cp)) (hn : l.length = n) (hF : ∀ b, F b → lo ≤ b ∧ b < hi) (hh : hi ≤ w.heap.size) : LabW w lo hi A n cp 0 := by
  obtain ⟨cs, hrow, _, hown, _⟩ := hr
  rw [hn] at hrow
  obtain ⟨Ls, h1, h2⟩ := h
  refine ⟨Ls, _, hrow, fun g hg => hF g (hown g hg), hh, fun p _ hp => ?_, h2⟩
  obtain ⟨⟨g, hg, hc⟩, hw, hb⟩ := h1 p hp
  obtain ⟨g', cp', hv, _, _⟩ := hrow.form (by omega)
  injection hv with hA _ hcp
  subst hA
  obtain rfl : g' = g := by injection hg
  exact ⟨⟨g', rfl, hc⟩, hw, hb⟩
/-- What 'CopyGraph' copies. -/
theorem SInt.m {w : World} {lo hi n cp : Nat} {A : Option Addr} {l : List NodeD} (h : SInt 38 3 NoO w lo hi l (.slice A n cp)) (hn : l.length = n) (hlen : ∀ x, x ∈ l → x.labels.length ≤ 2000000) : LabW w lo hi A n cp 0 := by
  obtain ⟨A', cp', cs, a, e, h⟩ := h
  rw [hn] at e h
  injection e with e1 _ e3
  subst e1 e3
  have hex : ∀ p, p < n → ∃ L, (∃ g, A = some ⟨g, 0, none⟩ ∧ w.cell? ⟨g, p * 3 + 1, none⟩ = some L) ∧ WT w L ∧ ∀ b, L.ownBlock = some b → a p ≤ b ∧ b < a (p + 1) := fun p hp => by
    obtain ⟨x, hx⟩ : ∃ x, l[p]? = some x := ⟨l[p]'(by omega), List.getElem?_eq_getElem _⟩
    obtain ⟨L, P, m, hcs, hL, hP⟩ := h.el p x hx
    obtain ⟨g, cp2, hv, _, _⟩ := h.row.form (by omega)
    injection hv with hA _ hcp
    subst hA
    have h1 : (p + 1) * 3 ≤ n * 3 := Nat.mul_le_mul_right 3 (by omega)
    have h2 := h.row.cellAt (p * 3 + 1) (by omega)
    rw [flatC_at h.sz hp (by omega), hcs] at h2
    refine ⟨L, ⟨g, rfl, h2⟩, ?_, fun b hb => ?_⟩
    · obtain ⟨cs', hr', _⟩ := hL
      exact ⟨_, _, hr', hlen x (List.mem_of_getElem? hx)⟩
    · have := own_in hL hb
      exact ⟨this.1.1, this.1.2.1⟩
  have hbd : ∀ p, p < n → lo ≤ a p ∧ a (p + 1) ≤ hi := fun p hp => ⟨Nat.le_trans h.lo_ (h.up 0 p (by omega)), Nat.le_trans (h.up (p + 1) n hp) h.hi_⟩
  refine ⟨fun p => if hp : p < n then (hex p hp).choose else .slice none 0 0, _, h.row, h.own, h.top, fun p _ hp => ?_, fun p q b hpq hq h1 h2 => ?_⟩
  · have h1 := (hex p hp).choose_spec
    have h2 := hbd p hp
    simp only [dif_pos hp]
    exact ⟨h1.1, h1.2.1, fun b hb => by have := h1.2.2 b hb; omega⟩
  · simp only [dif_pos hq, dif_pos (show p < n by omega)] at h1 h2
    have e1 := (hex p (by omega)).choose_spec.2.2 b h1
    have e2 := (hex q hq).choose_spec.2.2 b h2
    have := h.up (p + 1) q hpq
    omega
/-- A row that may be written. -/
def RowW (E sz : Nat) (w : World) (s : Value) (n : Nat) : Prop := ∃ xs, w.ownsRow 0 E sz s n xs
theorem RowW.turn {S : Nat → Prop} {E sz n : Nat} {w w' : World} {s : Value} (h : RowW E sz w s n) (ht : Turn S w w') (hS : ∀ g, s.ownBlock = some g → ¬ S g) : RowW E sz w' s n := by
  obtain ⟨xs, h⟩ := h
  exact ⟨xs, ht.owns h hS⟩
theorem SOwn.w {α : Type} {E sz : Nat} {R : Lies α} {w : World} {F : Nat → Prop} {l : List α} {s : Value} (h : SOwn E sz R w F l s) : RowW E sz w s l.length := by
  obtain ⟨cs, hrow, _⟩ := h
  exact ⟨_, hrow⟩
theorem SOwn.imp {α : Type} {E sz : Nat} {R R' : Lies α} {w : World} {F : Nat → Prop} {l : List α} {s : Value} (h : SOwn E sz R w F l s) (hi : ∀ {w : World} {F : Nat → Prop} {x : α} {c : Array Value}, R w F x c → R' w F x c) : SOwn E sz R' w F l s := by
  obtain ⟨cs, h1, h2, h3, h4⟩ := h
  exact ⟨cs, h1, h2, h3, fun i x hx => hi (h4 i x hx)⟩
theorem LabW.cells3 {w : World} {lo hi g n cp i p : Nat} (h : LabW w lo hi (some ⟨g, 0, none⟩) n cp i) (hp : p < n) : ∃ C0 C1 C2, w.cell? ⟨g, p * 3, none⟩ = some C0 ∧ w.cell? ⟨g, p * 3 + 1, none⟩ = some C1 ∧ w.cell? ⟨g, p * 3 + 2, none⟩ = some C2 := by
  obtain ⟨Ls, xs, hr, _⟩ := h
  have h1 : (p + 1) * 3 ≤ n * 3 := Nat.mul_le_mul_right 3 (by omega)
  have hl := hr.1
  have hc : ∀ j, j < 3 → ∃ C, w.cell? ⟨g, p * 3 + j, none⟩ = some C := fun j hj => ⟨xs[p * 3 + j]'(by omega), by
    have := hr.cellAt (p * 3 + j) (by omega)
    rw [List.getElem?_eq_getElem (by omega)] at this
    exact this⟩
  obtain ⟨C0, h0⟩ := hc 0 (by omega)
  obtain ⟨C1, h1⟩ := hc 1 (by omega)
  obtain ⟨C2, h2⟩ := hc 2 (by omega)
  exact ⟨C0, C1, C2, h0, h1, h2⟩
theorem LabW.apart {w : World} {lo hi g n cp i m : Nat} {s : Value} (h : LabW w lo hi (some ⟨g, 0, none⟩) n cp i) (k : RowW 41 5 w s m) : s.ownBlock ≠ some g := by
  obtain ⟨Ls, xs, hr, _⟩ := h
  obtain ⟨ys, hk⟩ := k
  obtain ⟨cur, hcur⟩ := own_type hr rfl
  exact own_ne hk hcur (by decide)
theorem WT.apart {w : World} {L s : Value} {m : Nat} (h : WT w L) (k : RowW 41 5 w s m) : ∀ g, s.ownBlock = some g → L.ownBlock ≠ some g := fun g hg => by
  obtain ⟨ys, hk⟩ := k
  obtain ⟨cur, hcur⟩ := own_type hk hg
  exact h.ne hcur (by decide)
theorem bel_set {B : Nat} {a w : World} {p : Addr} (h : Below B a w) (hp : B ≤ p.block) (hB : B ≤ a.heap.size) (v : Value) : Below B a (w.setCell p v) :=
  ((Turn.of_below h).setCell (.inr hp) v).below (fun _ _ h => h) hB
/-- An edge's five cells, to be written. -/
theorem RowW.at5 {w : World} {A : Option Addr} {n cp i : Nat} (h : RowW 41 5 w (.slice A n cp) n) (hi : i < n) : ∃ g, A = some ⟨g, 0, none⟩ ∧ g < w.heap.size ∧ (∀ o, w.frozen? ⟨g, o, none⟩ = false) ∧ (∃ C0 C1 C2 C3 C4, w.cell? ⟨g, i * 5, none⟩ = some C0 ∧ w.cell? ⟨g, i * 5 + 1, none⟩ = some C1 ∧ w.cell? ⟨g, i * 5 + 2, none⟩ = some C2 ∧ w.cell? ⟨g, i * 5 + 3, none⟩ = some C3 ∧ w.cell? ⟨g, i * 5 + 4, none⟩ = some C4) ∧
    ∀ (vs : List Value) (o : Nat), RowW 41 5 (setW w g o vs) (.slice A n cp) n := by
  obtain ⟨xs, hr⟩ := h
  obtain ⟨g, cp2, hv, _, _⟩ := hr.form (by omega)
  injection hv with hA _ hcp
  subst hA
  have h1 : (i + 1) * 5 ≤ n * 5 := Nat.mul_le_mul_right 5 (by omega)
  have hl := hr.1
  have hc : ∀ j, j < 5 → ∃ C, w.cell? ⟨g, i * 5 + j, none⟩ = some C := fun j hj => ⟨xs[i * 5 + j]'(by omega), by
    have := hr.cellAt (i * 5 + j) (by omega)
    rw [List.getElem?_eq_getElem (by omega)] at this
    exact this⟩
  obtain ⟨C0, h0⟩ := hc 0 (by omega)
  obtain ⟨C1, h1⟩ := hc 1 (by omega)
  obtain ⟨C2, h2⟩ := hc 2 (by omega)
  obtain ⟨C3, h3⟩ := hc 3 (by omega)
  obtain ⟨C4, h4⟩ := hc 4 (by omega)
  exact ⟨g, rfl, (hr.lt g rfl).2, fun o => frozen_row hr rfl o, ⟨C0, C1, C2, C3, C4, h0, h1, h2, h3, h4⟩, fun vs o => ⟨_, own_setW vs hr⟩⟩
set_option maxRecDepth 100000 in
set_option maxHeartbeats 16000000 in
theorem graphLoads_any (g : GraphD) (hfit : FitG g) (htot : totalG g ≤ 1000000000) (F : Nat → Prop) (u : Value) (w : World) (hF : ∀ b, F b → b < w.heap.size) (hg : GrR w F g u) (hgl : GlobB w) :
    Calls Tryz.prog 3 #[u] w (ToldB true w) := by
  have HGR := Lib.hid hg
  obtain ⟨NV, EV, rfl, ⟨AN, cN, rfl, hcN, hlN⟩, AE, cE, rfl, hcE, hlE⟩ := hg
  obtain ⟨nN, HnN⟩ := name_itV g.nodes.length
  obtain ⟨nE, HnE⟩ := name_itV g.edges.length
  have hgn : nN ≤ 2000000 := by rw [← HnN.out]; exact hfit.1
  have hge : nE ≤ 2000000 := by rw [← HnE.out]; exact hfit.2.1
  rw [HnN.out, HnE.out] at HGR ⊢
  obtain ⟨z, HZ⟩ := name_itV w.heap.size
  have HF := Lib.hid hF
  have HG := Lib.hid hgl
  have HFIT := Lib.hid hfit
  obtain ⟨w1, HW1⟩ := name_itV (w.alloc (.cells #[.slice AN nN cN, .slice AE nE cE] 25))
  have HB1 := Lib.hid (show Below w.heap.size w w1 from by rw [← HW1.out]; exact (Below.refl _ _).alloc (Nat.le_refl _) _)
  have HK1 := Lib.hid (show w1.heap[z]? = some (.cells #[.slice AN nN cN, .slice AE nE cE] 25 (0, 0)) from by rw [← HW1.out, ← HZ.out]; exact heap_alloc_new w _)
  have HGA := Lib.hid (fun (W : World) (hW : Below w.heap.size w W) => HGR.out.keep (fun q hq => hW.cell (hF _ hq)))
  have HFA := Lib.hid (fun (W : World) (hW : Below w.heap.size w W) (b : Nat) (hb : F b) => Nat.lt_of_lt_of_le (hF b hb) hW.size)
  have hli := Lib.hid (light_any g htot F _ w1 (HFA.out w1 HB1.out) (HGA.out w1 HB1.out))
  have b0 : w1.cell? ⟨z, 0, none⟩ = some (.slice AN nN cN) := Lib.cell_of_heap HK1.out 0
  have b1 : w1.cell? ⟨z, 1, none⟩ = some (.slice AE nE cE) := Lib.cell_of_heap HK1.out 1
  clear hlN hlE hF hgl hfit hcN hcE htot
  obtain ⟨lb, HLB⟩ := name_itV (lightG g)
  rw [HLB.out] at hli
  go_enter Tryz.func3, Tryz.ntmps3
  go_upto_region 1 with fail
  rw [HZ.out, HW1.out]
  go_wp2_with fail
  refine hli.out.mono ?_
  rintro e w2 ⟨rfl, hb2⟩
  have HB2 := Lib.hid (show Below w.heap.size w w2 from HB1.out.trans (hb2.mono HB1.out.size))
  have HK2 := Lib.hid ((hb2.block z (blk_lt HK1.out)).trans HK1.out)
  clear b0 b1 hb2 hli
  cases lb with
  | false =>
    go_wp2_with fail
    refine (wakes_any w2 (glob_under HG.out HB2.out)).mono ?_
    rintro e w3 ⟨rfl, hb3⟩
    have HB3 := Lib.hid (HB2.out.trans (hb3.mono HB2.out.size))
    clear hb3
    go_wp2_with fail
    go_ret
    exact ⟨rfl, HB3.out⟩
  | true =>
    have b0 : w2.cell? ⟨z, 0, none⟩ = some (.slice AN nN cN) := Lib.cell_of_heap HK2.out 0
    have b1 : w2.cell? ⟨z, 1, none⟩ = some (.slice AE nE cE) := Lib.cell_of_heap HK2.out 1
    have hcg := Lib.hid (copyG_any g HFIT.out F _ w2 (HFA.out w2 HB2.out) (HGA.out w2 HB2.out))
    go_wp2_with fail
    refine hcg.out.mono ?_
    rintro e w3 ⟨XN, XE, z2, rfl, hb3, hz1, hz2, hXN, hXE⟩
    obtain ⟨A1, c1, _, _, hx1, _⟩ := id hXN
    obtain ⟨A2, c2, _, _, hx2, _⟩ := id hXE
    subst hx1 hx2
    rw [HnN.out] at hXN ⊢
    rw [HnE.out] at hXE ⊢
    have HXG := Lib.hid (show GrR w3 (fun b => b < w3.heap.size) g (.agg #[.slice A1 nN c1, .slice A2 nE c2]) from
      ⟨_, _, rfl, ((((hXN.sown NoO.good).imp (fun h => h.rd)).rd NoR.good).mono NoR.good (fun b hb => by omega)), ((((hXE.sown EdO.good).imp (fun h => h.rd)).rd EdR.good).mono EdR.good (fun b hb => hb.2))⟩)
    have HLM3 := Lib.hid (hXN.m HnN.out (fun x hx => (HFIT.out.2.2.1 x hx).1.1))
    have HB3 := Lib.hid (show Below w.heap.size w w3 from HB2.out.trans (hb3.mono HB2.out.size))
    have HK3 := Lib.hid ((hb3.block z (blk_lt HK2.out)).trans HK2.out)
    obtain ⟨zx, Hzx⟩ := name_itV w3.heap.size
    obtain ⟨w4, HW4⟩ := name_itV (w3.alloc (.cells #[.slice A1 nN c1, .slice A2 nE c2] 25))
    have HB34 := Lib.hid (show Below w3.heap.size w3 w4 from by rw [← HW4.out]; exact (Below.refl _ _).alloc (Nat.le_refl _) _)
    have HX4 := Lib.hid (show w4.heap[zx]? = some (.cells #[.slice A1 nN c1, .slice A2 nE c2] 25 (0, 0)) from by rw [← HW4.out, ← Hzx.out]; exact heap_alloc_new w3 _)
    have HB4 := Lib.hid (show Below w.heap.size w w4 from HB3.out.trans (HB34.out.mono HB3.out.size))
    have HK4 := Lib.hid ((HB34.out.block z (blk_lt HK3.out)).trans HK3.out)
    have HLOC := Lib.hid (show w.heap.size ≤ w2.heap.size ∧ w2.heap.size ≤ z2 ∧ z2 ≤ zx ∧ zx < w4.heap.size from ⟨HB2.out.size, hz1, by rw [← Hzx.out]; exact hz2, blk_lt HX4.out⟩)
    have hld := Lib.hid (load_any g HFIT.out (fun b => b < w3.heap.size) _ w4 (fun b hb => Nat.lt_of_lt_of_le hb HB34.out.size) (HXG.out.under HB34.out (fun b hb => hb)) (glob_under HG.out HB4.out))
    clear b0 b1 hb3 hXN hXE hz1 hz2 hcg
    go_upto_region 4 with fail
    rw [Hzx.out, HW4.out]
    have x0 : w4.cell? ⟨zx, 0, none⟩ = some (.slice A1 nN c1) := Lib.cell_of_heap HX4.out 0
    have x1 : w4.cell? ⟨zx, 1, none⟩ = some (.slice A2 nE c2) := Lib.cell_of_heap HX4.out 1
    go_wp2_with fail
    refine hld.out.mono ?_
    rintro e w5 ⟨hb5, hor⟩
    have HB45 := Lib.hid hb5
    have HB5 := Lib.hid (show Below w.heap.size w w5 from HB4.out.trans (hb5.mono HB4.out.size))
    have HK5 := Lib.hid ((hb5.block z (blk_lt HK4.out)).trans HK4.out)
    have HX5 := Lib.hid ((hb5.block zx (blk_lt HX4.out)).trans HX4.out)
    have heq := Lib.hid (eqGraph_same g HFIT.out (fun b => b < w3.heap.size) F _ _ w5 (fun b hb => Nat.lt_of_lt_of_le (Nat.lt_of_lt_of_le hb HB34.out.size) hb5.size) (HFA.out w5 HB5.out) ((HXG.out.under HB34.out (fun b hb => hb)).under hb5 (fun b hb => Nat.lt_of_lt_of_le hb HB34.out.size)) (HGA.out w5 HB5.out))
    obtain ⟨sp, ev, hsp, HOR⟩ : ∃ sp ev, e = .returned (.tuple #[.pointer sp, .int .i64 ev]) ∧ Hid ((mayG g = false ∧ sp = none ∧ ev = 21) ∨ (mayG g = true ∧ ev = 0 ∧ ∃ p g', sp = some ⟨p, 0, none⟩ ∧ StoreIs w5 w4.heap.size p g' ∧ SrtG g g')) := by
      rcases hor with ⟨h1, h2⟩ | ⟨h1, p, g', h2, h3, h4⟩
      · exact ⟨none, 21, h2, Lib.hid (.inl ⟨h1, rfl, rfl⟩)⟩
      · exact ⟨some ⟨p, 0, none⟩, 0, h2, Lib.hid (.inr ⟨h1, rfl, p, g', rfl, h3, h4⟩)⟩
    subst hsp
    clear hb5 hor x0 x1 hld
    have x0 : w5.cell? ⟨zx, 0, none⟩ = some (.slice A1 nN c1) := Lib.cell_of_heap HX5.out 0
    have x1 : w5.cell? ⟨zx, 1, none⟩ = some (.slice A2 nE c2) := Lib.cell_of_heap HX5.out 1
    have b0 : w5.cell? ⟨z, 0, none⟩ = some (.slice AN nN cN) := Lib.cell_of_heap HK5.out 0
    have b1 : w5.cell? ⟨z, 1, none⟩ = some (.slice AE nE cE) := Lib.cell_of_heap HK5.out 1
    go_wp2_with fail
    refine heq.out.mono ?_
    rintro e w6 ⟨rfl, hb6⟩
    have HB56 := Lib.hid hb6
    have HB6 := Lib.hid (show Below w.heap.size w w6 from HB5.out.trans (hb6.mono HB5.out.size))
    have HK6 := Lib.hid ((hb6.block z (blk_lt HK5.out)).trans HK5.out)
    have HX6 := Lib.hid ((hb6.block zx (blk_lt HX5.out)).trans HX5.out)
    have HLM6 := Lib.hid (((HLM3.out.turn (Turn.of_below HB34.out) (fun b h1 h2 h3 => by have h4 : w3.heap.size ≤ b := h3; have := HLOC.out; have := Hzx.out; omega)).turn (Turn.of_below HB45.out) (fun b h1 h2 h3 => by have h4 : w4.heap.size ≤ b := h3; have := HLOC.out; omega)).turn (Turn.of_below hb6) (fun b h1 h2 h3 => by have h4 : w5.heap.size ≤ b := h3; have := HLOC.out; have := HB45.out.size; omega))
    clear hb6 x0 x1 b0 b1 heq
    go_wp2_with fail
    go_loopw [6] (fun s wx => ∃ i : Nat, i ≤ nN ∧ s = .int .i64 (i : Nat) ∧ Hid (Turn (fun b => w2.heap.size ≤ b ∧ b < z2) w6 wx ∧ LabW wx w2.heap.size z2 A1 nN c1 i)) (fun s _ => nN - (intOf s).toNat)
    case atStart => exact ⟨0, by omega, rfl, Lib.hid ⟨Turn.refl _ _, HLM6.out⟩⟩
    case round =>
      clear HLM6
      obtain ⟨i, hi, rfl, hM⟩ := hrel
      have hs56 := Lib.hid (show w4.heap.size ≤ w6.heap.size from Nat.le_trans HB45.out.size HB56.out.size)
      have hxw := Lib.hid ((hM.out.1.block zx (blk_lt HX6.out) (fun h => by have := HLOC.out; omega)).trans HX6.out)
      have x0 : wr.cell? ⟨zx, 0, none⟩ = some (.slice A1 nN c1) := Lib.cell_of_heap hxw.out 0
      by_cases hlt : i < nN
      · obtain ⟨gx, L, rfl, hg1, hg2, hg3, hcell, hwt, hown, hfr, hnext⟩ := hM.out.2.at_ hlt
        have hov := Lib.hid (overW_any hwt)
        have HOWN := Lib.hid hown
        have HNEXT := Lib.hid hnext
        obtain ⟨oi, HOI⟩ := name_itV (i * 3)
        rw [HOI.out] at hcell
        have qi : i * 3 = oi := HOI.out
        have a0 := add_zero_at' gx oi
        have e1 : (0 : Int) ≤ i := by omega
        have e2 : (i : Int) < nN := by omega
        clear hwt hown hfr hnext
        go_wp2_with fail
        refine hov.out.mono ?_
        rintro e w8 ⟨rfl, ht8⟩
        have HT8 := Lib.hid ht8
        have hn8 := HNEXT.out w8 ht8
        have HLM8 := Lib.hid hn8.1
        have HFR8 := Lib.hid hn8.2
        have hx8 := Lib.hid ((ht8.block zx (blk_lt hxw.out) (fun h => by have := HOWN.out zx h; have := HLOC.out; omega)).trans hxw.out)
        clear x0 ht8 hn8 hcell
        have x0 : w8.cell? ⟨zx, 0, none⟩ = some (.slice (some ⟨gx, 0, none⟩) nN c1) := Lib.cell_of_heap hx8.out 0
        have hoo : oi + 2 < (i + 1) * 3 := by omega
        obtain ⟨C0, C1, C2, hc0, hc1, hc2⟩ := HLM8.out.cells3 (show i < nN from hlt)
        rw [HOI.out] at hc0 hc1 hc2
        have f0 := HFR8.out oi
        have f1 := HFR8.out (oi + 1)
        have f2 := HFR8.out (oi + 2)
        have w9 : IntKind.i64.wrap ((i : Int) + 1) = (i : Int) + 1 := IntWalk.i64_in _ (by omega)
        go_wp2_with fail
        go_roundw
        case measure => simp [intOf]; omega
        case rel =>
          refine ⟨i + 1, by omega, by go_num, Lib.hid ⟨?_, ?_⟩⟩
          · have ht := hM.out.1.trans (HT8.out.mono (S' := fun b => w2.heap.size ≤ b ∧ b < z2) (fun b _ h => ⟨(HOWN.out b h).1, (HOWN.out b h).2.1⟩))
            exact ((ht.setCell (p := ⟨gx, oi, none⟩) (.inr ⟨hg1, hg2⟩) _).setCell (p := ⟨gx, oi + 1, none⟩) (.inr ⟨hg1, hg2⟩) _).setCell (p := ⟨gx, oi + 2, none⟩) (.inr ⟨hg1, hg2⟩) _
          · exact ((HLM8.out.put (by omega) _).put (by omega) _).put (by omega) _
      · have hin : nN = i := by omega
        have HT67 := Lib.hid hM.out.1
        have HB7 := Lib.hid (show Below w.heap.size w wr from HB6.out.trans (HT67.out.below (fun b _ h => by have := HLOC.out; omega) HB6.out.size))
        have HK7 := Lib.hid ((HT67.out.block z (blk_lt HK6.out) (fun h => by have h1 : w2.heap.size ≤ z := h.1; have h2 := blk_lt HK2.out; omega)).trans HK6.out)
        obtain ⟨w7, Hw7⟩ : ∃ w7, Hid (wr = w7) := ⟨wr, Lib.hid rfl⟩
        have hmay := Lib.hid (mayR_any g HFIT.out F _ wr (HFA.out wr HB7.out) (HGA.out wr HB7.out))
        have HOR7 := Lib.hid (show (mayG g = false ∧ sp = none ∧ ev = 21) ∨ (mayG g = true ∧ ev = 0 ∧ ∃ p g', sp = some ⟨p, 0, none⟩ ∧ StoreIs wr w4.heap.size p g' ∧ SrtG g g') from by
          rcases HOR.out with h | ⟨h1, h2, p, g', h3, h4, h5⟩
          · exact .inl h
          · exact .inr ⟨h1, h2, p, g', h3, (h4.below HB56.out).turn HT67.out (fun b hb _ h => by have := HLOC.out; omega), h5⟩)
        have b0 : wr.cell? ⟨z, 0, none⟩ = some (.slice AN nN cN) := Lib.cell_of_heap HK7.out 0
        have b1 : wr.cell? ⟨z, 1, none⟩ = some (.slice AE nE cE) := Lib.cell_of_heap HK7.out 1
        obtain ⟨mb, HMB⟩ := name_itV (mayG g)
        rw [HMB.out] at hmay HOR7
        clear hin hM HOR
        go_wp2_with fail
        refine hmay.out.mono ?_
        rintro e w8 ⟨rfl, hb8⟩
        have HB78 := Lib.hid hb8
        have HB8 := Lib.hid (HB7.out.trans (hb8.mono HB7.out.size))
        have HK8 := Lib.hid ((hb8.block z (blk_lt HK7.out)).trans HK7.out)
        clear b0 b1 hb8 hmay x0
        cases mb with
        | false =>
          obtain ⟨hsp, hev⟩ : sp = none ∧ ev = 21 := by
            rcases HOR7.out with ⟨_, h⟩ | ⟨h, _⟩
            · exact h
            · cases h
          subst hsp hev
          go_wp2_with fail
          refine (wakes_any w8 (glob_under HG.out HB8.out)).mono ?_
          rintro e w9 ⟨rfl, hb9⟩
          have HB9 := Lib.hid (HB8.out.trans (hb9.mono HB8.out.size))
          clear hb9
          go_wp2_with fail
          go_ret
          exact ⟨rfl, HB9.out⟩
        | true =>
          obtain ⟨p, g', hsp, hev, HST7, HSR⟩ : ∃ p g', sp = some ⟨p, 0, none⟩ ∧ ev = 0 ∧ Hid (StoreIs wr w4.heap.size p g') ∧ Hid (SrtG g g') := by
            rcases HOR7.out with ⟨h, _⟩ | ⟨_, h2, p, g', h3, h4, h5⟩
            · cases h
            · exact ⟨p, g', h3, h2, Lib.hid h4, Lib.hid h5⟩
          subst hsp hev
          have HMAY := Lib.hid (show mayG g = true from HMB.out)
          have HM2 := Lib.hid (may_srt HMAY.out HSR.out)
          have HFIT2 := Lib.hid (fit_srt HFIT.out HSR.out)
          have HLEN := Lib.hid (srt_lens HSR.out)
          have hpl := Lib.hid (refPlain_any g HFIT.out F _ w8 (HFA.out w8 HB8.out) (HGA.out w8 HB8.out))
          have b0 : w8.cell? ⟨z, 0, none⟩ = some (.slice AN nN cN) := Lib.cell_of_heap HK8.out 0
          have b1 : w8.cell? ⟨z, 1, none⟩ = some (.slice AE nE cE) := Lib.cell_of_heap HK8.out 1
          clear HOR7
          go_upto_region 16 with fail
          go_wp2_with fail
          refine hpl.out.mono ?_
          rintro e w9 ⟨uw, gw, rfl, hb9, hgw, hsw⟩
          have hgg := srtG_one HMAY.out hsw HSR.out
          rw [hgg] at hgw
          obtain ⟨_, _, rfl, ⟨AW, cW, rfl, _, _⟩, BW, dW, rfl, _, _⟩ := id hgw
          rw [HLEN.out.1, HLEN.out.2, HnN.out, HnE.out] at hgw ⊢
          have HGW := Lib.hid (hgw.mono (F' := fun b => b < w9.heap.size) (fun b hb => hb.2))
          have HB89 := Lib.hid hb9
          obtain ⟨zw, Hzw⟩ := name_itV w9.heap.size
          obtain ⟨w10, HW10⟩ := name_itV (w9.alloc (.cells #[.slice AW nN cW, .slice BW nE dW] 25))
          have HB910 := Lib.hid (show Below w9.heap.size w9 w10 from by rw [← HW10.out]; exact (Below.refl _ _).alloc (Nat.le_refl _) _)
          have HKW := Lib.hid (show w10.heap[zw]? = some (.cells #[.slice AW nN cW, .slice BW nE dW] 25 (0, 0)) from by rw [← HW10.out, ← Hzw.out]; exact heap_alloc_new w9 _)
          have HB710 := Lib.hid (show Below wr.heap.size wr w10 from (HB78.out.trans (HB89.out.mono HB78.out.size)).trans (HB910.out.mono (Nat.le_trans HB78.out.size HB89.out.size)))
          have HB10 := Lib.hid (show Below w.heap.size w w10 from HB7.out.trans (HB710.out.mono HB7.out.size))
          have HST10 := Lib.hid (HST7.out.below HB710.out)
          have HGWA := Lib.hid (fun (W : World) (hW : Below w10.heap.size w10 W) => (HGW.out.under HB910.out (fun b hb => hb)).under hW (fun b hb => Nat.lt_of_lt_of_le hb HB910.out.size))
          clear hb9 hgw hsw b0 b1 hpl hgg
          go_upto_region 17 with fail
          rw [Hzw.out, HW10.out]
          go_wp2_with fail
          clear HT67 HB56 HB6 HK6 HX6 hs56 HLOC HX5 HX4 HB45 HB34 HXG HLM3 HST7 HB78 HB8 HK8 HB89 HB710 HK7 HB7 HB5 HK5 HK4 HB4 HK3 HB3 HK2 HB2 HK1 hxw
          go_loopw [8] (fun s wx => ∃ k : Nat, k ≤ 2 ∧ s = .int .i64 (k : Nat) ∧ Hid (Below w10.heap.size w10 wx)) (fun s _ => 2 - (intOf s).toNat)
          case atStart => exact ⟨0, by omega, rfl, Lib.hid (Below.refl _ _)⟩
          case round =>
            obtain ⟨k, hk, rfl, hB⟩ := hrel
            by_cases hk2 : k < 2
            · have HS0 := HST10.out.below hB.out
              obtain ⟨Ns, Es, mh, mt, ma, mid, n0, hst⟩ := HS0
              have hpl := Lib.hid (plain_own g' _ p Ns Es mh mt ma mid n0 wr hst HFIT2.out (flat_may HM2.out).1 (flat_may HM2.out).2)
              have e1 : (k : Int) < 2 := by omega
              have wk : IntKind.i64.wrap ((k : Int) + 1) = (k : Int) + 1 := IntWalk.i64_in _ (by omega)
              clear hst
              go_wp2_with fail
              refine hpl.out.mono ?_
              rintro e w11 ⟨AP, cP, BP, dP, ns, es, rfl, hb11, hgr, hal, hae, hon, hoe, hls⟩
              have hpe := plain_self HMAY.out HSR.out hal hae
              have hln : ns.length = nN := by rw [← HnN.out, ← HLEN.out.1, ← hpe]
              have hle : es.length = nE := by rw [← HnE.out, ← HLEN.out.2, ← hpe]
              rw [hpe] at hgr
              rw [hln, hle] at hgr ⊢
              rw [hln] at hls hon
              obtain ⟨lo, Hlo⟩ := name_itV wr.heap.size
              obtain ⟨zp, Hzp⟩ := name_itV w11.heap.size
              rw [Hlo.out] at hb11
              have HLM := Lib.hid (hls.m hon hln (fun b hb => hb) (Nat.le_refl _))
              rw [Hlo.out, Hzp.out] at HLM
              have HOE := Lib.hid (fun (b : Nat) (hb : (Value.slice BP nE dP).ownBlock = some b) => (show lo ≤ b ∧ b < zp from by
                have h1 := own_in hoe (show (Value.slice BP es.length dP).ownBlock = some b from by rw [hle]; exact hb)
                rw [← Hlo.out, ← Hzp.out]
                exact h1))
              have HRE := Lib.hid (show RowW 41 5 w11 (.slice BP nE dP) nE from by
                have h1 := hoe.w
                rw [hle] at h1
                exact h1)
              have HG11 := Lib.hid (hgr.mono (F' := fun b => b < w11.heap.size) (fun b hb => hb.2))
              have HLO := Lib.hid (show w10.heap.size ≤ lo from by rw [← Hlo.out]; exact hB.out.size)
              have HB11 := Lib.hid (show Below w10.heap.size w10 w11 from hB.out.trans (hb11.mono HLO.out))
              obtain ⟨w12, HW12⟩ := name_itV (w11.alloc (.cells #[.slice AP nN cP, .slice BP nE dP] 25))
              have HB1112 := Lib.hid (show Below w11.heap.size w11 w12 from by rw [← HW12.out]; exact (Below.refl _ _).alloc (Nat.le_refl _) _)
              have HKP := Lib.hid (show w12.heap[zp]? = some (.cells #[.slice AP nN cP, .slice BP nE dP] 25 (0, 0)) from by rw [← HW12.out, ← Hzp.out]; exact heap_alloc_new w11 _)
              have HB12 := Lib.hid (show Below w10.heap.size w10 w12 from HB11.out.trans (HB1112.out.mono HB11.out.size))
              have HLM12 := Lib.hid (HLM.out.turn (Turn.of_below HB1112.out) (fun b h1 h2 h3 => by have h4 : w11.heap.size ≤ b := h3; have := Hzp.out; omega))
              have HRE12 := Lib.hid (HRE.out.turn (Turn.of_below HB1112.out) (fun b h1 h3 => by have h4 : w11.heap.size ≤ b := h3; have := HOE.out b h1; have := Hzp.out; omega))
              have heq := Lib.hid (eqGraph_same g' HFIT2.out (fun b => b < w11.heap.size) (fun b => b < w9.heap.size) _ _ w12 (fun b hb => Nat.lt_of_lt_of_le hb HB1112.out.size) (fun b hb => Nat.lt_of_lt_of_le hb (Nat.le_trans HB910.out.size HB12.out.size)) (HG11.out.under HB1112.out (fun b hb => hb)) (HGWA.out w12 HB12.out))
              clear hb11 hgr hal hae hon hoe hls hpe hln hle e1 hpl
              go_upto_region 21 with fail
              rw [Hzp.out, HW12.out]
              have p0 : w12.cell? ⟨zp, 0, none⟩ = some (.slice AP nN cP) := Lib.cell_of_heap HKP.out 0
              have p1 : w12.cell? ⟨zp, 1, none⟩ = some (.slice BP nE dP) := Lib.cell_of_heap HKP.out 1
              have hkw := Lib.hid ((HB12.out.block zw (blk_lt HKW.out)).trans HKW.out)
              have q0 : w12.cell? ⟨zw, 0, none⟩ = some (.slice AW nN cW) := Lib.cell_of_heap hkw.out 0
              have q1 : w12.cell? ⟨zw, 1, none⟩ = some (.slice BW nE dW) := Lib.cell_of_heap hkw.out 1
              go_wp2_with fail
              refine heq.out.mono ?_
              rintro e w13 ⟨rfl, hb13⟩
              have hzp12 := blk_lt HKP.out
              have HKP13 := Lib.hid ((hb13.block zp hzp12).trans HKP.out)
              have HB13 := Lib.hid (show Below w10.heap.size w10 w13 from HB12.out.trans (hb13.mono HB12.out.size))
              have HLM13 := Lib.hid (HLM12.out.turn (Turn.of_below hb13) (fun b h1 h2 h3 => by have h4 : w12.heap.size ≤ b := h3; omega))
              have HRE13 := Lib.hid (HRE12.out.turn (Turn.of_below hb13) (fun b h1 h3 => by have h4 : w12.heap.size ≤ b := h3; have := HOE.out b h1; omega))
              clear p0 p1 q0 q1 hb13 heq hzp12 HLM12 HRE12 HLM HRE HKP HG11
              go_wp2_with fail
              go_loopw [10] (fun s wx => ∃ i : Nat, i ≤ nN ∧ s = .int .i64 (i : Nat) ∧ Hid (Below w10.heap.size w10 wx ∧ wx.heap[zp]? = some (.cells #[.slice AP nN cP, .slice BP nE dP] 25 (0, 0)) ∧ LabW wx lo zp AP nN cP i ∧ RowW 41 5 wx (.slice BP nE dP) nE)) (fun s _ => nN - (intOf s).toNat)
              case atStart => exact ⟨0, by omega, rfl, Lib.hid ⟨HB13.out, HKP13.out, HLM13.out, HRE13.out⟩⟩
              case round =>
                clear HLM13 HRE13 HKP13
                obtain ⟨i, hi, rfl, hM⟩ := hrel
                have x0 : wr.cell? ⟨zp, 0, none⟩ = some (.slice AP nN cP) := Lib.cell_of_heap hM.out.2.1 0
                by_cases hlt : i < nN
                · obtain ⟨gx, L, rfl, hg1, hg2, hg3, hcell, hwt, hown, hfr, hnext⟩ := hM.out.2.2.1.at_ hlt
                  have hov := Lib.hid (overW_any hwt)
                  have HOWN := Lib.hid hown
                  have HNEXT := Lib.hid hnext
                  have HAP := Lib.hid (hwt.apart hM.out.2.2.2)
                  obtain ⟨oi, HOI⟩ := name_itV (i * 3)
                  rw [HOI.out] at hcell
                  have qi : i * 3 = oi := HOI.out
                  have a0 := add_zero_at' gx oi
                  have e1 : (0 : Int) ≤ i := by omega
                  have e2 : (i : Int) < nN := by omega
                  clear hwt hown hfr hnext
                  go_wp2_with fail
                  refine hov.out.mono ?_
                  rintro e w14 ⟨rfl, ht8⟩
                  have HT8 := Lib.hid ht8
                  have hn8 := HNEXT.out w14 ht8
                  have HLM8 := Lib.hid hn8.1
                  have HFR8 := Lib.hid hn8.2
                  have HRE8 := Lib.hid (hM.out.2.2.2.turn ht8 (fun b hb h => HAP.out b hb h))
                  have hx8 := Lib.hid ((ht8.block zp (blk_lt hM.out.2.1) (fun h => by have := HOWN.out zp h; omega)).trans hM.out.2.1)
                  have HB14 := Lib.hid (show Below w10.heap.size w10 w14 from hM.out.1.trans (ht8.below (fun b _ h => by have := HOWN.out b h; have := HLO.out; omega) hM.out.1.size))
                  clear x0 ht8 hn8 hcell
                  have x0 : w14.cell? ⟨zp, 0, none⟩ = some (.slice (some ⟨gx, 0, none⟩) nN cP) := Lib.cell_of_heap hx8.out 0
                  obtain ⟨C0, C1, C2, hc0, hc1, hc2⟩ := HLM8.out.cells3 (show i < nN from hlt)
                  rw [HOI.out] at hc0
                  clear hc1 hc2
                  have f0 := HFR8.out oi
                  have w9' : IntKind.i64.wrap ((i : Int) + 1) = (i : Int) + 1 := IntWalk.i64_in _ (by omega)
                  go_wp2_with fail
                  go_roundw
                  case measure => simp [intOf]; omega
                  case rel =>
                    have hgx := HLM8.out.apart HRE8.out
                    have ht : Turn (fun b => b = gx) w14 (w14.setCell ⟨gx, oi, none⟩ (.int .i64 (-5))) := (Turn.refl (fun b => b = gx) w14).setCell (p := ⟨gx, oi, none⟩) (.inr rfl) _
                    refine ⟨i + 1, by omega, by go_num, Lib.hid ⟨bel_set HB14.out (by show w10.heap.size ≤ gx; have := HLO.out; omega) (Nat.le_refl _) _, (ht.block zp (blk_lt hx8.out) (fun h => by have h1 : zp = gx := h; omega)).trans hx8.out, HLM8.out.put (by omega) _, HRE8.out.turn ht (fun b hb h => hgx (by rw [hb]; exact congrArg some h))⟩⟩
                · have HBX := Lib.hid hM.out.1
                  have HKX := Lib.hid hM.out.2.1
                  have HRX := Lib.hid hM.out.2.2.2
                  clear hM
                  go_wp2_with fail
                  clear x0
                  go_loopw [11] (fun s wx => ∃ i : Nat, i ≤ nE ∧ s = .int .i64 (i : Nat) ∧ Hid (Below w10.heap.size w10 wx ∧ wx.heap[zp]? = some (.cells #[.slice AP nN cP, .slice BP nE dP] 25 (0, 0)) ∧ RowW 41 5 wx (.slice BP nE dP) nE)) (fun s _ => nE - (intOf s).toNat)
                  case atStart => exact ⟨0, by omega, rfl, Lib.hid ⟨HBX.out, HKX.out, HRX.out⟩⟩
                  case round =>
                    clear HBX HKX HRX
                    obtain ⟨i, hi, rfl, hM⟩ := hrel
                    have x1 : wr.cell? ⟨zp, 1, none⟩ = some (.slice BP nE dP) := Lib.cell_of_heap hM.out.2.1 1
                    by_cases hlt : i < nE
                    · obtain ⟨gx, rfl, hgl, hfr, ⟨C0, C1, C2, C3, C4, hc0, hc1, hc2, hc3, hc4⟩, hrow⟩ := hM.out.2.2.at5 hlt
                      have HROW := Lib.hid hrow
                      have hgo := Lib.hid (HOE.out gx rfl)
                      obtain ⟨oi, HOI⟩ := name_itV (i * 5)
                      rw [HOI.out] at hc0 hc1 hc2 hc3 hc4
                      have qi : i * 5 = oi := HOI.out
                      have a0 := add_zero_at' gx oi
                      have e1 : (0 : Int) ≤ i := by omega
                      have e2 : (i : Int) < nE := by omega
                      have f0 := hfr oi
                      have f1 := hfr (oi + 1)
                      have f2 := hfr (oi + 2)
                      have f3 := hfr (oi + 3)
                      have f4 := hfr (oi + 4)
                      have w9' : IntKind.i64.wrap ((i : Int) + 1) = (i : Int) + 1 := IntWalk.i64_in _ (by omega)
                      clear hfr hrow hgl
                      go_wp2_with fail
                      go_roundw
                      case measure => simp [intOf]; omega
                      case rel =>
                        have hr5 := HROW.out [.int .i64 0, .int .i64 0, .int .i64 0, .string ⟨#[]⟩, .slice none 0 0] oi
                        have ht5 := turn_setW (w := wr) (g := gx) (o := oi) [.int .i64 0, .int .i64 0, .int .i64 0, .string ⟨#[]⟩, .slice none 0 0]
                        have hgo := hgo.out
                        have hlo := HLO.out
                        refine ⟨i + 1, by omega, by go_num, Lib.hid ⟨hM.out.1.trans (ht5.below (fun b _ h => by have h1 : b = gx := h; omega) hM.out.1.size), (ht5.block zp (blk_lt hM.out.2.1) (fun h => by have h1 : zp = gx := h; omega)).trans hM.out.2.1, hr5⟩⟩
                    · have HBX := Lib.hid hM.out.1
                      clear hM
                      go_wp2_with fail
                      go_roundw
                      case measure => simp [intOf]; omega
                      case rel => exact ⟨k + 1, by omega, by go_num, Lib.hid HBX.out⟩
            · have e1 : ¬ (k : Int) < 2 := by omega
              have HBF := Lib.hid (HB10.out.trans (hB.out.mono HB10.out.size))
              go_wp2_with fail
              refine (wakes_any wr (glob_under HG.out HBF.out)).mono ?_
              rintro e w11 ⟨rfl, hb11⟩
              have HB11 := Lib.hid (HBF.out.trans (hb11.mono HBF.out.size))
              clear hb11
              go_wp2_with fail
              go_ret
              exact ⟨rfl, HB11.out⟩
end Go.Proofs.YtmhjbicbdahllaaGreatDoor

namespace Go.Proofs.YtmhjbicbdahllaaGreatDoor
open Go Go.ChangeShapes Go.WideShapes Go.ChangeAt Go.RowKit Go.Joins

section
variable {H : Type} {enc : TypeId × Value → H} {P : Program}
theorem post_of_below {f : Func} {s : ChangeSpec} {apart fresh handsOn again : Bool} {W W' : World} {args : Array Value} {v : Value} {ds gs : List (DataW H)} {before pa pv : List MemPlace}
    (hW : DataW.Whole enc P f.params.toList s.vars apart W args.toList ds gs before)
    (hres : ∀ (b : Nat) (sp : Nat → Bool) (hd : Bool), DataW.TrodAll enc P W' b sp hd f.resultTypes.toList (v.resultList f.resultTypes.size) (s.fn H (ds ++ gs)).results [])
    (hargs : ∀ sp : Nat → Bool, (∀ p ∈ before, sp p.block = true) → DataW.TrodAll enc P W' 0 sp true f.params.toList args.toList (s.fn H (ds ++ gs)).args pa)
    (hvars : ∀ sp : Nat → Bool, (∀ p ∈ before, sp p.block = true) → DataW.TrodVars enc P W' sp s.vars (s.fn H (ds ++ gs)).vars pv)
    (hps : before = pa ++ pv) (hb : Below W.heap.size W W')
    (hok : ∀ (j : Nat) (t : TypeId) (r : Value), f.resultTypes[j]? = some t → (v.resultList f.resultTypes.size)[j]? = some r → Value.okWide P W' .any 0 t r) :
    s.post enc P f apart fresh handsOn again W args v W' := by
  have hlt : ∀ p ∈ before, p.block < W.heap.size := fun p hp => hW.lt p hp
  have hold : ∀ p ∈ before, (fun b => decide (b < W.heap.size)) p.block = true := fun p hp => by simpa using hlt p hp
  refine ⟨ds, gs, before, [], pa, pv, hW, hres _ _ _, hargs _ hold, hvars _ hold, World.keptBut_mono (fun p hp => ⟨hp, ?_⟩) (hb.frame (· ∈ before)), fun _ => ?_⟩
  · rw [hps, List.mem_append] at hp
    exact Or.inr hp
  · obtain ⟨_, _, _, _, _, hz, hn⟩ := hW
    refine ⟨hok, _, _, ([] ++ pa) ++ pv, ⟨[] ++ pa, pv, trodAll_append (hargs _ (fun _ _ => rfl)) (hres _ _ _), hvars _ (fun _ _ => rfl), rfl, ?_, ?_⟩, ?_⟩
    · intro b off hp
      have hin : MemPlace.cell b off ∈ before := by rw [hps]; simpa using hp
      rw [hb.frozen (hlt _ hin)]
      exact hz b off hin
    · intro ha
      have := hn ha
      rw [hps] at this
      simpa using this
    · intro p hp _
      rw [hps]
      simpa using hp
end

theorem own : ownKnob Tryz.prog.godebug = none := by kernel_rfl
theorem laidOut : laidOutB Tryz.prog = true := by kernel_rfl

set_option maxRecDepth 100000 in
theorem glob_of_shape {W : World} (h : W.ShapedOpen Tryz.prog) : GlobB W :=
  cell_of_shapedOpen_int (P := Tryz.prog) (g := 0) (t := 3) (zero := #[.int .i64 0]) h (of_decide_eq_true (by kernel_rfl)) (by kernel_rfl) rfl (by kernel_rfl) (by kernel_rfl) (by kernel_rfl)

set_option maxRecDepth 100000 in
theorem graphLoads_contract (H : Type) (enc : TypeId × Value → H) (W : World) (base : Nat) (args : Array Value) (ds gs : List (DataW H)) (before : List MemPlace)
    (hval0 : ∀ (j : Nat) t v, Tryz.f3.params[j]? = some t → args[j]? = some v → Value.okWide Tryz.prog W .any base t v)
    (hW : DataW.Whole enc Tryz.prog Tryz.f3.params.toList Rows.graphLoadsSpec.vars false W args.toList ds gs before) (hk : Rows.uptoSmall H (ds ++ gs) = true) (hg : GlobB W) :
    Calls Tryz.prog 3 args W fun e W' => ∃ v, e = .returned v ∧ Rows.graphLoadsSpec.post enc Tryz.prog Tryz.f3 false true false false W args v W' := by
  have hval : ∀ (j : Nat) t v, Tryz.f3.params[j]? = some t → args[j]? = some v → Value.okWide Tryz.prog W .any base t v := hval0
  have hW' := hW
  obtain ⟨p, q, hA0, hV, rfl, hfz, hnd⟩ := hW
  have hA : DataW.TrodAll enc Tryz.prog W 0 (fun _ => true) true Tryz.f3.params.toList args.toList ds p := hA0
  rw [Tryz.params3] at hA hval
  obtain ⟨v, d, rfl, rfl, h0⟩ := trodAll_one hA
  obtain ⟨rfl, rfl⟩ := trodVars_none hV
  clear hA0 hval0
  simp only [List.append_nil] at hW' hk
  have hlt : ∀ x ∈ p, x.block < W.heap.size := fun x hx => hW'.lt x hx
  have hbk : Rows.uptoBulkAll [d] ≤ 1048576 := of_decide_eq_true hk
  simp only [Rows.uptoBulkAll] at hbk
  obtain ⟨g, a1, a2, a3⟩ := graph_open (by omega) (hval 0 25 v rfl rfl) h0
  refine (graphLoads_any g a2 a3 _ v W (fun _ h => h) a1 hg).mono fun e W' ⟨he, hg⟩ => ?_
  subst he
  exact ⟨_, rfl, post_of_below (pa := p) (pv := []) hW' (fun _ _ _ => (trodAll_cons_mk (shut_bool Tryz.underlying4 _) trodAll_mk0))
    (fun sp hsp => trodAll_mk1 (WideElems.Trod_stays laidOut (by kernel_rfl) (of_decide_eq_true (by kernel_rfl)) h0 (fun x hx => hg.same (hlt x hx)) hsp)) (fun _ _ => rfl) (by simp)
    hg (ok_one (by kernel_rfl) rfl (okWide_bool_mk Tryz.underlying4 _))⟩

set_option maxRecDepth 100000 in
theorem graphLoads_lifted (os : Os) (started : os.Started) (H : Type) (enc : TypeId × Value → H) (F : Stop.Interp) :
    ReturnsInHanded {} Tryz.checked os 3 .any ((Rows.OpenSpec.upto Rows.graphLoadsSpec).preRow enc Tryz.prog Tryz.f3 Rows.graphLoadsUptoRow.domain false Rows.graphLoadsUptoRow.laid) (((Rows.OpenSpec.upto Rows.graphLoadsSpec).at F).post enc Tryz.prog Tryz.f3 false true false false) := by
  have hx : ∃ places, DataW.whole enc Tryz.prog ((World.laidAll Tryz.prog os Rows.graphLoadsUptoRow.laid).forCall (fun _ _ => 0) ⟨#[], #[.agg #[.slice none 0 0, .slice none 0 0]], []⟩).memory Tryz.f3.params.toList Rows.graphLoadsSpec.vars false #[.agg #[.slice none 0 0, .slice none 0 0]].toList 8 = some ([.agg [.nil, .nil]], [], places) := ⟨[], by kernel_rfl⟩
  obtain ⟨places, hx⟩ := hx
  refine returnsInHanded_of_row (C := Tryz.checked) (s := Rows.OpenSpec.upto Rows.graphLoadsSpec) own started (by kernel_rfl) Tryz.func3
    (witness_row_at (enc := enc) (C := Tryz.checked) false (World.laidAll Tryz.prog os Rows.graphLoadsUptoRow.laid) #[.agg #[.slice none 0 0, .slice none 0 0]] (World.laidAll_os _ _ _) (by kernel_rfl) (by kernel_rfl) (by kernel_rfl)
      (OpenSpec.preRow_of_cond 8 hx (by kernel_rfl) (fun k hk => by cases hk; kernel_rfl) (by kernel_rfl) (laidMet_laidAll _ (by kernel_rfl) (by kernel_rfl)))) ?_
  intro W base args ds gs before hval hW _ hcond _ hL hsh _
  exact graphLoads_contract H enc W base args ds gs before hval hW (hcond _ rfl) (glob_of_shape hsh)

theorem graphLoads_holds : Rows.GraphLoadsUptoSaid :=
  OpenClaim.holds_of_cond 3 Tryz.f3 rfl rfl rfl rfl rfl rfl rfl ⟨rfl, rfl, rfl, rfl, rfl⟩ rfl rfl rfl rfl rfl (by kernel_rfl) Tryz.func3 (by kernel_rfl)
    (of_decide_eq_true (by kernel_rfl)) (by unfold Func.isWrapper; first | (rw [if_pos (by decide +kernel)]; kernel_rfl) | (rw [if_neg (by decide +kernel)]; exact ⟨rfl, rfl⟩))
    (fun os started H enc _ F => by rw [OpenClaim.pre_eq_preRow]; exact graphLoads_lifted os started H enc F)

theorem graphLoads_card : Rows.GraphLoadsUptoCardSaid :=
  Claim7.holds_tied_plain_at .later [] _ _ _ _ graphLoads_holds (fun _ h => by cases h) (by kernel_rfl) (fun _ h => by cases h) graphLoadsUpto_row_tie rfl ⟨rfl, rfl⟩ (by kernel_rfl) rfl
    (fun f fn hf hfn => by
      obtain rfl : f = 3 := Option.some.inj ((show Tryz.prog.funcNamed "diptych/diptychlaw6.GraphLoads" = some 3 by kernel_rfl).symm.trans hf) |>.symm
      obtain rfl : fn = Tryz.f3 := (Option.some.inj (Tryz.func3.symm.trans hfn)).symm
      exact ⟨by kernel_rfl, fun j t ht => by
        rw [Tryz.params3] at ht
        have hm : t ∈ [25] := by simpa using Array.mem_of_getElem? ht
        have hall : ([25].all fun u => !Tryz.prog.wantsStandIn u) = true := by kernel_rfl
        exact (show Tryz.prog.wantsStandIn t = false by simpa using List.all_eq_true.1 hall t hm)⟩)
    (by kernel_rfl)
end Go.Proofs.YtmhjbicbdahllaaGreatDoor
