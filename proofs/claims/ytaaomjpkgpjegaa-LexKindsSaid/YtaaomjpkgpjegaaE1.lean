/- The law LexKinds. -/
import Derived.Test.YtaaomjpkgpjegaaD5
namespace Go.Proofs.Ytaaomjpkgpjegaa
open Go.RowKit

set_option maxRecDepth 100000 in
set_option maxHeartbeats 2000000 in
theorem kinds_any (w : World) :
    Calls Try.prog 6 #[] w fun e w' => e = .returned (.bool true) ∧ Below w.heap.size w w' := by
  go_enter Try.func6, Try.ntmps6
  go_wp2
  generalize hW : World.alloc _ _ = W
  have hWl : allocs w (laidObjs w) = W := hW
  clear hW
  have hC := handC hWl
  have hS := handS hWl
  have hbW : Below w.heap.size w W := by rw [← hWl]; exact allocs_below _ _
  have hsz : W.heap.size = w.heap.size + 28 := by rw [← hWl, allocs_size]; rfl
  have HC := Lib.hid hC
  have HS := Lib.hid hS
  have HZ := Lib.hid hsz
  clear hC hS hsz hWl
  simp only [Nat.add_assoc, Nat.reduceAdd]
  go_loopw [5] (fun i wr => ∃ k : Nat, k ≤ 14 ∧ i = .int .i64 k ∧ Below W.heap.size W wr) (fun i _ => 14 - (intOf i).toNat)
  case atStart => exact ⟨0, by omega, rfl, Below.refl _ _⟩
  case round =>
    obtain ⟨k, hk, rfl, hb⟩ := hrel
    by_cases hlt : k < 14
    · obtain ⟨s, A, n, h1, h2, h3, h4⟩ := (HC.out k hlt).below (by omega) (by omega) (by rw [← HZ.out]; exact hb)
      rw [Nat.add_zero] at h1
      have e1 : (0 : Int) ≤ k := by omega
      have e2 : (k : Int) < 14 := by omega
      have hz := HZ.out
      have hsz := hb.size
      have hbd : Below W.heap.size W wr.drew := ⟨hb.os, hb.tape, hb.output, hb.size, hb.block⟩
      go_wp2
      go_still_tail 8, (by kernel_rfl)
      change wpList _ _ _ _ _ wr.drew
      clear hz
      go_wp2_with fail
      rcases h4 with ⟨rfl, rfl, ts, r, hl⟩ | ⟨ts, hl, h0, rfl, hr⟩
      · refine (kinded_no s _ ts r _ h3 hl).mono ?_
        rintro e w2 ⟨rfl, hb2⟩
        clear hl
        go_wp2
        go_roundw
        case rel => exact ⟨k + 1, by omega, by go_num, hbd.trans (hb2.mono hbd.size)⟩
        case measure => simp [intOf]; omega
      · refine (kinded_any s _ ts _ h3 hl h0 A _ (hr.drew.more (by have := HZ.out; simp; omega))).mono ?_
        rintro e w2 ⟨rfl, hb2⟩
        clear hl hr h2 h1
        go_wp2
        go_roundw
        case rel => exact ⟨k + 1, by omega, by go_num, hbd.trans (hb2.mono hbd.size)⟩
        case measure => simp [intOf]; omega
    · have hke : k = 14 := by omega
      subst hke
      simp only [Int.cast_ofNat_Int]
      obtain ⟨wo, rfl⟩ : ∃ wo : World, wo = wr := ⟨_, rfl⟩
      go_wp2
      go_loopw [6] (fun i wr => ∃ k : Nat, k ≤ 13 ∧ i = .int .i64 k ∧ Below W.heap.size W wr) (fun i _ => 13 - (intOf i).toNat)
      case atStart => exact ⟨0, by omega, rfl, hb⟩
      case round =>
        obtain ⟨k, hk, rfl, hb⟩ := hrel
        by_cases hlt : k < 13
        · obtain ⟨s, A, n, h1, h2, h3, h4⟩ := (HS.out k hlt).below (by omega) (by omega) (by rw [← HZ.out]; exact hb)
          skip
          have e1 : (0 : Int) ≤ k := by omega
          have e2 : (k : Int) < 13 := by omega
          have hz := HZ.out
          have hsz := hb.size
          have hbd : Below W.heap.size W wr.drew := ⟨hb.os, hb.tape, hb.output, hb.size, hb.block⟩
          go_wp2
          go_still_tail 8, (by kernel_rfl)
          change wpList _ _ _ _ _ wr.drew
          clear hz
          go_wp2_with fail
          rcases h4 with ⟨rfl, rfl, ts, r, hl⟩ | ⟨ts, hl, h0, rfl, hr⟩
          · refine (kinded_no s _ ts r _ h3 hl).mono ?_
            rintro e w2 ⟨rfl, hb2⟩
            clear hl
            go_wp2
            go_roundw
            case rel => exact ⟨k + 1, by omega, by go_num, hbd.trans (hb2.mono hbd.size)⟩
            case measure => simp [intOf]; omega
          · refine (kinded_any s _ ts _ h3 hl h0 A _ (hr.drew.more (by have := HZ.out; simp; omega))).mono ?_
            rintro e w2 ⟨rfl, hb2⟩
            clear hl hr h2 h1
            go_wp2
            go_roundw
            case rel => exact ⟨k + 1, by omega, by go_num, hbd.trans (hb2.mono hbd.size)⟩
            case measure => simp [intOf]; omega
        · have hke : k = 13 := by omega
          subst hke
          simp only [Int.cast_ofNat_Int]
          go_wp2_with fail
          refine (wakes_any _).mono ?_
          rintro e w2 ⟨rfl, hb2⟩
          go_wp2
          go_ret
          exact ⟨rfl, (hbW.trans (hb.mono hbW.size)).trans (hb2.mono (Nat.le_trans hbW.size hb.size))⟩

end Go.Proofs.Ytaaomjpkgpjegaa
