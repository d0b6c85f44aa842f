/- May a value be: Check. -/
import Derived.Test.YtmhjbicbdahllaaGreatDoorVJ
namespace Go.Proofs.YtmhjbicbdahllaaGreatDoor
open Go Go.RowKit

set_option maxRecDepth 100000 in
set_option maxHeartbeats 1000000 in
theorem check_any (v : Val) (hs : sizeV v ≤ 10000000000000000) (F : Nat → Prop) (u : Value) (w : World) (hF : ∀ g, F g → g < w.heap.size) (hv : VRd w F v u) (hg : GlobB w) :
    Calls Tryz.prog 56 #[u] w (ToldB (mayV v 0) w) := by
  obtain ⟨A, cap, hu, hcap, hl⟩ := hv.inv
  have hck := Lib.hid (fun o : Obj => chk_any (sizeV v + 1) v (by omega) hs 0 (by omega) F u (w.alloc o) (fun g hg => by have := hF g hg; simp; omega) (hv.under ((Below.refl _ _).alloc (Nat.le_refl _) _) hF) (glob_under hg ((Below.refl _ _).alloc (Nat.le_refl _) _)))
  subst hu
  obtain ⟨s, HS⟩ := name_itV (Value.slice A v.list.length cap)
  obtain ⟨mv, HMV⟩ := name_itV (mayV v 0)
  rw [HMV.out] at hck
  rw [HMV.out]
  rw [HS.out] at hck ⊢
  clear hl hcap hg
  cases v with
  | mk k b n t x l =>
  unfold cellsV at hck ⊢
  simp only [Val.kind, Val.truth, Val.num, Val.text, Val.extra] at hck ⊢
  clear hv hF
  go_enter Tryz.func56, Tryz.ntmps56
  go_wp2_with fail
  refine (hck.out _).mono ?_
  rintro e w1 ⟨rfl, hb⟩
  have HB := Lib.hid (((Below.refl w.heap.size w).alloc (Nat.le_refl _) (.cells #[.int .i64 k, .bool b, .int .i64 n, .string t, .string x, s] 55)).trans (hb.mono (by simp)))
  clear hb
  go_wp2_with fail
  go_ret
  exact ⟨rfl, HB.out⟩
end Go.Proofs.YtmhjbicbdahllaaGreatDoor
