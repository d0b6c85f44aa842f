/- Which values may be properties; predicates over texts and over values. -/
import Derived.Test.YtmhjbicbdahllaaGreatDoorG2
import Derived.Test.YtmhjbicbdahllaaGreatDoorG1
import Derived.Test.YtmhjbicbdahllaaGreatDoorVL
namespace Go.Proofs.YtmhjbicbdahllaaGreatDoor
open Go Go.RowKit

/-- May a value stand in a list, or alone? -/
def scalarB (v : Val) : Bool := mayV v 0 && (v.kind == 1 || (v.kind == 2 || (v.kind == 3 || v.kind == 4)))
theorem scalar_may {v : Val} (h : mayV v 0 = false) : scalarB v = false := by unfold scalarB; rw [h]; rfl

set_option maxRecDepth 100000 in
set_option maxHeartbeats 1000000 in
theorem scalar_any (v : Val) (hs : sizeV v ≤ 10000000000000000) (F : Nat → Prop) (u : Value) (w : World) (hF : ∀ g, F g → g < w.heap.size) (hv : VRd w F v u) (hg : GlobB w) :
    Calls Tryz.prog 55 #[u] w (ToldB (scalarB v) w) := by
  obtain ⟨A, cap, hu, hcap, hl⟩ := hv.inv
  have hck := Lib.hid (fun o : Obj => check_any v hs F u (w.alloc o) (fun g hg => by have := hF g hg; simp; omega) (hv.under ((Below.refl _ _).alloc (Nat.le_refl _) _) hF) (glob_under hg ((Below.refl _ _).alloc (Nat.le_refl _) _)))
  subst hu
  have hsc := Lib.hid (show scalarB v = (mayV v 0 && (v.kind == 1 || (v.kind == 2 || (v.kind == 3 || v.kind == 4)))) from rfl)
  obtain ⟨s, HS⟩ := name_itV (Value.slice A v.list.length cap)
  obtain ⟨sc, HSC⟩ := name_itV (scalarB v)
  obtain ⟨mv, HMV⟩ := name_itV (mayV v 0)
  rw [HMV.out] at hck hsc
  rw [HSC.out] at hsc ⊢
  rw [HS.out] at hck ⊢
  clear hl hcap hg HMV HSC
  cases v with
  | mk k b n t x l =>
  unfold cellsV at hck ⊢
  simp only [Val.kind, Val.truth, Val.num, Val.text, Val.extra] at hck hsc ⊢
  clear hv hF
  obtain ⟨z, HZ⟩ := name_itV w.heap.size
  go_enter Tryz.func55, Tryz.ntmps55
  go_wp2_with fail
  refine (hck.out _).mono ?_
  rintro e w1 ⟨rfl, hb⟩
  have HB := Lib.hid (((Below.refl w.heap.size w).alloc (Nat.le_refl _) (.cells #[.int .i64 k, .bool b, .int .i64 n, .string t, .string x, s] 55)).trans (hb.mono (by simp)))
  have hbx := (hb.block w.heap.size (by simp)).trans (heap_alloc_new w (.cells #[.int .i64 k, .bool b, .int .i64 n, .string t, .string x, s] 55))
  have c0 : w1.cell? ⟨w.heap.size, 0, none⟩ = some (.int .i64 k) := Lib.cell_of_heap hbx 0
  clear hb hbx hck
  rw [HZ.out] at c0 ⊢
  cases mv with
  | false =>
    have HR := Lib.hid (show sc = false from hsc.out)
    go_wp2_with fail
    go_ret
    exact ⟨by rw [HR.out]; rfl, HB.out⟩
  | true =>
    by_cases h1 : k = 1
    · have HR := Lib.hid (show sc = true from by rw [hsc.out, h1]; rfl)
      have q1 : (k == 1) = true := by rw [h1]; rfl
      clear h1
      go_wp2_with fail
      go_ret
      exact ⟨by rw [HR.out]; rfl, HB.out⟩
    · have q1 : (k == 1) = false := by simp [h1]
      by_cases h2 : k = 2
      · have HR := Lib.hid (show sc = true from by rw [hsc.out, h2]; rfl)
        have q2 : (k == 2) = true := by rw [h2]; rfl
        clear h1 h2
        go_wp2_with fail
        go_ret
        exact ⟨by rw [HR.out]; rfl, HB.out⟩
      · have q2 : (k == 2) = false := by simp [h2]
        by_cases h3 : k = 3
        · have HR := Lib.hid (show sc = true from by rw [hsc.out, h3]; rfl)
          have q3 : (k == 3) = true := by rw [h3]; rfl
          clear h1 h2 h3
          go_wp2_with fail
          go_ret
          exact ⟨by rw [HR.out]; rfl, HB.out⟩
        · have q3 : (k == 3) = false := by simp [h3]
          by_cases h4 : k = 4
          · have HR := Lib.hid (show sc = true from by rw [hsc.out, h4]; rfl)
            have q4 : (k == 4) = true := by rw [h4]; rfl
            clear h1 h2 h3 h4
            go_wp2_with fail
            go_ret
            exact ⟨by rw [HR.out]; rfl, HB.out⟩
          · have q4 : (k == 4) = false := by simp [h4]
            have HR := Lib.hid (show sc = false from by rw [hsc.out, q1, q2, q3, q4]; rfl)
            clear h1 h2 h3 h4
            go_wp2_with fail
            go_ret
            exact ⟨by rw [HR.out]; rfl, HB.out⟩

set_option maxRecDepth 100000 in
set_option maxHeartbeats 1000000 in
theorem scalarC_any (v : Val) (hs : sizeV v ≤ 10000000000000000) (F : Nat → Prop) (u : Value) (w : World) (hF : ∀ g, F g → g < w.heap.size) (hv : VRd w F v u) (hg : GlobB w) :
    Calls Tryz.prog 58 #[u] w (ToldB (!scalarB v) w) := by
  obtain ⟨A, cap, hu, hcap, hl⟩ := hv.inv
  have hck := Lib.hid (fun o : Obj => scalar_any v hs F u (w.alloc o) (fun g hg => by have := hF g hg; simp; omega) (hv.under ((Below.refl _ _).alloc (Nat.le_refl _) _) hF) (glob_under hg ((Below.refl _ _).alloc (Nat.le_refl _) _)))
  subst hu
  obtain ⟨s, HS⟩ := name_itV (Value.slice A v.list.length cap)
  obtain ⟨mv, HMV⟩ := name_itV (scalarB v)
  rw [HMV.out] at hck
  rw [HMV.out]
  rw [HS.out] at hck ⊢
  clear hl hcap hg
  cases v with
  | mk k b n t x l =>
  unfold cellsV at hck ⊢
  simp only [Val.kind, Val.truth, Val.num, Val.text, Val.extra] at hck ⊢
  clear hv hF
  go_enter Tryz.func58, Tryz.ntmps58
  go_wp2_with fail
  refine (hck.out _).mono ?_
  rintro e w1 ⟨rfl, hb⟩
  have HB := Lib.hid (((Below.refl w.heap.size w).alloc (Nat.le_refl _) (.cells #[.int .i64 k, .bool b, .int .i64 n, .string t, .string x, s] 55)).trans (hb.mono (by simp)))
  clear hb
  go_wp2_with fail
  go_ret
  exact ⟨rfl, HB.out⟩

/-- The place of the first value that a predicate takes; none. -/
def IdxP (l : List Val) (p : Val → Bool) (w : World) (e : Ending) (w' : World) : Prop := ∃ r : Int, e = .returned (.int .i64 r) ∧ (decide (0 ≤ r) = l.any p) ∧ Below w.heap.size w w'
set_option maxRecDepth 100000 in
set_option maxHeartbeats 1000000 in
theorem idxV_any (l : List Val) (p : Val → Bool) (F : Nat → Prop) (A : Option Addr) (n cap : Nat) (w : World) (hF : ∀ g, F g → g < w.heap.size) (hl : LRd w F l A n) (hn : n ≤ 1000000000)
    (hck : ∀ (x : Val) (_ : x ∈ l) (u : Value) (W : World), Below w.heap.size w W → VRd W F x u → Calls Tryz.prog 58 #[u] W (ToldB (p x) W)) :
    Calls Tryz.prog 73 #[.slice A n cap, .func (.func 58) #[] #[]] w (IdxP l p w) := by
  have HL := Lib.hid hl
  have HF := Lib.hid hF
  have HCK := Lib.hid hck
  have hln := Lib.hid hl.1
  clear hl hF hck
  go_enter Tryz.func73, Tryz.ntmps73
  go_wp2_with fail
  go_loopw [8] (fun s8 wr => ∃ k : Nat, k ≤ n ∧ s8 = .int .i64 (k : Nat) ∧ Hid (((l.take k).any p) = false) ∧ Hid (Below w.heap.size w wr)) (fun s8 _ => n - (intOf s8).toNat)
  case atStart => exact ⟨0, by omega, rfl, Lib.hid (by simp), Lib.hid (Below.refl _ _)⟩
  case round =>
    obtain ⟨k, hk, rfl, hall, hB⟩ := hrel
    by_cases hlt : k < n
    · obtain ⟨x, hx⟩ : ∃ x, l[k]? = some x := ⟨l[k]'(by rw [← hln.out]; exact hlt), List.getElem?_eq_getElem _⟩
      have HR := Lib.hid (HL.out.under hB.out HF.out)
      obtain ⟨ad, s, rfl, hFa, ⟨B, capx, rfl, hcapx, hlx⟩, hv, c0, c1, c2, c3, c4, c5⟩ := HR.out.cellsAt hx
      have HX := Lib.hid hx
      have hmem := Lib.hid (List.mem_of_getElem? hx)
      have hcl := Lib.hid (HCK.out x hmem.out _ wr hB.out hv)
      have hmore := Lib.hid (fun (h : p x = false) => show (l.take (k + 1)).any p = false from by
        rw [take_oneMore HX.out, List.any_append, hall.out]; simp [h])
      have hstop := Lib.hid (fun (h : p x = true) => show l.any p = true from by
        rw [List.any_eq_true]
        exact ⟨x, hmem.out, h⟩)
      obtain ⟨r, Hr⟩ := name_itV (p x)
      rw [Hr.out] at hcl hmore hstop
      unfold cellsV at hcl
      have e1 : (0 : Int) ≤ k := by omega
      have e2 : (k : Int) < n := by omega
      clear hx hlx hv hFa
      go_wp2_with fail
      refine hcl.out.mono ?_
      rintro e w2 ⟨rfl, hb2⟩
      have HB2 := Lib.hid (hB.out.trans (hb2.mono hB.out.size))
      clear hb2
      cases r with
      | false =>
        have HM := Lib.hid (hmore.out rfl)
        have w1 : IntKind.i64.wrap ((k : Int) + 1) = (k : Int) + 1 := IntWalk.i64_in _ (by omega)
        go_wp2_with fail
        go_roundw
        case rel => exact ⟨k + 1, by omega, by go_num, HM, HB2⟩
        case measure => simp [intOf]; omega
      | true =>
        have HS := Lib.hid (hstop.out rfl)
        go_wp2_with fail
        go_ret
        exact ⟨(k : Int), rfl, by rw [HS.out]; simp, HB2.out⟩
    · have hke : k = n := by omega
      have HS := Lib.hid (show l.any p = false from by
        have := hall.out
        rw [List.take_of_length_le (by rw [hke, hln.out]; exact Nat.le_refl _)] at this
        exact this)
      subst hke
      go_wp2_with fail
      go_ret
      exact ⟨-1, rfl, by rw [HS.out]; simp, hB.out⟩
set_option maxRecDepth 100000 in
set_option maxHeartbeats 1000000 in
theorem contV_any (l : List Val) (hs : sizeL l ≤ 1000000000) (F : Nat → Prop) (A : Option Addr) (n cap : Nat) (w : World) (hF : ∀ g, F g → g < w.heap.size) (hl : LRd w F l A n) (hg : GlobB w) :
    Calls Tryz.prog 57 #[.slice A n cap, .func (.func 58) #[] #[]] w (ToldB (l.any fun v => !scalarB v) w) := by
  have hn := len_le_size l
  have HI := Lib.hid (idxV_any l (fun v => !scalarB v) F A n cap w hF hl (by rw [hl.1]; omega) (fun x hx u W hW hr => scalarC_any x (by have := sizeV_mem hx; omega) F u W (fun g hg => Nat.lt_of_lt_of_le (hF g hg) hW.size) hr (glob_under hg hW)))
  obtain ⟨r, Hr⟩ := name_itV (l.any fun v => !scalarB v)
  rw [Hr.out]
  clear hl hF hg
  go_enter Tryz.func57, Tryz.ntmps57
  go_wp2_with fail
  refine HI.out.mono ?_
  rintro e w1 ⟨q, rfl, hr, hb⟩
  have HR := Lib.hid hr
  have HB := Lib.hid hb
  clear hr hb
  go_wp2_with fail
  go_ret
  exact ⟨by rw [← Hr.out, ← HR.out]; rfl, HB.out⟩
end Go.Proofs.YtmhjbicbdahllaaGreatDoor
