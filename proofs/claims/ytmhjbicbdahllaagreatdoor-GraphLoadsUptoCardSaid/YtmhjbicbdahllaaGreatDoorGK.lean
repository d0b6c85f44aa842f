/- Rows of numbers and texts: EqNums, has, Contains, and the search for a missing label. -/
import Derived.Test.YtmhjbicbdahllaaGreatDoorGI
import Derived.BigQuiet
namespace Go.Proofs.YtmhjbicbdahllaaGreatDoor
open Go Go.RowKit

/-- The cell of the i-th number. -/
theorem intAt {w : World} {F : Nat → Prop} {l : List Int} {A : Option Addr} {n : Nat} (h : SRd 1 IxR w F l A n) {i : Nat} {x : Int} (hx : l[i]? = some x) :
    ∃ ad, A = some ad ∧ F ad.block ∧ w.cell? (ad.add i) = some (.int .i64 x) := by
  obtain ⟨ad, c, e, hF, _, hc, hcx⟩ := h.at_ hx
  have c0 := hc 0 (by omega)
  rw [hcx] at c0
  exact ⟨ad, e, hF, by simpa using c0⟩
def eqI (l m : List Int) : Bool := decide (l = m)
set_option maxRecDepth 100000 in
set_option maxHeartbeats 1000000 in
theorem eqNums_any (l m : List Int) (F G : Nat → Prop) (A B : Option Addr) (n1 c1 n2 c2 : Nat) (w : World) (h1 : SRd 1 IxR w F l A n1) (h2 : SRd 1 IxR w G m B n2) (hn : n1 ≤ 1000000000) (hn2 : n2 ≤ 1000000000) :
    Calls Tryz.prog 18 #[.slice A n1 c1, .slice B n2 c2] w (ToldBd (eqI l m) w) := by
  have H1 := Lib.hid h1
  have H2 := Lib.hid h2
  have L1 := Lib.hid h1.1
  have L2 := Lib.hid h2.1
  clear h1 h2
  obtain ⟨r, HR⟩ := name_itV (eqI l m)
  rw [HR.out]
  by_cases hnn : n1 = n2
  · subst hnn
    have t0 : ((n1 : Int) != n1) = false := bne_self_eq_false _
    go_enter Tryz.func18, Tryz.ntmps18
    go_wp2_with fail
    go_loopw [5] (fun s5 wx => ∃ k q : Nat, k ≤ n1 ∧ s5 = .int .i64 (k : Nat) ∧ Hid (wx = w.drewN q ∧ l.take k = m.take k)) (fun s5 _ => n1 - (intOf s5).toNat)
    case atStart => exact ⟨0, 0, by omega, rfl, Lib.hid ⟨rfl, rfl⟩⟩
    case round =>
      obtain ⟨k, q, hk, rfl, hM⟩ := hrel
      by_cases hlt : k < n1
      · obtain ⟨x, hx⟩ : ∃ x, l[k]? = some x := ⟨l[k]'(by rw [← L1.out]; exact hlt), List.getElem?_eq_getElem _⟩
        obtain ⟨y, hy⟩ : ∃ y, m[k]? = some y := ⟨m[k]'(by rw [← L2.out]; exact hlt), List.getElem?_eq_getElem _⟩
        have HX := Lib.hid hx
        have HY := Lib.hid hy
        obtain ⟨ad, rfl, _, q0⟩ := intAt (H1.out.keep IxR.good (w' := wr) (fun p _ => by rw [hM.out.1]; rfl)) hx
        obtain ⟨bd, rfl, _, q1⟩ := intAt (H2.out.keep IxR.good (w' := wr) (fun p _ => by rw [hM.out.1]; rfl)) hy
        clear hx hy
        have e1 : (0 : Int) ≤ k := by omega
        have e2 : (k : Int) < n1 := by omega
        have w1 : IntKind.i64.wrap ((k : Int) + 1) = (k : Int) + 1 := IntWalk.i64_in _ (by omega)
        go_upto_region 6 with fail
        go_quiet (fail)
        have HW := Lib.hid (show wr.drewN nq = w.drewN (q + nq) by rw [hM.out.1, World.drewN_drewN])
        have HT := Lib.hid hM.out.2
        clear hM
        by_cases hxy : x = y
        · subst hxy
          have t1 : (x != x) = false := bne_self_eq_false _
          go_wp2_with fail
          go_roundw
          case rel => exact ⟨k + 1, q + nq, by omega, by go_num, Lib.hid ⟨HW.out, by rw [take_oneMore HX.out, take_oneMore HY.out, HT.out]⟩⟩
          case measure => simp [intOf]; omega
        · have t1 : (x != y) = true := bne_iff_ne.2 hxy
          have HN := Lib.hid (show r = false from by
            rw [← HR.out]
            refine decide_eq_false (fun e => hxy ?_)
            have h := HX.out
            rw [e, HY.out] at h
            injection h with h
            exact h.symm)
          clear hxy
          go_wp2_with fail
          go_ret
          exact ⟨by rw [HN.out]; rfl, q + nq, HW.out⟩
      · have hke : n1 = k := by omega
        subst hke
        have HN := Lib.hid (show r = true from by
          rw [← HR.out]
          refine decide_eq_true ?_
          have h := hM.out.2
          rw [List.take_of_length_le (by rw [← L1.out]; exact Nat.le_refl _), List.take_of_length_le (by rw [← L2.out]; exact Nat.le_refl _)] at h
          exact h)
        go_wp2_with fail
        go_ret
        exact ⟨by rw [HN.out]; rfl, q, hM.out.1⟩
  · have t0 : ((n1 : Int) != n2) = true := bne_iff_ne.2 (by omega)
    have HN := Lib.hid (show r = false from by
      rw [← HR.out]
      exact decide_eq_false (fun e => hnn (by rw [L1.out, L2.out, e])))
    clear hnn
    go_enter Tryz.func18, Tryz.ntmps18
    go_wp2_with fail
    go_ret
    exact ⟨by rw [HN.out]; rfl, 0, rfl⟩
def ToldS (b : Bool) (w : World) (e : Ending) (w' : World) : Prop := e = .returned (.bool b) ∧ w' = w
set_option maxRecDepth 100000 in
set_option maxHeartbeats 1000000 in
theorem has_any (l : List Int) (x : Int) (F : Nat → Prop) (A : Option Addr) (n c : Nat) (w : World) (h : SRd 1 IxR w F l A n) (hn : n ≤ 1000000000) :
    Calls Tryz.prog 17 #[.slice A n c, .int .i64 x] w (ToldS (inB l x) w) := by
  have H1 := Lib.hid h
  have L1 := Lib.hid h.1
  clear h
  obtain ⟨r, HR⟩ := name_itV (inB l x)
  rw [HR.out]
  go_enter Tryz.func17, Tryz.ntmps17
  go_wp2_with fail
  go_loopw [5] (fun s5 wx => ∃ k : Nat, k ≤ n ∧ s5 = .int .i64 (k : Nat) ∧ Hid (wx = w ∧ x ∉ l.take k)) (fun s5 _ => n - (intOf s5).toNat)
  case atStart => exact ⟨0, by omega, rfl, Lib.hid ⟨rfl, by simp⟩⟩
  case round =>
    obtain ⟨k, hk, rfl, hM⟩ := hrel
    by_cases hlt : k < n
    · obtain ⟨y, hy⟩ : ∃ y, l[k]? = some y := ⟨l[k]'(by rw [← L1.out]; exact hlt), List.getElem?_eq_getElem _⟩
      have HY := Lib.hid hy
      obtain ⟨ad, rfl, _, q0⟩ := intAt (H1.out.keep IxR.good (w' := wr) (fun p _ => by rw [hM.out.1])) hy
      clear hy
      have e1 : (0 : Int) ≤ k := by omega
      have e2 : (k : Int) < n := by omega
      have w1 : IntKind.i64.wrap ((k : Int) + 1) = (k : Int) + 1 := IntWalk.i64_in _ (by omega)
      by_cases hxy : y = x
      · subst hxy
        have t1 : (y == y) = true := beq_self_eq_true _
        have HN := Lib.hid (show r = true from by rw [← HR.out]; exact inB_yes (List.mem_of_getElem? HY.out))
        go_wp2_with fail
        go_ret
        exact ⟨by rw [HN.out]; rfl, hM.out.1⟩
      · have t1 : (y == x) = false := beq_eq_false_iff_ne.2 hxy
        have HXY := Lib.hid hxy
        clear hxy
        go_wp2_with fail
        go_roundw
        case rel =>
          refine ⟨k + 1, by omega, by go_num, Lib.hid ⟨hM.out.1, fun hm => ?_⟩⟩
          rw [take_oneMore HY.out] at hm
          rcases List.mem_append.1 hm with hm | hm
          · exact hM.out.2 hm
          · exact HXY.out (List.mem_singleton.1 hm).symm
        case measure => simp [intOf]; omega
    · have hke : n = k := by omega
      subst hke
      have HN := Lib.hid (show r = false from by
        rw [← HR.out]
        refine inB_no ?_
        have h := hM.out.2
        rw [List.take_of_length_le (by rw [← L1.out]; exact Nat.le_refl _)] at h
        exact h)
      go_wp2_with fail
      go_ret
      exact ⟨by rw [HN.out]; rfl, hM.out.1⟩
def IdxB (b : Bool) (w : World) (e : Ending) (w' : World) : Prop := ∃ r : Int, e = .returned (.int .i64 r) ∧ decide (0 ≤ r) = b ∧ w' = w
set_option maxRecDepth 100000 in
set_option maxHeartbeats 1000000 in
theorem idxT_any (l : List ByteArray) (x : ByteArray) (F : Nat → Prop) (A : Option Addr) (n c : Nat) (w : World) (h : SRd 1 TxR w F l A n) (hn : n ≤ 1000000000) :
    Calls Tryz.prog 69 #[.slice A n c, .string x] w (IdxB (inB l x) w) := by
  have H1 := Lib.hid h
  have L1 := Lib.hid h.1
  clear h
  obtain ⟨r, HR⟩ := name_itV (inB l x)
  rw [HR.out]
  go_enter Tryz.func69, Tryz.ntmps69
  go_wp2_with fail
  go_loopw [8] (fun s5 wx => ∃ k : Nat, k ≤ n ∧ s5 = .int .i64 (k : Nat) ∧ Hid (wx = w ∧ x ∉ l.take k)) (fun s5 _ => n - (intOf s5).toNat)
  case atStart => exact ⟨0, by omega, rfl, Lib.hid ⟨rfl, by simp⟩⟩
  case round =>
    obtain ⟨k, hk, rfl, hM⟩ := hrel
    by_cases hlt : k < n
    · obtain ⟨y, hy⟩ : ∃ y, l[k]? = some y := ⟨l[k]'(by rw [← L1.out]; exact hlt), List.getElem?_eq_getElem _⟩
      have HY := Lib.hid hy
      obtain ⟨ad, rfl, _, q0⟩ := textAt (H1.out.keep TxR.good (w' := wr) (fun p _ => by rw [hM.out.1])) hy
      clear hy
      have e1 : (0 : Int) ≤ k := by omega
      have e2 : (k : Int) < n := by omega
      have w1 : IntKind.i64.wrap ((k : Int) + 1) = (k : Int) + 1 := IntWalk.i64_in _ (by omega)
      by_cases hxy : x = y
      · subst hxy
        have HN := Lib.hid (show r = true from by rw [← HR.out]; exact inB_yes (List.mem_of_getElem? HY.out))
        go_wp2_with fail
        go_ret
        exact ⟨(k : Int), rfl, by rw [HN.out]; simp, hM.out.1⟩
      · have t1 := strV_ne hxy
        have HXY := Lib.hid hxy
        clear hxy
        go_wp2_with fail
        go_roundw
        case rel =>
          refine ⟨k + 1, by omega, by go_num, Lib.hid ⟨hM.out.1, fun hm => ?_⟩⟩
          rw [take_oneMore HY.out] at hm
          rcases List.mem_append.1 hm with hm | hm
          · exact hM.out.2 hm
          · exact HXY.out (List.mem_singleton.1 hm)
        case measure => simp [intOf]; omega
    · have hke : n = k := by omega
      subst hke
      have HN := Lib.hid (show r = false from by
        rw [← HR.out]
        refine inB_no ?_
        have h := hM.out.2
        rw [List.take_of_length_le (by rw [← L1.out]; exact Nat.le_refl _)] at h
        exact h)
      go_wp2_with fail
      go_ret
      exact ⟨-1, rfl, by rw [HN.out]; simp, hM.out.1⟩
set_option maxRecDepth 100000 in
set_option maxHeartbeats 1000000 in
theorem containsT_any (l : List ByteArray) (x : ByteArray) (F : Nat → Prop) (A : Option Addr) (n c : Nat) (w : World) (h : SRd 1 TxR w F l A n) (hn : n ≤ 1000000000) :
    Calls Tryz.prog 49 #[.slice A n c, .string x] w (ToldS (inB l x) w) := by
  have HI := Lib.hid (idxT_any l x F A n c w h hn)
  clear h
  unfold IdxB at HI
  obtain ⟨r, HR⟩ := name_itV (inB l x)
  rw [HR.out] at HI ⊢
  go_enter Tryz.func49, Tryz.ntmps49
  go_wp2_with fail
  refine HI.out.mono ?_
  rintro e w1 ⟨q, rfl, hr, rfl⟩
  have HQ := Lib.hid hr
  clear hr
  go_wp2_with fail
  go_ret
  exact ⟨by rw [← HQ.out]; rfl, rfl⟩
set_option maxRecDepth 100000 in
set_option maxHeartbeats 1000000 in
/-- Is a label missing? -/
theorem missL_any (l : List ByteArray) (x : ByteArray) (b : Nat) (F : Nat → Prop) (A : Option Addr) (n c : Nat) (w : World) (h : SRd 1 TxR w F l A n) (hn : n ≤ 1000000000) (hc : w.cell? ⟨b, 1, none⟩ = some (.slice A n c)) :
    Calls Tryz.prog 48 #[.string x, .pointer (some ⟨b, 0, none⟩)] w (ToldS (!inB l x) w) := by
  have HI := Lib.hid (containsT_any l x F A n c w h hn)
  clear h
  obtain ⟨r, HR⟩ := name_itV (inB l x)
  rw [HR.out] at HI ⊢
  go_enter Tryz.func48, Tryz.ntmps48
  go_wp2_with fail
  refine HI.out.mono ?_
  rintro e w1 ⟨rfl, rfl⟩
  go_wp2_with fail
  go_ret
  exact ⟨rfl, rfl⟩
/-- All these texts are in l. -/
def allB (q l : List ByteArray) : Bool := q.all fun s => inB l s
set_option maxRecDepth 100000 in
set_option maxHeartbeats 1000000 in
theorem idxM_any (q l : List ByteArray) (b : Nat) (F G : Nat → Prop) (A B : Option Addr) (n c n2 c2 : Nat) (w : World) (h : SRd 1 TxR w F l A n) (hn : n ≤ 1000000000) (hc : w.cell? ⟨b, 1, none⟩ = some (.slice A n c))
    (hq : SRd 1 TxR w G q B n2) (hn2 : n2 ≤ 1000000000) :
    Calls Tryz.prog 53 #[.slice B n2 c2, .func (.func 48) #[] #[.pointer (some ⟨b, 0, none⟩)]] w (IdxB (!allB q l) w) := by
  have HML := Lib.hid (fun x => missL_any l x b F A n c w h hn hc)
  have HQ := Lib.hid hq
  have L1 := Lib.hid hq.1
  clear h hc hq
  obtain ⟨r, HR⟩ := name_itV (allB q l)
  rw [HR.out]
  go_enter Tryz.func53, Tryz.ntmps53
  go_wp2_with fail
  go_loopw [8] (fun s5 wx => ∃ k : Nat, k ≤ n2 ∧ s5 = .int .i64 (k : Nat) ∧ Hid (wx = w ∧ allB (q.take k) l = true)) (fun s5 _ => n2 - (intOf s5).toNat)
  case atStart => exact ⟨0, by omega, rfl, Lib.hid ⟨rfl, rfl⟩⟩
  case round =>
    obtain ⟨k, hk, rfl, hM⟩ := hrel
    have HWW := Lib.hid hM.out.1
    by_cases hlt : k < n2
    · obtain ⟨y, hy⟩ : ∃ y, q[k]? = some y := ⟨q[k]'(by rw [← L1.out]; exact hlt), List.getElem?_eq_getElem _⟩
      have HY := Lib.hid hy
      obtain ⟨ad, rfl, _, q0⟩ := textAt (HQ.out.keep TxR.good (w' := wr) (fun p _ => by rw [HWW.out])) hy
      have hcl := Lib.hid (HML.out y)
      rw [← HWW.out] at hcl
      obtain ⟨r2, HR2⟩ := name_itV (inB l y)
      rw [HR2.out] at hcl
      clear hy
      have e1 : (0 : Int) ≤ k := by omega
      have e2 : (k : Int) < n2 := by omega
      have w1 : IntKind.i64.wrap ((k : Int) + 1) = (k : Int) + 1 := IntWalk.i64_in _ (by omega)
      go_wp2_with fail
      refine hcl.out.mono ?_
      rintro e wb ⟨rfl, rfl⟩
      cases r2 with
      | false =>
        have HN := Lib.hid (show r = false from by
          rw [← HR.out]
          unfold allB
          rw [Bool.eq_false_iff]
          intro hall
          have := List.all_eq_true.1 hall y (List.mem_of_getElem? HY.out)
          rw [HR2.out] at this
          cases this)
        go_wp2_with fail
        go_ret
        exact ⟨(k : Int), rfl, by rw [HN.out]; simp, HWW.out⟩
      | true =>
        go_wp2_with fail
        go_roundw
        case rel =>
          refine ⟨k + 1, by omega, by go_num, Lib.hid ⟨HWW.out, ?_⟩⟩
          have h := hM.out.2
          unfold allB at h ⊢
          rw [take_oneMore HY.out, List.all_append, h]
          simp [HR2.out]
        case measure => simp [intOf]; omega
    · have hke : n2 = k := by omega
      subst hke
      have HN := Lib.hid (show r = true from by
        rw [← HR.out]
        have h := hM.out.2
        rw [List.take_of_length_le (by rw [← L1.out]; exact Nat.le_refl _)] at h
        exact h)
      go_wp2_with fail
      go_ret
      exact ⟨-1, rfl, by rw [HN.out]; simp, HWW.out⟩
set_option maxRecDepth 100000 in
set_option maxHeartbeats 1000000 in
theorem contM_any (q l : List ByteArray) (b : Nat) (F G : Nat → Prop) (A B : Option Addr) (n c n2 c2 : Nat) (w : World) (h : SRd 1 TxR w F l A n) (hn : n ≤ 1000000000) (hc : w.cell? ⟨b, 1, none⟩ = some (.slice A n c))
    (hq : SRd 1 TxR w G q B n2) (hn2 : n2 ≤ 1000000000) :
    Calls Tryz.prog 25 #[.slice B n2 c2, .func (.func 48) #[] #[.pointer (some ⟨b, 0, none⟩)]] w (ToldS (!allB q l) w) := by
  have HI := Lib.hid (idxM_any q l b F G A B n c n2 c2 w h hn hc hq hn2)
  clear h hc hq
  unfold IdxB at HI
  obtain ⟨r, HR⟩ := name_itV (!allB q l)
  rw [HR.out] at HI ⊢
  go_enter Tryz.func25, Tryz.ntmps25
  go_wp2_with fail
  refine HI.out.mono ?_
  rintro e w1 ⟨q, rfl, hr, rfl⟩
  have HQ := Lib.hid hr
  clear hr
  go_wp2_with fail
  go_ret
  exact ⟨by rw [← HQ.out]; rfl, rfl⟩
end Go.Proofs.YtmhjbicbdahllaaGreatDoor
