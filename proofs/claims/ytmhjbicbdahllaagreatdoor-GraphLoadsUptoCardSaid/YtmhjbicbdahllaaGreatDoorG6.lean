/- Which labels may be. -/
import Derived.Test.YtmhjbicbdahllaaGreatDoorG5
namespace Go.Proofs.YtmhjbicbdahllaaGreatDoor
open Go Go.RowKit Go.Maps Go.WideMaps

/-- May labels be, behind these? -/
def lablG : List ByteArray → List ByteArray → Bool
  | _, [] => true
  | ks, s :: r => (textB s && !inB ks s) && lablG (ks ++ [s]) r
theorem lablG_take (l : List ByteArray) : ∀ (k : Nat) (ks : List ByteArray), lablG ks l = (lablG ks (l.take k) && lablG (ks ++ l.take k) (l.drop k)) := by
  induction l with
  | nil => intro k ks; simp [lablG]
  | cons p r ih =>
    intro k ks
    cases k with
    | zero => simp [lablG]
    | succ k =>
      simp only [List.take_succ_cons, List.drop_succ_cons, lablG]
      rw [ih k (ks ++ [p])]
      simp only [Bool.and_assoc, List.append_assoc, List.singleton_append]
theorem lablG_snoc (l : List ByteArray) (p : ByteArray) : ∀ ks : List ByteArray, lablG ks (l ++ [p]) = (lablG ks l && (textB p && !inB (ks ++ l) p)) := by
  induction l with
  | nil => intro ks; simp [lablG]
  | cons q r ih =>
    intro ks
    simp only [List.cons_append, lablG, ih, Bool.and_assoc, List.append_assoc]
    simp
theorem labl_no {l : List ByteArray} {k : Nat} {x : ByteArray} (hx : l[k]? = some x) (h : (textB x && !inB (l.take k) x) = false) : lablG [] l = false := by
  rw [lablG_take l k [], drop_here hx, lablG, List.nil_append, h]
  simp
theorem labl_yes {l : List ByteArray} {k : Nat} {x : ByteArray} (hx : l[k]? = some x) (h : (textB x && !inB (l.take k) x) = true) (ho : lablG [] (l.take k) = true) : lablG [] (l.take (k + 1)) = true := by
  rw [take_oneMore hx, lablG_snoc, ho, List.nil_append, h]; rfl
/-- What the closure over labels tells. -/
def BadL (m : Nat) (ks : List ByteArray) (x : ByteArray) (w : World) (e : Ending) (w' : World) : Prop :=
  e = .returned (.bool (!(textB x && !inB ks x))) ∧ ((textB x && !inB ks x) = true → SetAt 9 VS litS w' m (ks ++ [x])) ∧ Turn (fun b => b = m) w w'

set_option maxRecDepth 100000 in
set_option maxHeartbeats 1000000 in
theorem badL_any (ca : Addr) (m : Nat) (ks : List ByteArray) (x : ByteArray) (hx : VS x) (hn : ks.length ≤ 100000000) (w : World) (hc : w.cell? ca = some (.map (some m))) (hs : SetAt 9 VS litS w m ks) :
    Calls Tryz.prog 26 #[.string x, .pointer (some ca)] w (BadL m ks x w) := by
  have htx := Lib.hid (fun W => text_ok x W)
  have hput := Lib.hid (put_str m ks x hx hn w hs)
  clear hx hs
  unfold BadL
  obtain ⟨tb, HTB⟩ := name_itV (textB x)
  obtain ⟨ib, HIB⟩ := name_itV (inB ks x)
  rw [HTB.out] at htx ⊢
  rw [HIB.out]
  go_enter Tryz.func26, Tryz.ntmps26
  go_wp2_with fail
  refine (htx.out _).mono ?_
  rintro e w9 ⟨rfl, hw9⟩
  subst hw9
  cases tb with
  | false =>
    go_wp2_with fail
    go_ret
    exact ⟨rfl, fun h => by simp at h, Turn.refl _ _⟩
  | true =>
    go_wp2_with fail
    refine hput.out.mono ?_
    rintro e w10 ⟨rfl, hset, ht10⟩
    rw [HIB.out]
    have HSET := Lib.hid hset
    have HT := Lib.hid ht10
    clear hset ht10
    cases ib with
    | true =>
      go_wp2_with fail
      go_ret
      exact ⟨rfl, fun h => by simp at h, HT.out⟩
    | false =>
      go_wp2_with fail
      go_ret
      refine ⟨rfl, fun _ => ?_, HT.out⟩
      have h := HSET.out
      unfold setPut at h
      rw [HIB.out, if_neg (by decide)] at h
      exact h

/-- The cell of the i-th text. -/
theorem textAt {w : World} {F : Nat → Prop} {l : List ByteArray} {A : Option Addr} {n : Nat} (h : SRd 1 TxR w F l A n) {i : Nat} {x : ByteArray} (hx : l[i]? = some x) :
    ∃ ad, A = some ad ∧ F ad.block ∧ w.cell? (ad.add i) = some (.string x) := by
  obtain ⟨ad, c, e, hF, _, hc, hcx⟩ := h.at_ hx
  have c0 := hc 0 (by omega)
  rw [hcx] at c0
  exact ⟨ad, e, hF, by simpa using c0⟩
/-- What the search for a bad label tells. -/
def IdxL (m : Nat) (l : List ByteArray) (w : World) (e : Ending) (w' : World) : Prop := ∃ r : Int, e = .returned (.int .i64 r) ∧ (decide (0 ≤ r) = !lablG [] l) ∧ Turn (fun b => b = m) w w'
structure LabM (w : World) (m : Nat) (l : List ByteArray) (k : Nat) (wr : World) : Prop where
  turn : Turn (fun b => b = m) w wr
  set : SetAt 9 VS litS wr m (l.take k)
  ok : lablG [] (l.take k) = true
set_option maxRecDepth 100000 in
set_option maxHeartbeats 1000000 in
theorem idxL_any (l : List ByteArray) (hfit : ∀ s, s ∈ l → VS s) (ca : Addr) (m : Nat) (F : Nat → Prop) (A : Option Addr) (n cap : Nat) (w : World) (hF : ∀ g, F g → g < w.heap.size ∧ g ≠ m) (hl : SRd 1 TxR w F l A n) (hn : n ≤ 10000000)
    (hc : w.cell? ca = some (.map (some m))) (hca : ca.block < w.heap.size ∧ ca.block ≠ m) (hs : SetAt 9 VS litS w m []) :
    Calls Tryz.prog 53 #[.slice A n cap, .func (.func 26) #[] #[.pointer (some ca)]] w (IdxL m l w) := by
  have HL := Lib.hid hl
  have HF := Lib.hid hF
  have HFIT := Lib.hid hfit
  have HC := Lib.hid hc
  have HS := Lib.hid hs
  have hln := Lib.hid hl.1
  clear hl hF hfit hc hs
  obtain ⟨lb, HLB⟩ := name_itV (lablG [] l)
  have HNO := Lib.hid (fun (k : Nat) (x : ByteArray) (hx : l[k]? = some x) (h : (textB x && !inB (l.take k) x) = false) => HLB.out.symm.trans (labl_no hx h))
  unfold IdxL
  rw [HLB.out]
  go_enter Tryz.func53, Tryz.ntmps53
  go_wp2_with fail
  go_loopw [8] (fun s8 wr => ∃ k : Nat, k ≤ n ∧ s8 = .int .i64 (k : Nat) ∧ Hid (LabM w m l k wr)) (fun s8 _ => n - (intOf s8).toNat)
  case atStart => exact ⟨0, by omega, rfl, Lib.hid ⟨Turn.refl _ _, HS.out, rfl⟩⟩
  case round =>
    obtain ⟨k, hk, rfl, hM⟩ := hrel
    by_cases hlt : k < n
    · obtain ⟨x, hx⟩ : ∃ x, l[k]? = some x := ⟨l[k]'(by rw [← hln.out]; exact hlt), List.getElem?_eq_getElem _⟩
      have HX := Lib.hid hx
      obtain ⟨ad, rfl, _, c0⟩ := textAt (HL.out.keep TxR.good (w' := wr) (fun p hp => hM.out.turn.cell (HF.out _ hp).1 (HF.out _ hp).2)) hx
      have hcl := Lib.hid (badL_any ca m (l.take k) x (HFIT.out x (List.mem_of_getElem? hx)) (by simp; omega) wr ((hM.out.turn.cell hca.1 hca.2).trans HC.out) hM.out.set)
      have hno := Lib.hid (HNO.out k x hx)
      have hyes := Lib.hid (fun h => labl_yes hx h hM.out.ok)
      unfold BadL at hcl
      obtain ⟨r, Hr⟩ := name_itV (textB x && !inB (l.take k) x)
      rw [Hr.out] at hcl hno hyes
      have e1 : (0 : Int) ≤ k := by omega
      have e2 : (k : Int) < n := by omega
      clear hx
      go_wp2_with fail
      refine hcl.out.mono ?_
      rintro e w2 ⟨rfl, hset, ht⟩
      have HT := Lib.hid (hM.out.turn.trans ht)
      have HSET := Lib.hid hset
      clear hset ht
      cases r with
      | true =>
        have HY := Lib.hid (hyes.out rfl)
        have w1 : IntKind.i64.wrap ((k : Int) + 1) = (k : Int) + 1 := IntWalk.i64_in _ (by omega)
        go_wp2_with fail
        go_roundw
        case rel => exact ⟨k + 1, by omega, by go_num, Lib.hid ⟨HT.out, by rw [take_oneMore HX.out]; exact HSET.out (by trivial), HY.out⟩⟩
        case measure => simp [intOf]; omega
      | false =>
        have HR := Lib.hid (hno.out rfl)
        go_wp2_with fail
        go_ret
        exact ⟨(k : Int), rfl, by rw [HR.out]; simp, HT.out⟩
    · have hke : k = n := by omega
      have HR := Lib.hid (show lb = true from by
        have h := hM.out.ok
        rw [List.take_of_length_le (by rw [hke, hln.out]; exact Nat.le_refl _), HLB.out] at h
        exact h)
      subst hke
      go_wp2_with fail
      go_ret
      exact ⟨-1, rfl, by rw [HR.out]; simp, hM.out.turn⟩
def HasBad (m : Nat) (l : List ByteArray) (w : World) (e : Ending) (w' : World) : Prop := e = .returned (.bool (!lablG [] l)) ∧ Turn (fun b => b = m) w w'
set_option maxRecDepth 100000 in
set_option maxHeartbeats 1000000 in
theorem contL_any (l : List ByteArray) (hfit : ∀ s, s ∈ l → VS s) (ca : Addr) (m : Nat) (F : Nat → Prop) (A : Option Addr) (n cap : Nat) (w : World) (hF : ∀ g, F g → g < w.heap.size ∧ g ≠ m) (hl : SRd 1 TxR w F l A n) (hn : n ≤ 10000000)
    (hc : w.cell? ca = some (.map (some m))) (hca : ca.block < w.heap.size ∧ ca.block ≠ m) (hs : SetAt 9 VS litS w m []) :
    Calls Tryz.prog 25 #[.slice A n cap, .func (.func 26) #[] #[.pointer (some ca)]] w (HasBad m l w) := by
  have HI := Lib.hid (idxL_any l hfit ca m F A n cap w hF hl hn hc hca hs)
  clear hl hF hfit hs hc hca
  unfold IdxL at HI
  unfold HasBad
  obtain ⟨lb, HLB⟩ := name_itV (lablG [] l)
  rw [HLB.out] at HI ⊢
  go_enter Tryz.func25, Tryz.ntmps25
  go_wp2_with fail
  refine HI.out.mono ?_
  rintro e w1 ⟨q, rfl, hr, hb⟩
  have HR := Lib.hid hr
  have HB := Lib.hid hb
  clear hr hb
  go_wp2_with fail
  go_ret
  exact ⟨by rw [← HR.out]; rfl, HB.out⟩
end Go.Proofs.YtmhjbicbdahllaaGreatDoor
