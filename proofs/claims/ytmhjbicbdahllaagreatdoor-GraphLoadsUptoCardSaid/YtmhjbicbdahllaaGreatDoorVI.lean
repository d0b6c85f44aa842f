/- May a value be: checked, and what it calls. -/
import Derived.Test.YtmhjbicbdahllaaGreatDoorVH
namespace Go.Proofs.YtmhjbicbdahllaaGreatDoor
open Go Go.RowKit

/-- Has a value no more than what its kind keeps? -/
def cmpB (k : Int) (b : Bool) (n : Int) (t x : ByteArray) (l : List Val) (b' : Bool) (n' : Int) (t' x' : ByteArray) : Bool :=
  (b == b') && (decide (n = n') && (decide (t = t') && (decide (x = x') && (decide (l.length = 0) || decide (k = 5)))))
mutual
/-- May a value be, so deep in others? -/
def mayV : Val → Nat → Bool
  | .mk k b n t x l, d =>
    if k = 0 then cmpB k b n t x l false 0 ⟨#[]⟩ ⟨#[]⟩
    else if k = 1 then cmpB k b n t x l b 0 ⟨#[]⟩ ⟨#[]⟩
    else if k = 2 then cmpB k b n t x l false n ⟨#[]⟩ ⟨#[]⟩
    else if k = 3 then decB t && cmpB k b n t x l false 0 t ⟨#[]⟩
    else if k = 4 then decide (t.size ≤ 1048576) && cmpB k b n t x l false 0 t ⟨#[]⟩
    else if k = 8 then iriB t && cmpB k b n t x l false 0 t ⟨#[]⟩
    else if k = 9 then nameB t && cmpB k b n t x l false 0 t ⟨#[]⟩
    else if k = 5 then decide (l.length ≤ 4096) && (decide (d < 60) && (mayL l (d + 1) && cmpB k b n t x l false 0 ⟨#[]⟩ ⟨#[]⟩))
    else if k = 6 then decide (0 ≤ n) && cmpB k b n t x l false n ⟨#[]⟩ ⟨#[]⟩
    else if k = 7 then decide (0 ≤ n) && cmpB k b n t x l false n ⟨#[]⟩ ⟨#[]⟩
    else if k = 10 then decide (t.size ≤ 1048576) && (iriB x && cmpB k b n t x l false 0 t x)
    else false
def mayL : List Val → Nat → Bool
  | [], _ => true
  | v :: r, d => mayV v d && mayL r d
end
theorem mayL_all (l : List Val) (d : Nat) : mayL l d = l.all fun v => mayV v d := by
  induction l with
  | nil => simp [mayL]
  | cons v r ih => simp [mayL, ih]

set_option maxRecDepth 100000 in
set_option maxHeartbeats 1000000 in
theorem clos_any (d : Nat) (hd : d < 60) (ca : Addr) (v : Val) (s : Value) (r : Bool) (w : World) (hc : w.cell? ca = some (.int .i64 (d : Int))) (hlt : ca.block < w.heap.size)
    (hck : ∀ W : World, Below w.heap.size w W → Calls Tryz.prog 72 #[.agg (cellsV v s), .int .i64 ((d + 1 : Nat) : Int)] W (ToldB r W)) :
    Calls Tryz.prog 102 #[.agg (cellsV v s), .pointer (some ca)] w (ToldB (!r) w) := by
  have HCK := Lib.hid hck
  clear hck
  have hca := Lib.hid (fun o : Obj => show (w.alloc o).cell? ca = some (.int .i64 (d : Int)) from (((Below.refl w.heap.size w).alloc (Nat.le_refl _) o).cell (p := ca) hlt).trans hc)
  unfold cellsV at HCK ⊢
  cases v with
  | mk k b n t x l =>
  simp only [Val.kind, Val.truth, Val.num, Val.text, Val.extra] at HCK ⊢
  have c1 := hca.out (.cells #[.int .i64 k, .bool b, .int .i64 n, .string t, .string x, s] 55)
  obtain ⟨d1, HD1⟩ := name_itV (d + 1)
  rw [HD1.out] at HCK
  have w1 : IntKind.i64.wrap ((d : Int) + 1) = (d1 : Int) := by rw [IntWalk.i64_in _ (by omega), ← HD1.out]; push_cast; rfl
  have w2 : (d : Int) + 1 = (d1 : Int) := by rw [← HD1.out]; push_cast; rfl
  clear hc
  go_enter Tryz.func102, Tryz.ntmps102
  go_wp2_with fail; refine (HCK.out _ ((Below.refl _ _).alloc (Nat.le_refl _) _)).mono ?_; rintro e w3 ⟨rfl, hb⟩
  have HB := Lib.hid (((Below.refl w.heap.size w).alloc (Nat.le_refl _) (.cells #[.int .i64 k, .bool b, .int .i64 n, .string t, .string x, s] 55)).trans (hb.mono (by simp)))
  clear hb
  go_wp2_with fail
  go_ret
  exact ⟨rfl, HB.out⟩

/-- The number of the first value that may not be, or -1. -/
def idxV (l : List Val) (d : Nat) : Nat → Int
  | 0 => -1
  | f + 1 => if mayV (l.getD (l.length - (f + 1)) (.mk 0 false 0 ⟨#[]⟩ ⟨#[]⟩ [])) d then idxV l d f else ((l.length - (f + 1) : Nat) : Int)
def IdxIs (l : List Val) (d : Nat) (w : World) (e : Ending) (w' : World) : Prop := ∃ r : Int, e = .returned (.int .i64 r) ∧ (decide (0 ≤ r) = !mayL l d) ∧ Below w.heap.size w w'
set_option maxRecDepth 100000 in
set_option maxHeartbeats 1000000 in
theorem idx_any (l : List Val) (d : Nat) (hd : d < 60) (ca : Addr) (F : Nat → Prop) (A : Option Addr) (n cap : Nat) (w : World) (hF : ∀ g, F g → g < w.heap.size) (hl : LRd w F l A n) (hn : n ≤ 4096)
    (hc : w.cell? ca = some (.int .i64 (d : Int))) (hca : ca.block < w.heap.size)
    (hck : ∀ (x : Val) (_ : x ∈ l) (u : Value) (W : World), Below w.heap.size w W → VRd W F x u → Calls Tryz.prog 72 #[u, .int .i64 ((d + 1 : Nat) : Int)] W (ToldB (mayV x (d + 1)) W)) :
    Calls Tryz.prog 124 #[.slice A n cap, .func (.func 102) #[] #[.pointer (some ca)]] w (IdxIs l (d + 1) w) := by
  have HL := Lib.hid hl
  have HF := Lib.hid hF
  have HCK := Lib.hid hck
  have HC := Lib.hid hc
  have hln := Lib.hid hl.1
  clear hl hF hck hc
  go_enter Tryz.func124, Tryz.ntmps124
  go_wp2_with fail
  go_loopw [8] (fun s8 wr => ∃ k : Nat, k ≤ n ∧ s8 = .int .i64 (k : Nat) ∧ Hid (((l.take k).all fun v => mayV v (d + 1)) = true) ∧ Hid (Below w.heap.size w wr)) (fun s8 _ => n - (intOf s8).toNat)
  case atStart => exact ⟨0, by omega, rfl, Lib.hid (by simp), Lib.hid (Below.refl _ _)⟩
  case round =>
    obtain ⟨k, hk, rfl, hall, hB⟩ := hrel
    by_cases hlt : k < n
    · obtain ⟨x, hx⟩ : ∃ x, l[k]? = some x := ⟨l[k]'(by rw [← hln.out]; exact hlt), List.getElem?_eq_getElem _⟩
      have HR := Lib.hid (HL.out.under hB.out HF.out)
      obtain ⟨ad, s, rfl, hFa, ⟨B, capx, rfl, hcapx, hlx⟩, hv, c0, c1, c2, c3, c4, c5⟩ := HR.out.cellsAt hx
      have HX := Lib.hid hx
      have hmem := Lib.hid (List.mem_of_getElem? hx)
      have hcl := Lib.hid (clos_any d hd ca x (.slice B x.list.length capx) (mayV x (d + 1)) wr ((hB.out.cell (p := ca) hca).trans HC.out) (Nat.lt_of_lt_of_le hca hB.out.size)
        (fun W hW => HCK.out x hmem.out _ W (hB.out.trans (hW.mono hB.out.size)) (hv.under hW (fun g hg => Nat.lt_of_lt_of_le (HF.out g hg) hB.out.size))))
      have hmore := Lib.hid (fun (h : mayV x (d + 1) = true) => show ((l.take (k + 1)).all fun v => mayV v (d + 1)) = true from by
        rw [take_oneMore HX.out, List.all_append, hall.out]; simp [h])
      have hstop := Lib.hid (fun (h : mayV x (d + 1) = false) => show mayL l (d + 1) = false from by
        rw [mayL_all, List.all_eq_false]
        exact ⟨x, hmem.out, by simp [h]⟩)
      obtain ⟨r, Hr⟩ := name_itV (mayV x (d + 1))
      rw [Hr.out] at hcl hmore hstop
      unfold cellsV at hcl
      have e1 : (0 : Int) ≤ k := by omega
      have e2 : (k : Int) < n := by omega
      clear hx hlx hv hFa
      go_wp2_with fail
      refine hcl.out.mono ?_
      rintro e w2 ⟨rfl, hb2⟩
      have HB2 := Lib.hid (hB.out.trans (hb2.mono hB.out.size))
      clear hb2
      cases r with
      | true =>
        have HM := Lib.hid (hmore.out rfl)
        have w1 : IntKind.i64.wrap ((k : Int) + 1) = (k : Int) + 1 := IntWalk.i64_in _ (by omega)
        go_wp2_with fail
        go_roundw
        case rel => exact ⟨k + 1, by omega, by go_num, HM, HB2⟩
        case measure => simp [intOf]; omega
      | false =>
        have HS := Lib.hid (hstop.out rfl)
        go_wp2_with fail
        go_ret
        exact ⟨(k : Int), rfl, by rw [HS.out]; simp, HB2.out⟩
    · have hke : k = n := by omega
      have HS := Lib.hid (show mayL l (d + 1) = true from by
        have := hall.out
        rw [List.take_of_length_le (by rw [hke, hln.out]; exact Nat.le_refl _)] at this
        rw [mayL_all]; exact this)
      subst hke
      go_wp2_with fail
      go_ret
      exact ⟨-1, rfl, by rw [HS.out]; simp, hB.out⟩
set_option maxRecDepth 100000 in
set_option maxHeartbeats 1000000 in
theorem cont_any (l : List Val) (d : Nat) (f : Value) (A : Option Addr) (n cap : Nat) (w : World)
    (hi : Calls Tryz.prog 124 #[.slice A n cap, f] w (IdxIs l d w)) :
    Calls Tryz.prog 101 #[.slice A n cap, f] w (ToldB (!mayL l d) w) := by
  have HI := Lib.hid hi
  clear hi
  go_enter Tryz.func101, Tryz.ntmps101
  go_wp2_with fail
  refine HI.out.mono ?_
  rintro e w1 ⟨r, rfl, hr, hb⟩
  have HR := Lib.hid hr
  have HB := Lib.hid hb
  clear hr hb
  go_wp2_with fail
  go_ret
  exact ⟨by rw [← HR.out]; rfl, HB.out⟩
end Go.Proofs.YtmhjbicbdahllaaGreatDoor
