/- The reference's decimals: what a text is parsed as. -/
import Derived.Test.YtmhjbicbdahllaaGreatDoorV7
import Derived.Test.YtmhjbicbdahllaaGreatDoorU0
import Derived.Deep.RegionLaw
namespace Go.Proofs.YtmhjbicbdahllaaGreatDoor
open Go Go.RowKit Go.Maps Go.WideMaps

/-- Is a text's first byte a minus? -/
def sgnB (s : ByteArray) : Bool := s.data.toList.head? == some 45
/-- Has a text a sign? -/
def sgnY (s : ByteArray) : Bool := s.data.toList.head? == some 45 || s.data.toList.head? == some 43
/-- A text without its sign. -/
def sgnT (s : ByteArray) : ByteArray := cond (sgnY s) (s.extract 1 s.size) s
/-- The point's place; none where another byte is no digit. -/
def pointF : List UInt8 → Nat → Option Nat → Option (Option Nat)
  | [], _, p => some p
  | c :: l, i, p => cond (c == 46 && p.isNone) (pointF l (i + 1) (some i)) (cond (digN c.toNat) (pointF l (i + 1) p) none)
/-- The digits, the lowest first. -/
def digsD : List UInt8 → List Nat
  | [] => []
  | c :: l => digsD l ++ cond (c == 46) [] [c.toNat - 48]
theorem drop_at {l : List UInt8} {k : Nat} {c : UInt8} (h : l[k]? = some c) : l.drop k = c :: l.drop (k + 1) := by
  obtain ⟨hk, rfl⟩ := List.getElem?_eq_some_iff.1 h
  exact List.drop_eq_getElem_cons hk
theorem pf_pt {l : List UInt8} {k : Nat} (h : l[k]? = some 46) : pointF (l.drop k) k none = pointF (l.drop (k + 1)) (k + 1) (some k) := by
  rw [drop_at h]; rfl
theorem pf_dig {l : List UInt8} {k : Nat} {c : UInt8} {p : Option Nat} (h : l[k]? = some c) (hc : digN c.toNat = true) : pointF (l.drop k) k p = pointF (l.drop (k + 1)) (k + 1) p := by
  rw [drop_at h]
  have h46 : (c == 46) = false := by
    refine beq_eq_false_iff_ne.2 fun e => ?_
    rw [e] at hc; cases hc
  simp [pointF, h46, hc]
theorem pf_no {l : List UInt8} {k : Nat} {c : UInt8} {p : Option Nat} (h : l[k]? = some c) (hc : digN c.toNat = false) (hp : c ≠ 46 ∨ ∃ i, p = some i) : pointF (l.drop k) k p = none := by
  rw [drop_at h]
  have h46 : (c == 46 && p.isNone) = false := by
    rcases hp with hp | ⟨i, rfl⟩
    · rw [beq_eq_false_iff_ne.2 hp]; rfl
    · simp
  simp [pointF, h46, hc]
theorem pf_end {l : List UInt8} {k : Nat} {p : Option Nat} (h : l.length ≤ k) : pointF (l.drop k) k p = some p := by
  rw [List.drop_of_length_le h]; rfl
def ptI : Option Nat → Int
  | none => -1
  | some i => i
/-- How many digits stand behind the point. -/
def scaleP (n : Nat) : Option Nat → Nat
  | none => 0
  | some i => n - 1 - i
/-- What a text is parsed as: its sign, its digits, how many of them stand behind the point. -/
def parseT (s : ByteArray) : Option (Bool × List Nat × Nat) :=
  match pointF (sgnT s).data.toList 0 none with
  | none => none
  | some p => cond (decide ((sgnT s).size = 0) || (p == some 0) || (p == some ((sgnT s).size - 1))) none
      (some (sgnB s, digsD (sgnT s).data.toList, scaleP (sgnT s).size p))
theorem parse_none {s : ByteArray} (h : pointF (sgnT s).data.toList 0 none = none) : parseT s = none := by unfold parseT; rw [h]
theorem infoInt : (Tryz.prog.info? 3).map (fun i => (i.zero, i.size, i.bytes)) = some (some (.int .i64 0), 1, 8) := by kernel_rfl
theorem sgn_min {s : ByteArray} (h : 0 < s.size) (h1 : s[0].toNat = 45) : sgnB s = true ∧ sgnY s = true ∧ sgnT s = s.extract 1 s.size := by
  have h2 : s[0] = 45 := UInt8.toNat_inj.1 h1
  have h3 := head_data h
  unfold sgnT sgnY sgnB
  rw [h3, h2]
  exact ⟨rfl, rfl, rfl⟩
theorem sgn_plus {s : ByteArray} (h : 0 < s.size) (h1 : s[0].toNat = 43) : sgnB s = false ∧ sgnY s = true ∧ sgnT s = s.extract 1 s.size := by
  have h2 : s[0] = 43 := UInt8.toNat_inj.1 h1
  have h3 := head_data h
  unfold sgnT sgnY sgnB
  rw [h3, h2]
  exact ⟨rfl, rfl, rfl⟩
theorem sgn_none {s : ByteArray} (h : 0 < s.size) (h1 : s[0].toNat ≠ 45) (h2 : s[0].toNat ≠ 43) : sgnB s = false ∧ sgnY s = false ∧ sgnT s = s := by
  have a1 : s[0] ≠ 45 := fun e => h1 (by rw [e]; rfl)
  have a2 : s[0] ≠ 43 := fun e => h2 (by rw [e]; rfl)
  have h3 := head_data h
  unfold sgnT sgnY sgnB
  rw [h3]
  have b1 : (some s[0] == some (45 : UInt8)) = false := by simpa using a1
  have b2 : (some s[0] == some (43 : UInt8)) = false := by simpa using a2
  rw [b1, b2]
  exact ⟨rfl, rfl, rfl⟩
theorem sgn_empty {s : ByteArray} (h : ¬ 0 < s.size) : sgnB s = false ∧ sgnY s = false ∧ sgnT s = s := by
  have h3 : s.data.toList = [] := List.eq_nil_of_length_eq_zero (by rw [data_len]; omega)
  unfold sgnT sgnY sgnB
  rw [h3]
  exact ⟨rfl, rfl, rfl⟩
theorem sgn_size (s : ByteArray) : (sgnT s).size ≤ s.size := by
  unfold sgnT
  cases sgnY s
  · exact Nat.le_refl _
  · simp
/-- The world behind the sign. -/
def signW (s : ByteArray) (w : World) : World := (w.alloc (.cells #[.bool false, .slice none 0 0, .int .i64 0] 180)).alloc (.cells #[.bool (sgnB s), .slice none 0 0, .int .i64 0] 180)
def ParsedIs (s : ByteArray) (w : World) (e : Ending) (w' : World) : Prop := Below w.heap.size w w' ∧
  match parseT s with
  | none => e = .returned (.tuple #[.agg #[.bool false, .slice none 0 0, .int .i64 0], .bool false])
  | some (neg, D, S) => ∃ A cap, e = .returned (.tuple #[.agg #[.bool neg, .slice A D.length cap, .int .i64 (S : Int)], .bool true]) ∧ IntsAt w' A D

/-- The answer being made: its struct in block b + 1, its digits in the slice v. -/
structure MidN (w : World) (b : Nat) (sg : Bool) (D : List Nat) (v : Value) (S : Nat) (wr : World) : Prop where
  below : Below w.heap.size w wr
  res : wr.heap[b]? = some (.cells #[.bool false, .slice none 0 0, .int .i64 0] 180 (0, 0))
  num : wr.heap[b + 1]? = some (.cells #[.bool sg, v, .int .i64 (S : Int)] 180 (0, 0))
  row : wr.ownsRow (b + 2) 3 1 v D.length (D.map fun (x : Nat) => Value.int .i64 (x : Int))
  size : b + 2 ≤ wr.heap.size
theorem ints_own {w : World} {base : Nat} {D : List Nat} {A : Option Addr} {cp : Nat} (h : w.ownsRow base 3 1 (.slice A D.length cp) D.length (D.map fun (x : Nat) => Value.int .i64 (x : Int))) : IntsAt w A D := by
  intro i x hx
  have h2 := h
  rcases h.2 with ⟨h0, _⟩ | ⟨g, cap, cur, h0, _⟩
  · injection h0 with _ hn _
    have hl := (List.getElem?_eq_some_iff.1 hx).1
    rw [hn] at hl
    exact absurd hl (Nat.not_lt_zero _)
  · have hA : A = some ⟨g, 0, none⟩ := by injection h0
    exact ⟨_, hA, by have := (h2.lt g (by rw [h0]; rfl)).2; unfold Addr.add; split <;> exact this, h2.cells (g := g) (by rw [h0]; rfl) i _ (by rw [List.getElem?_map, hx]; rfl)⟩
theorem pf_all {l : List UInt8} : ∀ {i : Nat} {p q : Option Nat}, pointF l i p = some q → ∀ c ∈ l, c = 46 ∨ digN c.toNat = true := by
  induction l with
  | nil => intro i p q _ c hc; cases hc
  | cons d l ih =>
    intro i p q h c hc
    unfold pointF at h
    cases h1 : (d == 46 && p.isNone) with
    | true =>
      rw [h1] at h
      rcases List.mem_cons.1 hc with rfl | hc
      · exact .inl (beq_iff_eq.1 (Bool.and_eq_true_iff.1 h1).1)
      · exact ih h c hc
    | false =>
      rw [h1] at h
      cases h2 : digN d.toNat with
      | true =>
        rw [h2] at h
        rcases List.mem_cons.1 hc with rfl | hc
        · exact .inr h2
        · exact ih h c hc
      | false => rw [h2] at h; cases h
theorem digs_pt {l : List UInt8} {k : Nat} (h : l[k]? = some 46) : digsD (l.drop k) = digsD (l.drop (k + 1)) := by
  rw [drop_at h]; simp [digsD]
theorem digs_dig {l : List UInt8} {k : Nat} {c : UInt8} (h : l[k]? = some c) (hc : c ≠ 46) : digsD (l.drop k) = digsD (l.drop (k + 1)) ++ [c.toNat - 48] := by
  rw [drop_at h]; simp [digsD, beq_eq_false_iff_ne.2 hc]
theorem digs_length (l : List UInt8) : (digsD l).length ≤ l.length := by
  induction l with
  | nil => simp [digsD]
  | cons c l ih =>
    unfold digsD
    cases h : c == 46 <;> simp <;> omega
theorem three_set {w : World} {b C : Nat} {c0 c1 c2 : Value} (v0 v1 v2 : Value) (h : w.heap[b]? = some (.cells #[c0, c1, c2] C (0, 0))) : (((w.setCell ⟨b, 0, none⟩ v0).setCell ⟨b, 1, none⟩ v1).setCell ⟨b, 2, none⟩ v2).heap[b]? = some (.cells #[v0, v1, v2] C (0, 0)) :=
  heap_setCell_same _ b 2 _ C _ (heap_setCell_same _ b 1 _ C _ (heap_setCell_same w b 0 _ C _ h))
theorem three_below {w0 w : World} {k b : Nat} (v0 v1 v2 : Value) (h : Below k w0 w) (hb : k ≤ b) : Below k w0 (((w.setCell ⟨b, 0, none⟩ v0).setCell ⟨b, 1, none⟩ v1).setCell ⟨b, 2, none⟩ v2) :=
  ((h.setCell (p := ⟨b, 0, none⟩) hb _).setCell (p := ⟨b, 1, none⟩) hb _).setCell (p := ⟨b, 2, none⟩) hb _

set_option maxRecDepth 100000 in
set_option maxHeartbeats 1000000 in
theorem parsed_any (s : ByteArray) (hs : s.size ≤ 4000000000000) (w : World) : Calls Tryz.prog 159 #[.string s] w (ParsedIs s w) := by
  go_enter Tryz.func159, Tryz.ntmps159
  go_upto_region 2 with fail
  go_cut [20] (fun s20 wx => s20 = .bool (sgnY s) ∧ wx = (w.alloc (.cells #[.bool false, .slice none 0 0, .int .i64 0] 180)).alloc (.cells #[.bool false, .slice none 0 0, .int .i64 0] 180))
  case first =>
    by_cases h0 : 0 < s.size
    · by_cases h1 : s[0].toNat = 45
      · have hh := Lib.hid (sgn_min h0 h1)
        have e1 : ((s[0].toNat : Int) == 45) = true := by simp; omega
        clear h1
        go_wp2_with fail
        go_meet
        exact ⟨by rw [hh.out.2.1], rfl⟩
      · have e1 : ((s[0].toNat : Int) == 45) = false := by simp; omega
        by_cases h2 : s[0].toNat = 43
        · have hh := Lib.hid (sgn_plus h0 h2)
          have e2 : ((s[0].toNat : Int) == 43) = true := by simp; omega
          clear h1 h2
          go_wp2_with fail
          go_meet
          exact ⟨by rw [hh.out.2.1], rfl⟩
        · have hh := Lib.hid (sgn_none h0 h1 h2)
          have e2 : ((s[0].toNat : Int) == 43) = false := by simp; omega
          clear h1 h2
          go_wp2_with fail
          go_meet
          exact ⟨by rw [hh.out.2.1], rfl⟩
    · have hh := Lib.hid (sgn_empty h0)
      go_wp2_with fail
      go_meet
      exact ⟨by rw [hh.out.2.1], rfl⟩
  case rest =>
    obtain ⟨h20, rfl⟩ := hcut
    have HT := Lib.hid (show (sgnT s).size ≤ 4000000000000 from Nat.le_trans (sgn_size s) hs)
    go_upto_if 20 with fail
    go_cut [0] (fun s0 wx => s0 = .string (sgnT s) ∧ wx = signW s w)
    case first =>
      by_cases hy : sgnY s = true
      · have h0 : 0 < s.size := by
          refine Classical.byContradiction fun h => ?_
          rw [(sgn_empty h).2.1] at hy; cases hy
        rw [hy] at h20
        subst h20
        have hm := Lib.hid (show Value.bool ((s[0].toNat : Int) == 45) = .bool (sgnB s) from by
          by_cases h1 : s[0].toNat = 45
          · rw [(sgn_min h0 h1).1, h1]; rfl
          · by_cases h2 : s[0].toNat = 43
            · rw [(sgn_plus h0 h2).1, h2]; rfl
            · rw [(sgn_none h0 h1 h2).2.1] at hy; cases hy)
        have ht := Lib.hid (show sgnT s = s.extract 1 s.size from by unfold sgnT; rw [hy]; rfl)
        clear hy
        go_wp2_with fail
        go_meet
        exact ⟨by rw [ht.out], by unfold signW; rw [← hm.out]⟩
      · have hy : sgnY s = false := by simpa using hy
        have ht := Lib.hid (show sgnT s = s from by unfold sgnT; rw [hy]; rfl)
        have hb := Lib.hid (show sgnB s = false from by
          unfold sgnY at hy
          unfold sgnB
          exact (Bool.or_eq_false_iff.1 hy).1)
        rw [hy] at h20
        subst h20
        clear hy
        go_wp2_with fail
        go_meet
        exact ⟨by rw [ht.out], by unfold signW; rw [hb.out]⟩
    case rest =>
      obtain ⟨h0, hw⟩ := hcut
      subst h0
      have HW := Lib.hid hw
      clear hw h20
      have HS := Lib.hid (show wc.heap.size = w.heap.size + 2 by rw [HW.out]; simp [signW])
      have HB := Lib.hid (show Below w.heap.size w wc by
        rw [HW.out]
        exact ((Below.refl w.heap.size w).alloc (Nat.le_refl _) _).alloc (by simp) _)
      have HBa := Lib.hid (show wc.heap[w.heap.size]? = some (.cells #[.bool false, .slice none 0 0, .int .i64 0] 180 (0, 0)) by
        rw [HW.out]
        unfold signW
        rw [Below.heap_alloc _ _ _ (by simp)]
        exact heap_alloc_new w _)
      have HBb := Lib.hid (show wc.heap[w.heap.size + 1]? = some (.cells #[.bool (sgnB s), .slice none 0 0, .int .i64 0] 180 (0, 0)) by
        rw [HW.out]
        unfold signW
        have := heap_alloc_new (w.alloc (.cells #[.bool false, .slice none 0 0, .int .i64 0] 180)) (.cells #[.bool (sgnB s), .slice none 0 0, .int .i64 0] 180)
        rw [show (w.alloc (.cells #[.bool false, .slice none 0 0, .int .i64 0] 180)).heap.size = w.heap.size + 1 by simp] at this
        exact this)
      have f2 : wc.frozen? ⟨w.heap.size, 0, none⟩ = false := Lib.frozen_of_heap HBa.out 0
      have f21 : wc.frozen? ⟨w.heap.size, 1, none⟩ = false := Lib.frozen_of_heap HBa.out 1
      have f22 : wc.frozen? ⟨w.heap.size, 2, none⟩ = false := Lib.frozen_of_heap HBa.out 2
      have c20 : wc.cell? ⟨w.heap.size, 0, none⟩ = some (.bool false) := Lib.cell_of_heap HBa.out 0
      have c21 : wc.cell? ⟨w.heap.size, 1, none⟩ = some (.slice none 0 0) := Lib.cell_of_heap HBa.out 1
      have c22 : wc.cell? ⟨w.heap.size, 2, none⟩ = some (.int .i64 0) := Lib.cell_of_heap HBa.out 2
      obtain ⟨b, HBn⟩ := name_itV w.heap.size
      obtain ⟨t, HTn⟩ := name_itV (sgnT s)
      have hts := HT.out
      rw [HTn.out] at hts
      rw [HTn.out]
      rw [HBn.out] at HS HBa HBb f2 f21 f22 c20 c21 c22
      rw [HBn.out]
      clear hs
      go_wp2_with fail
      go_loop [5, 6] (fun s5 s6 => ∃ (k : Nat) (p : Option Nat), k ≤ t.size ∧ s5 = .int .i64 (ptI p) ∧ s6 = .int .i64 (k : Nat) ∧ Hid (pointF t.data.toList 0 none = pointF (t.data.toList.drop k) k p ∧ ∀ i, p = some i → i < k)) (fun _ s6 => t.size - (intOf s6).toNat)
      case atStart => exact ⟨0, none, by omega, rfl, rfl, Lib.hid ⟨rfl, fun i h => by cases h⟩⟩
      case round =>
        obtain ⟨k, p, hk, rfl, rfl, hall⟩ := hrel
        by_cases hlt : k < t.size
        · have hc := Lib.hid (data_at t k hlt)
          obtain ⟨x, hx⟩ : ∃ x : Nat, t[k].toNat = x := ⟨_, rfl⟩
          have HX := Lib.hid hx
          have hxb : x < 256 := by rw [← hx]; exact t[k].toNat_lt
          by_cases hd : digN x = true
          · have h48 : 48 ≤ x ∧ x ≤ 57 := by unfold digN at hd; exact of_decide_eq_true hd
            have e1 : ((x : Int) == 46) = false := by simp; omega
            have HD := Lib.hid hd
            have hyes := Lib.hid (show pointF t.data.toList 0 none = pointF (t.data.toList.drop (k + 1)) (k + 1) p from by rw [hall.out.1]; exact pf_dig hc.out (by rw [HX.out]; exact HD.out))
            have hlt2 := Lib.hid (show ∀ i, p = some i → i < k + 1 from fun i h => Nat.lt_succ_of_lt (hall.out.2 i h))
            clear hd
            go_wp2_with fail; refine (digit_any _ (by omega) _).mono ?_; rintro e w' ⟨rfl, rfl⟩
            rw [HD.out]
            go_wp2_with fail
            go_round
            case rel => exact ⟨k + 1, p, by omega, rfl, by go_num, Lib.hid ⟨hyes.out, hlt2.out⟩⟩
            case measure => simp [intOf]; omega
          · have hd : digN x = false := by simpa using hd
            have HD := Lib.hid hd
            clear hd
            obtain ⟨q, HQ⟩ := name_itV (ptI p)
            rw [HQ.out]
            by_cases hp : x = 46 ∧ p = none
            · obtain ⟨rfl, rfl⟩ := hp
              have hq : q < 0 := by rw [← HQ.out]; decide
              have e2 : decide (q < 0) = true := decide_eq_true hq
              have hc46 : t[k] = 46 := UInt8.toNat_inj.1 HX.out
              have hyes := Lib.hid (show pointF t.data.toList 0 none = pointF (t.data.toList.drop (k + 1)) (k + 1) (some k) from by rw [hall.out.1]; exact pf_pt (by rw [hc.out, hc46]))
              clear hq hc46
              go_wp2_with fail
              go_round
              case rel => exact ⟨k + 1, some k, by omega, rfl, by go_num, Lib.hid ⟨hyes.out, fun i h => by injection h with h; omega⟩⟩
              case measure => simp [intOf]; omega
            · have hno := Lib.hid (show parseT s = none from parse_none (by
                rw [HTn.out, hall.out.1]
                refine pf_no hc.out (by rw [HX.out]; exact HD.out) ?_
                cases p with
                | none => exact .inl fun e => hp ⟨by rw [← HX.out, e]; rfl, rfl⟩
                | some i => exact .inr ⟨i, rfl⟩))
              have HP := Lib.hid hp
              clear hp
              by_cases h46 : x = 46
              · have hq : ¬ q < 0 := by
                  rw [← HQ.out]
                  cases p with
                  | none => exact absurd ⟨h46, rfl⟩ HP.out
                  | some i => simp [ptI]
                have e2 : decide (q < 0) = false := decide_eq_false hq
                subst h46
                clear hq
                go_wp2_with fail; refine (digit_any _ (by omega) _).mono ?_; rintro e w' ⟨rfl, rfl⟩
                rw [HD.out]
                go_wp2_with fail
                have h3 := three_set (.bool false) (.slice none 0 0) (.int .i64 0) HBa.out
                have h4 := Lib.hid (three_below (b := b) (.bool false) (.slice none 0 0) (.int .i64 0) HB.out (by rw [HBn.out]; exact Nat.le_refl b))
                obtain ⟨W9, HW9⟩ := name_itV (((w'.setCell ⟨b, 0, none⟩ (.bool false)).setCell ⟨b, 1, none⟩ (.slice none 0 0)).setCell ⟨b, 2, none⟩ (.int .i64 0))
                rw [HW9.out] at h3 h4 ⊢
                have r0 : W9.cell? ⟨b, 0, none⟩ = some (.bool false) := Lib.cell_of_heap h3 0
                have r1 : W9.cell? ⟨b, 1, none⟩ = some (.slice none 0 0) := Lib.cell_of_heap h3 1
                have r2 : W9.cell? ⟨b, 2, none⟩ = some (.int .i64 0) := Lib.cell_of_heap h3 2
                exact bodyPost_ret (v := .tuple #[.agg #[.bool false, .slice none 0 0, .int .i64 0], .bool false]) (by simp [results, Tryz.results159, go_sem, r0, r1, r2]) rfl ⟨h4.out, by rw [hno.out]⟩
              · have e1 : ((x : Int) == 46) = false := by simp; omega
                clear h46
                go_wp2_with fail; refine (digit_any _ (by omega) _).mono ?_; rintro e w' ⟨rfl, rfl⟩
                rw [HD.out]
                go_wp2_with fail
                have h3 := three_set (.bool false) (.slice none 0 0) (.int .i64 0) HBa.out
                have h4 := Lib.hid (three_below (b := b) (.bool false) (.slice none 0 0) (.int .i64 0) HB.out (by rw [HBn.out]; exact Nat.le_refl b))
                obtain ⟨W9, HW9⟩ := name_itV (((w'.setCell ⟨b, 0, none⟩ (.bool false)).setCell ⟨b, 1, none⟩ (.slice none 0 0)).setCell ⟨b, 2, none⟩ (.int .i64 0))
                rw [HW9.out] at h3 h4 ⊢
                have r0 : W9.cell? ⟨b, 0, none⟩ = some (.bool false) := Lib.cell_of_heap h3 0
                have r1 : W9.cell? ⟨b, 1, none⟩ = some (.slice none 0 0) := Lib.cell_of_heap h3 1
                have r2 : W9.cell? ⟨b, 2, none⟩ = some (.int .i64 0) := Lib.cell_of_heap h3 2
                exact bodyPost_ret (v := .tuple #[.agg #[.bool false, .slice none 0 0, .int .i64 0], .bool false]) (by simp [results, Tryz.results159, go_sem, r0, r1, r2]) rfl ⟨h4.out, by rw [hno.out]⟩
        · have hkn : k = t.size := by omega
          have hp := Lib.hid (show pointF (sgnT s).data.toList 0 none = some p from by rw [HTn.out, hall.out.1]; exact pf_end (by rw [data_len]; omega))
          have hpk := Lib.hid (show ∀ i, p = some i → i < t.size from by rw [← hkn]; exact hall.out.2)
          subst hkn
          clear hall
          obtain ⟨q, HQ⟩ := name_itV (ptI p)
          rw [HQ.out]
          obtain ⟨cB, HC⟩ := name_itV (decide (t.size = 0) || (p == some 0) || (p == some (t.size - 1)))
          go_upto_region 13 with fail
          go_cut [61] (fun s61 wx => s61 = .bool cB ∧ wx = wc)
          case first =>
            by_cases a0 : t.size = 0
            · have e1 : ((t.size : Int) == 0) = true := beq_iff_eq.2 (by omega)
              have hc := Lib.hid (show cB = true from by rw [← HC.out, decide_eq_true a0]; rfl)
              clear a0
              go_wp2_with fail
              go_meet
              exact ⟨by rw [hc.out], rfl⟩
            · have e1 : ((t.size : Int) == 0) = false := beq_eq_false_iff_ne.2 (by omega)
              by_cases a1 : p = some 0
              · have e2 : (q == 0) = true := by rw [← HQ.out, a1]; rfl
                have hc := Lib.hid (show cB = true from by rw [← HC.out, a1]; simp)
                clear a1
                go_wp2_with fail
                go_meet
                exact ⟨by rw [hc.out], rfl⟩
              · have e2 : (q == 0) = false := by
                  rw [← HQ.out]
                  cases p with
                  | none => rfl
                  | some i =>
                    have : i ≠ 0 := fun h => a1 (by rw [h])
                    exact beq_eq_false_iff_ne.2 (by show (i : Int) ≠ 0; omega)
                have w1 : IntKind.i64.wrap ((t.size : Int) - 1) = t.size - 1 := IntWalk.i64_in _ (by omega)
                have hc := Lib.hid (show (q == (t.size : Int) - 1) = cB from by
                  rw [← HC.out, ← HQ.out, decide_eq_false a0]
                  cases p with
                  | none => exact beq_eq_false_iff_ne.2 (by show (-1 : Int) ≠ (t.size : Int) - 1; omega)
                  | some i =>
                    have h1 : (some i == some 0) = false := by simpa using fun h : i = 0 => a1 (by rw [h])
                    rw [h1]
                    by_cases h2 : i = t.size - 1
                    · subst h2
                      simp [ptI]; omega
                    · have h3 : (some i == some (t.size - 1)) = false := by simpa using h2
                      rw [h3]
                      simp [ptI]; omega)
                clear a1 a0
                go_wp2_with fail
                go_meet
                exact ⟨by rw [hc.out], rfl⟩
          case rest =>
            obtain ⟨h61, rfl⟩ := hcut
            cases cB with
            | true =>
              subst h61
              have hno := Lib.hid (show parseT s = none from by unfold parseT; rw [hp.out, HTn.out]; simp only; rw [HC.out]; rfl)
              go_wp2_with fail
              have h3 := three_set (.bool false) (.slice none 0 0) (.int .i64 0) HBa.out
              have h4 := Lib.hid (three_below (b := b) (.bool false) (.slice none 0 0) (.int .i64 0) HB.out (by rw [HBn.out]; exact Nat.le_refl b))
              obtain ⟨W9, HW9⟩ := name_itV (((wc.setCell ⟨b, 0, none⟩ (.bool false)).setCell ⟨b, 1, none⟩ (.slice none 0 0)).setCell ⟨b, 2, none⟩ (.int .i64 0))
              rw [HW9.out] at h3 h4 ⊢
              have r0 : W9.cell? ⟨b, 0, none⟩ = some (.bool false) := Lib.cell_of_heap h3 0
              have r1 : W9.cell? ⟨b, 1, none⟩ = some (.slice none 0 0) := Lib.cell_of_heap h3 1
              have r2 : W9.cell? ⟨b, 2, none⟩ = some (.int .i64 0) := Lib.cell_of_heap h3 2
              exact bodyPost_ret (v := .tuple #[.agg #[.bool false, .slice none 0 0, .int .i64 0], .bool false]) (by simp [results, Tryz.results159, go_sem, r0, r1, r2]) rfl ⟨h4.out, by rw [hno.out]⟩
            | false =>
              subst h61
              have hyes := Lib.hid (show parseT s = some (sgnB s, digsD t.data.toList, scaleP t.size p) from by
                unfold parseT; rw [hp.out, HTn.out]; simp only; rw [HC.out]; rfl)
              have hn0 : 0 < t.size := by
                rcases Nat.eq_zero_or_pos t.size with h | h
                · have := HC.out
                  rw [decide_eq_true h] at this
                  cases this
                · exact h
              have hall := Lib.hid (pf_all hp.out)
              rw [HTn.out] at hall
              have w1 : IntKind.i64.wrap ((t.size : Int) - 1) = t.size - 1 := IntWalk.i64_in _ (by omega)
              go_wp2_with fail
              go_loopw [7] (fun s7 wr => ∃ (i : Nat) (v : Value), i ≤ t.size ∧ s7 = .int .i64 ((i : Int) - 1) ∧ Hid (MidN w b (sgnB s) (digsD (t.data.toList.drop i)) v 0 wr)) (fun s7 _ => (intOf s7 + 1).toNat)
              case atStart =>
                refine ⟨t.size, .slice none 0 0, Nat.le_refl _, rfl, Lib.hid ⟨HB.out, HBa.out, HBb.out, ?_, by rw [HS.out]; exact Nat.le_refl _⟩⟩
                rw [List.drop_of_length_le (by rw [data_len]; exact Nat.le_refl _)]
                exact World.ownsRow_nil wc (b + 2) 3 1
              case round =>
                obtain ⟨i, v, hi, rfl, hm⟩ := hrel
                have hwb := hm.out.size
                by_cases hi0 : i = 0
                · subst hi0
                  have hd0 := Lib.hid (show digsD (t.data.toList.drop 0) = digsD t.data.toList from by rw [List.drop_zero])
                  obtain ⟨D, HDD⟩ := name_itV (digsD t.data.toList)
                  obtain ⟨S, HSS⟩ := name_itV (scaleP t.size p)
                  rw [hd0.out, HDD.out] at hm
                  rw [HDD.out, HSS.out] at hyes
                  have hbw := Lib.hid (show w.heap.size ≤ b by rw [HBn.out]; exact Nat.le_refl b)
                  clear f2 f21 f22 c20 c21 c22
                  go_upto_if 85 with fail
                  go_cut [7] (fun _ wx => MidN w b (sgnB s) D v S wx)
                  case first =>
                    cases p with
                    | none =>
                      have hq : q = -1 := HQ.out.symm
                      subst hq
                      have hS := Lib.hid (show S = 0 from HSS.out.symm)
                      go_wp2_with fail
                      go_meet
                      rw [hS.out]
                      exact hm.out
                    | some i =>
                      have hq : q = (i : Int) := HQ.out.symm
                      subst hq
                      have hil := hpk.out i rfl
                      have e2 : decide (0 ≤ (i : Int)) = true := decide_eq_true (by omega)
                      have hS := Lib.hid (show t.size - 1 - i = S from HSS.out)
                      have w5 : IntKind.i64.wrap ((t.size : Int) - 1 - i) = (S : Int) := by rw [IntWalk.i64_in _ (by omega)]; have := hS.out; omega
                      have d2 : wr.cell? ⟨b + 1, 2, none⟩ = some (.int .i64 0) := Lib.cell_of_heap hm.out.num 2
                      have f9 : wr.frozen? ⟨b + 1, 2, none⟩ = false := Lib.frozen_of_heap hm.out.num 2
                      go_wp2_with fail
                      go_meet
                      exact ⟨hm.out.below.setCell (p := ⟨b + 1, 2, none⟩) (by show w.heap.size ≤ b + 1; have := hbw.out; omega) _, by rw [heap_setCell_other _ _ _ _ (by show b ≠ b + 1; omega)]; exact hm.out.res, heap_setCell_same wr (b + 1) 2 _ 180 _ hm.out.num, ownsRow_setCell_other hm.out.row (a := ⟨b + 1, 2, none⟩) (own_ne hm.out.row hm.out.num (by decide)) _, by have := hm.out.size; simp; omega⟩
                  case rest =>
                    obtain ⟨A, cp, rfl⟩ := slice_form hcut.row
                    obtain ⟨n, HN⟩ := name_itV D.length
                    have HM := Lib.hid hcut
                    rw [HN.out] at HM
                    have d0 : wc.cell? ⟨b + 1, 0, none⟩ = some (.bool (sgnB s)) := Lib.cell_of_heap HM.out.num 0
                    have d1 : wc.cell? ⟨b + 1, 1, none⟩ = some (.slice A n cp) := Lib.cell_of_heap HM.out.num 1
                    have d2 : wc.cell? ⟨b + 1, 2, none⟩ = some (.int .i64 (S : Int)) := Lib.cell_of_heap HM.out.num 2
                    have f2 : wc.frozen? ⟨b, 0, none⟩ = false := Lib.frozen_of_heap HM.out.res 0
                    have f21 : wc.frozen? ⟨b, 1, none⟩ = false := Lib.frozen_of_heap HM.out.res 1
                    have f22 : wc.frozen? ⟨b, 2, none⟩ = false := Lib.frozen_of_heap HM.out.res 2
                    have c20 : wc.cell? ⟨b, 0, none⟩ = some (.bool false) := Lib.cell_of_heap HM.out.res 0
                    have c21 : wc.cell? ⟨b, 1, none⟩ = some (.slice none 0 0) := Lib.cell_of_heap HM.out.res 1
                    have c22 : wc.cell? ⟨b, 2, none⟩ = some (.int .i64 0) := Lib.cell_of_heap HM.out.res 2
                    clear hcut
                    go_wp2_with fail
                    have h3 := three_set (.bool (sgnB s)) (.slice A n cp) (.int .i64 (S : Int)) HM.out.res
                    have h4 := Lib.hid (three_below (b := b) (.bool (sgnB s)) (.slice A n cp) (.int .i64 (S : Int)) HM.out.below hbw.out)
                    have h5 := Lib.hid (show (((wc.setCell ⟨b, 0, none⟩ (.bool (sgnB s))).setCell ⟨b, 1, none⟩ (.slice A n cp)).setCell ⟨b, 2, none⟩ (.int .i64 (S : Int))).ownsRow (b + 2) 3 1 (.slice A n cp) D.length (D.map fun (x : Nat) => Value.int .i64 (x : Int)) from by
                      have hn : (Value.slice A n cp).ownBlock ≠ some b := own_ne HM.out.row HM.out.res (by decide)
                      exact ownsRow_setCell_other (ownsRow_setCell_other (ownsRow_setCell_other HM.out.row (a := ⟨b, 0, none⟩) hn _) (a := ⟨b, 1, none⟩) hn _) (a := ⟨b, 2, none⟩) hn _)
                    obtain ⟨W9, HW9⟩ := name_itV (((wc.setCell ⟨b, 0, none⟩ (.bool (sgnB s))).setCell ⟨b, 1, none⟩ (.slice A n cp)).setCell ⟨b, 2, none⟩ (.int .i64 (S : Int)))
                    rw [HW9.out] at h3 h4 h5 ⊢
                    have r0 : W9.cell? ⟨b, 0, none⟩ = some (.bool (sgnB s)) := Lib.cell_of_heap h3 0
                    have r1 : W9.cell? ⟨b, 1, none⟩ = some (.slice A n cp) := Lib.cell_of_heap h3 1
                    have r2 : W9.cell? ⟨b, 2, none⟩ = some (.int .i64 (S : Int)) := Lib.cell_of_heap h3 2
                    refine bodyPost_ret (v := .tuple #[.agg #[.bool (sgnB s), .slice A n cp, .int .i64 (S : Int)], .bool true]) (by simp [results, Tryz.results159, go_sem, r0, r1, r2]) rfl ⟨h4.out, ?_⟩
                    rw [hyes.out]
                    have h6 := h5.out
                    rw [← HN.out] at h6 ⊢
                    exact ⟨A, cp, rfl, ints_own h6⟩
                · obtain ⟨k, rfl⟩ : ∃ k, i = k + 1 := ⟨i - 1, by omega⟩
                  have hk1 : ((k + 1 : Nat) : Int) - 1 = (k : Int) := by push_cast; omega
                  rw [hk1]
                  have hc := Lib.hid (data_at t k (by omega))
                  obtain ⟨x, hx⟩ : ∃ x : Nat, t[k].toNat = x := ⟨_, rfl⟩
                  have HX := Lib.hid hx
                  have hxb : x < 256 := by rw [← hx]; exact t[k].toNat_lt
                  have e1 : (0 : Int) ≤ k := by omega
                  have w2 : IntKind.i64.wrap ((k : Int) - 1) = k - 1 := IntWalk.i64_in _ (by omega)
                  by_cases h46 : x = 46
                  · subst h46
                    have hd := Lib.hid (show digsD (t.data.toList.drop k) = digsD (t.data.toList.drop (k + 1)) from digs_pt (by rw [hc.out, UInt8.toNat_inj.1 (show t[k].toNat = (46 : UInt8).toNat from HX.out)]))
                    go_wp2_with fail
                    go_roundw
                    case rel => exact ⟨k, v, by omega, rfl, Lib.hid (by rw [hd.out]; exact hm.out)⟩
                    case measure => simp [intOf]
                  · have hd := Lib.hid (show digsD (t.data.toList.drop k) = digsD (t.data.toList.drop (k + 1)) ++ [x - 48] from by rw [← HX.out]; exact digs_dig hc.out (fun e => h46 (by rw [← HX.out, e]; rfl)))
                    have h48 : 48 ≤ x := by
                      rcases hall.out _ (List.mem_of_getElem? hc.out) with e | e
                      · exact absurd (by rw [← HX.out, e]; rfl) h46
                      · rw [HX.out] at e; unfold digN at e; have := of_decide_eq_true e; omega
                    have e2 : ((x : Int) == 46) = false := beq_eq_false_iff_ne.2 (by omega)
                    obtain ⟨y, HY⟩ := name_itV (x - 48)
                    have hy : x - 48 = y := HY.out
                    rw [HY.out] at hd
                    have w3 : IntKind.u8.wrap ((x : Int) - 48) = (y : Int) := by rw [IntWalk.u8_in _ (by omega)]; omega
                    have w4 : IntKind.i64.wrap (y : Int) = (y : Int) := IntWalk.i64_in _ (by omega)
                    obtain ⟨D, HDD⟩ := name_itV (digsD (t.data.toList.drop (k + 1)))
                    have hdl := Lib.hid (digs_length (t.data.toList.drop (k + 1)))
                    rw [HDD.out] at hm hd hdl
                    obtain ⟨n, HN⟩ := name_itV D.length
                    have hrow := Lib.hid hm.out.row
                    obtain ⟨A, cp, hv⟩ := slice_form hm.out.row
                    subst hv
                    rw [HN.out] at hdl hrow
                    have hnl : n ≤ 4000000000000 := by have := hdl.out; rw [List.length_drop, data_len] at this; omega
                    have d1 : wr.cell? ⟨b + 1, 1, none⟩ = some (.slice A n cp) := by rw [← HN.out]; exact Lib.cell_of_heap hm.out.num 1
                    obtain ⟨i0, hi9, hz0, hz1, hz2⟩ := info_parts infoInt
                    have NB := Lib.hid (heap_alloc_new wr (.cells #[.int .i64 (y : Int)] 3))
                    have HS3 := Lib.hid (show (wr.alloc (.cells #[.int .i64 (y : Int)] 3)).heap.size = wr.heap.size + 1 by simp)
                    have hbl := blk_lt hm.out.num
                    have hkt : k < t.size := by omega
                    clear hy
                    go_wp2_with fail
                    go_region_law ((refine step_append_lies _ rfl _ _ 44 rfl (b + 2) 3 i0 (.int .i64 0) 1 8 Tryz.underlying44 hi9 hz0 hz1 hz2 rfl (by decide) (.slice A n cp) n (D.map fun (x : Nat) => Value.int .i64 (x : Int)) rfl (by first | exact own_drew (hrow.out.alloc _) | exact (own_drew hrow.out).alloc _) ⟨wr.heap.size, 0, none⟩ 1 1 [.int .i64 (y : Int)] rfl rfl (World.news_of_block (cs := #[.int .i64 (y : Int)]) (by exact NB.out)) (one_int _ _) (by omega) (by unfold maxLen; omega) (by omega) (by show b + 2 ≤ (wr.alloc (.cells #[.int .i64 (y : Int)] 3)).heap.size; rw [HS3.out]; omega) (wr.heap.size + 1) (by exact HS3.out) (fun g4 cp4 w4 ho4 hg4 hl4 _ => ?_); have HO4 := Lib.hid ho4; have HG4 := Lib.hid (show wr.grownBy w4 (Value.slice A n cp).ownBlock from grown_after (w := wr) (o := .cells #[.int .i64 (y : Int)] 3) ⟨hg4.os, hg4.tape, hg4.output, hg4.size, hg4.block⟩); have HL4 := Lib.hid (show (Value.slice A n cp).ownBlock = some g4 ∨ g4 = wr.heap.size + 1 from hl4); have HC4 := Lib.hid ((HG4.out.block (b + 1) hbl (fun e => own_ne hrow.out hm.out.num (by decide) e.symm)).trans hm.out.num); have f4 : w4.frozen? ⟨b + 1, 1, none⟩ = false := Lib.frozen_of_heap HC4.out 1; have d4 : w4.cell? ⟨b + 1, 1, none⟩ = some (.slice A D.length cp) := Lib.cell_of_heap HC4.out 1; clear ho4 hg4 hl4))
                    all_goals
                      go_wp2_with fail
                      go_roundw
                      case rel =>
                        have hgb : g4 ≠ b + 1 := by
                          rcases HL4.out with h0 | h0
                          · exact fun e => own_ne hrow.out hm.out.num (by decide) (by rw [h0, e])
                          · omega
                        have hbw : w.heap.size ≤ b := by rw [HBn.out]; exact Nat.le_refl b
                        have hob : (Value.slice A n cp).ownBlock ≠ some b := own_ne hrow.out hm.out.res (by decide)
                        refine ⟨k, .slice (some ⟨g4, 0, none⟩) (n + 1) cp4, by omega, rfl, Lib.hid ⟨?_, ?_, heap_setCell_same w4 (b + 1) 1 _ 180 _ HC4.out, ?_, ?_⟩⟩
                        · refine (hm.out.below.grown HG4.out (by omega) ?_).setCell (p := ⟨b + 1, 1, none⟩) (by show w.heap.size ≤ b + 1; omega) _
                          intro j hj
                          rcases hrow.out.2 with ⟨h0, _⟩ | ⟨g, cap, cur, h0, hg, _⟩
                          · rw [h0] at hj; cases hj
                          · rw [h0] at hj; injection hj with hj; have hj : g = j := hj; omega
                        · rw [heap_setCell_other _ _ _ _ (by show b ≠ b + 1; omega)]
                          exact (HG4.out.block b (by omega) (fun e => hob e.symm)).trans hm.out.res
                        · rw [hd.out, List.length_append, List.map_append, HN.out]
                          exact ownsRow_setCell_other HO4.out (a := ⟨b + 1, 1, none⟩) (fun e => hgb (by injection e)) _
                        · have := HG4.out.size
                          simp; omega
                      case measure => simp [intOf]
end Go.Proofs.YtmhjbicbdahllaaGreatDoor
