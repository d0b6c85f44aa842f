/- Decimals: their shape; what they say; which is the lesser. -/
import Derived.Test.YtijciakkfpjjbaaGreatDoorM0
import Derived.Test.YtijciakkfpjjbaaGreatDoorShelf
namespace Go.Proofs.YtijciakkfpjjbaaGreatDoor
open Go Go.RowKit Go.Maps Go.WideMaps

/-- The least place behind the point that is told. -/
def lowF (D : List Nat) (S : Nat) : Nat → Nat → Nat
 | 0, k => k
 | f + 1, k => if k < S ∧ atD D k = 0 then lowF D S f (k + 1) else k
/-- The place above the greatest that is told. -/
def highF (D : List Nat) (S : Nat) : Nat → Nat
 | 0 => 0
 | h + 1 => if S + 1 < h + 1 ∧ atD D h = 0 then highF D S h else h + 1
def lowD (D : List Nat) (S : Nat) : Nat := lowF D S S 0
def highD (D : List Nat) (S : Nat) : Nat := max (highF D S D.length) (S + 1)
theorem lowF_le (D : List Nat) (S : Nat) : ∀ f k, k + f ≤ S → lowF D S f k ≤ S := by
 intro f
 induction f with
 | zero => intro k h; exact h
 | succ f ih => intro k h; unfold lowF; split; exact ih _ (by omega); omega
theorem highF_le (D : List Nat) (S : Nat) : ∀ h, highF D S h ≤ h := by
 intro h
 induction h with
 | zero => exact Nat.le_refl _
 | succ h ih => unfold highF; split; omega; omega
/-- A number in memory, its struct in block b. -/
structure FormM (w : World) (b : Nat) (neg : Bool) (A : Option Addr) (n cap S : Nat) (D : List Nat) (wr : World) : Prop where
 below : Below w.heap.size w wr
 blk : wr.heap[b]? = some (.cells #[.bool neg, .slice A n cap, .int .i64 (S : Int)] 117 (0, 0))
 ints : IntsAt wr A D
 size : b + 1 ≤ wr.heap.size
theorem FormM.drewN {w wr : World} {b n cap S : Nat} {neg : Bool} {A : Option Addr} {D : List Nat} (h : FormM w b neg A n cap S D wr) (m : Nat) : FormM w b neg A n cap S D (wr.drewN m) :=
 ⟨⟨h.below.os, h.below.tape, h.below.output, h.below.size, h.below.block⟩, h.blk, h.ints, h.size⟩

def bytesV (L : List UInt8) : List Value := L.map fun c => Value.int .u8 (c.toNat : Int)
/-- And the bytes of its text so far, in the slice v. -/
structure BytesM (w : World) (b : Nat) (neg : Bool) (A : Option Addr) (n cap S : Nat) (D : List Nat) (L : List UInt8) (v : Value) (wr : World) : Prop where
 form : FormM w b neg A n cap S D wr
 row : wr.ownsRow (b + 1) 5 1 v L.length (bytesV L)
theorem BytesM.drewN {w wr : World} {b n cap S : Nat} {neg : Bool} {A : Option Addr} {D : List Nat} {L : List UInt8} {v : Value} (h : BytesM w b neg A n cap S D L v wr) (m : Nat) : BytesM w b neg A n cap S D L v (wr.drewN m) :=
 ⟨h.form.drewN m, h.row⟩
theorem BytesM.app {w wr w4 : World} {b n cap S : Nat} {neg : Bool} {A : Option Addr} {D : List Nat} {L : List UInt8} {v v4 : Value} (h : BytesM w b neg A n cap S D L v wr) (hI : IntsAt w A D) (hw : w.heap.size ≤ b) (hg : wr.grownBy w4 v.ownBlock) {c : UInt8} (ho : w4.ownsRow (b + 1) 5 1 v4 (L.length + 1) (bytesV L ++ [.int .u8 (c.toNat : Int)])) :
    BytesM w b neg A n cap S D (L ++ [c]) v4 w4 := by
 have hb : Below w.heap.size w w4 := h.form.below.grown hg (by have := h.form.size; omega) (fun k hk => by have := (h.row.lt k hk).1; omega)
 refine ⟨⟨hb, ?_, hI.under hb, Nat.le_trans h.form.size hg.size⟩, ?_⟩
 ·exact (hg.block b (by have := h.form.size; omega) (fun e => own_ne h.row h.form.blk (by decide) e.symm)).trans h.form.blk
 ·rw [List.length_append]
  unfold bytesV
  rw [List.map_append]
  exact ho

def formOut (D : List Nat) (S : Nat) : Bool := decide (40 < highD D S - S) || decide (20 < S - lowD D S)
def digU (y : Nat) : UInt8 := UInt8.ofNat (48 + y)
/-- The digits from below a place down to another. -/
def downD (D : List Nat) (hi lo : Nat) : List UInt8 := (List.range (hi - lo)).map fun j => digU (atD D (hi - 1 - j))
theorem downD_length (D : List Nat) (hi lo : Nat) : (downD D hi lo).length = hi - lo := by unfold downD; simp
theorem downD_nil (D : List Nat) (hi : Nat) : downD D hi hi = [] := by unfold downD; simp
theorem downD_more (D : List Nat) {hi j : Nat} (h : j < hi) : downD D hi j = downD D hi (j + 1) ++ [digU (atD D j)] := by
 unfold downD
 rw [show hi - j = (hi - (j + 1)) + 1 by omega, List.range_succ, List.map_append]
 simp only [List.map_cons, List.map_nil]
 rw [show hi - 1 - (hi - (j + 1)) = j by omega]
theorem digU_nat {y : Nat} (h : y ≤ 9) : (digU y).toNat = 48 + y := by
 unfold digU
 rw [UInt8.toNat_ofNat']
 exact Nat.mod_eq_of_lt (by omega)
def formT (neg : Bool) (D : List Nat) (S : Nat) : ByteArray :=
 ⟨(cond (neg && !zeroD D) [45] [] ++ downD D (highD D S) S ++ [46] ++ downD D S (lowD D S) ++ cond (decide (lowD D S = S)) [48] [] : List UInt8).toArray⟩
def FormIs (neg : Bool) (D : List Nat) (S : Nat) (w : World) (e : Ending) (w' : World) : Prop := Below w.heap.size w w' ∧
 e = .returned (.tuple #[.string (cond (formOut D S) ⟨#[]⟩ (formT neg D S)), .int .i64 (cond (formOut D S) 2 0)])

set_option maxRecDepth 100000 in
set_option maxHeartbeats 1000000 in
theorem form_any (neg : Bool) (D : List Nat) (S : Nat) (hD : D.length ≤ 4000000000000) (hS : S ≤ 4000000000000) (h9 : ∀ i, atD D i ≤ 9) (A : Option Addr) (cap : Nat) (w : World) (h : IntsAt w A D) :
    Calls Tryz.prog 157 #[.agg #[.bool neg, .slice A D.length cap, .int .i64 (S : Int)]] w (FormIs neg D S w) := by
 have HI := Lib.hid h
 have H9 := Lib.hid h9
 clear h h9
 obtain ⟨n, HN⟩ := name_itV D.length
 rw [HN.out] at hD ⊢
 go_enter Tryz.func157, Tryz.ntmps157
 go_wp2_with fail
 have hm := Lib.hid (show FormM w w.heap.size neg A n cap S D (w.alloc (.cells #[.bool neg, .slice A n cap, .int .i64 (S : Int)] 117)) from
  ⟨(Below.refl _ _).alloc (Nat.le_refl _) _, heap_alloc_new w _, HI.out.under ((Below.refl _ _).alloc (Nat.le_refl _) _), by simp⟩)
 obtain ⟨b, HBn⟩ := name_itV w.heap.size
 obtain ⟨w1, HW1⟩ := name_itV (w.alloc (.cells #[.bool neg, .slice A n cap, .int .i64 (S : Int)] 117))
 rw [HBn.out, HW1.out] at hm
 rw [HBn.out, HW1.out]
 go_loopw [4] (fun s4 wr => ∃ k : Nat, k ≤ S ∧ s4 = .int .i64 (k : Nat) ∧ Hid (lowD D S = lowF D S (S - k) k) ∧ Hid (FormM w b neg A n cap S D wr)) (fun s4 _ => S - (intOf s4).toNat)
 case atStart => exact ⟨0, by omega, rfl, Lib.hid rfl, hm⟩
 case round =>
  obtain ⟨k, hk, rfl, hlow, hr⟩ := hrel
  have c0 : wr.cell? ⟨b, 0, none⟩ = some (.bool neg) := Lib.cell_of_heap hr.out.blk 0
  have c1 : wr.cell? ⟨b, 1, none⟩ = some (.slice A n cap) := Lib.cell_of_heap hr.out.blk 1
  have c2 : wr.cell? ⟨b, 2, none⟩ = some (.int .i64 (S : Int)) := Lib.cell_of_heap hr.out.blk 2
  have hat := Lib.hid (at_any D A cap k (by omega) wr hr.out.ints)
  rw [HN.out] at hat
  obtain ⟨y, HY⟩ := name_itV (atD D k)
  rw [HY.out] at hat
  go_upto_region 2 with fail
  go_cut [19] (fun s19 wx => s19 = .bool (decide (k < S ∧ y = 0)) ∧ FormM w b neg A n cap S D wx)
  case first =>
   by_cases hlt : k < S
   ·by_cases hy : y = 0
    ·have hb := Lib.hid (show Value.bool (decide (k < S ∧ y = 0)) = .bool true by rw [decide_eq_true ⟨hlt, hy⟩])
     subst hy
     go_wp2_with fail; refine hat.out.mono ?_; rintro e w' ⟨rfl, m, rfl⟩
     go_wp2_with fail
     go_meet
     exact ⟨hb.out.symm, hr.out.drewN m⟩
    ·have hb := Lib.hid (show Value.bool (decide (k < S ∧ y = 0)) = .bool false by rw [decide_eq_false (fun h => hy h.2)])
     have e1 : ((y : Int) == 0) = false := beq_eq_false_iff_ne.2 (by omega)
     clear hy
     go_wp2_with fail; refine hat.out.mono ?_; rintro e w' ⟨rfl, m, rfl⟩
     go_wp2_with fail
     go_meet
     exact ⟨hb.out.symm, hr.out.drewN m⟩
   ·have hb := Lib.hid (show Value.bool (decide (k < S ∧ y = 0)) = .bool false by rw [decide_eq_false (fun h => hlt h.1)])
    go_wp2_with fail
    go_meet
    exact ⟨hb.out.symm, hr.out⟩
  case rest =>
   rename World => w2
   obtain ⟨h19, hr2⟩ := hcut
   have HR := Lib.hid hr2
   clear hr2 c0 c1 c2
   by_cases hl : k < S ∧ y = 0
   ·rw [decide_eq_true hl] at h19
    subst h19
    have hyes := Lib.hid (show lowD D S = lowF D S (S - (k + 1)) (k + 1) from by
     rw [hlow.out, show S - k = (S - (k + 1)) + 1 by omega]
     exact if_pos ⟨hl.1, by rw [HY.out]; exact hl.2⟩)
    go_wp2_with fail
    go_roundw
    case rel => exact ⟨k + 1, by omega, by go_num, hyes, Lib.hid HR.out⟩
    case measure => simp [intOf]; omega
   ·rw [decide_eq_false hl] at h19
    subst h19
    have hlo := Lib.hid (show lowD D S = k from by
     rw [hlow.out]
     cases hf : S - k with
     | zero => rfl
     | succ f => exact if_neg (by rw [HY.out]; exact hl))
    clear hl hlow hat
    have c1 : w2.cell? ⟨b, 1, none⟩ = some (.slice A n cap) := Lib.cell_of_heap HR.out.blk 1
    go_wp2_with fail
    go_loopw [5] (fun s5 wr => ∃ h : Nat, h ≤ n ∧ s5 = .int .i64 (h : Nat) ∧ Hid (highF D S n = highF D S h) ∧ Hid (FormM w b neg A n cap S D wr)) (fun s5 _ => (intOf s5).toNat)
    case atStart => exact ⟨n, by omega, rfl, Lib.hid rfl, HR⟩
    case round =>
     obtain ⟨h, hh, rfl, hhi, hr3⟩ := hrel
     have c1 : wr.cell? ⟨b, 1, none⟩ = some (.slice A n cap) := Lib.cell_of_heap hr3.out.blk 1
     have c2 : wr.cell? ⟨b, 2, none⟩ = some (.int .i64 (S : Int)) := Lib.cell_of_heap hr3.out.blk 2
     have w1 : IntKind.i64.wrap ((S : Int) + 1) = S + 1 := IntWalk.i64_in _ (by omega)
     go_upto_region 5 with fail
     go_cut [38] (fun s38 wx => s38 = .bool (decide (S + 1 < h ∧ atD D (h - 1) = 0)) ∧ wx = wr)
     case first =>
      by_cases hgt : S + 1 < h
      ·obtain ⟨j, hj⟩ : ∃ j, h = j + 1 := ⟨h - 1, by omega⟩
       have w3 : IntKind.i64.wrap ((h : Int) - 1) = j := by rw [IntWalk.i64_in _ (by omega)]; omega
       have hil : j < D.length := by rw [HN.out]; omega
       obtain ⟨ad, rfl, _, hc⟩ := hr3.out.ints j _ (List.getElem?_eq_getElem hil)
       have ha : atD D (h - 1) = D[j] := by rw [hj]; unfold atD; rw [show j + 1 - 1 = j by omega, List.getElem?_eq_getElem hil]; rfl
       obtain ⟨y, HY⟩ := name_itV D[j]
       rw [HY.out] at hc ha
       have HA := Lib.hid ha
       have e1 : (0 : Int) ≤ j := by omega
       have e2 : (j : Int) < n := by omega
       have HJ := Lib.hid hj
       clear ha hj
       by_cases hy : y = 0
       ·have hb := Lib.hid (show Value.bool true = Value.bool (decide (S + 1 < h ∧ atD D (h - 1) = 0)) by rw [decide_eq_true ⟨hgt, HA.out.trans hy⟩])
        subst hy
        go_wp2_with fail
        go_meet
        exact ⟨hb.out, rfl⟩
       ·have hb := Lib.hid (show Value.bool (decide (S + 1 < h ∧ y = 0)) = .bool false by rw [decide_eq_false (fun x => hy x.2)])
        have e3 : ((y : Int) == 0) = false := beq_eq_false_iff_ne.2 (by omega)
        clear hy
        go_wp2_with fail
        go_meet
        exact ⟨by rw [HA.out]; exact hb.out.symm, rfl⟩
      ·have hb := Lib.hid (show Value.bool (decide (S + 1 < h ∧ atD D (h - 1) = 0)) = .bool false by rw [decide_eq_false (fun x => hgt x.1)])
       go_wp2_with fail
       go_meet
       exact ⟨hb.out.symm, rfl⟩
     case rest =>
      obtain ⟨h38, rfl⟩ := hcut
      by_cases hl : S + 1 < h ∧ atD D (h - 1) = 0
      ·rw [decide_eq_true hl] at h38
       subst h38
       have hh0 : 1 ≤ h := by omega
       have hyes := Lib.hid (show highF D S n = highF D S (h - 1) from by
        rw [hhi.out]
        obtain ⟨j, rfl⟩ : ∃ j, h = j + 1 := ⟨h - 1, by omega⟩
        exact if_pos hl)
       have w3 : IntKind.i64.wrap ((h : Int) - 1) = ((h - 1 : Nat) : Int) := by rw [IntWalk.i64_in _ (by omega)]; omega
       clear hl
       go_wp2_with fail
       go_roundw
       case rel => exact ⟨h - 1, by omega, rfl, hyes, Lib.hid hr3.out⟩
       case measure => simp [intOf]; omega
      ·rw [decide_eq_false hl] at h38
       subst h38
       have hhe := Lib.hid (show highF D S n = h from by
        rw [hhi.out]
        cases h with
        | zero => rfl
        | succ j => exact if_neg hl)
       have hhD := Lib.hid (show highD D S = max h (S + 1) from by unfold highD; rw [HN.out, hhe.out])
       clear hl hhi c1
       go_upto_if 44 with fail
       go_cut [5] (fun s5 wx => s5 = .int .i64 ((highD D S : Nat) : Int) ∧ wx = wc)
       case first =>
        by_cases hle : h ≤ S
        ·have hm := Lib.hid (show Value.int .i64 ((S : Int) + 1) = .int .i64 ((highD D S : Nat) : Int) from by rw [hhD.out, show max h (S + 1) = S + 1 by omega]; push_cast; rfl)
         go_wp2_with fail
         go_meet
         exact ⟨hm.out, rfl⟩
        ·have hm := Lib.hid (show Value.int .i64 (h : Int) = .int .i64 ((highD D S : Nat) : Int) from by rw [hhD.out, show max h (S + 1) = h by omega])
         go_wp2_with fail
         go_meet
         exact ⟨hm.out, rfl⟩
       case rest =>
        rename World => w5
        obtain ⟨h5, rfl⟩ := hcut
        obtain ⟨hi, HH⟩ := name_itV (highD D S)
        rw [HH.out] at h5
        subst h5
        have hhl := Lib.hid (show S + 1 ≤ hi ∧ hi ≤ max n (S + 1) from by
         rw [← HH.out, hhD.out]
         exact ⟨by omega, by omega⟩)
        have h1 : S + 1 ≤ hi := hhl.out.1
        have h2 : hi ≤ 4000000000001 := by have := hhl.out.2; omega
        have w6 : IntKind.i64.wrap ((hi : Int) - S) = ((hi - S : Nat) : Int) := by rw [IntWalk.i64_in _ (by omega)]; omega
        have w7 : IntKind.i64.wrap ((S : Int) - k) = ((S - k : Nat) : Int) := by rw [IntWalk.i64_in _ (by omega)]; omega
        have ho := Lib.hid (show formOut D S = (decide (40 < hi - S) || decide (20 < S - k)) from by unfold formOut; rw [HH.out, hlo.out])
        obtain ⟨fo, HFO⟩ := name_itV (formOut D S)
        rw [HFO.out] at ho
        have c0 : w5.cell? ⟨b, 0, none⟩ = some (.bool neg) := Lib.cell_of_heap hr3.out.blk 0
        have c1 : w5.cell? ⟨b, 1, none⟩ = some (.slice A n cap) := Lib.cell_of_heap hr3.out.blk 1
        go_upto_region 9 with fail
        go_cut [59] (fun s59 wx => s59 = .bool fo ∧ wx = w5)
        case first =>
         by_cases a1 : 40 < hi - S
         ·have e1 : decide ((40 : Int) < ((hi - S : Nat) : Int)) = true := decide_eq_true (by omega)
          have hf := Lib.hid (show fo = true from by rw [ho.out, decide_eq_true a1]; rfl)
          go_wp2_with fail
          go_meet
          exact ⟨by rw [hf.out], rfl⟩
         ·have hf := Lib.hid (show (decide ((40 : Int) < ((hi - S : Nat) : Int)) || decide ((20 : Int) < ((S - k : Nat) : Int))) = fo from by
            rw [ho.out, decide_eq_decide.2 (show (40 : Int) < ((hi - S : Nat) : Int) ↔ 40 < hi - S by omega), decide_eq_decide.2 (show (20 : Int) < ((S - k : Nat) : Int) ↔ 20 < S - k by omega)])
          go_wp2_with fail
          go_meet
          exact ⟨by rw [hf.out], rfl⟩
        case rest =>
         obtain ⟨h59, rfl⟩ := hcut
         cases fo with
         | true =>
          subst h59
          go_wp2_with fail
          exact bodyPost_ret (v := .tuple #[.string ⟨#[]⟩, .int .i64 2]) (by simp [results, Tryz.results157, go_sem]) rfl ⟨hr3.out.below, by rw [HFO.out]; rfl⟩
         | false =>
          subst h59
          have hs40 : hi - S ≤ 40 ∧ S - k ≤ 20 := by
           have := ho.out.symm
           rw [Bool.or_eq_false_iff, decide_eq_false_iff_not, decide_eq_false_iff_not] at this
           omega
          have c0 : wc.cell? ⟨b, 0, none⟩ = some (.bool neg) := Lib.cell_of_heap hr3.out.blk 0
          have c1 : wc.cell? ⟨b, 1, none⟩ = some (.slice A n cap) := Lib.cell_of_heap hr3.out.blk 1
          have hz := Lib.hid (zero_any D (by rw [HN.out]; exact hD) A cap wc hr3.out.ints)
          rw [HN.out] at hz
          obtain ⟨zb, HZ⟩ := name_itV (zeroD D)
          rw [HZ.out] at hz
          clear ho w6 w7 hhD hhe c2
          go_upto_region 12 with fail
          go_cut [67] (fun s67 wx => s67 = .bool (neg && !zb) ∧ FormM w b neg A n cap S D wx)
          case first =>
           cases neg with
           | false =>
            go_wp2_with fail
            go_meet
            exact ⟨rfl, hr3.out⟩
           | true =>
            go_wp2_with fail; refine hz.out.mono ?_; rintro e w' ⟨rfl, m, rfl⟩
            go_wp2_with fail
            go_meet
            exact ⟨rfl, hr3.out.drewN m⟩
          case rest =>
           rename World => w6
           obtain ⟨h67, hr6⟩ := hcut
           have HR6 := Lib.hid hr6
           clear hr6 hz c0 c1
           have hb1 := HR6.out.size
           go_upto_if 67 with fail
           go_cut [6] (fun s6 wx => BytesM w b neg A n cap S D (cond (neg && !zb) [45] []) s6 wx)
           case first =>
            cases hcase : neg && !zb with
            | true =>
             rw [hcase] at h67
             subst h67
             have H0 := Lib.hid (World.ownsRow_nil w6 (b + 1) 5 1)
             go_wp2_with (at_builtin; refine app_new rfl _ _ 153 rfl (b + 1) 5 (.int .u8 0) 1 1 Tryz.underlying153 infoByte rfl (by decide) _ _ _ rfl H0.out (by omega) #[.int .u8 45] 1 1 rfl rfl (one_u8 _) (by omega) (by omega) (by decide) ?_; intro g4 cp4 w4 ho4 hg4 hl4; have HO4 := Lib.hid ho4; have HG4 := Lib.hid hg4; clear ho4 hg4 hl4)
             go_meet
             rw [hcase]
             exact BytesM.app (L := []) ⟨HR6.out, H0.out⟩ HI.out (by rw [HBn.out]; exact Nat.le_refl b) HG4.out (c := 45) HO4.out
            | false =>
             rw [hcase] at h67
             subst h67
             go_wp2_with fail
             go_meet
             rw [hcase]
             exact ⟨HR6.out, World.ownsRow_nil w6 (b + 1) 5 1⟩
           case rest =>
            have HB6 := Lib.hid hcut
            clear hcut h67
            obtain ⟨L0, HL0⟩ := name_itV (cond (neg && !zb) [(45 : UInt8)] [])
            have hl0 : L0.length ≤ 1 := by rw [← HL0.out]; cases (neg && !zb) <;> simp
            rw [HL0.out] at HB6
            have w8 : IntKind.i64.wrap ((hi : Int) - 1) = (hi : Int) - 1 := IntWalk.i64_in _ (by omega)
            go_wp2_with fail
            go_loopw [6, 7] (fun s6 s7 wr => ∃ i : Nat, S ≤ i ∧ i ≤ hi ∧ s7 = .int .i64 ((i : Int) - 1) ∧ Hid (BytesM w b neg A n cap S D (L0 ++ downD D hi i) s6 wr)) (fun _ s7 _ => (intOf s7 + 1).toNat)
            case atStart => exact ⟨hi, by omega, Nat.le_refl _, rfl, Lib.hid (by rw [downD_nil, List.append_nil]; exact HB6.out)⟩
            case round =>
             obtain ⟨i, hi1, hi2, rfl, hb3⟩ := hrel
             have c1 : wr.cell? ⟨b, 1, none⟩ = some (.slice A n cap) := Lib.cell_of_heap hb3.out.form.blk 1
             have c2 : wr.cell? ⟨b, 2, none⟩ = some (.int .i64 (S : Int)) := Lib.cell_of_heap hb3.out.form.blk 2
             by_cases hlt : S < i
             ·obtain ⟨j, rfl⟩ : ∃ j, i = j + 1 := ⟨i - 1, by omega⟩
              have hj1 : ((j + 1 : Nat) : Int) - 1 = (j : Int) := by push_cast; omega
              rw [hj1]
              have hjS : S ≤ j := by omega
              have w9 : IntKind.i64.wrap ((j : Int) - 1) = (j : Int) - 1 := IntWalk.i64_in _ (by omega)
              have hat := Lib.hid (at_any D A cap j (by omega) wr hb3.out.form.ints)
              rw [HN.out] at hat
              have hdn := Lib.hid (downD_more D (show j < hi by omega))
              obtain ⟨y, HY⟩ := name_itV (atD D j)
              have hy9 : y ≤ 9 := by rw [← HY.out]; exact H9.out j
              rw [HY.out] at hat hdn
              obtain ⟨c, HC⟩ := name_itV (digU y)
              have hcy : c.toNat = 48 + y := by rw [← HC.out]; exact digU_nat hy9
              rw [HC.out] at hdn
              obtain ⟨L, HL⟩ := name_itV (L0 ++ downD D hi (j + 1))
              have hLl : L.length ≤ 50 := by rw [← HL.out, List.length_append, downD_length]; omega
              rw [HL.out] at hb3
              obtain ⟨e, He⟩ := name_itV c.toNat
              have v1 : IntKind.i64.wrap (48 + (y : Int)) = (e : Int) := by rw [IntWalk.i64_in _ (by omega), ← He.out, hcy]; push_cast; rfl
              have v2 : IntKind.u8.wrap (e : Int) = (e : Int) := IntWalk.u8_in _ (by rw [← He.out, hcy]; omega)
              clear hcy
              go_wp2_with fail; refine hat.out.mono ?_; rintro e' w' ⟨rfl, m, rfl⟩
              have hb4 := Lib.hid (hb3.out.drewN m)
              have hrow := Lib.hid hb4.out.row
              have hsz := hb4.out.form.size
              obtain ⟨W, HW⟩ := name_itV (wr.drewN m)
              rw [HW.out] at hb4 hrow hsz ⊢
              go_wp2_with (at_builtin; refine app_new rfl _ _ 153 rfl (b + 1) 5 (.int .u8 0) 1 1 Tryz.underlying153 infoByte rfl (by decide) _ _ _ rfl hrow.out (by omega) #[.int .u8 (e : Int)] 1 1 rfl rfl (one_u8 _) (by omega) (by omega) (by decide) ?_; intro g4 cp4 w4 ho4 hg4 hl4; have HO4 := Lib.hid ho4; have HG4 := Lib.hid hg4; clear ho4 hg4 hl4)
              go_roundw
              case rel =>
               refine ⟨j, hjS, by omega, rfl, Lib.hid ?_⟩
               rw [hdn.out, ← List.append_assoc, HL.out]
               exact BytesM.app hb4.out HI.out (by rw [HBn.out]; exact Nat.le_refl b) HG4.out (by rw [He.out]; exact HO4.out)
              case measure => simp [intOf]
             ·have hie : i = S := by omega
              rw [hie] at hb3 ⊢
              obtain ⟨L, HL⟩ := name_itV (L0 ++ downD D hi S)
              have hLl : L.length ≤ 50 := by rw [← HL.out, List.length_append, downD_length]; omega
              rw [HL.out] at hb3
              have hrow := Lib.hid hb3.out.row
              have hsz := hb3.out.form.size
              have w10 : IntKind.i64.wrap ((S : Int) - 1) = (S : Int) - 1 := IntWalk.i64_in _ (by omega)
              clear hlt hie
              go_wp2_with (at_builtin; refine app_new rfl _ _ 153 rfl (b + 1) 5 (.int .u8 0) 1 1 Tryz.underlying153 infoByte rfl (by decide) _ _ _ rfl hrow.out (by omega) #[.int .u8 46] 1 1 rfl rfl (one_u8 _) (by omega) (by omega) (by decide) ?_; intro g4 cp4 w4 ho4 hg4 hl4; have HB7 := Lib.hid (BytesM.app hb3.out HI.out (by rw [HBn.out]; exact Nat.le_refl b) hg4 (c := 46) ho4); have d2 : w4.cell? ⟨b, 2, none⟩ = some (.int .i64 (S : Int)) := Lib.cell_of_heap HB7.out.form.blk 2; clear ho4 hg4 hl4)
              obtain ⟨L1, HL1⟩ := name_itV (L ++ [(46 : UInt8)])
              have hl1 : L1.length ≤ 51 := by rw [← HL1.out, List.length_append]; simp; omega
              rw [HL1.out] at HB7
              go_loopw [6, 8] (fun s6 s8 wr => ∃ i : Nat, k ≤ i ∧ i ≤ S ∧ s8 = .int .i64 ((i : Int) - 1) ∧ Hid (BytesM w b neg A n cap S D (L1 ++ downD D S i) s6 wr)) (fun _ s8 _ => (intOf s8 + 1).toNat)
              case atStart => exact ⟨S, hk, Nat.le_refl _, rfl, Lib.hid (by rw [downD_nil, List.append_nil]; exact HB7.out)⟩
              case round =>
               obtain ⟨i, hi1, hi2, rfl, hb3⟩ := hrel
               have c1 : wr.cell? ⟨b, 1, none⟩ = some (.slice A n cap) := Lib.cell_of_heap hb3.out.form.blk 1
               have c2 : wr.cell? ⟨b, 2, none⟩ = some (.int .i64 (S : Int)) := Lib.cell_of_heap hb3.out.form.blk 2
               by_cases hlt : k < i
               ·obtain ⟨j, rfl⟩ : ∃ j, i = j + 1 := ⟨i - 1, by omega⟩
                have hj1 : ((j + 1 : Nat) : Int) - 1 = (j : Int) := by push_cast; omega
                rw [hj1]
                have hjS : k ≤ j := by omega
                have w9 : IntKind.i64.wrap ((j : Int) - 1) = (j : Int) - 1 := IntWalk.i64_in _ (by omega)
                have hat := Lib.hid (at_any D A cap j (by omega) wr hb3.out.form.ints)
                rw [HN.out] at hat
                have hdn := Lib.hid (downD_more D (show j < S by omega))
                obtain ⟨y, HY⟩ := name_itV (atD D j)
                have hy9 : y ≤ 9 := by rw [← HY.out]; exact H9.out j
                rw [HY.out] at hat hdn
                obtain ⟨c, HC⟩ := name_itV (digU y)
                have hcy : c.toNat = 48 + y := by rw [← HC.out]; exact digU_nat hy9
                rw [HC.out] at hdn
                obtain ⟨L2, HL2⟩ := name_itV (L1 ++ downD D S (j + 1))
                have hLl2 : L2.length ≤ 100 := by rw [← HL2.out, List.length_append, downD_length]; omega
                rw [HL2.out] at hb3
                obtain ⟨e, He⟩ := name_itV c.toNat
                have v1 : IntKind.i64.wrap (48 + (y : Int)) = (e : Int) := by rw [IntWalk.i64_in _ (by omega), ← He.out, hcy]; push_cast; rfl
                have v2 : IntKind.u8.wrap (e : Int) = (e : Int) := IntWalk.u8_in _ (by rw [← He.out, hcy]; omega)
                clear hcy
                go_wp2_with fail; refine hat.out.mono ?_; rintro e' w' ⟨rfl, m, rfl⟩
                have hb4 := Lib.hid (hb3.out.drewN m)
                have hrow := Lib.hid hb4.out.row
                have hsz := hb4.out.form.size
                obtain ⟨W, HW⟩ := name_itV (wr.drewN m)
                rw [HW.out] at hb4 hrow hsz ⊢
                go_wp2_with (at_builtin; refine app_new rfl _ _ 153 rfl (b + 1) 5 (.int .u8 0) 1 1 Tryz.underlying153 infoByte rfl (by decide) _ _ _ rfl hrow.out (by omega) #[.int .u8 (e : Int)] 1 1 rfl rfl (one_u8 _) (by omega) (by omega) (by decide) ?_; intro g4 cp4 w4 ho4 hg4 hl4; have HO4 := Lib.hid ho4; have HG4 := Lib.hid hg4; clear ho4 hg4 hl4)
                go_roundw
                case rel =>
                 refine ⟨j, hjS, by omega, rfl, Lib.hid ?_⟩
                 rw [hdn.out, ← List.append_assoc, HL2.out]
                 exact BytesM.app hb4.out HI.out (by rw [HBn.out]; exact Nat.le_refl b) HG4.out (by rw [He.out]; exact HO4.out)
                case measure => simp [intOf]
               ·have hie : i = k := by omega
                rw [hie] at hb3 ⊢
                clear hlt hie
                obtain ⟨L2, HL2⟩ := name_itV (L1 ++ downD D S k)
                have hLl2 : L2.length ≤ 100 := by rw [← HL2.out, List.length_append, downD_length]; omega
                rw [HL2.out] at hb3
                have hrow := Lib.hid hb3.out.row
                have hsz := hb3.out.form.size
                clear c1
                go_upto_if 111 with fail
                go_cut [6] (fun s6 wx => BytesM w b neg A n cap S D (L2 ++ cond (decide (k = S)) [48] []) s6 wx)
                case first =>
                 by_cases hkS : k = S
                 ·have e1 : ((k : Int) == (S : Int)) = true := beq_iff_eq.2 (by omega)
                  have hc := Lib.hid (show L2 ++ cond (decide (k = S)) [(48 : UInt8)] [] = L2 ++ [48] by rw [decide_eq_true hkS]; rfl)
                  clear hkS
                  go_wp2_with (at_builtin; refine app_new rfl _ _ 153 rfl (b + 1) 5 (.int .u8 0) 1 1 Tryz.underlying153 infoByte rfl (by decide) _ _ _ rfl hrow.out (by omega) #[.int .u8 48] 1 1 rfl rfl (one_u8 _) (by omega) (by omega) (by decide) ?_; intro g4 cp4 w4 ho4 hg4 hl4; have HB8 := Lib.hid (BytesM.app hb3.out HI.out (by rw [HBn.out]; exact Nat.le_refl b) hg4 (c := 48) ho4); clear ho4 hg4 hl4)
                  go_meet
                  rw [hc.out]
                  exact HB8.out
                 ·have e1 : ((k : Int) == (S : Int)) = false := beq_eq_false_iff_ne.2 (by omega)
                  have hc := Lib.hid (show L2 ++ cond (decide (k = S)) [(48 : UInt8)] [] = L2 by rw [decide_eq_false hkS]; exact List.append_nil _)
                  go_wp2_with fail
                  go_meet
                  rw [hc.out]
                  exact hb3.out
                case rest =>
                 have HB9 := Lib.hid hcut
                 clear hcut hrow
                 have hcv := conv_row (l := L2 ++ cond (decide (k = S)) [48] []) HB9.out.row
                 have hout := Lib.hid (show strK (L2 ++ cond (decide (k = S)) [48] []) = cond (formOut D S) ⟨#[]⟩ (formT neg D S) from by
                  rw [HFO.out, ← HL2.out, ← HL1.out, ← HL.out, ← HL0.out]
                  unfold formT strK
                  rw [HZ.out, HH.out, hlo.out]
                  simp)
                 obtain ⟨T, HTT⟩ := name_itV (strK (L2 ++ cond (decide (k = S)) [48] []))
                 rw [HTT.out] at hcv hout
                 go_wp2_with fail
                 exact bodyPost_ret (v := .tuple #[.string T, .int .i64 0]) (by simp [results, Tryz.results157, go_sem]) rfl ⟨HB9.out.form.below, by rw [hout.out, HFO.out]; rfl⟩
end Go.Proofs.YtijciakkfpjjbaaGreatDoor
namespace Go.Proofs.YtijciakkfpjjbaaGreatDoor
open Go Go.RowKit Go.Maps Go.WideMaps

theorem digs_nine {l : List UInt8} (h : ∀ c ∈ l, c = 46 ∨ digN c.toNat = true) : ∀ x ∈ digsD l, x ≤ 9 := by
 induction l with
 | nil => intro x hx; cases hx
 | cons c l ih =>
  intro x hx
  unfold digsD at hx
  rcases List.mem_append.1 hx with hx | hx
  ·exact ih (fun d hd => h d (List.mem_cons_of_mem _ hd)) x hx
  ·cases hc : c == 46 with
   | true => rw [hc] at hx; cases hx
   | false =>
    rw [hc] at hx
    have hx : x ∈ [c.toNat - 48] := hx
    rw [List.mem_singleton] at hx
    rcases h c List.mem_cons_self with e | e
    ·rw [e] at hc; cases hc
    ·unfold digN at e; have := of_decide_eq_true e; omega
theorem parse_some {s : ByteArray} {neg : Bool} {D : List Nat} {S : Nat} (h : parseT s = some (neg, D, S)) : (∀ i, atD D i ≤ 9) ∧ D.length ≤ s.size ∧ S ≤ s.size := by
 unfold parseT at h
 cases hp : pointF (sgnT s).data.toList 0 none with
 | none => rw [hp] at h; cases h
 | some p =>
  rw [hp] at h
  simp only at h
  cases hc : (decide ((sgnT s).size = 0) || p == some 0 || p == some ((sgnT s).size - 1)) with
  | true => rw [hc] at h; cases h
  | false =>
   rw [hc] at h
   have h : some (sgnB s, digsD (sgnT s).data.toList, scaleP (sgnT s).size p) = some (neg, D, S) := h
   injection h with h
   injection h with _ h
   injection h with hD hS
   have hl := sgn_size s
   refine ⟨fun i => ?_, ?_, ?_⟩
   ·unfold atD
    cases hi : D[i]? with
    | none => simp
    | some x => exact digs_nine (pf_all hp) x (by rw [hD]; exact List.mem_of_getElem? hi)
   ·have := digs_length (sgnT s).data.toList
    rw [hD, data_len] at this
    omega
   ·rw [← hS]
    cases p with
    | none => exact Nat.zero_le _
    | some i => show (sgnT s).size - 1 - i ≤ s.size; omega

/-- What a text is read as, and the error's number. -/
def readT (s : ByteArray) : ByteArray × Int :=
 match parseT s with
 | none => (⟨#[]⟩, 6)
 | some (neg, D, S) => (cond (formOut D S) ⟨#[]⟩ (formT neg D S), cond (formOut D S) 2 0)
def decB (s : ByteArray) : Bool := decide ((readT s).2 = 0) && decide ((readT s).1 = s)
def ReadIs (s : ByteArray) (w : World) (e : Ending) (w' : World) : Prop := Below w.heap.size w w' ∧ e = .returned (.tuple #[.string (readT s).1, .int .i64 (readT s).2])

set_option maxRecDepth 100000 in
set_option maxHeartbeats 1000000 in
theorem refRead_any (s : ByteArray) (hs : s.size ≤ 4000000000000) (w : World) : Calls Tryz.prog 119 #[.string s] w (ReadIs s w) := by
 go_enter Tryz.func119, Tryz.ntmps119
 go_wp2_with fail
 refine (parsed_any s hs _).mono ?_
 rintro e w1 ⟨hb, he⟩
 cases hp : parseT s with
 | none =>
  rw [hp] at he
  have he : e = .returned (.tuple #[.agg #[.bool false, .slice none 0 0, .int .i64 0], .bool false]) := he
  subst he
  have hr := Lib.hid (show readT s = (⟨#[]⟩, 6) from by unfold readT; rw [hp])
  have hba := Lib.hid (hb.alloc hb.size (.cells #[.bool false, .slice none 0 0, .int .i64 0] 117))
  clear hp hb
  go_wp2_with fail
  exact bodyPost_ret (v := .tuple #[.string ⟨#[]⟩, .int .i64 6]) (by simp [results, Tryz.results119, go_sem]) rfl ⟨hba.out, by rw [hr.out]⟩
 | some r =>
  obtain ⟨neg, D, S⟩ := r
  rw [hp] at he
  obtain ⟨A, cap, he, hi⟩ := he
  subst he
  obtain ⟨h9, hl, hS⟩ := parse_some hp
  have hr := Lib.hid (show readT s = (cond (formOut D S) ⟨#[]⟩ (formT neg D S), cond (formOut D S) 2 0) from by unfold readT; rw [hp])
  have hba := Lib.hid (hb.alloc hb.size (.cells #[.bool neg, .slice A D.length cap, .int .i64 (S : Int)] 117))
  have hf := Lib.hid (form_any neg D S (by omega) (by omega) h9 A cap (w1.alloc (.cells #[.bool neg, .slice A D.length cap, .int .i64 (S : Int)] 117)) (hi.under ((Below.refl w1.heap.size w1).alloc (Nat.le_refl _) _)))
  have hsz := Lib.hid hb.size
  clear hp hb h9 hi
  go_wp2_with fail
  refine hf.out.mono ?_
  rintro e w2 ⟨hb2, rfl⟩
  have hb2 := Lib.hid hb2
  go_wp2_with fail
  exact bodyPost_ret (v := .tuple #[.string (readT s).1, .int .i64 (readT s).2]) (by rw [hr.out]; simp [results, Tryz.results119, go_sem]) rfl ⟨hba.out.trans (hb2.out.mono (by have := hsz.out; simp; omega)), rfl⟩

set_option maxRecDepth 100000 in
set_option maxHeartbeats 1000000 in
theorem refDec_any (s : ByteArray) (hs : s.size ≤ 4000000000000) (w : World) : Calls Tryz.prog 83 #[.string s] w (ToldB (decB s) w) := by
 go_enter Tryz.func83, Tryz.ntmps83
 go_wp2_with fail
 refine (refRead_any s hs _).mono ?_
 rintro e w1 ⟨hb, rfl⟩
 have HB := Lib.hid hb
 obtain ⟨r1, H1⟩ := name_itV (readT s).1
 obtain ⟨r2, H2⟩ := name_itV (readT s).2
 rw [H1.out, H2.out]
 have hd := Lib.hid (show decB s = (decide (r2 = 0) && decide (r1 = s)) from by unfold decB; rw [H1.out, H2.out])
 clear hb
 by_cases h2 : r2 = 0
 ·have hf := Lib.hid (show (r1.toList == s.toList) = decB s from by
    rw [hd.out, decide_eq_true h2]
    by_cases h1 : r1 = s
    ·rw [decide_eq_true h1, h1]; simp
    ·rw [decide_eq_false h1, strV_ne h1]; rfl)
  clear H2
  subst h2
  go_wp2_with fail
  go_ret
  exact ⟨ret_b hf.out, HB.out⟩
 ·have hf := Lib.hid (show false = decB s from by rw [hd.out, decide_eq_false h2]; rfl)
  go_wp2_with fail
  go_ret
  exact ⟨ret_b hf.out, HB.out⟩
end Go.Proofs.YtijciakkfpjjbaaGreatDoor
namespace Go.Proofs.YtijciakkfpjjbaaGreatDoor
open Go Go.RowKit Go.Shelf Go.Lib

def ten : List UInt8 := [48, 49, 50, 51, 52, 53, 54, 55, 56, 57]
set_option maxRecDepth 100000 in
set_option maxHeartbeats 1000000 in
theorem trimTen (s : ByteArray) (w : World) (hs : s.size ≤ 9223372036854775807) :
    Calls Tryz.prog 185 #[.string s, .string ⟨#[48, 49, 50, 51, 52, 53, 54, 55, 56, 57]⟩] w fun e w' => e = .returned (.string ⟨(Lib.trimS s.data.toList ten).toArray⟩) ∧ Below w.heap.size w w' := by
 have hcon := Any.strings_Trim_laid Tryz.lays160 (by kernel_rfl) s ⟨#[48, 49, 50, 51, 52, 53, 54, 55, 56, 57]⟩ w hs (by decide) (ascii_of_all (by decide))
 exact hcon
set_option maxRecDepth 100000 in
set_option maxHeartbeats 1000000 in
theorem trimRZero (s : ByteArray) (w : World) (hs : s.size ≤ 9223372036854775807) :
    Calls Tryz.prog 187 #[.string s, .string ⟨#[48]⟩] w fun e w' => e = .returned (.string ⟨(Lib.trimRightS s.data.toList [48]).toArray⟩) ∧ Below w.heap.size w w' := by
 have hcon := Any.strings_TrimRight_laid Tryz.lays162 (by kernel_rfl) s ⟨#[48]⟩ w hs (by decide) (ascii_of_all (by decide))
 exact hcon
set_option maxRecDepth 100000 in
set_option maxHeartbeats 1000000 in
theorem trimLZero (s : ByteArray) (w : World) :
    Calls Tryz.prog 188 #[.string s, .string ⟨#[48]⟩] w fun e w' => e = .returned (.string ⟨(Lib.trimLeftS s.data.toList [48]).toArray⟩) ∧ Below w.heap.size w w' := by
 have hcon := Any.strings_TrimLeft_laid Tryz.lays161 (by kernel_rfl) s ⟨#[48]⟩ w (by decide) (ascii_of_all (by decide))
 exact hcon

/-- Is a text one digit or more? (By what the library's Trim leaves.) -/
def numT (s : ByteArray) : Bool := !s.toList.isEmpty && ((⟨(Lib.trimS s.data.toList ten).toArray⟩ : ByteArray)).toList.isEmpty
set_option maxRecDepth 100000 in
set_option maxHeartbeats 1000000 in
theorem numeral_any (s : ByteArray) (w : World) (hs : s.size ≤ 9223372036854775807) : Calls Tryz.prog 175 #[.string s] w (ToldB (numT s) w) := by
 have ht := trimTen s w hs
 obtain ⟨r, HR⟩ := name_itV (⟨(Lib.trimS s.data.toList ten).toArray⟩ : ByteArray)
 have hn := Lib.hid (show numT s = (!s.toList.isEmpty && r.toList.isEmpty) from by unfold numT; rw [HR.out])
 rw [HR.out] at ht
 have HT := Lib.hid ht
 clear ht
 go_enter Tryz.func175, Tryz.ntmps175
 by_cases h0 : s.toList = []
 ·have hf := Lib.hid (show false = numT s from by rw [hn.out, h0]; rfl)
  go_wp2_with fail
  go_ret
  exact ⟨ret_b hf.out, Below.refl _ _⟩
 ·go_wp2_with (go_at_call 185; refine HT.out.mono ?_; rintro e w' ⟨rfl, hB⟩)
  go_ret
  exact ⟨ret_b hn.out.symm, hB⟩
end Go.Proofs.YtijciakkfpjjbaaGreatDoor
namespace Go.Proofs.YtijciakkfpjjbaaGreatDoor
open Go Go.RowKit Go.Shelf Go.Lib

set_option maxRecDepth 100000 in
set_option maxHeartbeats 1000000 in
theorem prefix_any (s p : ByteArray) (w : World) : Calls Tryz.prog 173 #[.string s, .string p] w fun e w' => e = .returned (.bool (Lib.hasPrefix s.data.toList p.data.toList)) ∧ w' = w :=
 Any.strings_HasPrefix Tryz.lays99 s p w
set_option maxRecDepth 100000 in
set_option maxHeartbeats 1000000 in
theorem cut_any (s p : ByteArray) (m : Int) (w : World) (hs : s.size < 4294967281) (hm : w.cell? ⟨Tryz.lays145_ren.g 1, 0, none⟩ = some (.int .i64 m)) :
    Calls Tryz.prog 174 #[.string s, .string p] w fun e w' => e = .returned (.tuple #[.string ⟨(Lib.cut s.data.toList p.data.toList).1.toArray⟩, .string ⟨(Lib.cut s.data.toList p.data.toList).2.1.toArray⟩, .bool (Lib.cut s.data.toList p.data.toList).2.2]) ∧ ∃ n, w' = w.drewN n :=
 Any.strings_Cut Tryz.lays145 s p m w hs hm

set_option maxRecDepth 100000 in
set_option maxHeartbeats 1000000 in
theorem extraB : Builder.Extra Tryz.prog Tryz.lays105_ren where
 sizeBuilder := by kernel_rfl
 liesBuilder := by kernel_rfl
 t5 := by kernel_rfl
 a5 := fun _ => by kernel_rfl
 z5 := fun _ => by kernel_rfl
 v5 := fun _ => by kernel_rfl
 infoByte := by kernel_rfl
 cellsByte := by kernel_rfl
 sizeByte := by kernel_rfl
 neB5 := by decide

set_option maxRecDepth 100000 in
set_option maxHeartbeats 1000000 in
theorem repeat_any (s : ByteArray) (c : Nat) (w : World) (hc : c ≤ 9223372036854775807) (hlen : s.size * c ≤ 140737488355328) :
    Calls Tryz.prog 186 #[.string s, .int .i64 (c : Int)] w fun e w' => e = .returned (.string ⟨(Lib.repeatL s.data.toList c).toArray⟩) ∧ Below w.heap.size w w' :=
 Any.strings_Repeat Tryz.lays105 extraB s c w hc hlen
end Go.Proofs.YtijciakkfpjjbaaGreatDoor
namespace Go.Proofs.YtijciakkfpjjbaaGreatDoor
open Go Go.RowKit

/-- The digits, with noughts ahead where they are too few. -/
def padT (d : List UInt8) (sc : Nat) : List UInt8 := if d.length ≤ sc then List.replicate (sc + 1 - d.length) 48 ++ d else d
def wholeT (d : List UInt8) (sc : Nat) : List UInt8 := Lib.trimLeftS ((padT d sc).take ((padT d sc).length - sc)) [48]
def partT (d : List UInt8) (sc : Nat) : List UInt8 := Lib.trimRightS ((padT d sc).drop ((padT d sc).length - sc)) [48]
/-- What is told of a sign, digits, and how many of them stand behind the point. -/
def toldT (neg : Bool) (d : List UInt8) (sc : Nat) : List UInt8 × Int :=
 if 40 < (wholeT d sc).length ∨ 20 < (partT d sc).length then ([], 2)
 else if wholeT d sc = [] ∧ partT d sc = [] then ([48, 46, 48], 0)
 else ((if neg = true then [45] else []) ++ (if wholeT d sc = [] then [48] else wholeT d sc) ++ [46] ++ (if partT d sc = [] then [48] else partT d sc), 0)
end Go.Proofs.YtijciakkfpjjbaaGreatDoor
namespace Go.Proofs.YtijciakkfpjjbaaGreatDoor
open Go Go.RowKit

/-- A digit's worth. -/
def valU (c : UInt8) : Nat := c.toNat - 48
def digB (c : UInt8) : Bool := digN c.toNat
theorem digB_iff {c : UInt8} : digB c = true ↔ 48 ≤ c.toNat ∧ c.toNat ≤ 57 := by unfold digB digN; exact decide_eq_true_iff
theorem digU_val {c : UInt8} (h : digB c = true) : digU (valU c) = c := by
 have := digB_iff.1 h
 unfold digU valU
 apply UInt8.toNat_inj.1
 rw [UInt8.toNat_ofNat']
 have : 48 + (c.toNat - 48) = c.toNat := by omega
 rw [this]
 exact Nat.mod_eq_of_lt (by omega)
theorem valU_zero {c : UInt8} (h : digB c = true) : valU c = 0 ↔ c = 48 := by
 have := digB_iff.1 h
 unfold valU
 constructor
 ·intro e; exact UInt8.toNat_inj.1 (by show c.toNat = 48; omega)
 ·intro e; subst e; rfl
theorem ten_contains (c : UInt8) : ten.contains c = digB c := by
 have h : ∀ n : Fin 256, ten.contains (UInt8.ofNat n.val) = digN n.val := by decide +kernel
 have h2 := h ⟨c.toNat, c.toNat_lt⟩
 have e : UInt8.ofNat c.toNat = c := UInt8.ofNat_toNat
 rw [show (⟨c.toNat, c.toNat_lt⟩ : Fin 256).val = c.toNat from rfl, e] at h2
 exact h2
/-- One digit or more. -/
def numL (l : List UInt8) : Bool := !l.isEmpty && l.all digB
theorem dropWhile_nil {α : Type} (p : α → Bool) (l : List α) : l.dropWhile p = [] ↔ l.all p = true := by
 induction l with
 | nil => simp
 | cons c l ih =>
  rw [List.dropWhile_cons]
  cases h : p c
  ·simp [h]
  ·simp [h, ih]
theorem trimS_nil (l cs : List UInt8) : Lib.trimS l cs = [] ↔ l.all (cs.contains ·) = true := by
 unfold Lib.trimS Lib.trimLeftS Lib.trimRightS
 rw [dropWhile_nil, List.all_reverse]
 constructor
 ·intro h
  have h2 : l.reverse.dropWhile (cs.contains ·) = [] := by
   cases hd : l.reverse.dropWhile (cs.contains ·) with
   | nil => rfl
   | cons c r =>
    have := List.head_dropWhile_not (cs.contains ·) (l := l.reverse) (by rw [hd]; simp)
    rw [hd] at h
    have hc : cs.contains c = true := by simp only [List.all_cons, Bool.and_eq_true] at h; exact h.1
    simp only [hd, List.head_cons] at this
    rw [hc] at this; cases this
  have := (dropWhile_nil _ _).1 h2
  rwa [List.all_reverse] at this
 ·intro h
  have : l.reverse.dropWhile (cs.contains ·) = [] := (dropWhile_nil _ _).2 (by rw [List.all_reverse]; exact h)
  rw [this]; rfl
theorem toList_mk (l : List UInt8) : (⟨l.toArray⟩ : ByteArray).data.toList = l := rfl
theorem isEmpty_of_data (s : ByteArray) : s.toList.isEmpty = s.data.toList.isEmpty := by
 rw [show s.toList = s.data.toList from Lib.toList_data s]
theorem numT_eq (s : ByteArray) : numT s = numL s.data.toList := by
 unfold numT numL
 rw [isEmpty_of_data, isEmpty_of_data, toList_mk]
 congr 1
 have h := trimS_nil s.data.toList ten
 have e : (s.data.toList.all (ten.contains ·)) = s.data.toList.all digB := by
  congr 1; funext c; exact ten_contains c
 rw [e] at h
 cases hb : s.data.toList.all digB
 ·rw [hb] at h
  cases ht : Lib.trimS s.data.toList ten
  ·exact absurd (h.1 ht) (by simp)
  ·rfl
 ·rw [hb] at h
  rw [h.2 rfl]; rfl

theorem index_no {l : List UInt8} (h : 46 ∉ l) : Lib.index l [46] = -1 := by
 induction l with
 | nil => rfl
 | cons c l ih =>
  unfold Lib.index
  have hc : (46 : UInt8) ≠ c := fun e => h (by rw [e]; exact List.mem_cons_self)
  have hp : [46].isPrefixOf (c :: l) = false := by simp [List.isPrefixOf, hc]
  rw [hp, ih (fun e => h (List.mem_cons_of_mem _ e))]
  rfl
theorem index_yes {a b : List UInt8} (h : 46 ∉ a) : Lib.index (a ++ 46 :: b) [46] = a.length := by
 induction a with
 | nil => show Lib.index (46 :: b) [46] = _; unfold Lib.index; simp [List.isPrefixOf]
 | cons c a ih =>
  show Lib.index (c :: (a ++ 46 :: b)) [46] = _
  unfold Lib.index
  have hc : (46 : UInt8) ≠ c := fun e => h (by rw [e]; exact List.mem_cons_self)
  have hp : [46].isPrefixOf (c :: (a ++ 46 :: b)) = false := by simp [List.isPrefixOf, hc]
  rw [hp, ih (fun e => h (List.mem_cons_of_mem _ e))]
  have : ((a.length : Int) == -1) = false := by rw [beq_eq_false_iff_ne]; omega
  rw [this]
  simp
theorem cut_no {l : List UInt8} (h : 46 ∉ l) : Lib.cut l [46] = (l, [], false) := by
 unfold Lib.cut
 rw [index_no h]
 rfl
theorem cut_yes {a b : List UInt8} (h : 46 ∉ a) : Lib.cut (a ++ 46 :: b) [46] = (a, b, true) := by
 unfold Lib.cut
 rw [index_yes h, if_pos (by omega)]
 simp
theorem split_dot (l : List UInt8) : 46 ∉ l ∨ ∃ a b, l = a ++ 46 :: b ∧ 46 ∉ a := by
 induction l with
 | nil => exact .inl (by simp)
 | cons c l ih =>
  by_cases hc : c = 46
  ·exact .inr ⟨[], l, by rw [hc]; rfl, by simp⟩
  ·rcases ih with h | ⟨a, b, h, ha⟩
   ·exact .inl (fun e => by rcases List.mem_cons.1 e with e | e; exact hc e.symm; exact h e)
   ·exact .inr ⟨c :: a, b, by rw [h]; rfl, fun e => by rcases List.mem_cons.1 e with e | e; exact hc e.symm; exact ha e⟩
theorem pointF_some (l : List UInt8) : ∀ (i j : Nat), pointF l i (some j) = cond (l.all digB) (some (some j)) none := by
 induction l with
 | nil => intro i j; rfl
 | cons c l ih =>
  intro i j
  unfold pointF
  rw [show (c == 46 && (some j).isNone) = false by simp]
  simp only [ih]
  show cond false _ (cond (digB c) _ _) = _
  rw [List.all_cons]
  cases digB c <;> rfl
theorem pointF_no (l : List UInt8) (h : 46 ∉ l) : ∀ (i : Nat), pointF l i none = cond (l.all digB) (some none) none := by
 induction l with
 | nil => intro i; rfl
 | cons c l ih =>
  intro i
  unfold pointF
  have hc : (c == 46) = false := beq_eq_false_iff_ne.2 (fun e => h (by rw [e]; exact List.mem_cons_self))
  rw [hc, ih (fun e => h (List.mem_cons_of_mem _ e))]
  show cond (digB c) _ _ = _
  rw [List.all_cons]
  cases digB c <;> rfl
theorem pointF_yes (a b : List UInt8) (h : 46 ∉ a) : ∀ (i : Nat), pointF (a ++ 46 :: b) i none = cond (a.all digB && b.all digB) (some (some (i + a.length))) none := by
 induction a with
 | nil =>
  intro i
  show pointF (46 :: b) i none = _
  unfold pointF
  rw [show ((46 : UInt8) == 46 && (none : Option Nat).isNone) = true by rfl]
  rw [pointF_some]
  rfl
 | cons c a ih =>
  intro i
  show pointF (c :: (a ++ 46 :: b)) i none = _
  unfold pointF
  have hc : (c == 46) = false := beq_eq_false_iff_ne.2 (fun e => h (by rw [e]; exact List.mem_cons_self))
  rw [hc, ih (fun e => h (List.mem_cons_of_mem _ e))]
  show cond (digB c) _ _ = _
  rw [List.all_cons, show i + 1 + a.length = i + (c :: a).length by simp; omega]
  cases digB c <;> rfl
theorem digs_no {l : List UInt8} (h : 46 ∉ l) : digsD l = (l.map valU).reverse := by
 induction l with
 | nil => rfl
 | cons c l ih =>
  unfold digsD
  have hc : (c == 46) = false := beq_eq_false_iff_ne.2 (fun e => h (by rw [e]; exact List.mem_cons_self))
  rw [hc, ih (fun e => h (List.mem_cons_of_mem _ e))]
  simp [valU]
theorem digs_app (a b : List UInt8) : digsD (a ++ b) = digsD b ++ digsD a := by
 induction a with
 | nil => simp [digsD]
 | cons c a ih => simp [digsD, ih]
theorem no46 {l : List UInt8} (h : l.all digB = true) : 46 ∉ l := fun e => by
 have := List.all_eq_true.1 h _ e
 cases this
theorem digs_yes {a b : List UInt8} (ha : a.all digB = true) (hb : b.all digB = true) : digsD (a ++ 46 :: b) = ((a ++ b).map valU).reverse := by
 rw [digs_app, digs_no (no46 ha)]
 show (digsD b ++ []) ++ _ = _
 rw [digs_no (no46 hb)]
 simp
/-- The places of digits, the lowest first. -/
def revD (d : List UInt8) : List Nat := (d.map valU).reverse
theorem revD_length (d : List UInt8) : (revD d).length = d.length := by simp [revD]
theorem atD_rev (d : List UInt8) {i : Nat} (h : i < d.length) : atD (revD d) i = valU (d[d.length - 1 - i]'(by omega)) := by
 unfold atD revD
 rw [List.getElem?_reverse (by simpa using h)]
 simp only [List.length_map, List.getElem?_map]
 rw [List.getElem?_eq_getElem (by omega)]
 rfl
theorem atD_a (a b : List UInt8) {i : Nat} (h : i < a.length) : atD (revD (a ++ b)) (b.length + i) = valU (a[a.length - 1 - i]'(by omega)) := by
 rw [atD_rev _ (by simp; omega)]
 congr 1
 rw [List.getElem_append_left (by simp; omega)]
 congr 1
 simp; omega
theorem atD_b (a b : List UInt8) {i : Nat} (h : i < b.length) : atD (revD (a ++ b)) i = valU (b[b.length - 1 - i]'(by omega)) := by
 rw [atD_rev _ (by simp; omega)]
 congr 1
 rw [List.getElem_append_right (by simp; omega)]
 congr 1
 simp; omega
def zeroB (c : UInt8) : Bool := [48].contains c
theorem zeroB_iff {c : UInt8} : zeroB c = true ↔ c = 48 := by unfold zeroB; simp
theorem high_aux (D : List Nat) (S : Nat) : ∀ a : List UInt8, a.all digB = true → (∀ (i : Nat) (h : i < a.length), atD D (S + i) = valU (a[a.length - 1 - i]'(by omega))) →
    max (highF D S (S + a.length)) (S + 1) = S + max 1 (a.dropWhile zeroB).length := by
 intro a
 induction a with
 | nil => intro _ _; have := highF_le D S (S + 0); simp at this ⊢; omega
 | cons c a ih =>
  intro hd ha
  rw [List.all_cons, Bool.and_eq_true] at hd
  have h0 := ha a.length (by simp)
  have h0 : atD D (S + a.length) = valU c := by rw [h0]; simp
  rw [show S + (c :: a).length = (S + a.length) + 1 by simp; omega]
  unfold highF
  rw [h0, List.dropWhile_cons]
  have hz := valU_zero hd.1
  by_cases hc : c = 48
  ·rw [if_pos (zeroB_iff.2 hc)]
   cases a with
   | nil =>
    rw [if_neg (by simp)]
    simp
   | cons e a =>
    rw [if_pos ⟨by simp, hz.2 hc⟩]
    refine ih hd.2 (fun i h => ?_)
    rw [ha i (by simp at h ⊢; omega)]
    congr 1
    rw [List.getElem_cons]
    rw [dif_neg (by simp at h ⊢; omega)]
    congr 1
    simp at h ⊢; omega
  ·rw [if_neg (fun e => hc (hz.1 e.2)), if_neg (fun e => hc (zeroB_iff.1 e))]
   simp; omega
theorem low_aux (D : List Nat) (S : Nat) : ∀ (r : List UInt8) (k : Nat), r.all digB = true → k + r.length = S → (∀ (i : Nat) (h : i < r.length), atD D (k + i) = valU r[i]) →
    lowF D S r.length k = S - (r.dropWhile zeroB).length := by
 intro r
 induction r with
 | nil => intro k _ hk _; simp [lowF] at hk ⊢; omega
 | cons c r ih =>
  intro k hd hk ha
  rw [List.all_cons, Bool.and_eq_true] at hd
  have h0 : atD D k = valU c := ha 0 (by simp)
  have hz := valU_zero hd.1
  show lowF D S (r.length + 1) k = _
  unfold lowF
  rw [h0, List.dropWhile_cons]
  simp only [List.length_cons] at hk
  by_cases hc : c = 48
  ·rw [if_pos (zeroB_iff.2 hc), if_pos ⟨by omega, hz.2 hc⟩]
   refine ih (k + 1) hd.2 (by omega) (fun i h => ?_)
   have := ha (i + 1) (by simp; omega)
   rw [show k + (i + 1) = k + 1 + i by omega] at this
   rw [this]; rfl
  ·rw [if_neg (fun e => hc (hz.1 e.2)), if_neg (fun e => hc (zeroB_iff.1 e))]
   simp; omega
theorem down_aux (D : List Nat) (lo : Nat) : ∀ a : List UInt8, a.all digB = true → (∀ (i : Nat) (h : i < a.length), atD D (lo + i) = valU (a[a.length - 1 - i]'(by omega))) → downD D (lo + a.length) lo = a := by
 intro a hd ha
 unfold downD
 rw [show lo + a.length - lo = a.length by omega]
 refine List.ext_getElem (by simp) (fun i h1 h2 => ?_)
 simp only [List.getElem_map, List.getElem_range]
 rw [show lo + a.length - 1 - i = lo + (a.length - 1 - i) by omega, ha _ (by omega)]
 have e : a[a.length - 1 - (a.length - 1 - i)]'(by omega) = a[i] := by congr 1; omega
 rw [e]
 exact digU_val (List.all_eq_true.1 hd _ (List.getElem_mem h2))
theorem drop_while_suffix (p : UInt8 → Bool) (a : List UInt8) : a.dropWhile p = a.drop (a.length - (a.dropWhile p).length) := by
 induction a with
 | nil => rfl
 | cons c a ih =>
  rw [List.dropWhile_cons]
  by_cases h : p c = true
  ·rw [if_pos h]
   have : (a.dropWhile p).length ≤ a.length := by rw [ih]; simp
   rw [show (c :: a).length - (a.dropWhile p).length = (a.length - (a.dropWhile p).length) + 1 by simp; omega]
   exact ih
  ·rw [if_neg h]; simp
theorem all_zero {a : List UInt8} (hd : a.all digB = true) : a.all zeroB = (a.map valU).all (· == 0) := by
 induction a with
 | nil => rfl
 | cons c a ih =>
  rw [List.all_cons, Bool.and_eq_true] at hd
  rw [List.map_cons, List.all_cons, List.all_cons, ih hd.2]
  congr 1
  have hz := valU_zero hd.1
  rw [Bool.eq_iff_iff, zeroB_iff, beq_iff_eq]
  exact hz.symm
theorem form_told (neg : Bool) (a b : List UInt8) (ha : numL a = true) (hb : b.all digB = true) :
    ((⟨(toldT neg (a ++ b) b.length).1.toArray⟩ : ByteArray), (toldT neg (a ++ b) b.length).2) = (cond (formOut (revD (a ++ b)) b.length) ⟨#[]⟩ (formT neg (revD (a ++ b)) b.length), cond (formOut (revD (a ++ b)) b.length) 2 0) := by
 obtain ⟨hne, hda⟩ : a ≠ [] ∧ a.all digB = true := by
  unfold numL at ha
  rw [Bool.and_eq_true] at ha
  exact ⟨by rintro rfl; simp at ha, ha.2⟩
 have hapos : 0 < a.length := List.length_pos_iff.2 hne
 have hpad : padT (a ++ b) b.length = a ++ b := by unfold padT; rw [if_neg (by simp; omega)]
 have hlen : (a ++ b).length - b.length = a.length := by simp
 have hw : wholeT (a ++ b) b.length = a.dropWhile zeroB := by
  unfold wholeT
  rw [hpad, hlen]
  simp only [List.take_left']
  rfl
 have hp : partT (a ++ b) b.length = (b.reverse.dropWhile zeroB).reverse := by
  unfold partT
  rw [hpad, hlen]
  simp only [List.drop_left']
  rfl
 have hA : ∀ (i : Nat) (h : i < a.length), atD (revD (a ++ b)) (b.length + i) = valU (a[a.length - 1 - i]'(by omega)) := fun i h => atD_a a b h
 have hB : ∀ (i : Nat) (h : i < b.length), atD (revD (a ++ b)) i = valU (b[b.length - 1 - i]'(by omega)) := fun i h => atD_b a b h
 have hhigh : highD (revD (a ++ b)) b.length = b.length + max 1 (a.dropWhile zeroB).length := by
  unfold highD
  rw [revD_length, show (a ++ b).length = b.length + a.length by simp; omega]
  exact high_aux _ _ a hda hA
 have hlow : lowD (revD (a ++ b)) b.length = b.length - (b.reverse.dropWhile zeroB).length := by
  unfold lowD
  have := low_aux (revD (a ++ b)) b.length b.reverse 0 (by rw [List.all_reverse]; exact hb) (by simp) (fun i h => by
   rw [Nat.zero_add, hB i (by simpa using h)]
   congr 1
   rw [List.getElem_reverse])
  simpa using this
 have hbl : (b.reverse.dropWhile zeroB).length ≤ b.length := by
  rw [drop_while_suffix]; simp
 have hal : (a.dropWhile zeroB).length ≤ a.length := by
  rw [drop_while_suffix]; simp
 have hout : formOut (revD (a ++ b)) b.length = decide (40 < (a.dropWhile zeroB).length ∨ 20 < (b.reverse.dropWhile zeroB).length) := by
  unfold formOut
  rw [hhigh, hlow, Bool.eq_iff_iff, Bool.or_eq_true, decide_eq_true_iff, decide_eq_true_iff, decide_eq_true_iff]
  omega
 have hzero : zeroD (revD (a ++ b)) = (decide (a.dropWhile zeroB = []) && decide (b.reverse.dropWhile zeroB = [])) := by
  unfold zeroD revD
  rw [List.all_reverse, ← all_zero (by rw [List.all_append, hda, hb]; rfl), List.all_append, Bool.eq_iff_iff, Bool.and_eq_true, Bool.and_eq_true, decide_eq_true_iff, decide_eq_true_iff, dropWhile_nil, dropWhile_nil, List.all_reverse]
 have hdown1 : downD (revD (a ++ b)) (b.length + max 1 (a.dropWhile zeroB).length) b.length = if a.dropWhile zeroB = [] then [48] else a.dropWhile zeroB := by
  have key : ∀ c : List UInt8, (∃ e, a = e ++ c) → downD (revD (a ++ b)) (b.length + c.length) b.length = c := fun c hc => by
   obtain ⟨e, he⟩ := hc
   refine down_aux _ _ c ?_ (fun i h => ?_)
   ·rw [he, List.all_append, Bool.and_eq_true] at hda; exact hda.2
   ·rw [hA i (by rw [he]; simp; omega)]
    congr 1
    subst he
    rw [List.getElem_append_right (by simp; omega)]
    congr 1
    simp; omega
  by_cases hn : a.dropWhile zeroB = []
  ·rw [if_pos hn, hn]
   have haz := (dropWhile_nil _ _).1 hn
   obtain ⟨e, c, he⟩ : ∃ e c, a = e ++ [c] := ⟨a.dropLast, a.getLast hne, (List.dropLast_concat_getLast hne).symm⟩
   have hc : c = 48 := zeroB_iff.1 (List.all_eq_true.1 haz c (by rw [he]; simp))
   have := key [c] ⟨e, he⟩
   rw [hc] at this
   exact this
  ·rw [if_neg hn]
   have hpos := List.length_pos_iff.2 hn
   rw [show max 1 (a.dropWhile zeroB).length = (a.dropWhile zeroB).length by omega]
   exact key _ ⟨a.takeWhile zeroB, List.takeWhile_append_dropWhile.symm⟩
 have hdown2 : downD (revD (a ++ b)) b.length (b.length - (b.reverse.dropWhile zeroB).length) = (b.reverse.dropWhile zeroB).reverse := by
  obtain ⟨c, e, hbe, hcr⟩ : ∃ c e, b = c ++ e ∧ c = (b.reverse.dropWhile zeroB).reverse := ⟨(b.reverse.dropWhile zeroB).reverse, (b.reverse.takeWhile zeroB).reverse, by
   rw [← List.reverse_append, List.takeWhile_append_dropWhile, List.reverse_reverse], rfl⟩
  have hcl : (b.reverse.dropWhile zeroB).length = c.length := by rw [hcr]; simp
  rw [← hcr, hcl]
  have hbl2 : b.length = c.length + e.length := by rw [hbe]; simp
  have := down_aux (revD (a ++ b)) (b.length - c.length) c (by rw [hbe, List.all_append, Bool.and_eq_true] at hb; exact hb.1) (fun i h => by
   rw [hB _ (by omega)]
   congr 1
   have : b[b.length - 1 - (b.length - c.length + i)]'(by omega) = (c ++ e)[b.length - 1 - (b.length - c.length + i)]'(by simp; omega) := by congr 1
   rw [this, List.getElem_append_left (by omega)]
   congr 1
   omega)
  rwa [show b.length - c.length + c.length = b.length by omega] at this
 rw [hout]
 unfold toldT
 rw [hw, hp]
 simp only [List.length_reverse, List.reverse_eq_nil_iff]
 by_cases h1 : 40 < (a.dropWhile zeroB).length ∨ 20 < (b.reverse.dropWhile zeroB).length
 ·rw [if_pos h1, decide_eq_true h1]; rfl
 ·rw [if_neg h1, decide_eq_false h1]
  unfold formT
  rw [hzero, hhigh, hlow, hdown1, hdown2]
  have hls : decide (b.length - (b.reverse.dropWhile zeroB).length = b.length) = decide (b.reverse.dropWhile zeroB = []) := by
   rw [decide_eq_decide]
   constructor
   ·intro h
    by_cases hb0 : b.length = 0
    ·have : b = [] := List.eq_nil_of_length_eq_zero hb0
     subst this; rfl
    ·exact List.eq_nil_of_length_eq_zero (by omega)
   ·intro h; rw [h]; rfl
  rw [hls]
  by_cases hwn : a.dropWhile zeroB = [] <;> by_cases hpn : b.reverse.dropWhile zeroB = []
  ·rw [if_pos ⟨hwn, hpn⟩]
   simp [hwn, hpn]
  ·rw [if_neg (fun h => hpn h.2)]
   cases neg <;> simp [hwn, hpn]
  ·rw [if_neg (fun h => hwn h.1)]
   cases neg <;> simp [hwn, hpn]
  ·rw [if_neg (fun h => hwn h.1)]
   cases neg <;> simp [hwn, hpn]

/-- What the program reads a text as, and the error's number. -/
def progT (s : ByteArray) : List UInt8 × Int :=
 let c := Lib.cut (sgnT s).data.toList [46]
 if numL c.1 = true ∧ (c.2.2 = true → numL c.2.1 = true) then toldT (sgnB s) (c.1 ++ c.2.1) c.2.1.length else ([], 6)
theorem prog_read (s : ByteArray) : ((⟨(progT s).1.toArray⟩ : ByteArray), (progT s).2) = readT s := by
 unfold progT readT parseT
 have hsz := data_len (sgnT s)
 generalize hl : (sgnT s).data.toList = l at hsz
 rw [← hsz]
 simp only
 rcases split_dot l with h | ⟨a, b, h, hab⟩
 ·rw [cut_no h, pointF_no l h]
  cases hd : l.all digB
  ·rw [if_neg (by intro e; have := e.1; unfold numL at this; rw [hd] at this; simp at this)]
   rfl
  ·simp only [cond_true]
   by_cases h0 : l = []
   ·subst h0; rfl
   ·have hn : numL l = true := by unfold numL; rw [hd]; cases l <;> simp_all
    rw [if_pos ⟨hn, fun e => by cases e⟩]
    have hlp := List.length_pos_iff.2 h0
    rw [show (decide (l.length = 0) || (none : Option Nat) == some 0 || (none : Option Nat) == some (l.length - 1)) = false by
     rw [decide_eq_false (by omega)]; rfl]
    have := form_told (sgnB s) l [] hn rfl
    rw [digs_no (no46 hd)]
    simp only [List.append_nil, List.length_nil] at this ⊢
    exact this
 ·rw [h, cut_yes hab, pointF_yes a b hab]
  by_cases hd : (a.all digB && b.all digB) = true
  ·obtain ⟨hda, hdb⟩ := Bool.and_eq_true_iff.1 hd
   rw [hda, hdb]
   simp only [Bool.and_self, cond_true, Nat.zero_add]
   have e1 : (decide ((a ++ 46 :: b).length = 0) || (some a.length == some 0) || (some a.length == some ((a ++ 46 :: b).length - 1))) = (decide (a = []) || decide (b = [])) := by
    rw [Bool.eq_iff_iff]
    simp only [Bool.or_eq_true, decide_eq_true_iff, List.length_append, List.length_cons, beq_iff_eq, Option.some.injEq, ← List.length_eq_zero_iff]
    omega
   rw [e1]
   by_cases ha0 : a = []
   ·rw [if_neg (by rintro ⟨e, _⟩; subst ha0; cases e)]
    rw [decide_eq_true ha0]; rfl
   ·by_cases hb0 : b = []
    ·rw [if_neg (by rintro ⟨_, e⟩; subst hb0; exact absurd (e trivial) (by decide))]
     simp [hb0]
    ·have hna : numL a = true := by unfold numL; rw [hda]; cases a <;> simp_all
     have hnb : numL b = true := by unfold numL; rw [hdb]; cases b <;> simp_all
     rw [if_pos ⟨hna, fun _ => hnb⟩, decide_eq_false ha0, decide_eq_false hb0]
     simp only [Bool.or_self, cond_false]
     rw [digs_yes hda hdb]
     have e2 : scaleP (a ++ 46 :: b).length (some a.length) = b.length := by unfold scaleP; simp
     rw [e2]
     exact form_told (sgnB s) a b hna hdb
  ·have hd : (a.all digB && b.all digB) = false := by simpa using hd
   rw [hd]
   simp only [cond_false]
   rw [if_neg]
   rintro ⟨e1, e2⟩
   have e2 := e2 trivial
   unfold numL at e1 e2
   rw [Bool.and_eq_true] at e1 e2
   rw [e1.2, e2.2] at hd
   cases hd
end Go.Proofs.YtijciakkfpjjbaaGreatDoor
namespace Go.Proofs.YtijciakkfpjjbaaGreatDoor

/-- What a word holds. -/
def bW : Nat := 1000000000
/-- The amount that the first words say, the lowest first. -/
def pv (f : Nat → Nat) : Nat → Nat
 | 0 => 0
 | i + 1 => pv f i + f i * bW ^ i
theorem pv_congr {f g : Nat → Nat} {n : Nat} (h : ∀ i, i < n → f i = g i) : pv f n = pv g n := by
 induction n with
 | zero => rfl
 | succ n ih => rw [pv, pv, ih (fun i hi => h i (by omega)), h n (by omega)]
theorem pv_lt {f : Nat → Nat} {n : Nat} (h : ∀ i, i < n → f i < bW) : pv f n < bW ^ n := by
 induction n with
 | zero => simp [pv]
 | succ n ih =>
  have h1 := ih (fun i hi => h i (by omega))
  have h2 := h n (by omega)
  rw [pv, Nat.pow_succ]
  have h3 : (f n + 1) * bW ^ n ≤ bW * bW ^ n := Nat.mul_le_mul_right _ h2
  rw [Nat.succ_mul] at h3
  rw [Nat.mul_comm (bW ^ n) bW]
  omega
/-- One word more, added with a carry. -/
theorem pv_add {f g o : Nat → Nat} {i c : Nat} (h : pv o i + c * bW ^ i = pv f i + pv g i) (ho : o i = (f i + g i + c) % bW) :
    pv o (i + 1) + (f i + g i + c) / bW * bW ^ (i + 1) = pv f (i + 1) + pv g (i + 1) := by
 have e := Nat.div_add_mod (f i + g i + c) bW
 have e2 : (o i + bW * ((f i + g i + c) / bW)) * bW ^ i = (f i + g i + c) * bW ^ i := by
  rw [ho, Nat.add_comm, e]
 rw [pv, pv, pv, Nat.pow_succ]
 rw [Nat.add_mul, Nat.mul_assoc] at e2
 rw [Nat.add_mul, Nat.add_mul] at e2
 have e3 : (f i + g i + c) / bW * (bW ^ i * bW) = bW * ((f i + g i + c) / bW * bW ^ i) := by
  rw [← Nat.mul_assoc, Nat.mul_comm]
 rw [e3]
 omega
/-- One word more, taken away with a borrow. -/
theorem pv_sub {f g o : Nat → Nat} {i b : Nat} (h : pv o i + pv g i = pv f i + b * bW ^ i) (hg : g i < bW) (hb : b ≤ 1) (hf : f i < bW) (ho : o i = (f i + bW - g i - b) % bW) :
    pv o (i + 1) + pv g (i + 1) = pv f (i + 1) + (1 - (f i + bW - g i - b) / bW) * bW ^ (i + 1) ∧ (f i + bW - g i - b) / bW ≤ 1 := by
 have hx : f i + bW - g i - b < bW * 2 := by omega
 have e := Nat.div_add_mod (f i + bW - g i - b) bW
 have hd : (f i + bW - g i - b) / bW ≤ 1 := Nat.le_of_lt_succ (Nat.div_lt_of_lt_mul hx)
 refine ⟨?_, hd⟩
 have e4 : o i + g i + b = f i + (1 - (f i + bW - g i - b) / bW) * bW := by
  rw [ho]
  rcases Nat.lt_or_ge ((f i + bW - g i - b) / bW) 1 with h1 | h1
  ·have h2 : (f i + bW - g i - b) / bW = 0 := Nat.lt_one_iff.1 h1
   rw [h2] at e ⊢
   omega
  ·have h2 : (f i + bW - g i - b) / bW = 1 := Nat.le_antisymm hd h1
   rw [h2] at e ⊢
   omega
 rw [pv, pv, pv, Nat.pow_succ]
 have e5 := congrArg (· * bW ^ i) e4
 simp only [Nat.add_mul, Nat.mul_assoc] at e5
 have e6 : (1 - (f i + bW - g i - b) / bW) * (bW ^ i * bW) = (1 - (f i + bW - g i - b) / bW) * (bW * bW ^ i) := by rw [Nat.mul_comm (bW ^ i)]
 rw [e6]
 omega
/-- The borrow at the end is none where less is taken away. -/
theorem pv_sub_end {f g o : Nat → Nat} {n b : Nat} (h : pv o n + pv g n = pv f n + b * bW ^ n) (ho : ∀ i, i < n → o i < bW) (hle : pv g n ≤ pv f n) : pv o n = pv f n - pv g n := by
 have h1 := pv_lt ho
 rcases Nat.eq_zero_or_pos b with h2 | h2
 ·subst h2; omega
 ·have h3 : 1 * bW ^ n ≤ b * bW ^ n := Nat.mul_le_mul_right _ h2
  omega
/-- The highest word that is not the same decides. -/
theorem pv_cmp {f g : Nat → Nat} {n i : Nat} (hf : ∀ j, j < n → f j < bW) (hi : i < n) (he : ∀ j, i < j → j < n → f j = g j) (hlt : f i < g i) : pv f n < pv g n := by
 induction n with
 | zero => omega
 | succ n ih =>
  rw [pv, pv]
  by_cases e : i = n
  ·subst e
   have h1 := pv_lt (f := f) (n := i) (fun j hj => hf j (by omega))
   have h2 : (f i + 1) * bW ^ i ≤ g i * bW ^ i := Nat.mul_le_mul_right _ hlt
   rw [Nat.succ_mul] at h2
   omega
  ·have := ih (fun j hj => hf j (by omega)) (by omega) (fun j h1 h2 => he j h1 (by omega))
   rw [he n (by omega) (by omega)]
   omega
/-- The amount that digits say. -/
def digV : List UInt8 → Nat := fun l => l.foldl (fun n c => n * 10 + (c.toNat - 48)) 0
theorem dig_snoc (l : List UInt8) (c : UInt8) : digV (l ++ [c]) = digV l * 10 + (c.toNat - 48) := by simp [digV]
theorem dig_from (m : List UInt8) : ∀ n : Nat, m.foldl (fun n c => n * 10 + (c.toNat - 48)) n = n * 10 ^ m.length + digV m := by
 induction m with
 | nil => intro n; simp [digV]
 | cons c r ih =>
  intro n
  have h1 := ih (n * 10 + (c.toNat - 48))
  have h2 := ih (0 * 10 + (c.toNat - 48))
  rw [List.foldl_cons, h1]
  show _ = n * 10 ^ (r.length + 1) + (c :: r).foldl (fun n c => n * 10 + (c.toNat - 48)) 0
  rw [List.foldl_cons, h2, Nat.pow_succ, Nat.add_mul, Nat.mul_assoc, Nat.mul_comm 10, Nat.zero_mul, Nat.zero_add, Nat.add_assoc]
theorem dig_append (l m : List UInt8) : digV (l ++ m) = digV l * 10 ^ m.length + digV m := by
 unfold digV
 rw [List.foldl_append]
 exact dig_from m _
end Go.Proofs.YtijciakkfpjjbaaGreatDoor
namespace Go.Proofs.YtijciakkfpjjbaaGreatDoor

/-- A decimal's parts: its sign, the digits ahead of the point, those behind it. -/
structure DecS (s : ByteArray) (neg : Bool) (a b : List UInt8) : Prop where
 eq : s.data.toList = cond neg [45] [] ++ (a ++ 46 :: b)
 la : 1 ≤ a.length ∧ a.length ≤ 40
 lb : 1 ≤ b.length ∧ b.length ≤ 20
 da : a.all digB = true
 db : b.all digB = true
theorem down_dig {D : List Nat} (h9 : ∀ i, atD D i ≤ 9) (hi lo : Nat) : (downD D hi lo).all digB = true := by
 rw [List.all_eq_true]
 intro c hc
 obtain ⟨j, _, rfl⟩ := List.mem_map.1 hc
 rw [digB_iff, digU_nat (h9 _)]
 have := h9 (hi - 1 - j)
 omega
theorem dec_shape {s : ByteArray} (h : decB s = true) : ∃ neg a b, DecS s neg a b := by
 unfold decB at h
 rw [Bool.and_eq_true, decide_eq_true_iff, decide_eq_true_iff] at h
 obtain ⟨h1, h2⟩ := h
 cases hp : parseT s with
 | none =>
  unfold readT at h1
  rw [hp] at h1
  cases h1
 | some q =>
  obtain ⟨neg, D, S⟩ := q
  have h9 := (parse_some hp).1
  unfold readT at h1 h2
  rw [hp] at h1 h2
  simp only at h1 h2
  cases ho : formOut D S with
  | true => rw [ho] at h1; cases h1
  | false =>
   rw [ho] at h2
   simp only [cond_false] at h2
   unfold formOut at ho
   rw [Bool.or_eq_false_iff, decide_eq_false_iff_not, decide_eq_false_iff_not] at ho
   have hhi : S + 1 ≤ highD D S := Nat.le_max_right _ _
   have hlo : lowD D S ≤ S := lowF_le D S S 0 (by omega)
   refine ⟨neg && !zeroD D, downD D (highD D S) S, downD D S (lowD D S) ++ cond (decide (lowD D S = S)) [48] [], ?_, ?_, ?_, down_dig h9 _ _, ?_⟩
   ·rw [← h2]
    show (formT neg D S).data.toList = _
    unfold formT
    simp [List.append_assoc]
   ·rw [downD_length]; omega
   ·rw [List.length_append, downD_length]
    by_cases e : lowD D S = S
    ·rw [decide_eq_true e]
     simp only [cond_true, List.length_singleton]
     omega
    ·rw [decide_eq_false e]
     simp only [cond_false, List.length_nil]
     omega
   ·rw [List.all_append, down_dig h9, Bool.true_and]
    by_cases e : lowD D S = S
    ·rw [decide_eq_true e]; rfl
    ·rw [decide_eq_false e]; rfl
/-- What a decimal says, in units of its twentieth place. -/
def decN (s : ByteArray) : Int :=
 let l := s.data.toList
 let neg := l.head? == some 45
 let r := cond neg l.tail l
 let m : Int := ((digV (r.takeWhile (· != 46) ++ (r.dropWhile (· != 46)).tail) * 10 ^ (20 - ((r.dropWhile (· != 46)).tail).length) : Nat) : Int)
 cond neg (-m) m
theorem take_dot {a b : List UInt8} (h : 46 ∉ a) : (a ++ 46 :: b).takeWhile (· != 46) = a ∧ (a ++ 46 :: b).dropWhile (· != 46) = 46 :: b := by
 induction a with
 | nil => simp
 | cons c r ih =>
  have hc : (c != 46) = true := by
   rw [bne_iff_ne]
   exact fun e => h (by rw [e]; exact List.mem_cons_self ..)
  have h2 := ih (fun hm => h (List.mem_cons_of_mem _ hm))
  simp [hc, h2.1, h2.2]
theorem decN_of {s : ByteArray} {neg : Bool} {a b : List UInt8} (h : DecS s neg a b) : decN s = cond neg (-((digV (a ++ b) * 10 ^ (20 - b.length) : Nat) : Int)) ((digV (a ++ b) * 10 ^ (20 - b.length) : Nat) : Int) := by
 have h46 := no46 h.da
 have hne : (a ++ 46 :: b).head? ≠ some 45 := by
  cases a with
  | nil => exact absurd h.la.1 (by simp)
  | cons c r =>
   intro e
   have e2 : c = 45 := by simpa using e
   have h1 := h.da
   rw [List.all_cons, Bool.and_eq_true, digB_iff, e2] at h1
   have := h1.1.1
   revert this
   decide
 obtain ⟨t1, t2⟩ := take_dot (b := b) h46
 unfold decN
 simp only [h.eq]
 cases neg with
 | true => simp [t1, t2]
 | false =>
  simp only [cond_false, List.nil_append]
  have hb : ((a ++ 46 :: b).head? == some 45) = false := beq_eq_false_iff_ne.2 hne
  rw [hb]
  simp only [cond_false]
  rw [t1, t2]
  rfl
/-- Which of two decimals is the lesser. -/
def cmpD (a b : ByteArray) : Int := if decN a < decN b then -1 else if decN b < decN a then 1 else 0
theorem dig_zeros (k : Nat) : digV (List.replicate k 48) = 0 := by
 induction k with
 | zero => rfl
 | succ k ih =>
  rw [List.replicate_succ', dig_snoc, ih]
  rfl
theorem dig_pad (l : List UInt8) (k : Nat) : digV (l ++ List.replicate k 48) = digV l * 10 ^ k := by
 rw [dig_append, dig_zeros, List.length_replicate, Nat.add_zero]
/-- A word of digits taken from behind. -/
theorem pv_chunk {w : Nat → Nat} {l r : List UInt8} {i : Nat} (h : pv w i + digV r * bW ^ i = digV l) (hw : w i = digV (r.drop (r.length - 9))) : pv w (i + 1) + digV (r.take (r.length - 9)) * bW ^ (i + 1) = digV l := by
 have e := dig_append (r.take (r.length - 9)) (r.drop (r.length - 9))
 rw [List.take_append_drop, ← hw] at e
 have e2 : digV (r.take (r.length - 9)) * 10 ^ (r.drop (r.length - 9)).length = digV (r.take (r.length - 9)) * bW := by
  rcases Nat.lt_or_ge r.length 9 with h1 | h1
  ·have h2 : r.length - 9 = 0 := by omega
   rw [h2, List.take_zero]
   simp [digV]
  ·have h2 : (r.drop (r.length - 9)).length = 9 := by rw [List.length_drop]; omega
   rw [h2]; rfl
 rw [e2] at e
 rw [pv, Nat.pow_succ, ← h, e, Nat.add_mul, Nat.mul_assoc, Nat.mul_comm (bW ^ i) bW]
 omega
end Go.Proofs.YtijciakkfpjjbaaGreatDoor
