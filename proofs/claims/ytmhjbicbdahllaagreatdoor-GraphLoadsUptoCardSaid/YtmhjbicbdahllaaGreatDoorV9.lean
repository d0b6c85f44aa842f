/- The reference's decimals: a number's text. -/
import Derived.Test.YtmhjbicbdahllaaGreatDoorV8
namespace Go.Proofs.YtmhjbicbdahllaaGreatDoor
open Go Go.RowKit Go.Maps Go.WideMaps

/-- The least place behind the point that is told. -/
def lowF (D : List Nat) (S : Nat) : Nat → Nat → Nat
  | 0, k => k
  | f + 1, k => if k < S ∧ atD D k = 0 then lowF D S f (k + 1) else k
/-- The place above the greatest that is told. -/
def highF (D : List Nat) (S : Nat) : Nat → Nat
  | 0 => 0
  | h + 1 => if S + 1 < h + 1 ∧ atD D h = 0 then highF D S h else h + 1
def lowD (D : List Nat) (S : Nat) : Nat := lowF D S S 0
def highD (D : List Nat) (S : Nat) : Nat := max (highF D S D.length) (S + 1)
theorem lowF_le (D : List Nat) (S : Nat) : ∀ f k, k + f ≤ S → lowF D S f k ≤ S := by
  intro f
  induction f with
  | zero => intro k h; exact h
  | succ f ih => intro k h; unfold lowF; split; exact ih _ (by omega); omega
theorem highF_le (D : List Nat) (S : Nat) : ∀ h, highF D S h ≤ h := by
  intro h
  induction h with
  | zero => exact Nat.le_refl _
  | succ h ih => unfold highF; split; omega; omega
/-- A number in memory, its struct in block b. -/
structure FormM (w : World) (b : Nat) (neg : Bool) (A : Option Addr) (n cap S : Nat) (D : List Nat) (wr : World) : Prop where
  below : Below w.heap.size w wr
  blk : wr.heap[b]? = some (.cells #[.bool neg, .slice A n cap, .int .i64 (S : Int)] 180 (0, 0))
  ints : IntsAt wr A D
  size : b + 1 ≤ wr.heap.size
theorem FormM.drewN {w wr : World} {b n cap S : Nat} {neg : Bool} {A : Option Addr} {D : List Nat} (h : FormM w b neg A n cap S D wr) (m : Nat) : FormM w b neg A n cap S D (wr.drewN m) :=
  ⟨⟨h.below.os, h.below.tape, h.below.output, h.below.size, h.below.block⟩, h.blk, h.ints, h.size⟩

def bytesV (L : List UInt8) : List Value := L.map fun c => Value.int .u8 (c.toNat : Int)
/-- And the bytes of its text so far, in the slice v. -/
structure BytesM (w : World) (b : Nat) (neg : Bool) (A : Option Addr) (n cap S : Nat) (D : List Nat) (L : List UInt8) (v : Value) (wr : World) : Prop where
  form : FormM w b neg A n cap S D wr
  row : wr.ownsRow (b + 1) 5 1 v L.length (bytesV L)
theorem BytesM.drewN {w wr : World} {b n cap S : Nat} {neg : Bool} {A : Option Addr} {D : List Nat} {L : List UInt8} {v : Value} (h : BytesM w b neg A n cap S D L v wr) (m : Nat) : BytesM w b neg A n cap S D L v (wr.drewN m) :=
  ⟨h.form.drewN m, h.row⟩
theorem BytesM.app {w wr w4 : World} {b n cap S : Nat} {neg : Bool} {A : Option Addr} {D : List Nat} {L : List UInt8} {v v4 : Value} (h : BytesM w b neg A n cap S D L v wr) (hI : IntsAt w A D) (hw : w.heap.size ≤ b) (hg : wr.grownBy w4 v.ownBlock) {c : UInt8} (ho : w4.ownsRow (b + 1) 5 1 v4 (L.length + 1) (bytesV L ++ [.int .u8 (c.toNat : Int)])) :
    BytesM w b neg A n cap S D (L ++ [c]) v4 w4 := by
  have hb : Below w.heap.size w w4 := h.form.below.grown hg (by have := h.form.size; omega) (fun k hk => by have := (h.row.lt k hk).1; omega)
  refine ⟨⟨hb, ?_, hI.under hb, Nat.le_trans h.form.size hg.size⟩, ?_⟩
  · exact (hg.block b (by have := h.form.size; omega) (fun e => own_ne h.row h.form.blk (by decide) e.symm)).trans h.form.blk
  · rw [List.length_append]
    unfold bytesV
    rw [List.map_append]
    exact ho

def formOut (D : List Nat) (S : Nat) : Bool := decide (40 < highD D S - S) || decide (20 < S - lowD D S)
def digU (y : Nat) : UInt8 := UInt8.ofNat (48 + y)
/-- The digits from below a place down to another. -/
def downD (D : List Nat) (hi lo : Nat) : List UInt8 := (List.range (hi - lo)).map fun j => digU (atD D (hi - 1 - j))
theorem downD_length (D : List Nat) (hi lo : Nat) : (downD D hi lo).length = hi - lo := by unfold downD; simp
theorem downD_nil (D : List Nat) (hi : Nat) : downD D hi hi = [] := by unfold downD; simp
theorem downD_more (D : List Nat) {hi j : Nat} (h : j < hi) : downD D hi j = downD D hi (j + 1) ++ [digU (atD D j)] := by
  unfold downD
  rw [show hi - j = (hi - (j + 1)) + 1 by omega, List.range_succ, List.map_append]
  simp only [List.map_cons, List.map_nil]
  rw [show hi - 1 - (hi - (j + 1)) = j by omega]
theorem digU_nat {y : Nat} (h : y ≤ 9) : (digU y).toNat = 48 + y := by
  unfold digU
  rw [UInt8.toNat_ofNat']
  exact Nat.mod_eq_of_lt (by omega)
def formT (neg : Bool) (D : List Nat) (S : Nat) : ByteArray :=
  ⟨(cond (neg && !zeroD D) [45] [] ++ downD D (highD D S) S ++ [46] ++ downD D S (lowD D S) ++ cond (decide (lowD D S = S)) [48] [] : List UInt8).toArray⟩
def FormIs (neg : Bool) (D : List Nat) (S : Nat) (w : World) (e : Ending) (w' : World) : Prop := Below w.heap.size w w' ∧
  e = .returned (.tuple #[.string (cond (formOut D S) ⟨#[]⟩ (formT neg D S)), .int .i64 (cond (formOut D S) 2 0)])

set_option maxRecDepth 100000 in
set_option maxHeartbeats 1000000 in
theorem form_any (neg : Bool) (D : List Nat) (S : Nat) (hD : D.length ≤ 4000000000000) (hS : S ≤ 4000000000000) (h9 : ∀ i, atD D i ≤ 9) (A : Option Addr) (cap : Nat) (w : World) (h : IntsAt w A D) :
    Calls Tryz.prog 160 #[.agg #[.bool neg, .slice A D.length cap, .int .i64 (S : Int)]] w (FormIs neg D S w) := by
  have HI := Lib.hid h
  have H9 := Lib.hid h9
  clear h h9
  obtain ⟨n, HN⟩ := name_itV D.length
  rw [HN.out] at hD ⊢
  go_enter Tryz.func160, Tryz.ntmps160
  go_wp2_with fail
  have hm := Lib.hid (show FormM w w.heap.size neg A n cap S D (w.alloc (.cells #[.bool neg, .slice A n cap, .int .i64 (S : Int)] 180)) from
    ⟨(Below.refl _ _).alloc (Nat.le_refl _) _, heap_alloc_new w _, HI.out.under ((Below.refl _ _).alloc (Nat.le_refl _) _), by simp⟩)
  obtain ⟨b, HBn⟩ := name_itV w.heap.size
  obtain ⟨w1, HW1⟩ := name_itV (w.alloc (.cells #[.bool neg, .slice A n cap, .int .i64 (S : Int)] 180))
  rw [HBn.out, HW1.out] at hm
  rw [HBn.out, HW1.out]
  go_loopw [4] (fun s4 wr => ∃ k : Nat, k ≤ S ∧ s4 = .int .i64 (k : Nat) ∧ Hid (lowD D S = lowF D S (S - k) k) ∧ Hid (FormM w b neg A n cap S D wr)) (fun s4 _ => S - (intOf s4).toNat)
  case atStart => exact ⟨0, by omega, rfl, Lib.hid rfl, hm⟩
  case round =>
    obtain ⟨k, hk, rfl, hlow, hr⟩ := hrel
    have c0 : wr.cell? ⟨b, 0, none⟩ = some (.bool neg) := Lib.cell_of_heap hr.out.blk 0
    have c1 : wr.cell? ⟨b, 1, none⟩ = some (.slice A n cap) := Lib.cell_of_heap hr.out.blk 1
    have c2 : wr.cell? ⟨b, 2, none⟩ = some (.int .i64 (S : Int)) := Lib.cell_of_heap hr.out.blk 2
    have hat := Lib.hid (at_any D A cap k (by omega) wr hr.out.ints)
    rw [HN.out] at hat
    obtain ⟨y, HY⟩ := name_itV (atD D k)
    rw [HY.out] at hat
    go_upto_region 2 with fail
    go_cut [19] (fun s19 wx => s19 = .bool (decide (k < S ∧ y = 0)) ∧ FormM w b neg A n cap S D wx)
    case first =>
      by_cases hlt : k < S
      · by_cases hy : y = 0
        · have hb := Lib.hid (show Value.bool (decide (k < S ∧ y = 0)) = .bool true by rw [decide_eq_true ⟨hlt, hy⟩])
          subst hy
          go_wp2_with fail; refine hat.out.mono ?_; rintro e w' ⟨rfl, m, rfl⟩
          go_wp2_with fail
          go_meet
          exact ⟨hb.out.symm, hr.out.drewN m⟩
        · have hb := Lib.hid (show Value.bool (decide (k < S ∧ y = 0)) = .bool false by rw [decide_eq_false (fun h => hy h.2)])
          have e1 : ((y : Int) == 0) = false := beq_eq_false_iff_ne.2 (by omega)
          clear hy
          go_wp2_with fail; refine hat.out.mono ?_; rintro e w' ⟨rfl, m, rfl⟩
          go_wp2_with fail
          go_meet
          exact ⟨hb.out.symm, hr.out.drewN m⟩
      · have hb := Lib.hid (show Value.bool (decide (k < S ∧ y = 0)) = .bool false by rw [decide_eq_false (fun h => hlt h.1)])
        go_wp2_with fail
        go_meet
        exact ⟨hb.out.symm, hr.out⟩
    case rest =>
      rename World => w2
      obtain ⟨h19, hr2⟩ := hcut
      have HR := Lib.hid hr2
      clear hr2 c0 c1 c2
      by_cases hl : k < S ∧ y = 0
      · rw [decide_eq_true hl] at h19
        subst h19
        have hyes := Lib.hid (show lowD D S = lowF D S (S - (k + 1)) (k + 1) from by
          rw [hlow.out, show S - k = (S - (k + 1)) + 1 by omega]
          exact if_pos ⟨hl.1, by rw [HY.out]; exact hl.2⟩)
        go_wp2_with fail
        go_roundw
        case rel => exact ⟨k + 1, by omega, by go_num, hyes, Lib.hid HR.out⟩
        case measure => simp [intOf]; omega
      · rw [decide_eq_false hl] at h19
        subst h19
        have hlo := Lib.hid (show lowD D S = k from by
          rw [hlow.out]
          cases hf : S - k with
          | zero => rfl
          | succ f => exact if_neg (by rw [HY.out]; exact hl))
        clear hl hlow hat
        have c1 : w2.cell? ⟨b, 1, none⟩ = some (.slice A n cap) := Lib.cell_of_heap HR.out.blk 1
        go_wp2_with fail
        go_loopw [5] (fun s5 wr => ∃ h : Nat, h ≤ n ∧ s5 = .int .i64 (h : Nat) ∧ Hid (highF D S n = highF D S h) ∧ Hid (FormM w b neg A n cap S D wr)) (fun s5 _ => (intOf s5).toNat)
        case atStart => exact ⟨n, by omega, rfl, Lib.hid rfl, HR⟩
        case round =>
          obtain ⟨h, hh, rfl, hhi, hr3⟩ := hrel
          have c1 : wr.cell? ⟨b, 1, none⟩ = some (.slice A n cap) := Lib.cell_of_heap hr3.out.blk 1
          have c2 : wr.cell? ⟨b, 2, none⟩ = some (.int .i64 (S : Int)) := Lib.cell_of_heap hr3.out.blk 2
          have w1 : IntKind.i64.wrap ((S : Int) + 1) = S + 1 := IntWalk.i64_in _ (by omega)
          go_upto_region 5 with fail
          go_cut [38] (fun s38 wx => s38 = .bool (decide (S + 1 < h ∧ atD D (h - 1) = 0)) ∧ wx = wr)
          case first =>
            by_cases hgt : S + 1 < h
            · obtain ⟨j, hj⟩ : ∃ j, h = j + 1 := ⟨h - 1, by omega⟩
              have w3 : IntKind.i64.wrap ((h : Int) - 1) = j := by rw [IntWalk.i64_in _ (by omega)]; omega
              have hil : j < D.length := by rw [HN.out]; omega
              obtain ⟨ad, rfl, _, hc⟩ := hr3.out.ints j _ (List.getElem?_eq_getElem hil)
              have ha : atD D (h - 1) = D[j] := by rw [hj]; unfold atD; rw [show j + 1 - 1 = j by omega, List.getElem?_eq_getElem hil]; rfl
              obtain ⟨y, HY⟩ := name_itV D[j]
              rw [HY.out] at hc ha
              have HA := Lib.hid ha
              have e1 : (0 : Int) ≤ j := by omega
              have e2 : (j : Int) < n := by omega
              have HJ := Lib.hid hj
              clear ha hj
              by_cases hy : y = 0
              · have hb := Lib.hid (show Value.bool true = Value.bool (decide (S + 1 < h ∧ atD D (h - 1) = 0)) by rw [decide_eq_true ⟨hgt, HA.out.trans hy⟩])
                subst hy
                go_wp2_with fail
                go_meet
                exact ⟨hb.out, rfl⟩
              · have hb := Lib.hid (show Value.bool (decide (S + 1 < h ∧ y = 0)) = .bool false by rw [decide_eq_false (fun x => hy x.2)])
                have e3 : ((y : Int) == 0) = false := beq_eq_false_iff_ne.2 (by omega)
                clear hy
                go_wp2_with fail
                go_meet
                exact ⟨by rw [HA.out]; exact hb.out.symm, rfl⟩
            · have hb := Lib.hid (show Value.bool (decide (S + 1 < h ∧ atD D (h - 1) = 0)) = .bool false by rw [decide_eq_false (fun x => hgt x.1)])
              go_wp2_with fail
              go_meet
              exact ⟨hb.out.symm, rfl⟩
          case rest =>
            obtain ⟨h38, rfl⟩ := hcut
            by_cases hl : S + 1 < h ∧ atD D (h - 1) = 0
            · rw [decide_eq_true hl] at h38
              subst h38
              have hh0 : 1 ≤ h := by omega
              have hyes := Lib.hid (show highF D S n = highF D S (h - 1) from by
                rw [hhi.out]
                obtain ⟨j, rfl⟩ : ∃ j, h = j + 1 := ⟨h - 1, by omega⟩
                exact if_pos hl)
              have w3 : IntKind.i64.wrap ((h : Int) - 1) = ((h - 1 : Nat) : Int) := by rw [IntWalk.i64_in _ (by omega)]; omega
              clear hl
              go_wp2_with fail
              go_roundw
              case rel => exact ⟨h - 1, by omega, rfl, hyes, Lib.hid hr3.out⟩
              case measure => simp [intOf]; omega
            · rw [decide_eq_false hl] at h38
              subst h38
              have hhe := Lib.hid (show highF D S n = h from by
                rw [hhi.out]
                cases h with
                | zero => rfl
                | succ j => exact if_neg hl)
              have hhD := Lib.hid (show highD D S = max h (S + 1) from by unfold highD; rw [HN.out, hhe.out])
              clear hl hhi c1
              go_upto_if 44 with fail
              go_cut [5] (fun s5 wx => s5 = .int .i64 ((highD D S : Nat) : Int) ∧ wx = wc)
              case first =>
                by_cases hle : h ≤ S
                · have hm := Lib.hid (show Value.int .i64 ((S : Int) + 1) = .int .i64 ((highD D S : Nat) : Int) from by rw [hhD.out, show max h (S + 1) = S + 1 by omega]; push_cast; rfl)
                  go_wp2_with fail
                  go_meet
                  exact ⟨hm.out, rfl⟩
                · have hm := Lib.hid (show Value.int .i64 (h : Int) = .int .i64 ((highD D S : Nat) : Int) from by rw [hhD.out, show max h (S + 1) = h by omega])
                  go_wp2_with fail
                  go_meet
                  exact ⟨hm.out, rfl⟩
              case rest =>
                rename World => w5
                obtain ⟨h5, rfl⟩ := hcut
                obtain ⟨hi, HH⟩ := name_itV (highD D S)
                rw [HH.out] at h5
                subst h5
                have hhl := Lib.hid (show S + 1 ≤ hi ∧ hi ≤ max n (S + 1) from by
                  rw [← HH.out, hhD.out]
                  exact ⟨by omega, by omega⟩)
                have h1 : S + 1 ≤ hi := hhl.out.1
                have h2 : hi ≤ 4000000000001 := by have := hhl.out.2; omega
                have w6 : IntKind.i64.wrap ((hi : Int) - S) = ((hi - S : Nat) : Int) := by rw [IntWalk.i64_in _ (by omega)]; omega
                have w7 : IntKind.i64.wrap ((S : Int) - k) = ((S - k : Nat) : Int) := by rw [IntWalk.i64_in _ (by omega)]; omega
                have ho := Lib.hid (show formOut D S = (decide (40 < hi - S) || decide (20 < S - k)) from by unfold formOut; rw [HH.out, hlo.out])
                obtain ⟨fo, HFO⟩ := name_itV (formOut D S)
                rw [HFO.out] at ho
                have c0 : w5.cell? ⟨b, 0, none⟩ = some (.bool neg) := Lib.cell_of_heap hr3.out.blk 0
                have c1 : w5.cell? ⟨b, 1, none⟩ = some (.slice A n cap) := Lib.cell_of_heap hr3.out.blk 1
                go_upto_region 9 with fail
                go_cut [59] (fun s59 wx => s59 = .bool fo ∧ wx = w5)
                case first =>
                  by_cases a1 : 40 < hi - S
                  · have e1 : decide ((40 : Int) < ((hi - S : Nat) : Int)) = true := decide_eq_true (by omega)
                    have hf := Lib.hid (show fo = true from by rw [ho.out, decide_eq_true a1]; rfl)
                    go_wp2_with fail
                    go_meet
                    exact ⟨by rw [hf.out], rfl⟩
                  · have hf := Lib.hid (show (decide ((40 : Int) < ((hi - S : Nat) : Int)) || decide ((20 : Int) < ((S - k : Nat) : Int))) = fo from by
                      rw [ho.out, decide_eq_decide.2 (show (40 : Int) < ((hi - S : Nat) : Int) ↔ 40 < hi - S by omega), decide_eq_decide.2 (show (20 : Int) < ((S - k : Nat) : Int) ↔ 20 < S - k by omega)])
                    go_wp2_with fail
                    go_meet
                    exact ⟨by rw [hf.out], rfl⟩
                case rest =>
                  obtain ⟨h59, rfl⟩ := hcut
                  cases fo with
                  | true =>
                    subst h59
                    go_wp2_with fail
                    exact bodyPost_ret (v := .tuple #[.string ⟨#[]⟩, .int .i64 2]) (by simp [results, Tryz.results160, go_sem]) rfl ⟨hr3.out.below, by rw [HFO.out]; rfl⟩
                  | false =>
                    subst h59
                    have hs40 : hi - S ≤ 40 ∧ S - k ≤ 20 := by
                      have := ho.out.symm
                      rw [Bool.or_eq_false_iff, decide_eq_false_iff_not, decide_eq_false_iff_not] at this
                      omega
                    have c0 : wc.cell? ⟨b, 0, none⟩ = some (.bool neg) := Lib.cell_of_heap hr3.out.blk 0
                    have c1 : wc.cell? ⟨b, 1, none⟩ = some (.slice A n cap) := Lib.cell_of_heap hr3.out.blk 1
                    have hz := Lib.hid (zero_any D (by rw [HN.out]; exact hD) A cap wc hr3.out.ints)
                    rw [HN.out] at hz
                    obtain ⟨zb, HZ⟩ := name_itV (zeroD D)
                    rw [HZ.out] at hz
                    clear ho w6 w7 hhD hhe c2
                    go_upto_region 12 with fail
                    go_cut [67] (fun s67 wx => s67 = .bool (neg && !zb) ∧ FormM w b neg A n cap S D wx)
                    case first =>
                      cases neg with
                      | false =>
                        go_wp2_with fail
                        go_meet
                        exact ⟨rfl, hr3.out⟩
                      | true =>
                        go_wp2_with fail; refine hz.out.mono ?_; rintro e w' ⟨rfl, m, rfl⟩
                        go_wp2_with fail
                        go_meet
                        exact ⟨rfl, hr3.out.drewN m⟩
                    case rest =>
                      rename World => w6
                      obtain ⟨h67, hr6⟩ := hcut
                      have HR6 := Lib.hid hr6
                      clear hr6 hz c0 c1
                      have hb1 := HR6.out.size
                      go_upto_if 67 with fail
                      go_cut [6] (fun s6 wx => BytesM w b neg A n cap S D (cond (neg && !zb) [45] []) s6 wx)
                      case first =>
                        cases hcase : neg && !zb with
                        | true =>
                          rw [hcase] at h67
                          subst h67
                          have H0 := Lib.hid (World.ownsRow_nil w6 (b + 1) 5 1)
                          go_wp2_with (at_builtin; refine app_new rfl _ _ 194 rfl (b + 1) 5 (.int .u8 0) 1 1 Tryz.underlying194 infoByte rfl (by decide) _ _ _ rfl H0.out (by omega) #[.int .u8 45] 1 1 rfl rfl (one_u8 _) (by omega) (by omega) (by decide) ?_; intro g4 cp4 w4 ho4 hg4 hl4; have HO4 := Lib.hid ho4; have HG4 := Lib.hid hg4; clear ho4 hg4 hl4)
                          go_meet
                          rw [hcase]
                          exact BytesM.app (L := []) ⟨HR6.out, H0.out⟩ HI.out (by rw [HBn.out]; exact Nat.le_refl b) HG4.out (c := 45) HO4.out
                        | false =>
                          rw [hcase] at h67
                          subst h67
                          go_wp2_with fail
                          go_meet
                          rw [hcase]
                          exact ⟨HR6.out, World.ownsRow_nil w6 (b + 1) 5 1⟩
                      case rest =>
                        have HB6 := Lib.hid hcut
                        clear hcut h67
                        obtain ⟨L0, HL0⟩ := name_itV (cond (neg && !zb) [(45 : UInt8)] [])
                        have hl0 : L0.length ≤ 1 := by rw [← HL0.out]; cases (neg && !zb) <;> simp
                        rw [HL0.out] at HB6
                        have w8 : IntKind.i64.wrap ((hi : Int) - 1) = (hi : Int) - 1 := IntWalk.i64_in _ (by omega)
                        go_wp2_with fail
                        go_loopw [6, 7] (fun s6 s7 wr => ∃ i : Nat, S ≤ i ∧ i ≤ hi ∧ s7 = .int .i64 ((i : Int) - 1) ∧ Hid (BytesM w b neg A n cap S D (L0 ++ downD D hi i) s6 wr)) (fun _ s7 _ => (intOf s7 + 1).toNat)
                        case atStart => exact ⟨hi, by omega, Nat.le_refl _, rfl, Lib.hid (by rw [downD_nil, List.append_nil]; exact HB6.out)⟩
                        case round =>
                          obtain ⟨i, hi1, hi2, rfl, hb3⟩ := hrel
                          have c1 : wr.cell? ⟨b, 1, none⟩ = some (.slice A n cap) := Lib.cell_of_heap hb3.out.form.blk 1
                          have c2 : wr.cell? ⟨b, 2, none⟩ = some (.int .i64 (S : Int)) := Lib.cell_of_heap hb3.out.form.blk 2
                          by_cases hlt : S < i
                          · obtain ⟨j, rfl⟩ : ∃ j, i = j + 1 := ⟨i - 1, by omega⟩
                            have hj1 : ((j + 1 : Nat) : Int) - 1 = (j : Int) := by push_cast; omega
                            rw [hj1]
                            have hjS : S ≤ j := by omega
                            have w9 : IntKind.i64.wrap ((j : Int) - 1) = (j : Int) - 1 := IntWalk.i64_in _ (by omega)
                            have hat := Lib.hid (at_any D A cap j (by omega) wr hb3.out.form.ints)
                            rw [HN.out] at hat
                            have hdn := Lib.hid (downD_more D (show j < hi by omega))
                            obtain ⟨y, HY⟩ := name_itV (atD D j)
                            have hy9 : y ≤ 9 := by rw [← HY.out]; exact H9.out j
                            rw [HY.out] at hat hdn
                            obtain ⟨c, HC⟩ := name_itV (digU y)
                            have hcy : c.toNat = 48 + y := by rw [← HC.out]; exact digU_nat hy9
                            rw [HC.out] at hdn
                            obtain ⟨L, HL⟩ := name_itV (L0 ++ downD D hi (j + 1))
                            have hLl : L.length ≤ 50 := by rw [← HL.out, List.length_append, downD_length]; omega
                            rw [HL.out] at hb3
                            obtain ⟨e, He⟩ := name_itV c.toNat
                            have v1 : IntKind.i64.wrap (48 + (y : Int)) = (e : Int) := by rw [IntWalk.i64_in _ (by omega), ← He.out, hcy]; push_cast; rfl
                            have v2 : IntKind.u8.wrap (e : Int) = (e : Int) := IntWalk.u8_in _ (by rw [← He.out, hcy]; omega)
                            clear hcy
                            go_wp2_with fail; refine hat.out.mono ?_; rintro e' w' ⟨rfl, m, rfl⟩
                            have hb4 := Lib.hid (hb3.out.drewN m)
                            have hrow := Lib.hid hb4.out.row
                            have hsz := hb4.out.form.size
                            obtain ⟨W, HW⟩ := name_itV (wr.drewN m)
                            rw [HW.out] at hb4 hrow hsz ⊢
                            go_wp2_with (at_builtin; refine app_new rfl _ _ 194 rfl (b + 1) 5 (.int .u8 0) 1 1 Tryz.underlying194 infoByte rfl (by decide) _ _ _ rfl hrow.out (by omega) #[.int .u8 (e : Int)] 1 1 rfl rfl (one_u8 _) (by omega) (by omega) (by decide) ?_; intro g4 cp4 w4 ho4 hg4 hl4; have HO4 := Lib.hid ho4; have HG4 := Lib.hid hg4; clear ho4 hg4 hl4)
                            go_roundw
                            case rel =>
                              refine ⟨j, hjS, by omega, rfl, Lib.hid ?_⟩
                              rw [hdn.out, ← List.append_assoc, HL.out]
                              exact BytesM.app hb4.out HI.out (by rw [HBn.out]; exact Nat.le_refl b) HG4.out (by rw [He.out]; exact HO4.out)
                            case measure => simp [intOf]
                          · have hie : i = S := by omega
                            rw [hie] at hb3 ⊢
                            obtain ⟨L, HL⟩ := name_itV (L0 ++ downD D hi S)
                            have hLl : L.length ≤ 50 := by rw [← HL.out, List.length_append, downD_length]; omega
                            rw [HL.out] at hb3
                            have hrow := Lib.hid hb3.out.row
                            have hsz := hb3.out.form.size
                            have w10 : IntKind.i64.wrap ((S : Int) - 1) = (S : Int) - 1 := IntWalk.i64_in _ (by omega)
                            clear hlt hie
                            go_wp2_with (at_builtin; refine app_new rfl _ _ 194 rfl (b + 1) 5 (.int .u8 0) 1 1 Tryz.underlying194 infoByte rfl (by decide) _ _ _ rfl hrow.out (by omega) #[.int .u8 46] 1 1 rfl rfl (one_u8 _) (by omega) (by omega) (by decide) ?_; intro g4 cp4 w4 ho4 hg4 hl4; have HB7 := Lib.hid (BytesM.app hb3.out HI.out (by rw [HBn.out]; exact Nat.le_refl b) hg4 (c := 46) ho4); have d2 : w4.cell? ⟨b, 2, none⟩ = some (.int .i64 (S : Int)) := Lib.cell_of_heap HB7.out.form.blk 2; clear ho4 hg4 hl4)
                            obtain ⟨L1, HL1⟩ := name_itV (L ++ [(46 : UInt8)])
                            have hl1 : L1.length ≤ 51 := by rw [← HL1.out, List.length_append]; simp; omega
                            rw [HL1.out] at HB7
                            go_loopw [6, 8] (fun s6 s8 wr => ∃ i : Nat, k ≤ i ∧ i ≤ S ∧ s8 = .int .i64 ((i : Int) - 1) ∧ Hid (BytesM w b neg A n cap S D (L1 ++ downD D S i) s6 wr)) (fun _ s8 _ => (intOf s8 + 1).toNat)
                            case atStart => exact ⟨S, hk, Nat.le_refl _, rfl, Lib.hid (by rw [downD_nil, List.append_nil]; exact HB7.out)⟩
                            case round =>
                              obtain ⟨i, hi1, hi2, rfl, hb3⟩ := hrel
                              have c1 : wr.cell? ⟨b, 1, none⟩ = some (.slice A n cap) := Lib.cell_of_heap hb3.out.form.blk 1
                              have c2 : wr.cell? ⟨b, 2, none⟩ = some (.int .i64 (S : Int)) := Lib.cell_of_heap hb3.out.form.blk 2
                              by_cases hlt : k < i
                              · obtain ⟨j, rfl⟩ : ∃ j, i = j + 1 := ⟨i - 1, by omega⟩
                                have hj1 : ((j + 1 : Nat) : Int) - 1 = (j : Int) := by push_cast; omega
                                rw [hj1]
                                have hjS : k ≤ j := by omega
                                have w9 : IntKind.i64.wrap ((j : Int) - 1) = (j : Int) - 1 := IntWalk.i64_in _ (by omega)
                                have hat := Lib.hid (at_any D A cap j (by omega) wr hb3.out.form.ints)
                                rw [HN.out] at hat
                                have hdn := Lib.hid (downD_more D (show j < S by omega))
                                obtain ⟨y, HY⟩ := name_itV (atD D j)
                                have hy9 : y ≤ 9 := by rw [← HY.out]; exact H9.out j
                                rw [HY.out] at hat hdn
                                obtain ⟨c, HC⟩ := name_itV (digU y)
                                have hcy : c.toNat = 48 + y := by rw [← HC.out]; exact digU_nat hy9
                                rw [HC.out] at hdn
                                obtain ⟨L2, HL2⟩ := name_itV (L1 ++ downD D S (j + 1))
                                have hLl2 : L2.length ≤ 100 := by rw [← HL2.out, List.length_append, downD_length]; omega
                                rw [HL2.out] at hb3
                                obtain ⟨e, He⟩ := name_itV c.toNat
                                have v1 : IntKind.i64.wrap (48 + (y : Int)) = (e : Int) := by rw [IntWalk.i64_in _ (by omega), ← He.out, hcy]; push_cast; rfl
                                have v2 : IntKind.u8.wrap (e : Int) = (e : Int) := IntWalk.u8_in _ (by rw [← He.out, hcy]; omega)
                                clear hcy
                                go_wp2_with fail; refine hat.out.mono ?_; rintro e' w' ⟨rfl, m, rfl⟩
                                have hb4 := Lib.hid (hb3.out.drewN m)
                                have hrow := Lib.hid hb4.out.row
                                have hsz := hb4.out.form.size
                                obtain ⟨W, HW⟩ := name_itV (wr.drewN m)
                                rw [HW.out] at hb4 hrow hsz ⊢
                                go_wp2_with (at_builtin; refine app_new rfl _ _ 194 rfl (b + 1) 5 (.int .u8 0) 1 1 Tryz.underlying194 infoByte rfl (by decide) _ _ _ rfl hrow.out (by omega) #[.int .u8 (e : Int)] 1 1 rfl rfl (one_u8 _) (by omega) (by omega) (by decide) ?_; intro g4 cp4 w4 ho4 hg4 hl4; have HO4 := Lib.hid ho4; have HG4 := Lib.hid hg4; clear ho4 hg4 hl4)
                                go_roundw
                                case rel =>
                                  refine ⟨j, hjS, by omega, rfl, Lib.hid ?_⟩
                                  rw [hdn.out, ← List.append_assoc, HL2.out]
                                  exact BytesM.app hb4.out HI.out (by rw [HBn.out]; exact Nat.le_refl b) HG4.out (by rw [He.out]; exact HO4.out)
                                case measure => simp [intOf]
                              · have hie : i = k := by omega
                                rw [hie] at hb3 ⊢
                                clear hlt hie
                                obtain ⟨L2, HL2⟩ := name_itV (L1 ++ downD D S k)
                                have hLl2 : L2.length ≤ 100 := by rw [← HL2.out, List.length_append, downD_length]; omega
                                rw [HL2.out] at hb3
                                have hrow := Lib.hid hb3.out.row
                                have hsz := hb3.out.form.size
                                clear c1
                                go_upto_if 111 with fail
                                go_cut [6] (fun s6 wx => BytesM w b neg A n cap S D (L2 ++ cond (decide (k = S)) [48] []) s6 wx)
                                case first =>
                                  by_cases hkS : k = S
                                  · have e1 : ((k : Int) == (S : Int)) = true := beq_iff_eq.2 (by omega)
                                    have hc := Lib.hid (show L2 ++ cond (decide (k = S)) [(48 : UInt8)] [] = L2 ++ [48] by rw [decide_eq_true hkS]; rfl)
                                    clear hkS
                                    go_wp2_with (at_builtin; refine app_new rfl _ _ 194 rfl (b + 1) 5 (.int .u8 0) 1 1 Tryz.underlying194 infoByte rfl (by decide) _ _ _ rfl hrow.out (by omega) #[.int .u8 48] 1 1 rfl rfl (one_u8 _) (by omega) (by omega) (by decide) ?_; intro g4 cp4 w4 ho4 hg4 hl4; have HB8 := Lib.hid (BytesM.app hb3.out HI.out (by rw [HBn.out]; exact Nat.le_refl b) hg4 (c := 48) ho4); clear ho4 hg4 hl4)
                                    go_meet
                                    rw [hc.out]
                                    exact HB8.out
                                  · have e1 : ((k : Int) == (S : Int)) = false := beq_eq_false_iff_ne.2 (by omega)
                                    have hc := Lib.hid (show L2 ++ cond (decide (k = S)) [(48 : UInt8)] [] = L2 by rw [decide_eq_false hkS]; exact List.append_nil _)
                                    go_wp2_with fail
                                    go_meet
                                    rw [hc.out]
                                    exact hb3.out
                                case rest =>
                                  have HB9 := Lib.hid hcut
                                  clear hcut hrow
                                  have hcv := conv_row (l := L2 ++ cond (decide (k = S)) [48] []) HB9.out.row
                                  have hout := Lib.hid (show strK (L2 ++ cond (decide (k = S)) [48] []) = cond (formOut D S) ⟨#[]⟩ (formT neg D S) from by
                                    rw [HFO.out, ← HL2.out, ← HL1.out, ← HL.out, ← HL0.out]
                                    unfold formT strK
                                    rw [HZ.out, HH.out, hlo.out]
                                    simp)
                                  obtain ⟨T, HTT⟩ := name_itV (strK (L2 ++ cond (decide (k = S)) [48] []))
                                  rw [HTT.out] at hcv hout
                                  go_wp2_with fail
                                  exact bodyPost_ret (v := .tuple #[.string T, .int .i64 0]) (by simp [results, Tryz.results160, go_sem]) rfl ⟨HB9.out.form.below, by rw [hout.out, HFO.out]; rfl⟩
end Go.Proofs.YtmhjbicbdahllaaGreatDoor
