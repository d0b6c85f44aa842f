/- Walk of quoted of package lex. -/
import Derived.Test.YtngdilbfhpcfgaaGreatDoorXC
import Derived.Test.YtngdilbfhpcfgaaGreatDoorXA
set_option linter.unusedSimpArgs false
set_option linter.unusedVariables false
namespace Go.Proofs.YtngdilbfhpcfgaaGreatDoor
set_option maxRecDepth 100000
open Go.RowKit

/-- A result of 'quoted' as the values that the function hands back. -/
def quoVal : Option (List UInt8 × Nat) → Value
  | some (l, n) => .tuple #[.string ⟨l.toArray⟩, .int .i64 n]
  | none => .tuple #[.string ⟨#[]⟩, .int .i64 0]

theorem byteCells_snoc (acc : List UInt8) (c : UInt8) : Lib.byteCells (acc ++ [c]) = Lib.byteCells acc ++ [.int .u8 c.toNat] := by simp [Lib.byteCells]

theorem isB_drewN {T e : TypeId} {B b : Nat} {bs : List Value} {w : World} (h : Lib.IsBuilder T e B b bs w) (n : Nat) : Lib.IsBuilder T e B b bs (w.drewN n) := h
theorem u8_back (d : UInt8) : (d.toNat : Int).toNat.toUInt8 = d := by simp

set_option maxHeartbeats 1000000 in
theorem quoted_any (b : Nat) (s : ByteArray) (p : Nat) (w : World) (hs : s.size ≤ 100000) (ha : p ≤ s.size) (hb : b < w.heap.size)
   (hl : LexAt w b s p) :
    Calls Tryz.prog 145 #[.pointer (some ⟨b, 0, none⟩)] w fun e w' => e = .returned (quoVal (quoted (s.data.toList.drop p))) ∧ Below w.heap.size w w' := by
  have HI : Hid (quoted (s.data.toList.drop p) = quoScan 1 [] (s.data.toList.drop (p + 1))) := Lib.hid (by unfold quoted; rw [List.drop_drop])
  go_enter Tryz.func145, Tryz.ntmps145
  go_wp2
  have hfresh := Lib.fresh_isBuilder 200 5 w
  go_loopw [5] (fun n wr => ∃ (k : Nat) (acc : List UInt8), 1 ≤ k ∧ p + k ≤ s.size + 1 ∧ acc.length ≤ k ∧ n = .int .i64 k ∧ Hid (quoted (s.data.toList.drop p) = quoScan k acc (s.data.toList.drop (p + k))) ∧ Lib.IsBuilder 200 5 w.heap.size w.heap.size (Lib.byteCells acc) wr ∧ Below w.heap.size w wr) (fun n _ => s.size + 2 - (intOf n).toNat)
  case atStart => exact ⟨1, [], Nat.le_refl _, by omega, by simp, rfl, HI, hfresh, (Below.refl _ _).alloc (Nat.le_refl _) _⟩
  case round =>
    obtain ⟨k, acc, hk1, hk2, hacc, rfl, HK, hB, hbel⟩ := hrel
    have h0 : wr.cell? ⟨b, 0, none⟩ = some (.string s) := (hbel.cell (p := ⟨b, 0, none⟩) hb).trans hl.1
    have h2 : wr.cell? ⟨b, 2, none⟩ = some (.int .i64 p) := (hbel.cell (p := ⟨b, 2, none⟩) hb).trans hl.2
    have hlr : LexAt wr b s p := ⟨h0, h2⟩
    have hsz := hbel.size
    have e1 : IntKind.i64.wrap ((p : Int) + k) = p + k := IntWalk.i64_in _ (by omega)
    by_cases hlt : p + k < s.size
    · have hlt' : p + k < s.data.toList.length := by simpa using hlt
      obtain ⟨c, hc, hcv⟩ := drop_at hlt'
      have HC := Lib.hid hcv
      clear hc hcv
      have hd : decide ((p : Int) + k < ↑s.size) = true := by simp; omega
      go_wp2
      go_quiet (fail)
      clear e1 hd
      go_wp2_with fail
      refine (peek_at hs ha hlr _ k _ (by simp) (by omega)).mono ?_
      rintro e w' ⟨rfl, j1, rfl⟩
      by_cases c34 : pk s.data.toList (p + k) = 34
      · rw [c34]
        have HQ := Lib.hid c34
        clear c34
        go_wp2_with fail
        refine (lx_String_any w.heap.size w.heap.size acc _ (isB_drewN hB _) (by simpa using hsz)).mono ?_
        rintro e w1 ⟨rfl, hb1⟩
        go_wp2
        go_ret2
        exact ⟨by rw [HK.out, quo_end hlt' HQ.out]; rfl, (below_drewN hbel _).trans (hb1.mono (Nat.le_refl _))⟩
      by_cases c92 : pk s.data.toList (p + k) = 92
      · rw [c92]
        have HQ := Lib.hid c92
        clear c34 c92
        go_wp2_with fail
        refine (peek_at hs ha hlr _ (k + 1) _ (by simp) (by omega)).mono ?_
        rintro e w' ⟨rfl, j2, rfl⟩
        by_cases hlt2 : p + k + 1 < s.data.toList.length
        · obtain ⟨d, _, hdv⟩ := drop_at hlt2
          have HD := Lib.hid hdv
          rw [show p + (k + 1) = p + k + 1 from by omega, hdv]
          clear hdv
          go_wp2_with fail
          refine (lx_IndexByte _ _ _).mono ?_
          rintro e w2 ⟨rfl, rfl⟩
          rw [u8_back]
          have hlt3 : p + k + 1 < s.size := by simpa using hlt2
          have e5 : IntKind.i64.wrap ((p : Int) + (k + 1)) = p + (k + 1) := IntWalk.i64_in _ (by omega)
          have hd3 : decide ((s.size : Int) ≤ p + (k + 1)) = false := by simp; omega
          rcases esc_index d with ⟨u1, i1⟩ | ⟨u1, i1⟩ | ⟨u1, i1⟩ | ⟨u1, i1⟩ | ⟨u1, i1⟩
          · have i1' : Lib.indexByte (#[34, 92, 110, 116] : Array UInt8).toList d = -1 := i1
            rw [i1']
            have HU := Lib.hid u1
            clear i1 i1' u1
            go_wp2
            go_quiet (fail)
            go_wp2
            go_ret2
            exact ⟨by rw [HK.out, quo_esc_bad HQ.out hlt2 HD.out HU.out]; rfl, below_drewN (below_drewN hbel _) _⟩
          · rw [i1]
            have HU := Lib.hid u1
            clear i1 u1
            go_wp2
            go_quiet (fail)
            go_wp2_with fail
            refine (writeByte_any w.heap.size w.heap.size (Lib.byteCells acc) 34 _ (isB_drewN hB _) (by rw [Lib.byteCells_length]; omega) (by simpa using hsz)).mono ?_
            rintro e w3 ⟨rfl, hB3, hb3⟩
            go_wp2
            go_roundw
            case rel => exact ⟨k + 2, acc ++ [34], by omega, by omega, by simp; omega, by go_num, Lib.hid (by rw [HK.out, quo_esc HQ.out hlt2 HD.out HU.out]; rfl), by rw [byteCells_snoc]; exact hB3, (below_drewN hbel _).trans hb3⟩
            case measure => simp [intOf]; omega
          · rw [i1]
            have HU := Lib.hid u1
            clear i1 u1
            go_wp2
            go_quiet (fail)
            go_wp2_with fail
            refine (writeByte_any w.heap.size w.heap.size (Lib.byteCells acc) 92 _ (isB_drewN hB _) (by rw [Lib.byteCells_length]; omega) (by simpa using hsz)).mono ?_
            rintro e w3 ⟨rfl, hB3, hb3⟩
            go_wp2
            go_roundw
            case rel => exact ⟨k + 2, acc ++ [92], by omega, by omega, by simp; omega, by go_num, Lib.hid (by rw [HK.out, quo_esc HQ.out hlt2 HD.out HU.out]; rfl), by rw [byteCells_snoc]; exact hB3, (below_drewN hbel _).trans hb3⟩
            case measure => simp [intOf]; omega
          · rw [i1]
            have HU := Lib.hid u1
            clear i1 u1
            go_wp2
            go_quiet (fail)
            go_wp2_with fail
            refine (writeByte_any w.heap.size w.heap.size (Lib.byteCells acc) 10 _ (isB_drewN hB _) (by rw [Lib.byteCells_length]; omega) (by simpa using hsz)).mono ?_
            rintro e w3 ⟨rfl, hB3, hb3⟩
            go_wp2
            go_roundw
            case rel => exact ⟨k + 2, acc ++ [10], by omega, by omega, by simp; omega, by go_num, Lib.hid (by rw [HK.out, quo_esc HQ.out hlt2 HD.out HU.out]; rfl), by rw [byteCells_snoc]; exact hB3, (below_drewN hbel _).trans hb3⟩
            case measure => simp [intOf]; omega
          · rw [i1]
            have HU := Lib.hid u1
            clear i1 u1
            go_wp2
            go_quiet (fail)
            go_wp2_with fail
            refine (writeByte_any w.heap.size w.heap.size (Lib.byteCells acc) 9 _ (isB_drewN hB _) (by rw [Lib.byteCells_length]; omega) (by simpa using hsz)).mono ?_
            rintro e w3 ⟨rfl, hB3, hb3⟩
            go_wp2
            go_roundw
            case rel => exact ⟨k + 2, acc ++ [9], by omega, by omega, by simp; omega, by go_num, Lib.hid (by rw [HK.out, quo_esc HQ.out hlt2 HD.out HU.out]; rfl), by rw [byteCells_snoc]; exact hB3, (below_drewN hbel _).trans hb3⟩
            case measure => simp [intOf]; omega
        · rw [show p + (k + 1) = p + k + 1 from by omega, pk_out (by omega)]
          have HO := Lib.hid hlt2
          clear hlt2
          go_wp2_with fail
          refine (lx_IndexByte _ _ _).mono ?_
          rintro e w2 ⟨rfl, rfl⟩
          have i1 : Lib.indexByte (#[34, 92, 110, 116] : Array UInt8).toList (0 : Int).toNat.toUInt8 = -1 := by rfl
          rw [i1]
          clear i1
          go_wp2
          go_quiet (fail)
          go_wp2
          go_ret2
          exact ⟨by rw [HK.out, quo_esc_out hlt' HQ.out (by have := HO.out; omega)]; rfl, below_drewN (below_drewN hbel _) _⟩
      · by_cases hlo : pk s.data.toList (p + k) < 32
        · have t1 : (pk s.data.toList (p + k) == 34) = false := by simpa using c34
          have t2 : (pk s.data.toList (p + k) == 92) = false := by simpa using c92
          clear c34 c92
          go_wp2
          go_ret2
          exact ⟨by rw [HK.out, quo_bad hlt' hlo]; rfl, below_drewN hbel _⟩
        · have hlo2 : 32 ≤ pk s.data.toList (p + k) := by omega
          have t1 : (pk s.data.toList (p + k) == 34) = false := by simpa using c34
          have t2 : (pk s.data.toList (p + k) == 92) = false := by simpa using c92
          have C1 := Lib.hid c34
          have C2 := Lib.hid c92
          clear c34 c92 hlo
          go_wp2_with fail
          rw [HC.out]
          refine (writeByte_any w.heap.size w.heap.size (Lib.byteCells acc) _ _ (isB_drewN hB _) (by rw [Lib.byteCells_length]; omega) (by simpa using hsz)).mono ?_
          rintro e w3 ⟨rfl, hB3, hb3⟩
          go_wp2
          go_roundw
          case rel => exact ⟨k + 1, acc ++ [c], by omega, by omega, by simp; omega, by go_num, Lib.hid (by rw [HK.out, quo_on hlt' HC.out hlo2 C1.out C2.out]; rfl), by rw [byteCells_snoc]; exact hB3, (below_drewN hbel _).trans hb3⟩
          case measure => simp [intOf]; omega
    · have hd : decide ((p : Int) + k < ↑s.size) = false := by simp; omega
      go_wp2
      go_quiet (fail)
      clear e1 hd
      go_wp2
      go_ret2
      exact ⟨by rw [HK.out, quo_out (by simp; omega)]; rfl, below_drewN hbel _⟩

end Go.Proofs.YtngdilbfhpcfgaaGreatDoor
