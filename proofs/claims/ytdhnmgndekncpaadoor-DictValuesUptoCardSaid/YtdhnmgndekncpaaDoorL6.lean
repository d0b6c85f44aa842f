/- A dictionary of values: the number of a whole number. -/
import Derived.Test.YtdhnmgndekncpaaDoorL5
namespace Go.Proofs.YtdhnmgndekncpaaDoor
open Go Go.RowKit Go.Maps Go.WideMaps

def strK (l : List UInt8) : ByteArray := ⟨l.toArray⟩
def key3 : List UInt8 := [2, 0, 0, 0, 0, 0, 0, 0, 3]
theorem whole3 : wholeCells 3 = Lib.byteCells key3 := by rfl
theorem conv_row {w : World} {base : Nat} {v : Value} {l : List UInt8} (h : w.ownsRow base 5 1 v l.length (Lib.byteCells l)) : (convert 106 9 v).run Tryd.prog w = .ok (.string (strK l)) w := by
  have he : Tryd.prog.underlying 5 = some (.int .u8) := by kernel_rfl
  have hd : Tryd.prog.underlying 9 = some .string := by kernel_rfl
  rcases h.2 with ⟨rfl, h0⟩ | ⟨g, cap, cur, rfl, _, hg, _, _, _, htake⟩
  · obtain rfl : l = [] := List.eq_nil_of_length_eq_zero h0
    exact Lib.run_convert_nil_bytes w 106 9 5 0 Tryd.underlying106 he hd
  · exact run_convert_bytes_back w 106 9 5 ⟨g, 0, none⟩ cap l Tryd.underlying106 he hd (Lib.bytes_of_row hg (by simpa using htake))
theorem key3_VS : VS (strK key3) := by unfold VS; decide

theorem ownsRow_drewN {w : World} {base : Nat} {e : TypeId} {size : Nat} {v : Value} {n : Nat} {xs : List Value} (h : w.ownsRow base e size v n xs) (k : Nat) : (w.drewN k).ownsRow base e size v n xs := by
  unfold World.ownsRow at h ⊢
  have e : (w.drewN k).heap = w.heap := by simp
  rw [e]; exact h

theorem conv_row3 {w : World} {base : Nat} {v : Value} (h : w.ownsRow base 5 1 v (wholeCells 3).length (wholeCells 3)) (k : Nat) : (convert 106 9 v).run Tryd.prog (w.drewN k) = .ok (.string (strK key3)) (w.drewN k) := by
  rw [whole3] at h
  have h' : w.ownsRow base 5 1 v key3.length (Lib.byteCells key3) := h
  exact conv_row (w := w.drewN k) (show (w.drewN k).ownsRow base 5 1 v key3.length (Lib.byteCells key3) from by
    have := ownsRow_drewN h' k
    exact this)

set_option maxRecDepth 100000 in
set_option maxHeartbeats 400000 in
theorem valId_new {w : World} {B p b m : Nat} {v : Value} {D : DataW Unit} (h : DictV w B p b m v [] D) (hap : ¬ SB b m v p) :
    Calls Tryd.prog 47 #[.pointer (some ⟨p, 0, none⟩), .agg #[.int .i64 2, .bool false, .int .i64 3, .string ⟨#[]⟩, .string ⟨#[]⟩, .slice none 0 0]] w fun e w' => e = .returned (.tuple #[.int .i64 0, .int .i64 0]) ∧
      (∃ v' D', DictV w' B p b m v' [strK key3] D') ∧ Turn (SB b m v) w w' := by
  have hlt := h.dict.lt
  have hp : p < w.heap.size := by
    rcases Nat.lt_or_ge p w.heap.size with h' | h'
    · exact h'
    · have := h.blk
      rw [Array.getElem?_eq_none h'] at this; cases this
  have HX := Lib.hid h
  clear h
  go_enter Tryd.func47, Tryd.ntmps47
  go_wp2_with fail
  refine (encode_whole 3 _ (by decide) (by decide)).mono ?_
  rintro e w1 ⟨v1, rfl, ho, hb⟩
  have hb1 : Below w.heap.size w w1 := ((Below.refl w.heap.size w).alloc (Nat.le_refl _) _).trans (hb.mono (by simp))
  have hd1 : DictS w1 B b m v [] D := HX.out.dict.below hb1 hlt.1 hlt.2.1 (fun g hg => (hlt.2.2 g hg).2)
  have hp1 : w1.heap[p]? = some (.cells #[.pointer (some ⟨b, 0, none⟩)] 91 (0, 0)) := (hb1.block p hp).trans HX.out.blk
  have c1 : w1.cell? ⟨p, 0, none⟩ = some (.pointer (some ⟨b, 0, none⟩)) := Lib.cell_of_heap hp1 0
  have hcv : (convert 106 9 v1).run Tryd.prog w1 = .ok (.string (strK key3)) w1 := conv_row3 ho 0
  have hcv1 : (convert 106 9 v1).run Tryd.prog w1.drew = .ok (.string (strK key3)) w1.drew := conv_row3 ho 1
  have HD := Lib.hid hd1
  have HP := Lib.hid hp1
  have HB := Lib.hid hb1
  clear hd1 hp1 hb1 hb ho
  go_wp2_with fail
  go_still_tail 6, (by kernel_rfl)
  change wpList _ _ _ _ _ (World.drew _)
  have hdd : DictS w1.drew B b m v [] D := HD.out.turn (S := fun _ => False) (Turn.refl _ w1).drew (fun h => h) (fun h => h) (fun _ _ h => h)
  clear hcv hcv1
  go_wp2_with fail
  refine (idS_new hdd (strK key3) key3_VS (by simp) (by simp)).mono ?_
  rintro e w2 ⟨rfl, ⟨v2, hd2, hv2⟩, ht2⟩
  have HD2 := Lib.hid hd2
  have HT2 := Lib.hid ht2
  have HV2 := Lib.hid hv2
  clear hd2 hv2 ht2 hdd
  go_wp2
  go_ret2
  have hpl : p < w1.drew.heap.size := Nat.lt_of_lt_of_le hp HB.out.size
  refine ⟨rfl, ⟨v2, _, (HT2.out.block p hpl hap).trans HP.out, HD2.out, HX.out.lop⟩, ?_⟩
  exact (((Turn.of_below HB.out).mono (fun i hi h => absurd h (by omega))).drew).trans HT2.out
end Go.Proofs.YtdhnmgndekncpaaDoor
