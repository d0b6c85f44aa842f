/- Walks of Word, Quote and Key of package lex. -/
import Derived.Test.YtaaomjpkgpjegaaC2
namespace Go.Proofs.Ytaaomjpkgpjegaa
open Go.RowKit

/-- Whether a text is a word. -/
def wordB (l : List UInt8) : Bool := decide (1 ≤ l.length ∧ l.length ≤ 64 ∧ wordLen l = l.length)

/-- How a byte is written within quotes. -/
def escL (c : UInt8) : List UInt8 := if c = 34 then [92, 34] else if c = 92 then [92, 92] else if c = 10 then [92, 110] else if c = 9 then [92, 116] else [c]
/-- How a text is written. -/
def quoteL (l : List UInt8) : List UInt8 := 34 :: (l.flatMap escL ++ [34])

theorem escL_le (c : UInt8) : (escL c).length ≤ 2 := by
  unfold escL
  split; · simp
  split; · simp
  split; · simp
  split <;> simp
theorem flat_escL_le (l : List UInt8) : (l.flatMap escL).length ≤ 2 * l.length := by
  induction l with
  | nil => simp
  | cons c l ih => simp only [List.flatMap_cons, List.length_append, List.length_cons]; have := escL_le c; omega
theorem take_more {s : ByteArray} {k : Nat} (h : k < s.size) : s.data.toList.take (k + 1) = s.data.toList.take k ++ [s[k]] := by
  rw [List.take_succ_eq_append_getElem (by simpa using h)]
  rfl

theorem out_index (d : UInt8) : (escL d = [d] ∧ Lib.indexByte [34, 92, 10, 9] d = -1) ∨ (escL d = [92, 34] ∧ Lib.indexByte [34, 92, 10, 9] d = 0) ∨
    (escL d = [92, 92] ∧ Lib.indexByte [34, 92, 10, 9] d = 1) ∨ (escL d = [92, 110] ∧ Lib.indexByte [34, 92, 10, 9] d = 2) ∨ (escL d = [92, 116] ∧ Lib.indexByte [34, 92, 10, 9] d = 3) := by
  by_cases h1 : d = 34
  · subst h1; exact .inr (.inl ⟨rfl, rfl⟩)
  by_cases h2 : d = 92
  · subst h2; exact .inr (.inr (.inl ⟨rfl, rfl⟩))
  by_cases h3 : d = 10
  · subst h3; exact .inr (.inr (.inr (.inl ⟨rfl, rfl⟩)))
  by_cases h4 : d = 9
  · subst h4; exact .inr (.inr (.inr (.inr ⟨rfl, rfl⟩)))
  refine .inl ⟨by unfold escL; rw [if_neg h1, if_neg h2, if_neg h3, if_neg h4], ?_⟩
  simp [Lib.indexByte, Ne.symm h1, Ne.symm h2, Ne.symm h3, Ne.symm h4]

set_option maxHeartbeats 1000000 in
theorem word_w (s : ByteArray) (hs : s.size ≤ 100000) (w : World) :
    Calls Try.prog 11 #[.string s] w fun e w' => e = .returned (.bool (wordB s.data.toList)) ∧ Below w.heap.size w w' := by
  have hl : s.data.toList.length = s.size := by simp
  have hlx : LexAt (w.alloc (.cells #[.string s, .int .i64 0, .int .i64 (0 : Nat), .bool false] 42)) w.heap.size s 0 := ⟨(Blk.new w 42 _).cell 0, (Blk.new w 42 _).cell 2⟩
  obtain ⟨n, HN⟩ := name_it (wordLen ((s.data.toList.drop 0).drop 0))
  have HN' : Hid (wordLen s.data.toList = n) := HN
  by_cases h1 : 1 ≤ s.size
  · by_cases h2 : s.size ≤ 64
    · have HW : Hid (wordB s.data.toList = decide (n = s.size)) := Lib.hid (by unfold wordB; rw [HN'.out, hl]; simp [h1, h2])
      clear hl
      go_enter Try.func11, Try.ntmps11
      go_wp2_with fail
      refine (word_at hs (Nat.zero_le _) hlx 0 0 _ _ rfl (by omega) HN.out).mono ?_
      rintro e w' ⟨rfl, j, rfl⟩
      go_wp2
      go_ret
      refine ⟨by rw [HW.out]; exact ret_bool (by rw [Bool.eq_iff_iff]; simp; omega), below_drewN ((Below.refl _ _).alloc (Nat.le_refl _) _) _⟩
    · have HW : Hid (wordB s.data.toList = false) := Lib.hid (by unfold wordB; rw [hl]; simp; omega)
      clear hl
      go_enter Try.func11, Try.ntmps11
      go_wp2
      go_ret
      exact ⟨by rw [HW.out]; rfl, (Below.refl _ _).alloc (Nat.le_refl _) _⟩
  · have HW : Hid (wordB s.data.toList = false) := Lib.hid (by unfold wordB; rw [hl]; simp; omega)
    clear hl
    go_enter Try.func11, Try.ntmps11
    go_wp2
    go_ret
    exact ⟨by rw [HW.out]; rfl, (Below.refl _ _).alloc (Nat.le_refl _) _⟩

set_option maxHeartbeats 2000000 in
theorem quote_any (s : ByteArray) (hs : s.size ≤ 100000) (w : World) :
    Calls Try.prog 15 #[.string s] w fun e w' => e = .returned (.string (strB (quoteL s.data.toList))) ∧ Below w.heap.size w w' := by
  have hfresh := Lib.fresh_isBuilder 50 5 w
  have hbw : Below w.heap.size w (w.alloc (.cells #[.pointer none, .slice none 0 0] 50)) := (Below.refl _ _).alloc (Nat.le_refl _) _
  go_enter Try.func15, Try.ntmps15
  go_wp2_with fail
  refine (writeByte_any w.heap.size w.heap.size [] 34 _ hfresh (by simp) (by simp)).mono ?_
  rintro e w1 ⟨rfl, hB1, hb1⟩
  go_wp2
  go_loopw [9] (fun n wr => ∃ (k : Nat) (acc : List UInt8), k ≤ s.size ∧ acc.length ≤ 2 * k + 1 ∧ n = .int .i64 k ∧ Hid (acc = 34 :: (s.data.toList.take k).flatMap escL) ∧ Lib.IsBuilder 50 5 w.heap.size w.heap.size (Lib.byteCells acc) wr ∧ Below w.heap.size w wr) (fun n _ => s.size - (intOf n).toNat)
  case atStart => exact ⟨0, [34], Nat.zero_le _, by simp, rfl, Lib.hid (by simp), hB1, hbw.trans hb1⟩
  case round =>
    obtain ⟨k, acc, hk, hacc, rfl, HK, hB, hbel⟩ := hrel
    have hsz := hbel.size
    by_cases hlt : k < s.size
    · go_wp2_with fail
      refine (Try.strings_IndexByte _ _ _).mono ?_
      rintro e w2 ⟨rfl, rfl⟩
      rw [u8_back]
      rcases out_index s[k] with ⟨u1, i1⟩ | ⟨u1, i1⟩ | ⟨u1, i1⟩ | ⟨u1, i1⟩ | ⟨u1, i1⟩
      · rw [i1]
        have HU := Lib.hid u1
        clear i1 u1
        go_wp2_with fail
        refine (writeByte_any w.heap.size w.heap.size (Lib.byteCells acc) _ _ hB (by rw [Lib.byteCells_length]; omega) hsz).mono ?_
        rintro e w3 ⟨rfl, hB3, hb3⟩
        go_wp2
        go_roundw
        case rel => exact ⟨k + 1, acc ++ [s[k]], by omega, by simp; omega, by go_num, Lib.hid (by rw [HK.out, take_more hlt, List.flatMap_append]; simp [HU.out]), by rw [byteCells_snoc]; exact hB3, hbel.trans hb3⟩
        case measure => simp [intOf]; omega
      · rw [i1]
        have HU := Lib.hid u1
        clear i1 u1
        go_wp2_with fail
        refine (writeByte_any w.heap.size w.heap.size (Lib.byteCells acc) 92 _ hB (by rw [Lib.byteCells_length]; omega) hsz).mono ?_
        rintro e w3 ⟨rfl, hB3, hb3⟩
        have hsz3 := Nat.le_trans hsz hb3.size
        go_wp2_with fail
        refine (writeByte_any w.heap.size w.heap.size (Lib.byteCells acc ++ [.int .u8 92]) 34 _ hB3 (by rw [List.length_append, Lib.byteCells_length]; simp; omega) hsz3).mono ?_
        rintro e w4 ⟨rfl, hB4, hb4⟩
        go_wp2
        go_roundw
        case rel => exact ⟨k + 1, acc ++ [92, 34], by omega, by simp; omega, by go_num, Lib.hid (by rw [HK.out, take_more hlt, List.flatMap_append]; simp [HU.out]), by rw [show Lib.byteCells (acc ++ [92, 34]) = Lib.byteCells acc ++ [.int .u8 92] ++ [.int .u8 34] by simp [Lib.byteCells]]; exact hB4, (hbel.trans hb3).trans hb4⟩
        case measure => simp [intOf]; omega
      · rw [i1]
        have HU := Lib.hid u1
        clear i1 u1
        go_wp2_with fail
        refine (writeByte_any w.heap.size w.heap.size (Lib.byteCells acc) 92 _ hB (by rw [Lib.byteCells_length]; omega) hsz).mono ?_
        rintro e w3 ⟨rfl, hB3, hb3⟩
        have hsz3 := Nat.le_trans hsz hb3.size
        go_wp2_with fail
        refine (writeByte_any w.heap.size w.heap.size (Lib.byteCells acc ++ [.int .u8 92]) 92 _ hB3 (by rw [List.length_append, Lib.byteCells_length]; simp; omega) hsz3).mono ?_
        rintro e w4 ⟨rfl, hB4, hb4⟩
        go_wp2
        go_roundw
        case rel => exact ⟨k + 1, acc ++ [92, 92], by omega, by simp; omega, by go_num, Lib.hid (by rw [HK.out, take_more hlt, List.flatMap_append]; simp [HU.out]), by rw [show Lib.byteCells (acc ++ [92, 92]) = Lib.byteCells acc ++ [.int .u8 92] ++ [.int .u8 92] by simp [Lib.byteCells]]; exact hB4, (hbel.trans hb3).trans hb4⟩
        case measure => simp [intOf]; omega
      · rw [i1]
        have HU := Lib.hid u1
        clear i1 u1
        go_wp2_with fail
        refine (writeByte_any w.heap.size w.heap.size (Lib.byteCells acc) 92 _ hB (by rw [Lib.byteCells_length]; omega) hsz).mono ?_
        rintro e w3 ⟨rfl, hB3, hb3⟩
        have hsz3 := Nat.le_trans hsz hb3.size
        go_wp2_with fail
        refine (writeByte_any w.heap.size w.heap.size (Lib.byteCells acc ++ [.int .u8 92]) 110 _ hB3 (by rw [List.length_append, Lib.byteCells_length]; simp; omega) hsz3).mono ?_
        rintro e w4 ⟨rfl, hB4, hb4⟩
        go_wp2
        go_roundw
        case rel => exact ⟨k + 1, acc ++ [92, 110], by omega, by simp; omega, by go_num, Lib.hid (by rw [HK.out, take_more hlt, List.flatMap_append]; simp [HU.out]), by rw [show Lib.byteCells (acc ++ [92, 110]) = Lib.byteCells acc ++ [.int .u8 92] ++ [.int .u8 110] by simp [Lib.byteCells]]; exact hB4, (hbel.trans hb3).trans hb4⟩
        case measure => simp [intOf]; omega
      · rw [i1]
        have HU := Lib.hid u1
        clear i1 u1
        go_wp2_with fail
        refine (writeByte_any w.heap.size w.heap.size (Lib.byteCells acc) 92 _ hB (by rw [Lib.byteCells_length]; omega) hsz).mono ?_
        rintro e w3 ⟨rfl, hB3, hb3⟩
        have hsz3 := Nat.le_trans hsz hb3.size
        go_wp2_with fail
        refine (writeByte_any w.heap.size w.heap.size (Lib.byteCells acc ++ [.int .u8 92]) 116 _ hB3 (by rw [List.length_append, Lib.byteCells_length]; simp; omega) hsz3).mono ?_
        rintro e w4 ⟨rfl, hB4, hb4⟩
        go_wp2
        go_roundw
        case rel => exact ⟨k + 1, acc ++ [92, 116], by omega, by simp; omega, by go_num, Lib.hid (by rw [HK.out, take_more hlt, List.flatMap_append]; simp [HU.out]), by rw [show Lib.byteCells (acc ++ [92, 116]) = Lib.byteCells acc ++ [.int .u8 92] ++ [.int .u8 116] by simp [Lib.byteCells]]; exact hB4, (hbel.trans hb3).trans hb4⟩
        case measure => simp [intOf]; omega
    · have he : k = s.size := by omega
      have HE : Hid (acc ++ [34] = quoteL s.data.toList) := Lib.hid (by rw [HK.out, he, List.take_of_length_le (by simp)]; rfl)
      clear he
      go_wp2_with fail
      refine (writeByte_any w.heap.size w.heap.size (Lib.byteCells acc) 34 _ hB (by rw [Lib.byteCells_length]; omega) hsz).mono ?_
      rintro e w3 ⟨rfl, hB3, hb3⟩
      have hB3' : Lib.IsBuilder 50 5 w.heap.size w.heap.size (Lib.byteCells (acc ++ [34])) w3 := by rw [byteCells_snoc]; exact hB3
      have hsz3 := Nat.le_trans hsz hb3.size
      go_wp2_with fail
      refine (Try.Builder_String_any w.heap.size w.heap.size (acc ++ [34]) _ hB3' hsz3).mono ?_
      rintro e w4 ⟨rfl, hb4⟩
      go_wp2
      go_ret
      exact ⟨by rw [HE.out]; rfl, (hbel.trans hb3).trans hb4⟩

end Go.Proofs.Ytaaomjpkgpjegaa
