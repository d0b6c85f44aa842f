/- lex.Quote, ParseInt's range fault, and the evaluator with them. -/
import Derived.Test.YtngdilbfhpcfgaaGreatDoorXI
import Derived.Test.YtngdilbfhpcfgaaGreatDoorEF
import Derived.Test.YtngdilbfhpcfgaaGreatDoorXJ
import Derived.Test.YtngdilbfhpcfgaaGreatDoorXL
set_option linter.unusedSimpArgs false
set_option linter.unusedVariables false
/- Walks of Word, Quote and Key of package lex. -/
namespace Go.Proofs.YtngdilbfhpcfgaaGreatDoor
set_option maxRecDepth 100000
open Go.RowKit

/-- Whether a text is a word. -/
def wordB (l : List UInt8) : Bool := decide (1 ≤ l.length ∧ l.length ≤ 64 ∧ wordLen l = l.length)

/-- How a byte is written within quotes. -/
def escL (c : UInt8) : List UInt8 := if c = 34 then [92, 34] else if c = 92 then [92, 92] else if c = 10 then [92, 110] else if c = 9 then [92, 116] else [c]
/-- How a text is written. -/
def quoteL (l : List UInt8) : List UInt8 := 34 :: (l.flatMap escL ++ [34])

theorem escL_le (c : UInt8) : (escL c).length ≤ 2 := by
  unfold escL
  split; · simp
  split; · simp
  split; · simp
  split <;> simp
theorem flat_escL_le (l : List UInt8) : (l.flatMap escL).length ≤ 2 * l.length := by
  induction l with
  | nil => simp
  | cons c l ih => simp only [List.flatMap_cons, List.length_append, List.length_cons]; have := escL_le c; omega
theorem take_more {s : ByteArray} {k : Nat} (h : k < s.size) : s.data.toList.take (k + 1) = s.data.toList.take k ++ [s[k]] := by
  rw [List.take_succ_eq_append_getElem (by simpa using h)]
  rfl

theorem out_index (d : UInt8) : (escL d = [d] ∧ Lib.indexByte [34, 92, 10, 9] d = -1) ∨ (escL d = [92, 34] ∧ Lib.indexByte [34, 92, 10, 9] d = 0) ∨
    (escL d = [92, 92] ∧ Lib.indexByte [34, 92, 10, 9] d = 1) ∨ (escL d = [92, 110] ∧ Lib.indexByte [34, 92, 10, 9] d = 2) ∨ (escL d = [92, 116] ∧ Lib.indexByte [34, 92, 10, 9] d = 3) := by
  by_cases h1 : d = 34
  · subst h1; exact .inr (.inl ⟨rfl, rfl⟩)
  by_cases h2 : d = 92
  · subst h2; exact .inr (.inr (.inl ⟨rfl, rfl⟩))
  by_cases h3 : d = 10
  · subst h3; exact .inr (.inr (.inr (.inl ⟨rfl, rfl⟩)))
  by_cases h4 : d = 9
  · subst h4; exact .inr (.inr (.inr (.inr ⟨rfl, rfl⟩)))
  refine .inl ⟨by unfold escL; rw [if_neg h1, if_neg h2, if_neg h3, if_neg h4], ?_⟩
  simp [Lib.indexByte, Ne.symm h1, Ne.symm h2, Ne.symm h3, Ne.symm h4]

set_option maxHeartbeats 1000000 in
theorem word_w (s : ByteArray) (hs : s.size ≤ 100000) (w : World) :
    Calls Tryz.prog 255 #[.string s] w fun e w' => e = .returned (.bool (wordB s.data.toList)) ∧ Below w.heap.size w w' := by
  have hl : s.data.toList.length = s.size := by simp
  have hlx : LexAt (w.alloc (.cells #[.string s, .int .i64 0, .int .i64 (0 : Nat), .bool false] 114)) w.heap.size s 0 := ⟨(Blk.new w 114 _).cell 0, (Blk.new w 114 _).cell 2⟩
  obtain ⟨n, HN⟩ := name_it (wordLen ((s.data.toList.drop 0).drop 0))
  have HN' : Hid (wordLen s.data.toList = n) := HN
  by_cases h1 : 1 ≤ s.size
  · by_cases h2 : s.size ≤ 64
    · have HW : Hid (wordB s.data.toList = decide (n = s.size)) := Lib.hid (by unfold wordB; rw [HN'.out, hl]; simp [h1, h2])
      clear hl
      go_enter Tryz.func255, Tryz.ntmps255
      go_wp2_with fail
      refine (word_at hs (Nat.zero_le _) hlx 0 0 _ _ rfl (by omega) HN.out).mono ?_
      rintro e w' ⟨rfl, j, rfl⟩
      go_wp2
      go_ret
      refine ⟨by rw [HW.out]; exact ret_bool (by rw [Bool.eq_iff_iff]; simp; omega), below_drewN ((Below.refl _ _).alloc (Nat.le_refl _) _) _⟩
    · have HW : Hid (wordB s.data.toList = false) := Lib.hid (by unfold wordB; rw [hl]; simp; omega)
      clear hl
      go_enter Tryz.func255, Tryz.ntmps255
      go_wp2
      go_ret
      exact ⟨by rw [HW.out]; rfl, (Below.refl _ _).alloc (Nat.le_refl _) _⟩
  · have HW : Hid (wordB s.data.toList = false) := Lib.hid (by unfold wordB; rw [hl]; simp; omega)
    clear hl
    go_enter Tryz.func255, Tryz.ntmps255
    go_wp2
    go_ret
    exact ⟨by rw [HW.out]; rfl, (Below.refl _ _).alloc (Nat.le_refl _) _⟩

set_option maxHeartbeats 2000000 in
theorem quote_any (s : ByteArray) (hs : s.size ≤ 100000) (w : World) :
    Calls Tryz.prog 253 #[.string s] w fun e w' => e = .returned (.string (strB (quoteL s.data.toList))) ∧ Below w.heap.size w w' := by
  have hfresh := Lib.fresh_isBuilder 200 5 w
  have hbw : Below w.heap.size w (w.alloc (.cells #[.pointer none, .slice none 0 0] 200)) := (Below.refl _ _).alloc (Nat.le_refl _) _
  go_enter Tryz.func253, Tryz.ntmps253
  go_wp2_with fail
  refine (writeByte_any w.heap.size w.heap.size [] 34 _ hfresh (by simp) (by simp)).mono ?_
  rintro e w1 ⟨rfl, hB1, hb1⟩
  go_wp2
  go_loopw [9] (fun n wr => ∃ (k : Nat) (acc : List UInt8), k ≤ s.size ∧ acc.length ≤ 2 * k + 1 ∧ n = .int .i64 k ∧ Hid (acc = 34 :: (s.data.toList.take k).flatMap escL) ∧ Lib.IsBuilder 200 5 w.heap.size w.heap.size (Lib.byteCells acc) wr ∧ Below w.heap.size w wr) (fun n _ => s.size - (intOf n).toNat)
  case atStart => exact ⟨0, [34], Nat.zero_le _, by simp, rfl, Lib.hid (by simp), hB1, hbw.trans hb1⟩
  case round =>
    obtain ⟨k, acc, hk, hacc, rfl, HK, hB, hbel⟩ := hrel
    have hsz := hbel.size
    by_cases hlt : k < s.size
    · go_wp2_with fail
      refine (lx_IndexByte _ _ _).mono ?_
      rintro e w2 ⟨rfl, rfl⟩
      rw [u8_back]
      rcases out_index s[k] with ⟨u1, i1⟩ | ⟨u1, i1⟩ | ⟨u1, i1⟩ | ⟨u1, i1⟩ | ⟨u1, i1⟩
      · rw [i1]
        have HU := Lib.hid u1
        clear i1 u1
        go_wp2_with fail
        refine (writeByte_any w.heap.size w.heap.size (Lib.byteCells acc) _ _ hB (by rw [Lib.byteCells_length]; omega) hsz).mono ?_
        rintro e w3 ⟨rfl, hB3, hb3⟩
        go_wp2
        go_roundw
        case rel => exact ⟨k + 1, acc ++ [s[k]], by omega, by simp; omega, by go_num, Lib.hid (by rw [HK.out, take_more hlt, List.flatMap_append]; simp [HU.out]), by rw [byteCells_snoc]; exact hB3, hbel.trans hb3⟩
        case measure => simp [intOf]; omega
      · rw [i1]
        have HU := Lib.hid u1
        clear i1 u1
        go_wp2_with fail
        refine (writeByte_any w.heap.size w.heap.size (Lib.byteCells acc) 92 _ hB (by rw [Lib.byteCells_length]; omega) hsz).mono ?_
        rintro e w3 ⟨rfl, hB3, hb3⟩
        have hsz3 := Nat.le_trans hsz hb3.size
        go_wp2_with fail
        refine (writeByte_any w.heap.size w.heap.size (Lib.byteCells acc ++ [.int .u8 92]) 34 _ hB3 (by rw [List.length_append, Lib.byteCells_length]; simp; omega) hsz3).mono ?_
        rintro e w4 ⟨rfl, hB4, hb4⟩
        go_wp2
        go_roundw
        case rel => exact ⟨k + 1, acc ++ [92, 34], by omega, by simp; omega, by go_num, Lib.hid (by rw [HK.out, take_more hlt, List.flatMap_append]; simp [HU.out]), by rw [show Lib.byteCells (acc ++ [92, 34]) = Lib.byteCells acc ++ [.int .u8 92] ++ [.int .u8 34] by simp [Lib.byteCells]]; exact hB4, (hbel.trans hb3).trans hb4⟩
        case measure => simp [intOf]; omega
      · rw [i1]
        have HU := Lib.hid u1
        clear i1 u1
        go_wp2_with fail
        refine (writeByte_any w.heap.size w.heap.size (Lib.byteCells acc) 92 _ hB (by rw [Lib.byteCells_length]; omega) hsz).mono ?_
        rintro e w3 ⟨rfl, hB3, hb3⟩
        have hsz3 := Nat.le_trans hsz hb3.size
        go_wp2_with fail
        refine (writeByte_any w.heap.size w.heap.size (Lib.byteCells acc ++ [.int .u8 92]) 92 _ hB3 (by rw [List.length_append, Lib.byteCells_length]; simp; omega) hsz3).mono ?_
        rintro e w4 ⟨rfl, hB4, hb4⟩
        go_wp2
        go_roundw
        case rel => exact ⟨k + 1, acc ++ [92, 92], by omega, by simp; omega, by go_num, Lib.hid (by rw [HK.out, take_more hlt, List.flatMap_append]; simp [HU.out]), by rw [show Lib.byteCells (acc ++ [92, 92]) = Lib.byteCells acc ++ [.int .u8 92] ++ [.int .u8 92] by simp [Lib.byteCells]]; exact hB4, (hbel.trans hb3).trans hb4⟩
        case measure => simp [intOf]; omega
      · rw [i1]
        have HU := Lib.hid u1
        clear i1 u1
        go_wp2_with fail
        refine (writeByte_any w.heap.size w.heap.size (Lib.byteCells acc) 92 _ hB (by rw [Lib.byteCells_length]; omega) hsz).mono ?_
        rintro e w3 ⟨rfl, hB3, hb3⟩
        have hsz3 := Nat.le_trans hsz hb3.size
        go_wp2_with fail
        refine (writeByte_any w.heap.size w.heap.size (Lib.byteCells acc ++ [.int .u8 92]) 110 _ hB3 (by rw [List.length_append, Lib.byteCells_length]; simp; omega) hsz3).mono ?_
        rintro e w4 ⟨rfl, hB4, hb4⟩
        go_wp2
        go_roundw
        case rel => exact ⟨k + 1, acc ++ [92, 110], by omega, by simp; omega, by go_num, Lib.hid (by rw [HK.out, take_more hlt, List.flatMap_append]; simp [HU.out]), by rw [show Lib.byteCells (acc ++ [92, 110]) = Lib.byteCells acc ++ [.int .u8 92] ++ [.int .u8 110] by simp [Lib.byteCells]]; exact hB4, (hbel.trans hb3).trans hb4⟩
        case measure => simp [intOf]; omega
      · rw [i1]
        have HU := Lib.hid u1
        clear i1 u1
        go_wp2_with fail
        refine (writeByte_any w.heap.size w.heap.size (Lib.byteCells acc) 92 _ hB (by rw [Lib.byteCells_length]; omega) hsz).mono ?_
        rintro e w3 ⟨rfl, hB3, hb3⟩
        have hsz3 := Nat.le_trans hsz hb3.size
        go_wp2_with fail
        refine (writeByte_any w.heap.size w.heap.size (Lib.byteCells acc ++ [.int .u8 92]) 116 _ hB3 (by rw [List.length_append, Lib.byteCells_length]; simp; omega) hsz3).mono ?_
        rintro e w4 ⟨rfl, hB4, hb4⟩
        go_wp2
        go_roundw
        case rel => exact ⟨k + 1, acc ++ [92, 116], by omega, by simp; omega, by go_num, Lib.hid (by rw [HK.out, take_more hlt, List.flatMap_append]; simp [HU.out]), by rw [show Lib.byteCells (acc ++ [92, 116]) = Lib.byteCells acc ++ [.int .u8 92] ++ [.int .u8 116] by simp [Lib.byteCells]]; exact hB4, (hbel.trans hb3).trans hb4⟩
        case measure => simp [intOf]; omega
    · have he : k = s.size := by omega
      have HE : Hid (acc ++ [34] = quoteL s.data.toList) := Lib.hid (by rw [HK.out, he, List.take_of_length_le (by simp)]; rfl)
      clear he
      go_wp2_with fail
      refine (writeByte_any w.heap.size w.heap.size (Lib.byteCells acc) 34 _ hB (by rw [Lib.byteCells_length]; omega) hsz).mono ?_
      rintro e w3 ⟨rfl, hB3, hb3⟩
      have hB3' : Lib.IsBuilder 200 5 w.heap.size w.heap.size (Lib.byteCells (acc ++ [34])) w3 := by rw [byteCells_snoc]; exact hB3
      have hsz3 := Nat.le_trans hsz hb3.size
      go_wp2_with fail
      refine (lx_String_any w.heap.size w.heap.size (acc ++ [34]) _ hB3' hsz3).mono ?_
      rintro e w4 ⟨rfl, hb4⟩
      go_wp2
      go_ret
      exact ⟨by rw [HE.out]; rfl, (hbel.trans hb3).trans hb4⟩

end Go.Proofs.YtngdilbfhpcfgaaGreatDoor
/- lex.Quote, as the evaluator takes it. -/
namespace Go.Proofs.YtngdilbfhpcfgaaGreatDoor
set_option maxRecDepth 100000
open Go Go.RowKit Go.Proofs.Ev
noncomputable section
def quoteE (args : List Go.Proofs.Ev.V) (h : T AObj) (nx : Nat) : R (Go.Proofs.Ev.V × T AObj × Nat) :=
  match args with
  | [.s l n] => gd (Nat.ble l 100000) (some (.s (quoteL (bytesU l n)).length (encL (quoteL (bytesU l n))), h, nx))
  | _ => none
end
theorem quote_ext (w0 : Base) {args : List Go.Proofs.Ev.V} {h : T AObj} {nx : Nat} {r : Go.Proofs.Ev.V × T AObj × Nat} (he : quoteE args h nx = some r) : GoodJ Tryz.prog w0 (.call 253 args h nx) (.got r.1 r.2.1 r.2.2) := by
  intro ρ xs w I hv
  unfold quoteE at he
  split at he
  · rename_i l n
    obtain ⟨h1, he⟩ := gd_some.1 he
    injection he with he
    subst he
    have h1 := ble_true.1 h1
    obtain ⟨x, hx, hvx⟩ := hv.li1
    obtain rfl : xs = #[x] := Array.toList_inj.1 hx
    obtain ⟨s, rfl, rfl, rfl⟩ := hvx.str_inv
    refine Calls.mono (quote_any s h1 w) fun e w' hq => ?_
    obtain ⟨rfl, hb⟩ := hq
    refine ⟨ρ, _, _, _, rfl, Rho.le_refl ρ, I.below hb, ?_⟩
    rw [bytesU_of rfl rfl]
    exact VR.str ρ _
  · cases he
end Go.Proofs.YtngdilbfhpcfgaaGreatDoor
/- ParseInt where the number may be one that no int64 holds: the fault comes out of a package-level variable. -/
namespace Go.Proofs.YtngdilbfhpcfgaaGreatDoor
set_option maxRecDepth 100000
open Go Go.RowKit Go.Shelf Go.Proofs.Ev

/-- The world holds the fault of numbers that are too large. -/
def KG (w0 : Base) : Prop := ∃ ev, w0.toWorld.cell? ⟨3, 0, none⟩ = some ev ∧ (ev = .nilIface ∨ ∃ te pe, ev = .iface te pe)
theorem KG.more (w0 : Base) (X : Nat → Prop) (h : KG w0) : KG (w0.more X) := h
theorem KG.cell {w0 : Base} {ρ : Rho} {h : T AObj} {nx : Nat} {w : World} (hk : KG w0) (I : Inv w0 ρ h nx w) : ∃ ev, w.cell? ⟨3, 0, none⟩ = some ev ∧ (ev = .nilIface ∨ ∃ te pe, ev = .iface te pe) := by
  obtain ⟨ev, h1, h2⟩ := hk
  refine ⟨ev, ?_, h2⟩
  have hl : 3 < w0.heap.size := Lib.lt_of_cell h1
  rw [← h1]
  exact World.cell?_of_block (I.old _ hl)
theorem KG.inv {w0 : Base} {ρ : Rho} {h : T AObj} {nx : Nat} {w : World} (hk : KG w0) (I : Inv w0 ρ h nx w) : KG ⟨w, fun _ => False⟩ := hk.cell I
theorem range_ext (w0 : Base) (hk : KG w0) {args : List Go.Proofs.Ev.V} {h : T AObj} {nx : Nat} {r : Go.Proofs.Ev.V × T AObj × Nat} (he : parseRE 337 args h nx = some r) : GoodJ Tryz.prog w0 (.call 158 args h nx) (.got r.1 r.2.1 r.2.2) := by
  intro ρ xs w I hv
  unfold parseRE at he
  split at he
  · rename_i l n b z
    obtain ⟨h1, he⟩ := gd_some.1 he
    obtain ⟨h2, he⟩ := gd_some.1 he
    obtain ⟨h3, he⟩ := gd_some.1 he
    obtain ⟨h4, he⟩ := gd_some.1 he
    obtain ⟨u, h5, he⟩ := bd_some.1 he
    cases h6 : Nat.ble u 999999999999999999 with
    | true =>
      rw [h6] at he
      exact parse_ext w0 (r := r) (by
        show parseE [.s l n, .i .i64 b, .i .i64 z] h nx = some r
        unfold parseE
        simp only [h1, h2, h3, h4, h5, h6, gd, bd]
        exact he) ρ xs w I hv
    | false =>
      rw [h6] at he
      obtain ⟨h7, he⟩ := gd_some.1 he
      obtain ⟨h8, he⟩ := gd_some.1 he
      injection he with he
      subst he
      have h1 : b = 10 + off := beq_true.1 h1
      have h2 : z = 64 + off := beq_true.1 h2
      have h3 := ble_true.1 h3
      have h4 := ble_true.1 h4
      have h7 := ble_true.1 h7
      have h8 := ble_true.1 h8
      subst h1; subst h2
      obtain ⟨x, y, y', hx, hvx, hvy, hvz⟩ := hv.li3
      obtain rfl : xs = #[x, y, y'] := Array.toList_inj.1 hx
      obtain ⟨s, rfl, rfl, rfl⟩ := hvx.str_inv
      have e1 := hvy.int_inv
      have e2 := hvz.int_inv
      have q1 : (((10 + off : Nat) : Int) - 9223372036854775808) = 10 := by have : off = 9223372036854775808 := rfl; omega
      have q2 : (((64 + off : Nat) : Int) - 9223372036854775808) = 64 := by have : off = 9223372036854775808 := rfl; omega
      rw [q1] at e1
      rw [q2] at e2
      subst e1; subst e2
      rw [bytesU_of rfl rfl] at h5
      have hne : s.data.toList ≠ [] := fun q => by
        have : s.size = 0 := by show s.data.size = 0; rw [← Array.length_toList, q]; rfl
        omega
      obtain ⟨g1, g2⟩ := decN_range h5 hne h7 h8
      obtain ⟨fv, f1, f2⟩ := hk.cell I
      refine Calls.mono (Any.strconv_ParseInt_10_at64_range Tryz.lays174 s (by omega) g1 fv w f1 f2) fun e w' hq => ?_
      obtain ⟨N, rfl, n1, n2, hb⟩ := hq
      rw [g2]
      have hle : ρ.le (ρ.put nx (N, 3)) := le_put' I _
      have hN : N < w'.heap.size := (Array.getElem?_eq_some_iff.1 n2).1
      refine ⟨ρ.put nx (N, 3), _, _, _, rfl, hle, (I.below hb).adopt (Nat.le_trans I.size n1) hN (fun b cb s' q => by have := (I.own b cb s' q).2; omega) ?_, .t _ _ (.cons _ _ _ _ (VR.nat _ _ _ _ rfl) (.cons _ _ _ _ (.x _ _ _ (.p _ _ _ _ (by unfold Rho.put; rw [if_pos rfl]))) .nil))⟩
      exact ⟨_, _, n2, rfl, Nat.zero_le _, fun o v q => absurd q (Nat.not_lt_zero _)⟩
  · cases he
end Go.Proofs.YtngdilbfhpcfgaaGreatDoor
/- The evaluator at this seat, ParseInt's range fault and texts in quotes told besides. -/
namespace Go.Proofs.YtngdilbfhpcfgaaGreatDoor
set_option maxRecDepth 100000
open Go Go.Proofs.Ev
noncomputable section
def ext3 (f : Nat) : Option (List Go.Proofs.Ev.V → T AObj → Nat → R (Go.Proofs.Ev.V × T AObj × Nat)) :=
  match f with
  | 158 => some (parseRE 337)
  | 253 => some quoteE
  | f => ext f
def cfg3 : Cfg := ⟨Tryz.prog, ext3⟩
end
theorem ext3_ok (w0 : Base) (hk : KG w0) (f : FuncId) (e : List Go.Proofs.Ev.V → T AObj → Nat → R (Go.Proofs.Ev.V × T AObj × Nat)) (h : ext3 f = some e) (args : List Go.Proofs.Ev.V) (hp : T AObj) (nx : Nat) (r : Go.Proofs.Ev.V × T AObj × Nat) (hr : e args hp nx = some r) : GoodJ Tryz.prog w0 (.call f args hp nx) (.got r.1 r.2.1 r.2.2) := by
  unfold ext3 at h
  split at h
  · injection h with h; subst h; exact range_ext w0 hk hr
  · injection h with h; subst h; exact quote_ext w0 hr
  · exact ext_ok w0 f e h args hp nx r hr
theorem good3 (w0 : Base) (hk : KG w0) (n : Nat) : Go.Proofs.Ev.Good Tryz.prog w0 (ev cfg3 n) := ev_soundK (K := KG) (c := cfg3) KG.more named mixed rfl (fun w0 hk f e h args hp nx r hr => ext3_ok w0 hk f e h args hp nx r hr) n w0 hk
end Go.Proofs.YtngdilbfhpcfgaaGreatDoor
