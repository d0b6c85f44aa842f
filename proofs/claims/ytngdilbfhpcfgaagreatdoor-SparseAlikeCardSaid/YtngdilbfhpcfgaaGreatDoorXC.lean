/- The library under the lexer. -/
import Derived.Shelf.Strings.Builder1
import Derived.Shelf.Small.Strs
import Derived.Shelf.Strings.BuilderF
import Derived.Shelf.Strings.BuilderK
import Derived.Shelf.Strings.Search1
import Derived.Shelf.Strings.Prefix
import Derived.Test.YtngdilbfhpcfgaaGreatDoorProg
import Derived.Test.YtngdilbfhpcfgaaGreatDoorXB
import Derived.Lib.IndexBytes
set_option linter.unusedSimpArgs false
set_option linter.unusedVariables false
/-
  DERIVED: THE SHELF's CONTRACTS AT THIS DUMP, IN PLAIN WORDS (tools/lay-plain.mjs out of 'TryzShelf.lean', which tools/lay-shelf.mjs wrote): THE SAME DECLARATIONS UNDER THE SAME NAMES: 'import', 'namespace', 'open', 'def', 'theorem' AND NOTHING ELSE: no command of the shelf's: FOR A HAND-IN. Each laying: the table of numbers ('.._ren') and one theorem, a field a fact of the dump's own or the kernel's comparison; each contract: ONE APPLICATION.
-/
namespace Go.Proofs
open Go.Shelf
def Tryz.lays169_ren : Go.Shelf.Ren := ⟨fun | 169 => 110 | n => n, fun | 70 => 197 | 9 => 9 | 0 => 0 | 72 => 200 | 37 => 198 | 127 => 259 | 3 => 3 | 5 => 5 | n => n, fun | n => n⟩
theorem Tryz.lays169 : Go.Proofs.Lays.n169 Tryz.prog Tryz.lays169_ren := {
  mixed := by kernel_rfl
  f169 := Tryz.func110.trans (congrArg some (by kernel_rfl))
  t0 := Tryz.underlying0
  a0 := Tryz.isAgg0
  z0 := Tryz.sizeOf0
  v0 := Tryz.zeroValue0
  t3 := Tryz.underlying3
  a3 := Tryz.isAgg3
  z3 := Tryz.sizeOf3
  v3 := Tryz.zeroValue3
  t9 := Tryz.underlying9
  a9 := Tryz.isAgg9
  z9 := Tryz.sizeOf9
  v9 := Tryz.zeroValue9
  t37 := Tryz.underlying198
  a37 := Tryz.isAgg198
  z37 := Tryz.sizeOf198
  v37 := Tryz.zeroValue198
  t70 := Tryz.underlying197
  a70 := Tryz.isAgg197
  z70 := Tryz.sizeOf197
  v70 := Tryz.zeroValue197
  t72 := Tryz.underlying200
  a72 := Tryz.isAgg200
  z72 := Tryz.sizeOf200
  v72 := Tryz.zeroValue200
  t127 := Tryz.underlying259
  a127 := Tryz.isAgg259
  z127 := Tryz.sizeOf259
  v127 := Tryz.zeroValue259 }
def Tryz.lays137_ren : Go.Shelf.Ren := ⟨fun | 137 => 138 | 217 => 193 | 266 => 241 | n => n, fun | 9 => 9 | 5 => 5 | 3 => 3 | n => n, fun | n => n⟩
theorem Tryz.lays137 : Go.Proofs.Lays.n137 Tryz.prog Tryz.lays137_ren := {
  mixed := by kernel_rfl
  f137 := Tryz.func138.trans (congrArg some (by kernel_rfl))
  f217 := Tryz.func193.trans (congrArg some (by kernel_rfl))
  f266 := Tryz.func241.trans (congrArg some (by kernel_rfl))
  t3 := Tryz.underlying3
  a3 := Tryz.isAgg3
  z3 := Tryz.sizeOf3
  v3 := Tryz.zeroValue3
  t5 := Tryz.underlying5
  a5 := Tryz.isAgg5
  z5 := Tryz.sizeOf5
  v5 := Tryz.zeroValue5
  t9 := Tryz.underlying9
  a9 := Tryz.isAgg9
  z9 := Tryz.sizeOf9
  v9 := Tryz.zeroValue9 }
def Tryz.lays217_ren : Go.Shelf.Ren := ⟨fun | 217 => 193 | 266 => 241 | n => n, fun | 9 => 9 | 5 => 5 | 3 => 3 | n => n, fun | n => n⟩
theorem Tryz.lays217 : Go.Proofs.Lays.n217 Tryz.prog Tryz.lays217_ren := {
  mixed := by kernel_rfl
  f217 := Tryz.func193.trans (congrArg some (by kernel_rfl))
  f266 := Tryz.func241.trans (congrArg some (by kernel_rfl))
  t3 := Tryz.underlying3
  a3 := Tryz.isAgg3
  z3 := Tryz.sizeOf3
  v3 := Tryz.zeroValue3
  t5 := Tryz.underlying5
  a5 := Tryz.isAgg5
  z5 := Tryz.sizeOf5
  v5 := Tryz.zeroValue5
  t9 := Tryz.underlying9
  a9 := Tryz.isAgg9
  z9 := Tryz.sizeOf9
  v9 := Tryz.zeroValue9 }
def Tryz.lays206_ren : Go.Shelf.Ren := ⟨fun | 206 => 176 | n => n, fun | 9 => 9 | 4 => 4 | 3 => 3 | n => n, fun | n => n⟩
theorem Tryz.lays206 : Go.Proofs.Lays.n206 Tryz.prog Tryz.lays206_ren := {
  mixed := by kernel_rfl
  f206 := Tryz.func176.trans (congrArg some (by kernel_rfl))
  t3 := Tryz.underlying3
  a3 := Tryz.isAgg3
  z3 := Tryz.sizeOf3
  v3 := Tryz.zeroValue3
  t4 := Tryz.underlying4
  a4 := Tryz.isAgg4
  z4 := Tryz.sizeOf4
  v4 := Tryz.zeroValue4
  t9 := Tryz.underlying9
  a9 := Tryz.isAgg9
  z9 := Tryz.sizeOf9
  v9 := Tryz.zeroValue9 }
def Tryz.lays99_ren : Go.Shelf.Ren := ⟨fun | 99 => 119 | 206 => 176 | n => n, fun | 9 => 9 | 4 => 4 | 3 => 3 | n => n, fun | n => n⟩
theorem Tryz.lays99 : Go.Proofs.Lays.n99 Tryz.prog Tryz.lays99_ren := {
  mixed := by kernel_rfl
  f99 := Tryz.func119.trans (congrArg some (by kernel_rfl))
  f206 := Tryz.func176.trans (congrArg some (by kernel_rfl))
  t3 := Tryz.underlying3
  a3 := Tryz.isAgg3
  z3 := Tryz.sizeOf3
  v3 := Tryz.zeroValue3
  t4 := Tryz.underlying4
  a4 := Tryz.isAgg4
  z4 := Tryz.sizeOf4
  v4 := Tryz.zeroValue4
  t9 := Tryz.underlying9
  a9 := Tryz.isAgg9
  z9 := Tryz.sizeOf9
  v9 := Tryz.zeroValue9 }
end Go.Proofs
/- The shelf's contracts that the lexer wants, at this seat. -/
namespace Go.Proofs.YtngdilbfhpcfgaaGreatDoor
open Go.Shelf Go.RowKit
theorem extra169 : Builder.Extra Tryz.prog Tryz.lays169_ren := {
  sizeBuilder := by kernel_rfl
  liesBuilder := by kernel_rfl
  t5 := Tryz.underlying5
  a5 := Tryz.isAgg5
  z5 := Tryz.sizeOf5
  v5 := Tryz.zeroValue5
  infoByte := by kernel_rfl
  cellsByte := by kernel_rfl
  sizeByte := by kernel_rfl
  neB5 := by decide }
theorem lx_String_any (B b : Nat) (l : List UInt8) (w : World) (h : Lib.IsBuilder 200 5 B b (Lib.byteCells l) w) (hBw : B ≤ w.heap.size) :
    Calls Tryz.prog 110 #[.pointer (some ⟨b, 0, none⟩)] w fun e w' => e = .returned (.string ⟨l.toArray⟩) ∧ Below B w w' := Any.Builder_String_any Tryz.lays169 extra169 B b l w h hBw
theorem lx_IndexByte (s : ByteArray) (c : Int) (w : World) :
    Calls Tryz.prog 138 #[.string s, .int .u8 c] w fun e w' => e = .returned (.int .i64 (Lib.indexByte s.data.toList c.toNat.toUInt8)) ∧ w' = w := Any.strings_IndexByte Tryz.lays137 s c w
theorem lx_HasPrefix (s p : ByteArray) (w : World) :
    Calls Tryz.prog 119 #[.string s, .string p] w fun e w' => e = .returned (.bool (Lib.hasPrefix s.data.toList p.data.toList)) ∧ w' = w := Any.strings_HasPrefix Tryz.lays99 s p w
end Go.Proofs.YtngdilbfhpcfgaaGreatDoor
/- Walks of strings.Builder's copyCheck and WriteByte over this seat's translation: lines of the worked proofs, turned. -/
namespace Go.Proofs.YtngdilbfhpcfgaaGreatDoor
set_option maxRecDepth 100000
open Go.RowKit

theorem sizeBuilder : (Tryz.prog.info? 200).map (·.size) = some 2 := by kernel_rfl
theorem infoByte : (Tryz.prog.info? 5).map (fun i => (i.zero, i.size, i.bytes)) = some (some (.int .u8 0), 1, 1) := by kernel_rfl

theorem copyCheck_used (b : Nat) (w : World) (h0 : w.cell? ⟨b, 0, none⟩ = some (.pointer (some ⟨b, 0, none⟩))) :
    Calls Tryz.prog 166 #[.pointer (some ⟨b, 0, none⟩)] w fun e w' => e = .returned (.tuple #[]) ∧ w' = w := by
  obtain ⟨j, hj, _⟩ := Option.map_eq_some_iff.1 sizeBuilder
  go_enter Tryz.func166, Tryz.ntmps166
  go_wp2
  rw [Lib.run_neq_ptr_same w _ Tryz.underlying197 hj]
  go_wp2
  go_end0
  exact ⟨rfl, rfl⟩

theorem copyCheck_fresh (b : Nat) (w : World) (h0 : w.cell? ⟨b, 0, none⟩ = some (.pointer none)) (hsh : w.shape? b = some (200, 2)) (hfz : w.frozen? ⟨b, 0, none⟩ = false) :
    Calls Tryz.prog 166 #[.pointer (some ⟨b, 0, none⟩)] w fun e w' => e = .returned (.tuple #[]) ∧ w' = w.setCell ⟨b, 0, none⟩ (.pointer (some ⟨b, 0, none⟩)) := by
  obtain ⟨j, hj, hjs⟩ := Option.map_eq_some_iff.1 sizeBuilder
  go_enter Tryz.func166, Tryz.ntmps166
  go_wp2
  rw [Lib.run_to_unsafe w ⟨b, 0, none⟩ Tryz.underlying197 Tryz.underlying308 hj (by rw [hjs]; decide) hsh (Nat.zero_lt_succ 1)]
  simp only [Result.andThen]
  rw [Oper.upon_value]
  go_wp2
  rw [run_callFunc_extern Tryz.func217 (by kernel_rfl) (by kernel_rfl) (by kernel_rfl) (e := Extern.AbiNoEscape.same) (by kernel_rfl)]
  rw [Lib.run_noEscape]
  simp only [Result.andThen]
  rw [Oper.upon_value]
  go_wp2
  rw [Lib.run_from_unsafe w ⟨b, 0, none⟩ Tryz.underlying308 Tryz.underlying197 hj hsh (by kernel_rfl)]
  simp only [Result.andThen]
  rw [Oper.upon_value]
  go_wp2
  go_end0
  exact ⟨rfl, rfl⟩

theorem copyCheck_any (B b : Nat) (bs : List Value) (w : World) (h : Lib.IsBuilder 200 5 B b bs w) :
    Calls Tryz.prog 166 #[.pointer (some ⟨b, 0, none⟩)] w fun e w' => e = .returned (.tuple #[]) ∧ (Lib.BuilderAt 200 5 B b (.pointer (some ⟨b, 0, none⟩)) bs w' ∧ Below B w w') := by
  rcases h with h | h
  · refine (copyCheck_fresh b w h.cell0 h.shape h.frozen0).mono ?_
    rintro e w' ⟨rfl, rfl⟩
    exact ⟨rfl, h.used _, (Below.refl B w).setCell (p := ⟨b, 0, none⟩) h.1 _⟩
  · refine (copyCheck_used b w h.cell0).mono ?_
    rintro e w' ⟨rfl, rfl⟩
    exact ⟨rfl, h, Below.refl B _⟩

set_option maxHeartbeats 2000000 in
set_option maxRecDepth 100000 in
theorem writeByte_any (B b : Nat) (bs : List Value) (c : Int) (w : World) (h : Lib.IsBuilder 200 5 B b bs w) (hlen : bs.length + 1 ≤ 140737488355328) (hBw : B ≤ w.heap.size) :
    Calls Tryz.prog 195 #[.pointer (some ⟨b, 0, none⟩), .int .u8 c] w fun e w' => e = .returned .nilIface ∧ (Lib.IsBuilder 200 5 B b (bs ++ [.int .u8 c]) w' ∧ Below B w w') := by
  obtain ⟨i0, hi, hz0, hz1, hz2⟩ := info_parts infoByte
  go_enter Tryz.func195, Tryz.ntmps195
  go_wp2_with fail
  refine (copyCheck_any B b bs _ h).mono ?_
  rintro e w1 ⟨rfl, h1, hb1⟩
  obtain ⟨hB, v, hbk, hown, hne⟩ := h1
  have c0 : w1.cell? ⟨b, 0, none⟩ = some (.pointer (some ⟨b, 0, none⟩)) := by rw [Lib.cell_of_heap hbk]; rfl
  have c1 : w1.cell? ⟨b, 1, none⟩ = some v := by rw [Lib.cell_of_heap hbk]; rfl
  go_wp2_with (at_builtin; refine wpList_append_own _ rfl _ _ 198 rfl B 5 i0 (.int .u8 0) 1 1 Tryz.underlying198 hi hz0 hz1 hz2 rfl (by decide) _ _ _ rfl (hown.alloc _) ⟨w1.heap.size, 0, none⟩ 1 1 [.int .u8 c] rfl rfl ?c1 ?c2 ?c3 ?c4 ?c5 ?_)
  case c1 =>
    intro j u hj
    match j, hj with
    | 0, hj => simp at hj; subst hj; simp [Addr.add]
  case c2 => intro u hu; simp at hu; subst hu; rfl
  case c3 => unfold maxLen; omega
  case c4 => omega
  case c5 => have := hb1.size; simp; omega
  intro v' w2 hown' hgrow _
  have hlt : b < w1.heap.size := by
    rcases Nat.lt_or_ge b w1.heap.size with h' | h'
    · exact h'
    · simp [Array.getElem?_eq_none h'] at hbk
  have hb2 : w2.heap[b]? = some (.cells #[.pointer (some ⟨b, 0, none⟩), v] 200 (0, 0)) := by
    rw [hgrow.block b (by simp; omega) (fun e => hne e.symm), Lib.alloc_old w1 _ b hlt]
    exact hbk
  have d0 : w2.cell? ⟨b, 0, none⟩ = some (.pointer (some ⟨b, 0, none⟩)) := by rw [Lib.cell_of_heap hb2]; rfl
  have d1 : w2.cell? ⟨b, 1, none⟩ = some v := by rw [Lib.cell_of_heap hb2]; rfl
  have f1 : w2.frozen? ⟨b, 1, none⟩ = false := Lib.frozen_of_heap hb2 1
  obtain ⟨g, cap, rfl⟩ : ∃ g cap, v' = .slice (some ⟨g, 0, none⟩) (bs.length + 1) cap := by
    rcases hown'.2 with ⟨_, h0⟩ | ⟨g, cap, cur, hv, _⟩
    · omega
    · exact ⟨g, cap, hv⟩
  go_wp2
  go_ret
  refine ⟨rfl, .inr ?_, ?_⟩
  · exact Lib.BuilderAt.put (T := 200) (e := 5) hB hb2 (bs' := bs ++ [.int .u8 c]) (by simpa using hown') (by decide)
  · exact ((hb1.alloc (by have := hb1.size; omega) _).grown hgrow (by have := hb1.size; simp; omega) (fun k hk => (hown.lt k hk).1)).setCell (p := ⟨b, 1, none⟩) hB _

end Go.Proofs.YtngdilbfhpcfgaaGreatDoor
/- Walk of mark of package lex. -/
namespace Go.Proofs.YtngdilbfhpcfgaaGreatDoor
set_option maxRecDepth 100000
open Go.RowKit

theorem drop_byte {s : ByteArray} {p : Nat} (h : p < s.size) : s.data.toList.drop p = s[p] :: s.data.toList.drop (p + 1) :=
  List.drop_eq_getElem_cons (l := s.data.toList) (by simpa using h)

set_option maxHeartbeats 1000000 in
theorem mark_any (b : Nat) (s : ByteArray) (p : Nat) (w : World) (ha : p ≤ s.size) (hb : b < w.heap.size)
   (hl : LexAt w b s p) :
    Calls Tryz.prog 146 #[.pointer (some ⟨b, 0, none⟩)] w fun e w' => e = .returned (.int .i64 (markLen (s.data.toList.drop p))) ∧ Below w.heap.size w w' := by
  have h0 := hl.1
  have h2 := hl.2
  go_enter Tryz.func146, Tryz.ntmps146
  go_wp2
  go_loopw [7] (fun n wr => ∃ k : Nat, k ≤ 7 ∧ n = .int .i64 k ∧ (∀ j, j < k → Lib.hasPrefix (s.data.toList.drop p) (mt j) = false) ∧ ∃ j, wr = (w.alloc (.cells #[.string ⟨#[60, 61]⟩, .string ⟨#[62, 61]⟩, .string ⟨#[60, 62]⟩, .string ⟨#[33, 61]⟩, .string ⟨#[38, 38]⟩, .string ⟨#[124, 124]⟩, .string ⟨#[95, 58]⟩] 9)).drewN j) (fun n _ => 8 - (intOf n).toNat)
  case atStart => exact ⟨0, by omega, rfl, fun j hj => absurd hj (Nat.not_lt_zero _), 0, rfl⟩
  case round =>
    obtain ⟨k, hk, rfl, hno, j, rfl⟩ := hrel
    have hkc : k = 7 ∨ (k = 0 ∨ k = 1 ∨ k = 2 ∨ k = 3 ∨ k = 4 ∨ k = 5 ∨ k = 6) := by omega
    clear hk
    have e2 : (0 : Int) ≤ p := by omega
    have e3 : (p : Int) ≤ s.size := by omega
    have HN := Lib.hid hno
    clear hno
    rcases hkc with rfl | hkc
    · by_cases hlt : p < s.size
      · have hd : decide ((p : Int) < s.size) = true := by simp; omega
        have hlt' : (p : Int) < s.size := by omega
        go_wp2
        go_quiet ((go_at_call 138; exact quiet_add_same (lx_IndexByte _ _ _)))
        go_wp2
        · go_ret
          exact ⟨ret_i64 (by rw [markLen_one (drop_byte hlt) HN.out, if_pos (by assumption)]; rfl), below_drewN (below_drewN ((Below.refl _ _).alloc (Nat.le_refl _) _) _) _⟩
        · have hx : Lib.indexByte markOnes s[p] < 0 := by assumption
          go_ret
          exact ⟨ret_i64 (by rw [markLen_one (drop_byte hlt) HN.out, if_neg (by omega)]; rfl), below_drewN (below_drewN ((Below.refl _ _).alloc (Nat.le_refl _) _) _) _⟩
      · have hd : decide ((p : Int) < s.size) = false := by simp; omega
        go_wp2
        go_quiet (fail)
        go_wp2
        go_ret
        exact ⟨ret_i64 (by rw [List.drop_of_length_le (by simp; omega), markLen_nil]; rfl), below_drewN (below_drewN ((Below.refl _ _).alloc (Nat.le_refl _) _) _) _⟩
    rcases hkc with rfl | rfl | rfl | rfl | rfl | rfl | rfl
    · go_wp2
      go_quiet ((go_at_call 119; exact quiet_add_same (lx_HasPrefix _ _ _)))
      go_wp2
      · have hx : Lib.hasPrefix (s.extract p s.size).data.toList (mt 0) = true := by assumption
        rw [Lib.extract_to_end] at hx
        go_ret
        exact ⟨ret_i64 (by rw [markLen_two 0 (by omega) hx]; rfl), below_drewN (below_drewN ((Below.refl _ _).alloc (Nat.le_refl _) _) _) _⟩
      · have hx : Lib.hasPrefix (s.extract p s.size).data.toList (mt 0) = false := by assumption
        rw [Lib.extract_to_end] at hx
        go_roundw
        case rel => exact ⟨0 + 1, by omega, by rfl, mt_snoc HN.out hx, _, rfl⟩
        case measure => simp [intOf]
    · go_wp2
      go_quiet ((go_at_call 119; exact quiet_add_same (lx_HasPrefix _ _ _)))
      go_wp2
      · have hx : Lib.hasPrefix (s.extract p s.size).data.toList (mt 1) = true := by assumption
        rw [Lib.extract_to_end] at hx
        go_ret
        exact ⟨ret_i64 (by rw [markLen_two 1 (by omega) hx]; rfl), below_drewN (below_drewN ((Below.refl _ _).alloc (Nat.le_refl _) _) _) _⟩
      · have hx : Lib.hasPrefix (s.extract p s.size).data.toList (mt 1) = false := by assumption
        rw [Lib.extract_to_end] at hx
        go_roundw
        case rel => exact ⟨1 + 1, by omega, by rfl, mt_snoc HN.out hx, _, rfl⟩
        case measure => simp [intOf]
    · go_wp2
      go_quiet ((go_at_call 119; exact quiet_add_same (lx_HasPrefix _ _ _)))
      go_wp2
      · have hx : Lib.hasPrefix (s.extract p s.size).data.toList (mt 2) = true := by assumption
        rw [Lib.extract_to_end] at hx
        go_ret
        exact ⟨ret_i64 (by rw [markLen_two 2 (by omega) hx]; rfl), below_drewN (below_drewN ((Below.refl _ _).alloc (Nat.le_refl _) _) _) _⟩
      · have hx : Lib.hasPrefix (s.extract p s.size).data.toList (mt 2) = false := by assumption
        rw [Lib.extract_to_end] at hx
        go_roundw
        case rel => exact ⟨2 + 1, by omega, by rfl, mt_snoc HN.out hx, _, rfl⟩
        case measure => simp [intOf]
    · go_wp2
      go_quiet ((go_at_call 119; exact quiet_add_same (lx_HasPrefix _ _ _)))
      go_wp2
      · have hx : Lib.hasPrefix (s.extract p s.size).data.toList (mt 3) = true := by assumption
        rw [Lib.extract_to_end] at hx
        go_ret
        exact ⟨ret_i64 (by rw [markLen_two 3 (by omega) hx]; rfl), below_drewN (below_drewN ((Below.refl _ _).alloc (Nat.le_refl _) _) _) _⟩
      · have hx : Lib.hasPrefix (s.extract p s.size).data.toList (mt 3) = false := by assumption
        rw [Lib.extract_to_end] at hx
        go_roundw
        case rel => exact ⟨3 + 1, by omega, by rfl, mt_snoc HN.out hx, _, rfl⟩
        case measure => simp [intOf]
    · go_wp2
      go_quiet ((go_at_call 119; exact quiet_add_same (lx_HasPrefix _ _ _)))
      go_wp2
      · have hx : Lib.hasPrefix (s.extract p s.size).data.toList (mt 4) = true := by assumption
        rw [Lib.extract_to_end] at hx
        go_ret
        exact ⟨ret_i64 (by rw [markLen_two 4 (by omega) hx]; rfl), below_drewN (below_drewN ((Below.refl _ _).alloc (Nat.le_refl _) _) _) _⟩
      · have hx : Lib.hasPrefix (s.extract p s.size).data.toList (mt 4) = false := by assumption
        rw [Lib.extract_to_end] at hx
        go_roundw
        case rel => exact ⟨4 + 1, by omega, by rfl, mt_snoc HN.out hx, _, rfl⟩
        case measure => simp [intOf]
    · go_wp2
      go_quiet ((go_at_call 119; exact quiet_add_same (lx_HasPrefix _ _ _)))
      go_wp2
      · have hx : Lib.hasPrefix (s.extract p s.size).data.toList (mt 5) = true := by assumption
        rw [Lib.extract_to_end] at hx
        go_ret
        exact ⟨ret_i64 (by rw [markLen_two 5 (by omega) hx]; rfl), below_drewN (below_drewN ((Below.refl _ _).alloc (Nat.le_refl _) _) _) _⟩
      · have hx : Lib.hasPrefix (s.extract p s.size).data.toList (mt 5) = false := by assumption
        rw [Lib.extract_to_end] at hx
        go_roundw
        case rel => exact ⟨5 + 1, by omega, by rfl, mt_snoc HN.out hx, _, rfl⟩
        case measure => simp [intOf]
    · go_wp2
      go_quiet ((go_at_call 119; exact quiet_add_same (lx_HasPrefix _ _ _)))
      go_wp2
      · have hx : Lib.hasPrefix (s.extract p s.size).data.toList (mt 6) = true := by assumption
        rw [Lib.extract_to_end] at hx
        go_ret
        exact ⟨ret_i64 (by rw [markLen_two 6 (by omega) hx]; rfl), below_drewN (below_drewN ((Below.refl _ _).alloc (Nat.le_refl _) _) _) _⟩
      · have hx : Lib.hasPrefix (s.extract p s.size).data.toList (mt 6) = false := by assumption
        rw [Lib.extract_to_end] at hx
        go_roundw
        case rel => exact ⟨6 + 1, by omega, by rfl, mt_snoc HN.out hx, _, rfl⟩
        case measure => simp [intOf]

end Go.Proofs.YtngdilbfhpcfgaaGreatDoor
