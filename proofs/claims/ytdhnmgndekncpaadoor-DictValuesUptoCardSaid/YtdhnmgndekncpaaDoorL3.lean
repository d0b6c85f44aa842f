/- Of a value that is a whole number: that it may be, and its bytes. -/
import Derived.Test.YtdhnmgndekncpaaDoorL2
import Derived.Outline
namespace Go.Proofs.YtdhnmgndekncpaaDoor
open Go Go.RowKit Go.Maps Go.WideMaps

theorem bcell {W w1 : World} (hb : Below W.heap.size W w1) : (∀ b o, b < W.heap.size → w1.cell? ⟨b, o, none⟩ = W.cell? ⟨b, o, none⟩) ∧ (∀ b o, b < W.heap.size → w1.frozen? ⟨b, o, none⟩ = W.frozen? ⟨b, o, none⟩) :=
  ⟨fun b o h => hb.cell (p := ⟨b, o, none⟩) h, fun b o h => hb.frozen (p := ⟨b, o, none⟩) h⟩

/-- A whole number as a value. -/
def wholeV (n : Int) : Value := .agg #[.int .i64 2, .bool false, .int .i64 n, .string ⟨#[]⟩, .string ⟨#[]⟩, .slice none 0 0]

set_option maxRecDepth 100000 in
set_option maxHeartbeats 400000 in
theorem part_whole (n : Int) (w : World) : Calls Tryd.prog 68 #[.agg #[.int .i64 2, .bool false, .int .i64 n, .string ⟨#[]⟩, .string ⟨#[]⟩, .slice none 0 0]] w fun e w' => e = .returned (.iface 136 (.int .i64 n)) ∧ Below w.heap.size w w' := by
  go_enter Tryd.func68, Tryd.ntmps68
  go_wp2
  go_ret
  exact ⟨rfl, (Below.refl _ _).alloc (Nat.le_refl _) _⟩

theorem as151 (n : Int) (w : World) : (Instr.typeAssert (.iface 136 (.int .i64 n)) 20 151 true).run Tryd.prog w = .ok (.tuple #[.agg #[], .bool false]) w := by kernel_rfl
theorem as134 (n : Int) (w : World) : (Instr.typeAssert (.iface 136 (.int .i64 n)) 20 134 true).run Tryd.prog w = .ok (.tuple #[.bool false, .bool false]) w := by kernel_rfl
theorem as136 (n : Int) (w : World) : (Instr.typeAssert (.iface 136 (.int .i64 n)) 20 136 true).run Tryd.prog w = .ok (.tuple #[.int .i64 n, .bool true]) w := by kernel_rfl

theorem below_new3 (w : World) (a b c : Obj) : Below w.heap.size w (((w.alloc a).alloc b).alloc c) := (((Below.refl _ _).alloc (Nat.le_refl _) _).alloc (by simp) _).alloc (by simp; omega) _

set_option maxRecDepth 100000 in
set_option maxHeartbeats 1000000 in
theorem checked_whole (n d : Int) (w : World) : Calls Tryd.prog 67 #[.agg #[.int .i64 2, .bool false, .int .i64 n, .string ⟨#[]⟩, .string ⟨#[]⟩, .slice none 0 0], .int .i64 d] w fun e w' => e = .returned (.bool true) ∧ Below w.heap.size w w' := by
  have h1 := as151 n
  have h2 := as134 n
  have h3 := as136 n
  go_enter Tryd.func67, Tryd.ntmps67
  go_wp2_with fail
  refine (part_whole n _).mono ?_
  rintro e w1 ⟨rfl, hb1⟩
  have hz := hb1.size
  simp at hz
  obtain ⟨hc, hf⟩ := bcell hb1
  go_wp2_with fail
  go_ret
  exact ⟨by simp, ((below_new3 w _ _ _).trans (hb1.mono (by simp; omega))).setCell (p := ⟨w.heap.size + 1 + 1, 2, none⟩) (by simp; omega) _⟩

set_option maxRecDepth 100000 in
set_option maxHeartbeats 400000 in
theorem check_whole (n : Int) (w : World) : Calls Tryd.prog 61 #[.agg #[.int .i64 2, .bool false, .int .i64 n, .string ⟨#[]⟩, .string ⟨#[]⟩, .slice none 0 0]] w fun e w' => e = .returned (.bool true) ∧ Below w.heap.size w w' := by
  go_enter Tryd.func61, Tryd.ntmps61
  go_wp2_with fail
  refine (checked_whole n _ _).mono ?_
  rintro e w1 ⟨rfl, hb1⟩
  go_wp2
  go_ret
  exact ⟨rfl, ((Below.refl _ _).alloc (Nat.le_refl _) _).trans (hb1.mono (by simp))⟩

theorem infoByte : (Tryd.prog.info? 5).map (fun i => (i.zero, i.size, i.bytes)) = some (some (.int .u8 0), 1, 1) := by kernel_rfl
theorem one_u8 (x : Int) : ∀ u ∈ (#[Value.int .u8 x] : Array Value).toList, u.oneCell' = true := by
  intro u hu; simp at hu; subst hu; rfl

/-- The j-th of eight bytes of a number, the highest first. -/
def bigCell (n : Int) (j : Nat) : Value := .int .u8 (n / 2 ^ (8 * (7 - j)) % 256)
/-- Eight bytes are appended to a row of bytes of the call's own. -/
def BigIs (B : Nat) (v : Value) (n : Int) (xs : List Value) (w : World) (e : Ending) (w' : World) : Prop :=
  ∃ v', e = .returned v' ∧ w'.ownsRow B 5 1 v' (xs.length + 8) (xs ++ (List.range 8).map (bigCell n)) ∧ Turn (fun i => some i = v.ownBlock) w w' ∧ (v'.ownBlock = v.ownBlock ∨ ∀ g, v'.ownBlock = some g → w.heap.size ≤ g)

set_option maxRecDepth 100000 in
set_option maxHeartbeats 1000000 in
theorem big_any (B : Nat) (v : Value) (xs : List Value) (n : Int) (w : World) (hx : xs.length ≤ 1000000) (ho : w.ownsRow B 5 1 v xs.length xs) (hB : B ≤ w.heap.size) :
    Calls Tryd.prog 70 #[v, .int .u64 n, .int .i64 8] w (BigIs B v n xs w) := by
  go_enter Tryd.func70, Tryd.ntmps70
  go_wp2
  go_loopw [0, 7] (fun u i wr => ∃ (k : Nat), k ≤ 8 ∧ i = .int .i64 (7 - (k : Int)) ∧ wr.ownsRow B 5 1 u (xs.length + k) (xs ++ (List.range k).map (bigCell n)) ∧ Turn (fun i => some i = v.ownBlock) w wr ∧ (u.ownBlock = v.ownBlock ∨ ∀ g, u.ownBlock = some g → w.heap.size ≤ g)) (fun _ i _ => (intOf i + 1).toNat)
  case atStart => exact ⟨0, by omega, rfl, by simpa using ho, Turn.refl _ _, .inl rfl⟩
  case round =>
    obtain ⟨k, hk, rfl, hown, ht, hl⟩ := hrel
    have HO := Lib.hid hown
    have HT := Lib.hid ht
    have HL := Lib.hid hl
    have hbs : B ≤ wr.heap.size := Nat.le_trans hB ht.size
    have hws : w.heap.size ≤ wr.heap.size := ht.size
    clear hown ht hl
    by_cases hlt : k < 8
    · have t1 : decide ((0 : Int) ≤ 7 - k) = true := decide_eq_true (by omega)
      have e1 : (0 : Int) ≤ 7 - k := by omega
      go_wp2_with (at_builtin; refine app_new rfl _ _ 106 rfl B 5 (.int .u8 0) 1 1 Tryd.underlying106 infoByte rfl (by decide) _ _ _ rfl HO.out hbs #[.int .u8 _] 1 1 rfl rfl (one_u8 _) (by omega) (by omega) (by decide) ?_)
      intro g4 cp4 w4 ho4 hg4 hl4
      have HO4 := Lib.hid ho4
      have HG4 := Lib.hid (show wr.grownBy w4 u0.ownBlock from hg4)
      have HL4 := Lib.hid (show u0.ownBlock = some g4 ∨ wr.heap.size ≤ g4 from hl4)
      clear ho4 hg4 hl4
      go_wp2
      go_roundw
      case rel =>
        refine ⟨k + 1, by omega, by go_num, ?_, ?_, ?_⟩
        · have := HO4.out
          rw [List.range_succ, List.map_append]
          simpa [bigCell, Nat.add_assoc] using this
        · refine HT.out.andThen (Turn.of_grown HG4.out) (fun i hi h => ?_)
          rcases HL.out with h2 | h2
          · rw [← h2]; exact h
          · have := h2 i h.symm; omega
        · rcases HL4.out with h2 | h2
          · rcases HL.out with h3 | h3
            · left; rw [← h3, h2]; rfl
            · right; intro g hg; exact h3 g (by rw [h2]; exact hg)
          · right; intro g hg
            injection hg with hg
            have hg : g4 = g := hg
            omega
      case measure => simp [intOf]; omega
    · have hke : k = 8 := by omega
      subst hke
      go_wp2
      go_ret
      exact ⟨_, rfl, HO.out, HT.out, HL.out⟩

end Go.Proofs.YtdhnmgndekncpaaDoor
