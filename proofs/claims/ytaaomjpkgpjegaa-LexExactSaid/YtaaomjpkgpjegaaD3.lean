/- Walk of wakes. -/
import Derived.Test.YtaaomjpkgpjegaaD2
import Derived.KernelRfl
namespace Go.Proofs.Ytaaomjpkgpjegaa
open Go.RowKit

/-- Lexing a text whose lexemes are known. -/
theorem lex_ok {s : ByteArray} {lang : Int} {ts : List Tok} {l : List UInt8} (hd : s.data.toList = l) (hl : lexAll lang l = (ts, none)) (hs : s.size ≤ 16384) (w : World) :
    Calls Try.prog 8 #[.int .i64 lang, .string s] w fun e w' => ∃ v, e = .returned (.tuple #[v, .int .i64 0, .int .i64 0]) ∧ w'.ownsRow w.heap.size 36 5 v ts.length (flat ts) ∧ Below w.heap.size w w' := by
  refine (lex_any s lang hs w).mono ?_
  intro e w' h
  unfold LexRes at h
  rw [hd, hl] at h
  obtain ⟨hb, v, rfl, ho⟩ := h
  exact ⟨v, rfl, ho, hb⟩
theorem lex_no {s : ByteArray} {lang : Int} {ts : List Tok} {r : Nat} {l : List UInt8} (hd : s.data.toList = l) (hl : lexAll lang l = (ts, some r)) (hs : s.size ≤ 16384) (w : World) :
    Calls Try.prog 8 #[.int .i64 lang, .string s] w fun e w' => e = .returned (.tuple #[.slice none 0 0, .int .i64 r, .int .i64 10]) ∧ Below w.heap.size w w' := by
  refine (lex_any s lang hs w).mono ?_
  intro e w' h
  unfold LexRes at h
  rw [hd, hl] at h
  exact ⟨h.2, h.1⟩

theorem wake_S : lexAll 1 [63, 120, 32, 60, 112, 62, 32, 49, 46, 53, 32, 35, 32, 101, 110, 100] =
    ([⟨⟨1, [120], [], 2⟩, 0, 2⟩, ⟨⟨5, [112], [], 3⟩, 3, 6⟩, ⟨⟨3, [49, 46, 53], [], 3⟩, 7, 10⟩], none) := by kernel_rfl
theorem wake_C : lexAll 0 [60, 112, 62] = ([⟨⟨7, [60], [], 1⟩, 0, 1⟩, ⟨⟨0, [112], [], 1⟩, 1, 2⟩, ⟨⟨7, [62], [], 1⟩, 2, 3⟩], none) := by kernel_rfl
theorem wake_word : wordB [97, 49] = true := by kernel_rfl
theorem wake_key : keyB 0 [77, 65, 84, 67, 72] = true := by kernel_rfl
theorem wake_quote : strB (quoteL [97]) = ⟨#[34, 97, 34]⟩ := by kernel_rfl

set_option maxHeartbeats 1000000 in
theorem wakes_any (w : World) :
    Calls Try.prog 17 #[] w fun e w' => e = .returned (.bool true) ∧ Below w.heap.size w w' := by
  go_enter Try.func17, Try.ntmps17
  go_wp2_with fail
  refine (lex_ok rfl wake_S (by decide) _).mono ?_
  rintro e w1 ⟨v, rfl, ho1, hb1⟩
  obtain ⟨g, cap, rfl⟩ := ownsRow_succ (k := 2) ho1
  go_wp2_with fail
  refine (lex_ok rfl wake_C (by decide) _).mono ?_
  rintro e w2 ⟨v, rfl, ho2, hb2⟩
  obtain ⟨g2, cap2, rfl⟩ := ownsRow_succ (k := 2) ho2
  have hg := (ho1.lt g rfl)
  have c5 : w2.cell? ⟨g, 5, none⟩ = some (.int .i64 5) := (hb2.cell (p := ⟨g, 5, none⟩) hg.2).trans (ho1.cellAt 5 (by decide))
  have c11 : w2.cell? ⟨g, 11, none⟩ = some (.string ⟨#[49, 46, 53]⟩) := (hb2.cell (p := ⟨g, 11, none⟩) hg.2).trans (ho1.cellAt 11 (by decide))
  go_wp2_with fail
  refine (word_w _ (by decide) _).mono ?_
  rintro e w3 ⟨rfl, hb3⟩
  rw [wake_word]
  go_wp2_with fail
  refine (key_any _ _ _).mono ?_
  rintro e w' ⟨rfl, rfl⟩
  rw [wake_key]
  go_wp2_with fail
  refine (quote_any _ (by decide) _).mono ?_
  rintro e w4 ⟨rfl, hb4⟩
  rw [wake_quote]
  go_wp2
  go_ret
  exact ⟨rfl, ((hb1.trans (hb2.mono hb1.size)).trans (hb3.mono (Nat.le_trans hb1.size hb2.size))).trans (hb4.mono (Nat.le_trans (Nat.le_trans hb1.size hb2.size) hb3.size))⟩

end Go.Proofs.Ytaaomjpkgpjegaa
