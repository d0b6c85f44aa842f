/- Walk of Key of package lex. -/
import Derived.Test.YtaaomjpkgpjegaaD1
namespace Go.Proofs.Ytaaomjpkgpjegaa
open Go.RowKit

def keysS : List (List UInt8) := [[80, 82, 69, 70, 73, 88], [83, 69, 76, 69, 67, 84], [68, 73, 83, 84, 73, 78, 67, 84], [65, 83, 75], [87, 72, 69, 82, 69], [70, 73, 76, 84, 69, 82], [78, 79, 84], [69, 88, 73, 83, 84, 83], [79, 80, 84, 73, 79, 78, 65, 76], [85, 78, 73, 79, 78], [77, 73, 78, 85, 83], [66, 73, 78, 68], [65, 83], [86, 65, 76, 85, 69, 83], [71, 82, 79, 85, 80], [66, 89], [72, 65, 86, 73, 78, 71], [79, 82, 68, 69, 82], [65, 83, 67], [68, 69, 83, 67], [76, 73, 77, 73, 84], [79, 70, 70, 83, 69, 84], [85, 78, 68, 69, 70], [116, 114, 117, 101], [102, 97, 108, 115, 101]]
def keysC : List (List UInt8) := [[77, 65, 84, 67, 72], [79, 80, 84, 73, 79, 78, 65, 76], [87, 72, 69, 82, 69], [85, 78, 87, 73, 78, 68], [65, 83], [87, 73, 84, 72], [82, 69, 84, 85, 82, 78], [68, 73, 83, 84, 73, 78, 67, 84], [79, 82, 68, 69, 82], [66, 89], [65, 83, 67], [68, 69, 83, 67], [83, 75, 73, 80], [76, 73, 77, 73, 84], [85, 78, 73, 79, 78], [65, 76, 76], [79, 82], [88, 79, 82], [65, 78, 68], [78, 79, 84], [73, 78], [83, 84, 65, 82, 84, 83], [69, 78, 68, 83], [67, 79, 78, 84, 65, 73, 78, 83], [73, 83], [78, 85, 76, 76], [84, 82, 85, 69], [70, 65, 76, 83, 69], [67, 65, 83, 69], [87, 72, 69, 78], [84, 72, 69, 78], [69, 76, 83, 69], [69, 78, 68], [69, 88, 73, 83, 84, 83]]
/-- Whether a text is a keyword. -/
def keyB (lang : Int) (l : List UInt8) : Bool := if lang = 1 then keysS.contains l else keysC.contains l

set_option maxHeartbeats 4000000 in
theorem key_S (s : ByteArray) (w : World) :
    Calls Try.prog 13 #[.int .i64 1, .string s] w fun e w' => e = .returned (.bool (keyB 1 s.data.toList)) ∧ w' = w := by
  go_enter Try.func13, Try.ntmps13
  go_wp2
  all_goals
    first
      | exact absurd ((‹(s.toList == _) = true›).symm.trans ‹(s.toList == _) = false›) (by decide)
      | (go_ret
         refine ⟨ret_bool ?_, rfl⟩
         unfold keyB
         rw [if_pos rfl, ← ByteArray.toList_eq]
         first
           | (have hx : (s.toList == _) = true := by assumption
              rw [eq_of_beq hx]
              rfl)
           | (simp only [keysS, List.contains_cons, List.contains_nil]
              simp only [*]
              rfl))

set_option maxHeartbeats 4000000 in
theorem key_C (lang : Int) (hl : lang ≠ 1) (s : ByteArray) (w : World) :
    Calls Try.prog 13 #[.int .i64 lang, .string s] w fun e w' => e = .returned (.bool (keyB lang s.data.toList)) ∧ w' = w := by
  have t1 : (lang == 1) = false := by simpa using hl
  have HL := Lib.hid hl
  clear hl
  go_enter Try.func13, Try.ntmps13
  go_wp2
  all_goals
    first
      | exact absurd ((‹(s.toList == _) = true›).symm.trans ‹(s.toList == _) = false›) (by decide)
      | (go_ret
         refine ⟨ret_bool ?_, rfl⟩
         unfold keyB
         rw [if_neg HL.out, ← ByteArray.toList_eq]
         first
           | (have hx : (s.toList == _) = true := by assumption
              rw [eq_of_beq hx]
              rfl)
           | (simp only [keysC, List.contains_cons, List.contains_nil]
              simp only [*]
              rfl))

theorem key_any (lang : Int) (s : ByteArray) (w : World) :
    Calls Try.prog 13 #[.int .i64 lang, .string s] w fun e w' => e = .returned (.bool (keyB lang s.data.toList)) ∧ w' = w := by
  by_cases h : lang = 1
  · subst h; exact key_S s w
  · exact key_C lang h s w

end Go.Proofs.Ytaaomjpkgpjegaa
