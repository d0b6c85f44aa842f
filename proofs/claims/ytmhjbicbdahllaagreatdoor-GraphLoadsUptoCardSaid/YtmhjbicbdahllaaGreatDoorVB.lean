/- The program's decimals: is a text digits? -/
import Derived.Test.YtmhjbicbdahllaaGreatDoorVA
import Derived.Test.YtmhjbicbdahllaaGreatDoorShelf
namespace Go.Proofs.YtmhjbicbdahllaaGreatDoor
open Go Go.RowKit Go.Shelf Go.Lib

def ten : List UInt8 := [48, 49, 50, 51, 52, 53, 54, 55, 56, 57]
set_option maxRecDepth 100000 in
set_option maxHeartbeats 1000000 in
theorem trimTen (s : ByteArray) (w : World) (hs : s.size ≤ 9223372036854775807) :
    Calls Tryz.prog 154 #[.string s, .string ⟨#[48, 49, 50, 51, 52, 53, 54, 55, 56, 57]⟩] w fun e w' => e = .returned (.string ⟨(Lib.trimS s.data.toList ten).toArray⟩) ∧ Below w.heap.size w w' := by
  have hcon := Any.strings_Trim_laid Tryz.lays160 (by kernel_rfl) s ⟨#[48, 49, 50, 51, 52, 53, 54, 55, 56, 57]⟩ w hs (by decide) (ascii_of_all (by decide))
  exact hcon
set_option maxRecDepth 100000 in
set_option maxHeartbeats 1000000 in
theorem trimRZero (s : ByteArray) (w : World) (hs : s.size ≤ 9223372036854775807) :
    Calls Tryz.prog 156 #[.string s, .string ⟨#[48]⟩] w fun e w' => e = .returned (.string ⟨(Lib.trimRightS s.data.toList [48]).toArray⟩) ∧ Below w.heap.size w w' := by
  have hcon := Any.strings_TrimRight_laid Tryz.lays162 (by kernel_rfl) s ⟨#[48]⟩ w hs (by decide) (ascii_of_all (by decide))
  exact hcon
set_option maxRecDepth 100000 in
set_option maxHeartbeats 1000000 in
theorem trimLZero (s : ByteArray) (w : World) :
    Calls Tryz.prog 157 #[.string s, .string ⟨#[48]⟩] w fun e w' => e = .returned (.string ⟨(Lib.trimLeftS s.data.toList [48]).toArray⟩) ∧ Below w.heap.size w w' := by
  have hcon := Any.strings_TrimLeft_laid Tryz.lays161 (by kernel_rfl) s ⟨#[48]⟩ w (by decide) (ascii_of_all (by decide))
  exact hcon

/-- Is a text one digit or more? (By what the library's Trim leaves.) -/
def numT (s : ByteArray) : Bool := !s.toList.isEmpty && ((⟨(Lib.trimS s.data.toList ten).toArray⟩ : ByteArray)).toList.isEmpty
set_option maxRecDepth 100000 in
set_option maxHeartbeats 1000000 in
theorem numeral_any (s : ByteArray) (w : World) (hs : s.size ≤ 9223372036854775807) : Calls Tryz.prog 145 #[.string s] w (ToldB (numT s) w) := by
  have ht := trimTen s w hs
  obtain ⟨r, HR⟩ := name_itV (⟨(Lib.trimS s.data.toList ten).toArray⟩ : ByteArray)
  have hn := Lib.hid (show numT s = (!s.toList.isEmpty && r.toList.isEmpty) from by unfold numT; rw [HR.out])
  rw [HR.out] at ht
  have HT := Lib.hid ht
  clear ht
  go_enter Tryz.func145, Tryz.ntmps145
  by_cases h0 : s.toList = []
  · have hf := Lib.hid (show false = numT s from by rw [hn.out, h0]; rfl)
    go_wp2_with fail
    go_ret
    exact ⟨ret_b hf.out, Below.refl _ _⟩
  · go_wp2_with (go_at_call 154; refine HT.out.mono ?_; rintro e w' ⟨rfl, hB⟩)
    go_ret
    exact ⟨ret_b hn.out.symm, hB⟩
end Go.Proofs.YtmhjbicbdahllaaGreatDoor
