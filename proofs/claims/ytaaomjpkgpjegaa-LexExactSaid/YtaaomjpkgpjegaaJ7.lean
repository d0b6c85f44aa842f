/- Walk of the document's own function that writes a text within quotes. -/
import Derived.Test.YtaaomjpkgpjegaaH4
import Derived.Test.YtaaomjpkgpjegaaD2
namespace Go.Proofs.Ytaaomjpkgpjegaa
open Go Go.RowKit

theorem two_u8 (x y : Int) : ∀ u ∈ (#[Value.int .u8 x, Value.int .u8 y] : Array Value).toList, u.oneCell' = true := by
  intro u hu; simp at hu; rcases hu with rfl | rfl <;> rfl

def QuRel (s : ByteArray) (B : Nat) (w : World) (v i : Value) (wr : World) : Prop :=
  ∃ (k : Nat) (acc : List UInt8), k ≤ s.size ∧ acc.length ≤ 2 * k + 1 ∧ i = .int .i64 k ∧ acc = 34 :: (s.data.toList.take k).flatMap escL ∧ wr.ownsRow B 5 1 v acc.length (Lib.byteCells acc) ∧ Below B w wr
theorem quRel_step {s : ByteArray} {B k : Nat} {w wr w2 : World} {v v' i : Value} {acc add : List UInt8} {cs : Array Value} (hk : k < s.size) (hadd : escL s[k] = add) (hc : Lib.byteCells add = cs.toList)
    (hacc : acc.length ≤ 2 * k + 1) (he : acc = 34 :: (s.data.toList.take k).flatMap escL) (hown : wr.ownsRow B 5 1 v acc.length (Lib.byteCells acc)) (hbel : Below B w wr) (hB : B ≤ wr.heap.size) {m : Nat} (hm : add.length = m)
    (hown' : w2.ownsRow B 5 1 v' (acc.length + m) (Lib.byteCells acc ++ cs.toList)) (hg : wr.grownBy w2 v.ownBlock) (hi : i = .int .i64 ((k + 1 : Nat) : Int)) : QuRel s B w v' i w2 := by
  subst hm
  have h2 : add.length ≤ 2 := by rw [← hadd]; exact escL_le _
  refine ⟨k + 1, acc ++ add, by omega, by rw [List.length_append]; omega, hi, ?_, ?_, hbel.grown hg hB (fun j hj => (hown.lt j hj).1)⟩
  · rw [he, take_more hk, List.flatMap_append, ← hadd]
    simp
  · rw [List.length_append, show Lib.byteCells (acc ++ add) = Lib.byteCells acc ++ Lib.byteCells add by simp [Lib.byteCells], hc]
    exact hown'

set_option maxRecDepth 100000 in
set_option maxHeartbeats 1000000 in
theorem rquote_any (s : ByteArray) (hs : s.size ≤ 100000) (w : World) :
    Calls Try.prog 16 #[.string s] w fun e w' => e = .returned (.string (strB (quoteL s.data.toList))) ∧ Below w.heap.size w w' := by
  have HSL := Lib.hid (show s.data.toList.length = s.size by simp)
  have h0 : (w.alloc (.cells #[.int .u8 34] 5)).ownsRow w.heap.size 5 1 (.slice (some ⟨w.heap.size, 0, none⟩) 1 1) 1 (#[Value.int .u8 34] : Array Value).toList := World.ownsRow_lit w #[.int .u8 34] 1 (Nat.le_refl _) (by decide) rfl
  have HS := Lib.hid (show QuRel s w.heap.size w (.slice (some ⟨w.heap.size, 0, none⟩) 1 1) (.int .i64 0) (w.alloc (.cells #[.int .u8 34] 5)) from
    ⟨0, [34], by omega, by simp, rfl, by simp, h0, (Below.refl _ _).alloc (Nat.le_refl _) _⟩)
  clear h0
  go_enter Try.func16, Try.ntmps16
  go_wp2
  go_loopw [3, 4] (fun v i wr => QuRel s w.heap.size w v i wr) (fun _ i _ => s.size - (intOf i).toNat)
  case atStart => exact HS.out
  case round =>
    clear HS
    obtain ⟨k, acc, hk, hacc, rfl, hac, hown, hbel⟩ := hrel
    have HA := Lib.hid hac
    have HO := Lib.hid hown
    have HB := Lib.hid hbel
    have hbs := hbel.size
    clear hac hown hbel
    by_cases hlt : k < s.size
    · by_cases hd : (s[k].toNat : Int) = 34
      · have HE := Lib.hid (show escL s[k] = [92, 34] by rw [u8_of (n := 34) (by omega) hd]; rfl)
        have HC := Lib.hid (show Lib.byteCells [92, 34] = (#[.int .u8 92, .int .u8 s[k].toNat] : Array Value).toList by rw [hd]; rfl)
        have t34 : ((s[k].toNat : Int) == 34) = true := by rw [hd]; rfl
        clear hd
        go_wp2_with (at_builtin; refine app_new rfl _ _ 48 rfl w.heap.size 5 (.int .u8 0) 1 1 Try.underlying48 infoByte rfl (by decide) _ _ _ rfl HO.out hbs #[.int .u8 92, .int .u8 s[k].toNat] 2 2 rfl rfl (two_u8 _ _) (by omega) (by decide) ?_)
        intro v' w2 hown' hg
        have HO2 := Lib.hid hown'
        have HG := Lib.hid hg
        clear hown' hg
        go_wp2
        go_roundw
        case rel => exact quRel_step hlt HE.out HC.out hacc HA.out HO.out HB.out hbs rfl HO2.out HG.out (by go_num)
        case measure => simp [intOf]; omega
      have s34 : ((s[k].toNat : Int) == 34) = false := by simpa using hd
      have N34 := Lib.hid hd
      clear hd
      by_cases hd : (s[k].toNat : Int) = 92
      · have HE := Lib.hid (show escL s[k] = [92, 92] by rw [u8_of (n := 92) (by omega) hd]; rfl)
        have HC := Lib.hid (show Lib.byteCells [92, 92] = (#[.int .u8 92, .int .u8 s[k].toNat] : Array Value).toList by rw [hd]; rfl)
        have t34 : ((s[k].toNat : Int) == 34) = false := by rw [hd]; rfl
        have t92 : ((s[k].toNat : Int) == 92) = true := by rw [hd]; rfl
        clear hd
        go_wp2_with (at_builtin; refine app_new rfl _ _ 48 rfl w.heap.size 5 (.int .u8 0) 1 1 Try.underlying48 infoByte rfl (by decide) _ _ _ rfl HO.out hbs #[.int .u8 92, .int .u8 s[k].toNat] 2 2 rfl rfl (two_u8 _ _) (by omega) (by decide) ?_)
        intro v' w2 hown' hg
        have HO2 := Lib.hid hown'
        have HG := Lib.hid hg
        clear hown' hg
        go_wp2
        go_roundw
        case rel => exact quRel_step hlt HE.out HC.out hacc HA.out HO.out HB.out hbs rfl HO2.out HG.out (by go_num)
        case measure => simp [intOf]; omega
      have s92 : ((s[k].toNat : Int) == 92) = false := by simpa using hd
      have N92 := Lib.hid hd
      clear hd
      by_cases hd : (s[k].toNat : Int) = 10
      · have HE := Lib.hid (show escL s[k] = [92, 110] by rw [u8_of (n := 10) (by omega) hd]; rfl)
        have HC := Lib.hid (show Lib.byteCells [92, 110] = (#[.int .u8 92, .int .u8 110] : Array Value).toList by rfl)
        have t34 : ((s[k].toNat : Int) == 34) = false := by rw [hd]; rfl
        have t92 : ((s[k].toNat : Int) == 92) = false := by rw [hd]; rfl
        have t10 : ((s[k].toNat : Int) == 10) = true := by rw [hd]; rfl
        clear hd
        go_wp2_with (at_builtin; refine app_new rfl _ _ 48 rfl w.heap.size 5 (.int .u8 0) 1 1 Try.underlying48 infoByte rfl (by decide) _ _ _ rfl HO.out hbs #[.int .u8 92, .int .u8 110] 2 2 rfl rfl (two_u8 _ _) (by omega) (by decide) ?_)
        intro v' w2 hown' hg
        have HO2 := Lib.hid hown'
        have HG := Lib.hid hg
        clear hown' hg
        go_wp2
        go_roundw
        case rel => exact quRel_step hlt HE.out HC.out hacc HA.out HO.out HB.out hbs rfl HO2.out HG.out (by go_num)
        case measure => simp [intOf]; omega
      have s10 : ((s[k].toNat : Int) == 10) = false := by simpa using hd
      have N10 := Lib.hid hd
      clear hd
      by_cases hd : (s[k].toNat : Int) = 9
      · have HE := Lib.hid (show escL s[k] = [92, 116] by rw [u8_of (n := 9) (by omega) hd]; rfl)
        have HC := Lib.hid (show Lib.byteCells [92, 116] = (#[.int .u8 92, .int .u8 116] : Array Value).toList by rfl)
        have t34 : ((s[k].toNat : Int) == 34) = false := by rw [hd]; rfl
        have t92 : ((s[k].toNat : Int) == 92) = false := by rw [hd]; rfl
        have t10 : ((s[k].toNat : Int) == 10) = false := by rw [hd]; rfl
        have t9 : ((s[k].toNat : Int) == 9) = true := by rw [hd]; rfl
        clear hd
        go_wp2_with (at_builtin; refine app_new rfl _ _ 48 rfl w.heap.size 5 (.int .u8 0) 1 1 Try.underlying48 infoByte rfl (by decide) _ _ _ rfl HO.out hbs #[.int .u8 92, .int .u8 116] 2 2 rfl rfl (two_u8 _ _) (by omega) (by decide) ?_)
        intro v' w2 hown' hg
        have HO2 := Lib.hid hown'
        have HG := Lib.hid hg
        clear hown' hg
        go_wp2
        go_roundw
        case rel => exact quRel_step hlt HE.out HC.out hacc HA.out HO.out HB.out hbs rfl HO2.out HG.out (by go_num)
        case measure => simp [intOf]; omega
      have s9 : ((s[k].toNat : Int) == 9) = false := by simpa using hd
      have N9 := Lib.hid hd
      clear hd
      have HE := Lib.hid (show escL s[k] = [s[k]] by
        unfold escL
        rw [if_neg (show ¬ s[k] = 34 from u8_ne (n := 34) (by decide) N34.out), if_neg (show ¬ s[k] = 92 from u8_ne (n := 92) (by decide) N92.out), if_neg (show ¬ s[k] = 10 from u8_ne (n := 10) (by decide) N10.out), if_neg (show ¬ s[k] = 9 from u8_ne (n := 9) (by decide) N9.out)])
      have HC := Lib.hid (show Lib.byteCells [s[k]] = (#[.int .u8 s[k].toNat] : Array Value).toList from rfl)
      go_wp2_with (at_builtin; refine app_new rfl _ _ 48 rfl w.heap.size 5 (.int .u8 0) 1 1 Try.underlying48 infoByte rfl (by decide) _ _ _ rfl HO.out hbs #[.int .u8 s[k].toNat] 1 1 rfl rfl (one_u8 _) (by omega) (by decide) ?_)
      intro v' w2 hown' hg
      have HO2 := Lib.hid hown'
      have HG := Lib.hid hg
      clear hown' hg
      go_wp2
      go_roundw
      case rel => exact quRel_step hlt HE.out HC.out hacc HA.out HO.out HB.out hbs rfl HO2.out HG.out (by go_num)
      case measure => simp [intOf]; omega
    · have hke : k = s.size := by omega
      have HQ := Lib.hid (show acc ++ [34] = quoteL s.data.toList by rw [HA.out, List.take_of_length_le (by rw [HSL.out]; omega)]; rfl)
      go_wp2_with (at_builtin; refine app_new rfl _ _ 48 rfl w.heap.size 5 (.int .u8 0) 1 1 Try.underlying48 infoByte rfl (by decide) _ _ _ rfl HO.out hbs #[.int .u8 34] 1 1 rfl rfl (one_u8 _) (by omega) (by decide) ?_)
      intro v' w2 hown' hg
      have HB2 := Lib.hid (HB.out.grown hg hbs (fun j hj => (HO.out.lt j hj).1))
      have hown2 : w2.ownsRow w.heap.size 5 1 v' (acc ++ [34]).length (Lib.byteCells (acc ++ [34])) := by rw [byteCells_snoc, List.length_append]; exact hown'
      have hcv := conv_row hown2
      rw [HQ.out] at hcv
      clear hown' hg hown2
      go_wp2
      go_ret
      exact ⟨rfl, HB2.out⟩

end Go.Proofs.Ytaaomjpkgpjegaa
