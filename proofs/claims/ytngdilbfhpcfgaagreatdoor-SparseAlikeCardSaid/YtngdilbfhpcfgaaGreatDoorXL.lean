/- All that the evaluator does not run itself: it is so. -/
import Derived.Test.YtngdilbfhpcfgaaGreatDoorXK
import Derived.Test.YtngdilbfhpcfgaaGreatDoorXJ
import Derived.Test.YtngdilbfhpcfgaaGreatDoorXI
set_option linter.unusedSimpArgs false
set_option linter.unusedVariables false
namespace Go.Proofs.YtngdilbfhpcfgaaGreatDoor
set_option maxRecDepth 100000
open Go Go.RowKit Go.Proofs.Ev

theorem levels_ext (w0 : Base) {args : List V} {h : T AObj} {nx : Nat} {r : V × T AObj × Nat} (he : levelsES args h nx = some r) : GoodJ Tryz.prog w0 (.call 163 args h nx) (.got r.1 r.2.1 r.2.2) := by
  intro ρ xs w I hv
  unfold levelsES at he
  split at he
  · rename_i z rest
    obtain ⟨h1, he⟩ := gd_some.1 he
    have h1 : off ≤ z := ble_true.1 h1
    obtain ⟨k, hkk⟩ : ∃ k, Nat.sub z off = k := ⟨_, rfl⟩
    rw [hkk] at he
    have hkk : z - off = k := hkk
    injection he with he
    subst he
    obtain ⟨x, hx, hvx⟩ := hv.li1
    obtain rfl : xs = #[x] := Array.toList_inj.1 hx
    cases hvx with
    | g _ cs hc =>
    obtain ⟨u, h2, h3⟩ := hc.get (i := 0) rfl
    have h3 := h3.int_inv
    have q1 : ((z : Int) - 9223372036854775808) = (k : Int) := by have : off = 9223372036854775808 := rfl; omega
    rw [q1] at h3
    subst h3
    refine Calls.mono (levels_any cs k (by simpa using h2) w) fun e w' hq => ?_
    obtain ⟨u, rfl, hb, hu⟩ := hq
    exact ⟨ρ, _, _, _, rfl, Rho.le_refl ρ, I.below hb, hu ρ⟩
  · cases he
theorem ext_ok (w0 : Base) (f : FuncId) (e : List V → T AObj → Nat → R (V × T AObj × Nat)) (h : ext f = some e) (args : List V) (hp : T AObj) (nx : Nat) (r : V × T AObj × Nat) (hr : e args hp nx = some r) : GoodJ Tryz.prog w0 (.call f args hp nx) (.got r.1 r.2.1 r.2.2) := by
  unfold ext at h
  split at h
  · injection h with h; subst h; exact long_ext w0 hr
  · injection h with h; subst h; exact join_ext w0 hr
  · injection h with h; subst h; exact fmt_ext w0 hr
  · injection h with h; subst h; exact levels_ext w0 hr
  · injection h with h; subst h; exact parse_ext w0 hr
  · cases h
theorem good (n : Nat) (w0 : Base) : Go.Proofs.Ev.Good Tryz.prog w0 (ev cfg n) := ev_sound (c := cfg) named mixed rfl (fun w0 f e h args hp nx r hr => ext_ok w0 f e h args hp nx r hr) n w0
end Go.Proofs.YtngdilbfhpcfgaaGreatDoor
