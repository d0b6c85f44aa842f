/- SparseAlike answers true. -/
import Derived.Test.YtngdilbfhpcfgaaGreatDoorY0
import Derived.Test.YtngdilbfhpcfgaaGreatDoorY1
import Derived.Test.YtngdilbfhpcfgaaGreatDoorY2
import Derived.Test.YtngdilbfhpcfgaaGreatDoorY3
import Derived.Test.YtngdilbfhpcfgaaGreatDoorY4
import Derived.Test.YtngdilbfhpcfgaaGreatDoorY5
set_option linter.unusedSimpArgs false
set_option linter.unusedVariables false
namespace Go.Proofs.YtngdilbfhpcfgaaGreatDoor
set_option maxRecDepth 1000000
open Go Go.RowKit Go.Proofs.Ev
theorem wakes_any (w0 : Base) (hk : KG w0) (h : T AObj) (nx : Nat) : GoodJ Tryz.prog w0 (.call 7 [] h nx) (.got (.b true) h nx) := by
  refine closed_jK (K := KG) (fun q I => q.inv I) (h' := (stOf [(0, .b true)] [] 2014 nt7).h) (nx' := 2014) VR.any_b (fun w0 hk => ?_) hk h nx
  refine call_j (fn := Tryz.f7) (b := b7) (s := stOf [(0, .b true)] [] 2014 nt7) Tryz.func7 (by kernel_rfl) (Nat.zero_le _) ?_ rfl (by kernel_rfl)
  refine seq_j (by kernel_rfl) (ends_codeK (good3 w0 hk) wk0) ?_
  refine seq_j (by kernel_rfl) (ends_codeK (good3 w0 hk) wk1) ?_
  refine seq_j (by kernel_rfl) (ends_codeK (good3 w0 hk) wk2) ?_
  refine seq_j (by kernel_rfl) (ends_codeK (good3 w0 hk) wk3) ?_
  exact ends_codeK (good3 w0 hk) wk4
noncomputable section
def wakesE (args : List Go.Proofs.Ev.V) (h : T AObj) (nx : Nat) : R (Go.Proofs.Ev.V × T AObj × Nat) :=
  match args with
  | [] => some (.b true, h, nx)
  | _ => none
def extL (f : Nat) : Option (List Go.Proofs.Ev.V → T AObj → Nat → R (Go.Proofs.Ev.V × T AObj × Nat)) :=
  match f with
  | 7 => some wakesE
  | _ => none
def cfgL : Cfg := ⟨Tryz.prog, extL⟩
end
theorem extL_ok (w0 : Base) (hk : KG w0) (f : FuncId) (e : List Go.Proofs.Ev.V → T AObj → Nat → R (Go.Proofs.Ev.V × T AObj × Nat)) (h : extL f = some e) (args : List Go.Proofs.Ev.V) (hp : T AObj) (nx : Nat) (r : Go.Proofs.Ev.V × T AObj × Nat) (hr : e args hp nx = some r) : GoodJ Tryz.prog w0 (.call f args hp nx) (.got r.1 r.2.1 r.2.2) := by
  unfold extL at h
  split at h
  · injection h with h
    subst h
    cases args with
    | nil => injection hr with hr; subst hr; exact wakes_any w0 hk hp nx
    | cons a l => cases hr
  · cases h
theorem goodL (w0 : Base) (hk : KG w0) (n : Nat) : Go.Proofs.Ev.Good Tryz.prog w0 (ev cfgL n) := ev_soundK (K := KG) (c := cfgL) KG.more named mixed rfl (fun w0 hk f e h args hp nx r hr => extL_ok w0 hk f e h args hp nx r hr) n w0 hk
theorem law0 : endsAs .norm (ev cfg0 1000 (.code (lft b3) ⟨setArgs [], .e, 0, nt3, []⟩)) [] [] 0 nt3 = true := by kernel_rfl
theorem law1 : endsAs .norm (ev cfg0 2000 (.code (lft (rgt b3)) (stOf [] [] 0 nt3))) [(1, .l 0 0 1 20)] hA 1 nt3 = true := by kernel_rfl
theorem law2 : endsAs .norm (ev cfg0 1000 (.code (lft forA) (stOf [(1, .l 0 0 1 20)] hA 1 nt3))) (tmA 0) hA 10 nt3 = true := by kernel_rfl
theorem law3 : endsAs (.exit 0) (ev cfg0 1000 (.loop bodyA (atA 10 20010))) [] [] 20010 nt3 = true := by kernel_rfl
theorem law4 : endsAs .norm (ev cfg0 2000 (.code (lft (rgt (rgt (rgt b3)))) (stOf [] [] 20010 nt3))) [(9, .l 20010 0 1 12)] hB 20020 nt3 = true := by kernel_rfl
theorem law5 : endsAs .norm (ev cfg0 1000 (.code (lft forB) (stOf [(9, .l 20010 0 1 12)] hB 20020 nt3))) (tmB 0) hB 20020 nt3 = true := by kernel_rfl
theorem law6 : endsAs (.exit 2) (ev cfg0 1000 (.loop bodyB (atB 12 44020))) [] [] 44020 nt3 = true := by kernel_rfl
theorem law7 : endsAs .ret (ev cfgL 1000 (.code (rgt (rgt (rgt (rgt (rgt b3))))) (stOf [] [] 44020 nt3))) [(0, .b true)] [] 44020 nt3 = true := by kernel_rfl
theorem alike_true (w0 : Base) (hk : KG w0) : GoodJ Tryz.prog w0 (.call 3 [] .e 0) (.got (.b true) (stOf [(0, .b true)] [] 44020 nt3).h 44020) := by
  refine call_j (fn := Tryz.f3) (b := b3) (s := stOf [(0, .b true)] [] 44020 nt3) Tryz.func3 (by kernel_rfl) (Nat.zero_le _) ?_ rfl (by kernel_rfl)
  refine seq_j (by kernel_rfl) (ends_code good0 law0) ?_
  refine seq_j (by kernel_rfl) (ends_code good0 law1) ?_
  refine seq_j (by kernel_rfl) (s1 := stOf [] [] 20010 nt3) ?_ ?_
  · refine seq_j (co := forA) (by kernel_rfl) (ends_code good0 law2) ?_
    refine block_j (id := 0) (by kernel_rfl) (inl_j (by kernel_rfl) ?_)
    refine loop_j (b := bodyA) (ends_codeK (good3 w0 hk) roundA0) ?_
    refine loop_j (b := bodyA) (ends_codeK (good3 w0 hk) roundA1) ?_
    refine loop_j (b := bodyA) (ends_codeK (good3 w0 hk) roundA2) ?_
    refine loop_j (b := bodyA) (ends_codeK (good3 w0 hk) roundA3) ?_
    refine loop_j (b := bodyA) (ends_codeK (good3 w0 hk) roundA4) ?_
    refine loop_j (b := bodyA) (ends_codeK (good3 w0 hk) roundA5) ?_
    refine loop_j (b := bodyA) (ends_codeK (good3 w0 hk) roundA6) ?_
    refine loop_j (b := bodyA) (ends_codeK (good3 w0 hk) roundA7) ?_
    refine loop_j (b := bodyA) (ends_codeK (good3 w0 hk) roundA8) ?_
    refine loop_j (b := bodyA) (ends_codeK (good3 w0 hk) roundA9) ?_
    exact ends_loop good0 law3
  · refine seq_j (by kernel_rfl) (ends_code good0 law4) ?_
    refine seq_j (by kernel_rfl) (s1 := stOf [] [] 44020 nt3) ?_ (ends_codeK (goodL w0 hk) law7)
    refine seq_j (co := forB) (by kernel_rfl) (ends_code good0 law5) ?_
    refine block_j (id := 2) (by kernel_rfl) (inl_j (by kernel_rfl) ?_)
    refine loop_j (b := bodyB) (ends_codeK (good3 w0 hk) roundB0) ?_
    refine loop_j (b := bodyB) (ends_codeK (good3 w0 hk) roundB1) ?_
    refine loop_j (b := bodyB) (ends_codeK (good3 w0 hk) roundB2) ?_
    refine loop_j (b := bodyB) (ends_codeK (good3 w0 hk) roundB3) ?_
    refine loop_j (b := bodyB) (ends_codeK (good3 w0 hk) roundB4) ?_
    refine loop_j (b := bodyB) (ends_codeK (good3 w0 hk) roundB5) ?_
    refine loop_j (b := bodyB) (ends_codeK (good3 w0 hk) roundB6) ?_
    refine loop_j (b := bodyB) (ends_codeK (good3 w0 hk) roundB7) ?_
    refine loop_j (b := bodyB) (ends_codeK (good3 w0 hk) roundB8) ?_
    refine loop_j (b := bodyB) (ends_codeK (good3 w0 hk) roundB9) ?_
    refine loop_j (b := bodyB) (ends_codeK (good3 w0 hk) roundB10) ?_
    refine loop_j (b := bodyB) (ends_codeK (good3 w0 hk) roundB11) ?_
    exact ends_loop good0 law6
theorem alike_calls (w : World) (hw : KG ⟨w, fun _ => False⟩) : Calls Tryz.prog 3 #[] w fun e w' => e = .returned (.bool true) ∧ Below w.heap.size w w' := by
  refine Calls.mono (alike_true _ hw (fun _ => none) #[] w (start_inv w) .nil) fun e w' he => ?_
  cases e with
  | returned u =>
    obtain ⟨ρ, v, h, nx, hq, _, I, hv⟩ := he
    injection hq with hq
    subst hq
    cases hv
    exact ⟨rfl, ⟨I.os, I.tape, I.output, I.size, fun k hk => I.old k hk⟩⟩
  | panicked chain => obtain ⟨ρ, v, h, nx, x, hq, _⟩ := he; cases hq
  | outgrown => exact he.elim
end Go.Proofs.YtngdilbfhpcfgaaGreatDoor
