/- CcheckRules answers true. -/
import Derived.Test.YtpilkjmemeiccaaGreatDoorY0
import Derived.Test.YtpilkjmemeiccaaGreatDoorY1
import Derived.Test.YtpilkjmemeiccaaGreatDoorY2
import Derived.Test.YtpilkjmemeiccaaGreatDoorY3
import Derived.Test.YtpilkjmemeiccaaGreatDoorY4
import Derived.Test.YtpilkjmemeiccaaGreatDoorY5
import Derived.Test.YtpilkjmemeiccaaGreatDoorY6
import Derived.Test.YtpilkjmemeiccaaGreatDoorY7
import Derived.Test.YtpilkjmemeiccaaGreatDoorY8
set_option linter.unusedSimpArgs false
set_option linter.unusedVariables false
namespace Go.Proofs.YtpilkjmemeiccaaGreatDoor
set_option maxRecDepth 1000000
open Go Go.RowKit Go.Proofs.Ev
theorem awakes_any (w0 : Base) (h : T AObj) (nx : Nat) : GoodJ Tryz.prog w0 (.call 9 [] h nx) (.got (.b true) h nx) := by
  refine closed_j (h' := (stOf [(0, .b true)] [] 1265 nt9).h) (nx' := 1265) VR.any_b (fun w0 => ?_) h nx
  refine call_j (fn := Tryz.f9) (b := b9) (s := stOf [(0, .b true)] [] 1265 nt9) Tryz.func9 (by kernel_rfl) (Nat.zero_le _) ?_ rfl (by kernel_rfl)
  refine seq_j (by kernel_rfl) (ends_code good2 awake0) ?_
  refine seq_j (by kernel_rfl) (ends_code good2 awake1) ?_
  exact ends_code good2 awake2
noncomputable section
def awakeE (args : List Go.Proofs.Ev.V) (h : T AObj) (nx : Nat) : R (Go.Proofs.Ev.V × T AObj × Nat) :=
  match args with
  | [] => some (.b true, h, nx)
  | _ => none
def extR (f : Nat) : Option (List Go.Proofs.Ev.V → T AObj → Nat → R (Go.Proofs.Ev.V × T AObj × Nat)) :=
  match f with
  | 9 => some awakeE
  | _ => none
def cfgR : Cfg := ⟨Tryz.prog, extR⟩
end
theorem extR_ok (w0 : Base) (f : FuncId) (e : List Go.Proofs.Ev.V → T AObj → Nat → R (Go.Proofs.Ev.V × T AObj × Nat)) (h : extR f = some e) (args : List Go.Proofs.Ev.V) (hp : T AObj) (nx : Nat) (r : Go.Proofs.Ev.V × T AObj × Nat) (hr : e args hp nx = some r) : GoodJ Tryz.prog w0 (.call f args hp nx) (.got r.1 r.2.1 r.2.2) := by
  unfold extR at h
  split at h
  · injection h with h
    subst h
    cases args with
    | nil => injection hr with hr; subst hr; exact awakes_any w0 hp nx
    | cons a l => cases hr
  · cases h
theorem goodR (n : Nat) (w0 : Base) : Go.Proofs.Ev.Good Tryz.prog w0 (ev cfgR n) := ev_sound (c := cfgR) named mixed rfl (fun w0 f e h args hp nx r hr => extR_ok w0 f e h args hp nx r hr) n w0
theorem rule0 : endsAs .norm (ev cfgR 1000 (.code (lft b4) ⟨setArgs [], .e, 0, nt4, []⟩)) [] [] 0 nt4 = true := by kernel_rfl
theorem rule1 : endsAs .norm (ev cfgR 2000 (.code (lft (rgt b4)) (stOf [] [] 0 nt4))) [(1, .l 0 0 1 11)] [(0, goodL)] 1 nt4 = true := by kernel_rfl
theorem rule2 : endsAs .norm (ev cfgR 2000 (.code (lft (rgt (rgt b4))) (stOf [(1, .l 0 0 1 11)] [(0, goodL)] 1 nt4))) [(1, .l 0 0 1 11), (2, .l 1 0 1 18)] hA 2 nt4 = true := by kernel_rfl
theorem rule3 : endsAs .norm (ev cfgR 1000 (.code (lft forA) (stOf [(1, .l 0 0 1 11), (2, .l 1 0 1 18)] hA 2 nt4))) (tmA 0) hA 2 nt4 = true := by kernel_rfl
theorem rule4 : endsAs (.exit 0) (ev cfgR 1000 (.loop bodyA (atA 11 22002))) [(2, .l 1 0 1 18)] hB 30000 nt4 = true := by kernel_rfl
theorem rule5 : endsAs .norm (ev cfgR 1000 (.code (lft forB) (stOf [(2, .l 1 0 1 18)] hB 30000 nt4))) (tmB 0) hB 30000 nt4 = true := by kernel_rfl
theorem rule6 : endsAs (.exit 2) (ev cfgR 1000 (.loop bodyB (atB 18 66000))) [] [] 66000 nt4 = true := by kernel_rfl
theorem rule7 : endsAs .ret (ev cfgR 1000 (.code (rgt (rgt (rgt (rgt (rgt b4))))) (stOf [] [] 66000 nt4))) [(0, .b true)] [] 66000 nt4 = true := by kernel_rfl
theorem rules_true (w0 : Base) : GoodJ Tryz.prog w0 (.call 4 [] .e 0) (.got (.b true) (stOf [(0, .b true)] [] 66000 nt4).h 66000) := by
  refine call_j (fn := Tryz.f4) (b := b4) (s := stOf [(0, .b true)] [] 66000 nt4) Tryz.func4 (by kernel_rfl) (Nat.zero_le _) ?_ rfl (by kernel_rfl)
  refine seq_j (by kernel_rfl) (ends_code goodR rule0) ?_
  refine seq_j (by kernel_rfl) (ends_code goodR rule1) ?_
  refine seq_j (by kernel_rfl) (ends_code goodR rule2) ?_
  refine seq_j (by kernel_rfl) (s1 := stOf [(2, .l 1 0 1 18)] hB 30000 nt4) ?_ ?_
  · refine seq_j (co := forA) (by kernel_rfl) (ends_code goodR rule3) ?_
    refine block_j (id := 0) (by kernel_rfl) (inl_j (by kernel_rfl) ?_)
    refine loop_j (b := bodyA) (ends_code good2 roundA0) ?_
    refine loop_j (b := bodyA) (ends_code good2 roundA1) ?_
    refine loop_j (b := bodyA) (ends_code good2 roundA2) ?_
    refine loop_j (b := bodyA) (ends_code good2 roundA3) ?_
    refine loop_j (b := bodyA) (ends_code good2 roundA4) ?_
    refine loop_j (b := bodyA) (ends_code good2 roundA5) ?_
    refine loop_j (b := bodyA) (ends_code good2 roundA6) ?_
    refine loop_j (b := bodyA) (ends_code good2 roundA7) ?_
    refine loop_j (b := bodyA) (ends_code good2 roundA8) ?_
    refine loop_j (b := bodyA) (ends_code good2 roundA9) ?_
    refine loop_j (b := bodyA) (ends_code good2 roundA10) ?_
    exact ends_loop goodR rule4
  · refine seq_j (by kernel_rfl) (s1 := stOf [] [] 66000 nt4) ?_ (ends_code goodR rule7)
    refine seq_j (co := forB) (by kernel_rfl) (ends_code goodR rule5) ?_
    refine block_j (id := 2) (by kernel_rfl) (inl_j (by kernel_rfl) ?_)
    refine loop_j (b := bodyB) (ends_code good2 roundB0) ?_
    refine loop_j (b := bodyB) (ends_code good2 roundB1) ?_
    refine loop_j (b := bodyB) (ends_code good2 roundB2) ?_
    refine loop_j (b := bodyB) (ends_code good2 roundB3) ?_
    refine loop_j (b := bodyB) (ends_code good2 roundB4) ?_
    refine loop_j (b := bodyB) (ends_code good2 roundB5) ?_
    refine loop_j (b := bodyB) (ends_code good2 roundB6) ?_
    refine loop_j (b := bodyB) (ends_code good2 roundB7) ?_
    refine loop_j (b := bodyB) (ends_code good2 roundB8) ?_
    refine loop_j (b := bodyB) (ends_code good2 roundB9) ?_
    refine loop_j (b := bodyB) (ends_code good2 roundB10) ?_
    refine loop_j (b := bodyB) (ends_code good2 roundB11) ?_
    refine loop_j (b := bodyB) (ends_code good2 roundB12) ?_
    refine loop_j (b := bodyB) (ends_code good2 roundB13) ?_
    refine loop_j (b := bodyB) (ends_code good2 roundB14) ?_
    refine loop_j (b := bodyB) (ends_code good2 roundB15) ?_
    refine loop_j (b := bodyB) (ends_code good2 roundB16) ?_
    refine loop_j (b := bodyB) (ends_code good2 roundB17) ?_
    exact ends_loop goodR rule6
theorem rules_calls (w : World) : Calls Tryz.prog 4 #[] w fun e w' => e = .returned (.bool true) ∧ Below w.heap.size w w' := by
  refine Calls.mono (rules_true _ (fun _ => none) #[] w (start_inv w) .nil) fun e w' he => ?_
  cases e with
  | returned u =>
    obtain ⟨ρ, v, h, nx, hq, _, I, hv⟩ := he
    injection hq with hq
    subst hq
    cases hv
    exact ⟨rfl, ⟨I.os, I.tape, I.output, I.size, fun k hk => I.old k hk⟩⟩
  | panicked chain => obtain ⟨ρ, v, h, nx, x, hq, _⟩ := he; cases hq
  | outgrown => exact he.elim
end Go.Proofs.YtpilkjmemeiccaaGreatDoor
