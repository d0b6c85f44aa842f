/- CparseLevels answers true. -/
import Derived.Test.YtpilkjmemeiccaaGreatDoorXN
import Derived.Test.YtpilkjmemeiccaaGreatDoorXO
import Derived.Test.YtpilkjmemeiccaaGreatDoorXP
import Derived.Test.YtpilkjmemeiccaaGreatDoorXQ
import Derived.Test.YtpilkjmemeiccaaGreatDoorXR
import Derived.Test.YtpilkjmemeiccaaGreatDoorXL
set_option linter.unusedSimpArgs false
set_option linter.unusedVariables false
namespace Go.Proofs.YtpilkjmemeiccaaGreatDoor
set_option maxRecDepth 1000000
open Go Go.RowKit Go.Proofs.Ev
theorem wakes_any (w0 : Base) (h : T AObj) (nx : Nat) : GoodJ Tryz.prog w0 (.call 7 [] h nx) (.got (.b true) h nx) := by
  refine closed_j (h' := (stOf [(0, .b true)] [] 1985 nt7).h) (nx' := 1985) VR.any_b (fun w0 => ?_) h nx
  refine call_j (fn := Tryz.f7) (b := b7) (s := stOf [(0, .b true)] [] 1985 nt7) Tryz.func7 (by kernel_rfl) (Nat.zero_le _) ?_ rfl (by kernel_rfl)
  refine seq_j (by kernel_rfl) (ends_code good wake0) ?_
  refine seq_j (by kernel_rfl) (ends_code good wake1) ?_
  refine seq_j (by kernel_rfl) (ends_code good wake2) ?_
  refine seq_j (by kernel_rfl) (ends_code good wake3) ?_
  exact ends_code good wake4
noncomputable section
/-- the law's own code: what wakes tells is known -/
def wakesE (args : List Go.Proofs.Ev.V) (h : T AObj) (nx : Nat) : R (Go.Proofs.Ev.V × T AObj × Nat) :=
  match args with
  | [] => some (.b true, h, nx)
  | _ => none
def extL (f : Nat) : Option (List Go.Proofs.Ev.V → T AObj → Nat → R (Go.Proofs.Ev.V × T AObj × Nat)) :=
  match f with
  | 7 => some wakesE
  | _ => none
def cfgL : Cfg := ⟨Tryz.prog, extL⟩
end
theorem extL_ok (w0 : Base) (f : FuncId) (e : List Go.Proofs.Ev.V → T AObj → Nat → R (Go.Proofs.Ev.V × T AObj × Nat)) (h : extL f = some e) (args : List V) (hp : T AObj) (nx : Nat) (r : Go.Proofs.Ev.V × T AObj × Nat) (hr : e args hp nx = some r) : GoodJ Tryz.prog w0 (.call f args hp nx) (.got r.1 r.2.1 r.2.2) := by
  unfold extL at h
  split at h
  · injection h with h
    subst h
    cases args with
    | nil => injection hr with hr; subst hr; exact wakes_any w0 hp nx
    | cons a l => cases hr
  · cases h
theorem goodL (n : Nat) (w0 : Base) : Go.Proofs.Ev.Good Tryz.prog w0 (ev cfgL n) := ev_sound (c := cfgL) named mixed rfl (fun w0 f e h args hp nx r hr => extL_ok w0 f e h args hp nx r hr) n w0
theorem law0 : endsAs .norm (ev cfgL 1000 (.code (lft b3) ⟨setArgs [], .e, 0, nt3, []⟩)) [] [] 0 nt3 = true := by kernel_rfl
theorem law1 : endsAs .norm (ev cfgL 2000 (.code (lft (rgt b3)) (stOf [] [] 0 nt3))) [(1, .l 0 0 1 28)] textsH 1 nt3 = true := by kernel_rfl
theorem law2 : endsAs .norm (ev cfgL 1000 (.code (lft for3) (stOf [(1, .l 0 0 1 28)] textsH 1 nt3))) [(1, .l 0 0 1 28), (2, .i .i64 (Nat.add (Nat.mul 2 0) off))] textsH 1 nt3 = true := by kernel_rfl
theorem law3 : endsAs (.exit 0) (ev cfgL 1000 (.loop body3 (atRound 14 6341))) [] [] 6341 nt3 = true := by kernel_rfl
theorem law4 : endsAs .ret (ev cfgL 1000 (.code (rgt (rgt (rgt b3))) (stOf [] [] 6341 nt3))) [(0, .b true)] [] 6341 nt3 = true := by kernel_rfl
theorem levels_true (w0 : Base) : GoodJ Tryz.prog w0 (.call 3 [] .e 0) (.got (.b true) (stOf [(0, .b true)] [] 6341 nt3).h 6341) := by
  refine call_j (fn := Tryz.f3) (b := b3) (s := stOf [(0, .b true)] [] 6341 nt3) Tryz.func3 (by kernel_rfl) (Nat.zero_le _) ?_ rfl (by kernel_rfl)
  refine seq_j (by kernel_rfl) (ends_code goodL law0) ?_
  refine seq_j (by kernel_rfl) (ends_code goodL law1) ?_
  refine seq_j (by kernel_rfl) (s1 := stOf [] [] 6341 nt3) ?_ (ends_code goodL law4)
  refine seq_j (co := for3) (by kernel_rfl) (ends_code goodL law2) ?_
  refine block_j (id := 0) (by kernel_rfl) (inl_j (by kernel_rfl) ?_)
  refine loop_j (b := body3) (ends_code good round0) ?_
  refine loop_j (b := body3) (ends_code good round1) ?_
  refine loop_j (b := body3) (ends_code good round2) ?_
  refine loop_j (b := body3) (ends_code good round3) ?_
  refine loop_j (b := body3) (ends_code good round4) ?_
  refine loop_j (b := body3) (ends_code good round5) ?_
  refine loop_j (b := body3) (ends_code good round6) ?_
  refine loop_j (b := body3) (ends_code good round7) ?_
  refine loop_j (b := body3) (ends_code good round8) ?_
  refine loop_j (b := body3) (ends_code good round9) ?_
  refine loop_j (b := body3) (ends_code good round10) ?_
  refine loop_j (b := body3) (ends_code good round11) ?_
  refine loop_j (b := body3) (ends_code good round12) ?_
  refine loop_j (b := body3) (ends_code good round13) ?_
  exact ends_loop goodL law3
theorem levels_calls (w : World) : Calls Tryz.prog 3 #[] w fun e w' => e = .returned (.bool true) ∧ Below w.heap.size w w' := by
  refine Calls.mono (levels_true _ (fun _ => none) #[] w (start_inv w) .nil) fun e w' he => ?_
  cases e with
  | returned u =>
    obtain ⟨ρ, v, h, nx, hq, _, I, hv⟩ := he
    injection hq with hq
    subst hq
    cases hv
    exact ⟨rfl, ⟨I.os, I.tape, I.output, I.size, fun k hk => I.old k hk⟩⟩
  | panicked chain => obtain ⟨ρ, v, h, nx, x, hq, _⟩ := he; cases hq
  | outgrown => exact he.elim
end Go.Proofs.YtpilkjmemeiccaaGreatDoor
