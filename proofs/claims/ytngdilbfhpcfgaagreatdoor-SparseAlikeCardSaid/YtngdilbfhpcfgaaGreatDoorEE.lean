/- The evaluator and the world: control, drawn regions, calls. -/
import Derived.Test.YtngdilbfhpcfgaaGreatDoorED
set_option linter.unusedSimpArgs false
set_option linter.unusedVariables false
/- What the evaluator's steps say: one operation, lists of them, control. -/
set_option linter.unusedVariables false
namespace Go.Proofs.Ev
open Go
section
variable {P : Program} {w0 : Base}

/-- an operation that leaves a call for later -/
theorem defer_ok (N : Named P) (o : Oper) (ρ : Rho) (tm : T V) (h : T AObj) (nx : Nat) (a : Act) (w : World) {f : FuncId} {args : List V} (hi : isDefer o.op = true) (hd : opA P tm h nx o.op = some (.defer f args)) (ht : TmR ρ tm a.tmps) :
    ∃ d, (execOp a.eval o).run P w = .ok (.defer d) w ∧ ∃ ys : Array Value, (∃ fv cap, d.target = .fn fv cap) ∧ (∀ w, (invoke d.target d.args).run P w = .ok (.enter f ys) w) ∧ VRs ρ args ys.toList := by
  obtain ⟨dst, op, ty, pos, after, guard⟩ := o
  cases op <;> first | (simp only [isDefer, Bool.false_eq_true] at hi; done) | skip
  rename_i c
  obtain ⟨vs, h2, h3⟩ := bd_some.1 hd
  obtain ⟨callee, cargs, cts⟩ := c
  cases callee with
  | invoke r m => simp only [reduceCtorEq] at h3
  | builtin b => simp only [reduceCtorEq] at h3
  | value g =>
    obtain ⟨v, h4, h5⟩ := bd_some.1 h3
    obtain ⟨⟨q, l⟩, h6, h7⟩ := bd_some.1 h5
    injection h7 with h7; injection h7 with h7 h8; subst h7; subst h8
    obtain ⟨dd, ys, h9, h10, h11, h12⟩ := target_ok N h6 (evalO_sound (a := a) ht h4) (args_ok ht h2) w
    exact ⟨dd, by simp [execOp, resolve, h9], ys, h10, h11, h12⟩
theorem afterOp_ok (N : Named P) {rc : Rec} (G : Good P w0 rc) {k : St → R Res} {tp tm : T V} {o : Oper} {d : Did} {ρ : Rho} {s : St} {res : Res} {a : Act} {w : World} {next : Act → World → Prop} {Q : Exit → Act → World → Prop}
    (h : afterOp rc k tp o s d = some res) (S : SG P w0 ρ tm s a w) (hd : opA P tm s.h s.nx o.op = some d)
    (hk : ∀ ρ' h' nx' ds' v u (a' : Act) w', ρ.le ρ' → Inv w0 ρ' h' nx' w' → VR ρ' v u → DR P ρ' ds' a'.defers → a'.tmps = a.tmps → andPut k o.dst v ⟨s.tm, h', nx', s.nt, ds'⟩ = some res → next (a'.put o.dst u) w')
    (hp : ∀ ρ' v x h' nx' w', ρ.le ρ' → Inv w0 ρ' h' nx' w' → VR ρ' v x → res = .out (.pan v) ⟨tp, h', nx', s.nt, s.ds⟩ → Q (.panic [{ v := x, recovered := false }]) a w') :
    o.wp P a w next Q := by
  unfold Oper.wp
  by_cases hpl : plainDid d = true
  case neg =>
    cases d <;> first | exact absurd rfl hpl | skip
    case recov => cases h
    case defer f args =>
      obtain ⟨hi, h⟩ := gd_some.1 h
      obtain ⟨dd, hr, h1⟩ := defer_ok N o ρ tm s.h s.nx a w hi hd S.tm
      rw [hr]
      exact hk ρ _ _ ((f, args) :: s.ds) _ _ { a with defers := dd :: a.defers } w (Rho.le_refl ρ) S.inv (VR.undef ρ) ⟨h1, S.ds⟩ rfl h
  have D := op_ok N o ρ tm s.h s.nx a w d hd S.tm S.inv hpl
  cases d with
  | val v =>
    obtain ⟨x, hr, hv⟩ := D
    rw [hr]
    exact hk ρ _ _ _ _ _ a w (Rho.le_refl ρ) S.inv hv S.ds rfl h
  | new v ob =>
    obtain ⟨x, w', c, hr, I, hv⟩ := D
    rw [hr]
    have hle := le_put' S.inv c
    exact hk _ _ _ _ _ _ a w' hle I hv (S.ds.mono hle) rfl h
  | app v b ob =>
    obtain ⟨x, w', c, hr, I, hv⟩ := D
    rw [hr]
    have hle := le_put' S.inv c
    exact hk _ _ _ _ _ _ a w' hle I hv (S.ds.mono hle) rfl h
  | set b ob =>
    obtain ⟨w', hr, I⟩ := D
    rw [hr]
    exact hk ρ _ _ _ _ _ a w' (Rho.le_refl ρ) I (VR.undef ρ) S.ds rfl h
  | enter f args =>
    obtain ⟨xs, hr, hv⟩ := D
    rw [hr]
    obtain ⟨r, h1, h2⟩ := bd_some.1 h
    refine Calls.mono (G _ _ h1 ρ xs w S.inv hv) fun e w' he => ?_
    cases e with
    | returned u =>
      obtain ⟨ρ', v, h', nx', rfl, hle, I, hv⟩ := he
      exact hk ρ' _ _ _ _ _ a w' hle I hv (S.ds.mono hle) rfl h2
    | panicked chain =>
      obtain ⟨ρ', v, h', nx', x, rfl, hle, I, hc, hv⟩ := he
      injection h2 with h2
      subst hc
      exact hp ρ' v x h' nx' w' hle I hv h2.symm
    | outgrown => exact he.elim
  | pan v =>
    obtain ⟨x, hr, hv⟩ := D
    rw [hr]
    injection h with h
    exact hp ρ v x s.h s.nx w (Rho.le_refl ρ) S.inv hv h.symm
  | defer f args => exact D.elim
  | recov => exact D.elim
theorem stepOps_ok (N : Named P) {c : Cfg} (hP : c.P = P) {rc : Rec} (G : Good P w0 rc) {ops l : List Oper} {s : St} {res : Res} (h : stepOps c rc ops l s = some res) : GoodJ P w0 (.ops ops l s) res := by
  intro ρ a w S
  cases l with
  | nil => injection h with h; subst h; exact Post.of_norm (Rho.le_refl ρ) S trivial
  | cons o rest =>
    obtain ⟨b, h1, h2⟩ := bd_some.1 h
    have hw := wants_sound h1 S.tm
    unfold wpList
    cases b with
    | false =>
      rw [if_neg (by rw [hw]; simp)]
      obtain ⟨s', h3, h4⟩ := bd_some.1 h2
      exact G _ _ h4 ρ _ _ (put_SR h3 S (VR.undef ρ))
    | true =>
      rw [if_pos hw]
      obtain ⟨d, h3, h4⟩ := bd_some.1 h2
      rw [hP] at h3
      refine .inl (afterOp_ok N G h4 S h3 (fun ρ' h' nx' ds' v u a' w' hle I hv hD ha hk => ?_) fun ρ' v x h' nx' w' hle I hv hres => ?_)
      · obtain ⟨s', h5, h6⟩ := bd_some.1 hk
        have S' : SR P w0 ρ' ⟨s.tm, h', nx', s.nt, ds'⟩ a' w' := ⟨I, by rw [ha]; exact S.tm.mono hle, by rw [ha]; exact S.nt, hD⟩
        exact wpList_mono (fun _ _ _ => Post.mono hle) _ (G _ _ h6 ρ' _ _ (put_SR h5 S' hv))
      · subst hres
        exact ⟨ρ', _, _, rfl, hle, ⟨I, (S.tm.mono hle).part, S.ds.mono hle⟩, fun q => (by cases q), x, rfl, hv⟩

/-! control -/
theorem seq_ok {rc : Rec} (G : Good P w0 rc) {x y : Code} {s : St} {res : Res} (h : bd (rc (.code x s)) (afterSeq rc y) = some res) {ρ : Rho} {a : Act} {w : World} (S : SR P w0 ρ s a w) :
    x.wp P (Exit.then (y.wp P (Post P w0 ρ res)) (Post P w0 ρ res)) a w := by
  obtain ⟨r, h1, h2⟩ := bd_some.1 h
  refine wp_mono (G _ _ h1 ρ a w S) fun e a' w' he => ?_
  obtain ⟨ρ', o, s', rfl, hle, S', S'', ho⟩ := he
  cases o with
  | norm =>
    cases e <;> first | exact ho.elim | skip
    exact wp_mono (G _ _ h2 ρ' a' w' (S'' rfl)) fun _ _ _ => Post.mono hle
  | exit id => cases e <;> first | exact ho.elim | (injection h2 with h2; subst h2; exact ⟨ρ', _, _, rfl, hle, S', S'', ho⟩)
  | ret => cases e <;> first | exact ho.elim | (injection h2 with h2; subst h2; exact ⟨ρ', _, _, rfl, hle, S', S'', ho⟩)
  | pan v => cases e <;> first | exact ho.elim | (injection h2 with h2; subst h2; exact ⟨ρ', _, _, rfl, hle, S', S'', ho⟩)
theorem loop_round {c : Code} {Q : Exit → Act → World → Prop} {a : Act} {w : World} (h : c.wp P (Exit.then (LoopWp P c Q) Q) a w) : LoopWp P c Q a w := by
  intro b k cs
  obtain ⟨e, a₁, w₁, hq, harr⟩ := h b (.inLoop c :: k) cs
  cases e with
  | normal =>
    obtain ⟨e₂, a₂, w₂, hq₂, harr₂⟩ := hq b k cs
    exact ⟨e₂, a₂, w₂, hq₂, .of_steps (Steps.trans harr (.one step_inLoop)) harr₂⟩
  | exit id => exact ⟨_, a₁, w₁, hq, .pass (x := .inLoop c) rfl (fun _ _ => .inl (by simp)) harr⟩
  | goto l => exact ⟨_, a₁, w₁, hq, .pass (x := .inLoop c) rfl (fun _ _ => .inl (by simp)) harr⟩
  | ret => exact ⟨_, a₁, w₁, hq, .pass (x := .inLoop c) rfl (fun _ _ => .inl (by simp)) harr⟩
  | panic ch => exact ⟨_, a₁, w₁, hq, .pass (x := .inLoop c) rfl (fun _ _ => .inl (by simp)) harr⟩
  | outgrown => exact ⟨_, a₁, w₁, hq, .pass (x := .inLoop c) rfl (fun _ _ => .inl (by simp)) harr⟩
theorem wp_loop_in {c : Code} {Q : Exit → Act → World → Prop} {a : Act} {w : World} (h : LoopWp P c Q a w) : (Code.loop c).wp P Q a w :=
  fun b k cs => let ⟨e, a', w', q, r⟩ := h b k cs; ⟨e, a', w', q, .of_steps (.one step_loop) r⟩
theorem round_ok {rc : Rec} (G : Good P w0 rc) {x : Code} {s : St} {res : Res} (h : bd (rc (.code x s)) (afterRound rc x) = some res) : GoodJ P w0 (.loop x s) res := by
  intro ρ a w S
  obtain ⟨r, h1, h2⟩ := bd_some.1 h
  refine loop_round (wp_mono (G _ _ h1 ρ a w S) fun e a' w' he => ?_)
  obtain ⟨ρ', o, s', rfl, hle, S', S'', ho⟩ := he
  cases o with
  | norm =>
    cases e <;> first | exact ho.elim | skip
    exact fun b k cs => let ⟨e, a, w, hq, r⟩ := G _ _ h2 ρ' a' w' (S'' rfl) b k cs; ⟨e, a, w, hq.mono hle, r⟩
  | exit id => cases e <;> first | exact ho.elim | (injection h2 with h2; subst h2; exact ⟨ρ', _, _, rfl, hle, S', S'', ho⟩)
  | ret => cases e <;> first | exact ho.elim | (injection h2 with h2; subst h2; exact ⟨ρ', _, _, rfl, hle, S', S'', ho⟩)
  | pan v => cases e <;> first | exact ho.elim | (injection h2 with h2; subst h2; exact ⟨ρ', _, _, rfl, hle, S', S'', ho⟩)
theorem block_ok {rc : Rec} (G : Good P w0 rc) {id : Nat} {x : Code} {s : St} {res : Res} (h : bd (rc (.code x s)) (afterBlock id) = some res) {ρ : Rho} {a : Act} {w : World} (S : SR P w0 ρ s a w) :
    (Code.block id x).wp P (Post P w0 ρ res) a w := by
  obtain ⟨r, h1, h2⟩ := bd_some.1 h
  refine wp_block (wp_mono (G _ _ h1 ρ a w S) fun e a' w' he => ?_)
  obtain ⟨ρ', o, s', rfl, hle, S', S'', ho⟩ := he
  cases o with
  | norm => cases e <;> first | exact ho.elim | (injection h2 with h2; subst h2; exact ⟨ρ', _, _, rfl, hle, S', S'', ho⟩)
  | exit j =>
    cases e <;> first | exact ho.elim | skip
    rename_i j'
    have ho : j = j' := ho
    subst ho
    injection h2 with h2
    rw [beqD, brec] at h2
    simp only [Exit.inBlock]
    split
    · rename_i hj
      rw [if_pos hj] at h2; subst h2
      exact Post.of_norm hle (S'' rfl) trivial
    · rename_i hj
      rw [if_neg hj] at h2; subst h2
      exact Post.of_norm hle (S'' rfl) rfl
  | ret => cases e <;> first | exact ho.elim | (injection h2 with h2; subst h2; exact ⟨ρ', _, _, rfl, hle, S', S'', ho⟩)
  | pan v => cases e <;> first | exact ho.elim | (injection h2 with h2; subst h2; exact ⟨ρ', _, _, rfl, hle, S', S'', ho⟩)
theorem stepCode_ok {c : Cfg} (hP : c.P = P) {rc : Rec} (G : Good P w0 rc)
    (hreg : ∀ id (ops : Array Oper) pl s res ρ a w, planned ops.toList = some pl → rc (.dr ops.toList pl (clearT ops.toList s.tm) s) = some res → SR P w0 ρ s a w → (Code.region id ops true).wp P (Post P w0 ρ res) a w)
    {co : Code} {s : St} {res : Res} (h : stepCode c rc co s = some res) : GoodJ P w0 (.code co s) res := by
  intro ρ a w S
  cases co with
  | skip => injection h with h; subst h; exact wp_skip (Post.of_norm (Rho.le_refl ρ) S trivial)
  | label l => injection h with h; subst h; exact wp_label (Post.of_norm (Rho.le_refl ρ) S trivial)
  | region id ops draw =>
    cases draw with
    | true =>
      obtain ⟨pl, h1, h2⟩ := bd_some.1 h
      exact hreg id ops pl s res ρ a w h1 h2 S
    | false =>
      have := G _ _ h ρ a w S
      exact wp_region_list (by simpa using this)
  | seq x y => exact wp_seq (seq_ok G h S)
  | cond x y z =>
    obtain ⟨v, h1, h2⟩ := bd_some.1 h
    have hv := evalO_sound (a := a) S.tm h1
    cases v <;> first | (cases h2; done) | skip
    rename_i t
    have hx : a.eval x = .bool t := by
      generalize a.eval x = u at hv
      cases hv; rfl
    refine wp_cond hx ?_
    cases t
    · exact G _ _ h2 ρ a w S
    · exact G _ _ h2 ρ a w S
  | block id x => exact block_ok G h S
  | loop x => exact wp_loop_in (G _ _ h ρ a w S)
  | exit id => injection h with h; subst h; exact wp_exit (Post.of_norm (Rho.le_refl ρ) S rfl)
  | ret => injection h with h; subst h; exact wp_ret (Post.of_norm (Rho.le_refl ρ) S trivial)
  | _ => cases h
end
end Go.Proofs.Ev
/- Drawn regions: the plan's run tells what every order of the region's operations does. -/
set_option linter.unusedVariables false
namespace Go.Proofs.Ev
open Go
section
variable {P : Program} {w0 : Base}

theorem allL_iff {α : Type} {p : α → Bool} : ∀ {l : List α}, allL p l = true ↔ ∀ x ∈ l, p x = true
  | [] => by simp [allL]
  | a :: l => by
    have e : allL p (a :: l) = Bool.rec false (allL p l) (p a) := rfl
    rw [e]
    cases h : p a with
    | false => simp [h]
    | true => simp [h, allL_iff (p := p) (l := l)]
theorem gdst_lt {ops : List Oper} {j : Nat} {t : Tmp} (h : gdst ops j = some t) : j < ops.length := by
  unfold gdst at h
  cases ho : ops[j]? with
  | none => rw [ho] at h; cases h
  | some o => exact (List.getElem?_eq_some_iff.1 ho).1
theorem gdst_of {ops : List Oper} {i : Nat} {o : Oper} (h : ops[i]? = some o) : gdst ops i = o.dst := by unfold gdst; rw [h]
theorem isDst_iff {ops : List Oper} {j : Nat} {t : Tmp} : isDst ops j t = true ↔ gdst ops j = some t := by
  unfold isDst
  cases h : gdst ops j with
  | none => simp
  | some d => simp only [Option.some.injEq]; exact beq_true
theorem okOps_at {ops : List Oper} {tbl : T Nat} : ∀ {l : List Oper} {i k : Nat} {o : Oper}, okOps ops tbl l i = true → l[k]? = some o → okOp ops tbl (i + k) o = true
  | [], _, _, _, _, h => by simp at h
  | x :: l, i, k, o, h, hk => by
    have h : Bool.and (okOp ops tbl i x) (okOps ops tbl l (i + 1)) = true := h
    rw [Bool.and_eq_true] at h
    cases k with
    | zero => simp at hk; subst hk; exact h.1
    | succ k =>
      have := okOps_at h.2 (k := k) (by simpa using hk)
      rwa [show i + 1 + k = i + (k + 1) by omega] at this
structure OpIs (ops : List Oper) (i : Nat) (o : Oper) : Prop where
  mask : mask (maskT ops 0 .e) i = maskOf (maskT ops 0 .e) o.after.toList
  back : ∀ e ∈ o.after, Region.binds .any e = true → e.on < i
  once : ∀ j d, o.dst = some d → gdst ops j = some d → i = j
  look : ∀ t ∈ looks ops o, ∀ j, gdst ops j = some t → i = j ∨ pre ops j i ∨ pre ops i j
theorem okOp_is {ops : List Oper} (h : okOps ops (maskT ops 0 .e) ops 0 = true) {i : Nat} {o : Oper} (ho : ops[i]? = some o) : OpIs ops i o := by
  have h := okOps_at h ho
  rw [Nat.zero_add] at h
  unfold okOp at h
  simp only [Bool.and_eq_true] at h
  obtain ⟨h1, h2, h3, h4⟩ := h
  refine ⟨beq_true.1 h1, fun e he hb => ?_, fun j d hd hj => ?_, fun t ht j hj => ?_⟩
  · have := allL_iff.1 h2 e (Array.mem_toList_iff.2 he)
    rw [Bool.or_eq_true, hb] at this
    rcases this with q | q
    · cases q
    · exact ble_true.1 q
  · have := allL_iff.1 h3 j (List.mem_range.2 (gdst_lt hj))
    rw [Bool.or_eq_true] at this
    rcases this with q | q
    · exact beq_true.1 q
    · simp only [hd] at q
      have := isDst_iff.2 hj
      rw [this] at q; cases q
  · have := allL_iff.1 (allL_iff.1 h4 t ht) j (List.mem_range.2 (gdst_lt hj))
    simp only [Bool.or_eq_true] at this
    rcases this with q | q | q | q
    · rw [isDst_iff.2 hj] at q; cases q
    · exact .inl (beq_true.1 q)
    · exact .inr (.inl q)
    · exact .inr (.inr q)
theorem bit_one (k j : Nat) : Nat.testBit (Nat.shiftLeft 1 k) j = decide (k = j) := by
  show (1 <<< k).testBit j = _
  rw [Nat.testBit_shiftLeft]
  by_cases h : k = j
  · subst h; simp
  · by_cases h2 : k ≤ j
    · obtain ⟨m, hm⟩ : ∃ m, j - k = m + 1 := ⟨j - k - 1, by omega⟩
      simp [h, h2, hm, Nat.testBit_succ]
    · simp [h, h2]
theorem maskOf_bit {tbl : T Nat} {j : Nat} : ∀ {l : List Edge}, Nat.testBit (maskOf tbl l) j = true → ∃ e ∈ l, Region.binds .any e = true ∧ (e.on = j ∨ Nat.testBit (mask tbl e.on) j = true)
  | [], h => by
    have : maskOf tbl [] = 0 := rfl
    rw [this] at h; simp at h
  | e :: l, h => by
    have h' : Nat.testBit (Bool.rec (maskOf tbl l) (Nat.lor (Nat.lor (Nat.shiftLeft 1 e.on) (mask tbl e.on)) (maskOf tbl l)) (Region.binds .any e)) j = true := h
    cases hb : Region.binds .any e with
    | false =>
      rw [hb] at h'
      obtain ⟨x, h1, h2⟩ := maskOf_bit (l := l) h'
      exact ⟨x, .tail _ h1, h2⟩
    | true =>
      rw [hb] at h'
      have h' : Nat.testBit ((Nat.shiftLeft 1 e.on ||| mask tbl e.on) ||| maskOf tbl l) j = true := h'
      rw [Nat.testBit_or, Nat.testBit_or, Bool.or_eq_true, Bool.or_eq_true, bit_one] at h'
      rcases h' with (q | q) | q
      · exact ⟨e, .head _, hb, .inl (by simpa using q)⟩
      · exact ⟨e, .head _, hb, .inr q⟩
      · obtain ⟨x, h1, h2⟩ := maskOf_bit (l := l) q
        exact ⟨x, .tail _ h1, h2⟩
/-- what stands ahead comes over an edge -/
theorem pre_edge {ops : List Oper} (h : okOps ops (maskT ops 0 .e) ops 0 = true) {i j : Nat} {o : Oper} (ho : ops[i]? = some o) (hp : pre ops j i) : ∃ e ∈ o.after, Region.binds .any e = true ∧ e.on < i ∧ (e.on = j ∨ pre ops j e.on) := by
  have hi := okOp_is h ho
  unfold pre at hp
  rw [hi.mask] at hp
  obtain ⟨e, h1, h2, h3⟩ := maskOf_bit hp
  have h1 := Array.mem_toList_iff.1 h1
  exact ⟨e, h1, h2, hi.back e h1 h2, h3⟩
theorem bit_or (d i j : Nat) : Nat.testBit (Nat.lor d (Nat.shiftLeft 1 i)) j = true ↔ Nat.testBit d j = true ∨ j = i := by
  show Nat.testBit (d ||| Nat.shiftLeft 1 i) j = true ↔ _
  rw [Nat.testBit_or, Bool.or_eq_true, bit_one]
  constructor
  · rintro (q | q)
    · exact .inl q
    · exact .inr (of_decide_eq_true q).symm
  · rintro (q | q)
    · exact .inl q
    · exact .inr (decide_eq_true q.symm)
theorem sub_bits {m d : Nat} (h : Nat.beq (Nat.land m d) m = true) {j : Nat} (hj : Nat.testBit m j = true) : Nat.testBit d j = true := by
  have e : m &&& d = m := beq_true.1 h
  rw [← e, Nat.testBit_and, Bool.and_eq_true] at hj
  exact hj.2
theorem bnot {b : Bool} (h : Bool.not b = true) : b = false := by cases b <;> simp_all
structure ItemIs (ops : List Oper) (lt : Option Nat) (done effs : Nat) (it : PI) (o : Oper) : Prop where
  op : ops[it.i]? = some o
  ahead : ∀ j, pre ops j it.i → Nat.testBit done j = true
  fresh : Nat.testBit done it.i = false
  kind : it.eff = false → it.late = false → isEff o.op = false
  notLt : it.late = false → isLt lt it.i = false
  kindL : it.late = true → isLt lt it.i = true ∧ isBS o.op = true
  kind' : it.eff = true → isEff o.op = true ∧ it.late = false
  effs : it.eff = true → ∀ e, Nat.testBit effs e = true → pre ops e it.i
  later : it.eff = true → ∀ j, j < ops.length → j ≠ it.i → Nat.testBit done j = false → pre ops it.i j
  loads : it.eff = true → ∀ j oj, ops[j]? = some oj → Nat.testBit done j = true → (isLt lt j = true ∨ isLoad oj.op = true) → ¬ pre ops j it.i → j ∈ it.pend ∧ ∀ t ∈ looks ops oj, ∀ k, gdst ops k = some t → pre ops k j
theorem okItem_is {ops : List Oper} {lt : Option Nat} {done effs : Nat} {it : PI} (h : okItem ops (maskT ops 0 .e) lt done effs it = true) : ∃ o, ItemIs ops lt done effs it o := by
  unfold okItem at h
  cases ho : ops[it.i]? with
  | none => rw [ho] at h; cases h
  | some o =>
    simp only [ho, Bool.and_eq_true] at h
    obtain ⟨h1, h2, h3⟩ := h
    cases hf : it.eff with
    | false =>
      rw [hf] at h3
      cases hl : it.late with
      | false =>
        rw [hl] at h3
        have h3 := (Bool.and_eq_true _ _).mp h3
        exact ⟨o, ho, fun j hj => sub_bits h1 hj, bnot h2, fun _ _ => bnot h3.2, fun _ => bnot h3.1, fun q => (by rw [hl] at q; cases q), fun q => (by rw [hf] at q; cases q), fun q => (by rw [hf] at q; cases q), fun q => (by rw [hf] at q; cases q), fun q => (by rw [hf] at q; cases q)⟩
      | true =>
        rw [hl] at h3
        have h3 := (Bool.and_eq_true _ _).mp h3
        exact ⟨o, ho, fun j hj => sub_bits h1 hj, bnot h2, fun _ q => (by rw [hl] at q; cases q), fun q => (by rw [hl] at q; cases q), fun _ => h3, fun q => (by rw [hf] at q; cases q), fun q => (by rw [hf] at q; cases q), fun q => (by rw [hf] at q; cases q), fun q => (by rw [hf] at q; cases q)⟩
    | true =>
      rw [hf] at h3
      have h3 := (Bool.and_eq_true _ _).mp h3
      have h4 := (Bool.and_eq_true _ _).mp h3.1
      have h5 := (Bool.and_eq_true _ _).mp h4.1
      have h6 := (Bool.and_eq_true _ _).mp h4.2
      have hl := bnot h5.1
      refine ⟨o, ho, fun j hj => sub_bits h1 hj, bnot h2, fun q => (by rw [hf] at q; cases q), fun _ => bnot h5.2, fun q => (by rw [hl] at q; cases q), fun _ => ⟨h6.1, hl⟩, fun he e hq => ?_, fun he j hj hne hd => ?_, fun he j oj hoj hd hll hnp => ?_⟩
      · have e1 : mask (maskT ops 0 .e) it.i &&& effs = effs := beq_true.1 h6.2
        unfold pre
        rw [← e1, Nat.testBit_and, Bool.and_eq_true] at hq
        exact hq.1
      · have := allL_iff.1 h3.2 j (List.mem_range.2 hj)
        rw [Bool.or_eq_true] at this
        rcases this with q | q
        · exact absurd (beq_true.1 q) hne
        · rw [hd] at q; exact q
      · have hj : j < ops.length := (List.getElem?_eq_some_iff.1 hoj).1
        have := allL_iff.1 h3.2 j (List.mem_range.2 hj)
        rw [Bool.or_eq_true] at this
        rcases this with q | q
        · have hq := beq_true.1 q
          rw [hq] at hd
          rw [bnot h2] at hd; cases hd
        · rw [hd] at q
          have ho' : opAt ops j = oj.op := by unfold opAt; rw [hoj]
          simp only [Bool.or_eq_true, Bool.and_eq_true, ho'] at q
          rcases q with q | q | q
          · have hh : Bool.or (isLt lt j) (isLoad oj.op) = true := by rcases hll with h | h <;> rw [h] <;> simp
            rw [hh] at q; cases q
          · exact absurd q hnp
          · refine ⟨by simpa using q.1, fun t ht k hk => ?_⟩
            simp only [hoj] at q
            have := allL_iff.1 (allL_iff.1 q.2 t ht) k (List.mem_range.2 (gdst_lt hk))
            rw [Bool.or_eq_true] at this
            rcases this with z | z
            · rw [isDst_iff.2 hk] at z; cases z
            · exact z
theorem okPlan_cons {ops : List Oper} {tbl : T Nat} {lt : Option Nat} {it : PI} {rest : List PI} {done effs : Nat} (h : okPlan ops tbl lt (it :: rest) done effs = true) : okItem ops tbl lt done effs it = true ∧
    okPlan ops tbl lt rest (Nat.lor done (Nat.shiftLeft 1 it.i)) (Bool.rec effs (Nat.lor effs (Nat.shiftLeft 1 it.i)) it.eff) = true := by
  have h' : Bool.and (okItem ops tbl lt done effs it) (okPlan ops tbl lt rest (Nat.lor done (Nat.shiftLeft 1 it.i)) (Bool.rec effs (Nat.lor effs (Nat.shiftLeft 1 it.i)) it.eff)) = true := h
  rw [Bool.and_eq_true] at h'
  exact h'
theorem okPlan_nil {ops : List Oper} {tbl : T Nat} {lt : Option Nat} {done effs : Nat} (h : okPlan ops tbl lt [] done effs = true) {i : Nat} (hi : i < ops.length) : Nat.testBit done i = true := by
  have h' : Nat.beq done (Nat.sub (Nat.shiftLeft 1 ops.length) 1) = true := h
  have e : done = 1 <<< ops.length - 1 := beq_true.1 h'
  rw [e, Nat.one_shiftLeft, Nat.testBit_two_pow_sub_one]
  simpa using hi
theorem isLt_iff {lt : Option Nat} {i : Nat} : isLt lt i = true ↔ lt = some i := by
  cases lt with
  | none => exact ⟨fun h => (by cases h), fun h => (by cases h)⟩
  | some j => 
    show Nat.beq i j = true ↔ _
    constructor
    · intro h; rw [beq_true.1 h]
    · intro h; injection h with h; exact beq_true.2 h.symm
theorem isLt_one {lt : Option Nat} {i j : Nat} (h : isLt lt i = true) (h' : isLt lt j = true) : i = j := by
  rw [isLt_iff] at h h'; rw [h] at h'; injection h'

/-! operations and the names that they look at -/
theorem evalO_congr {tm tm' : T V} {x : Operand} (h : ∀ t, x = .tmp t → tm.get t = tm'.get t) : evalO tm x = evalO tm' x := by
  cases x with
  | tmp t =>
    exact h t rfl
  | _ => rfl
theorem evalL_congr {tm tm' : T V} : ∀ {l : List Operand}, (∀ t, Operand.tmp t ∈ l → tm.get t = tm'.get t) → evalL tm l = evalL tm' l
  | [], _ => rfl
  | x :: l, h => by
    show (bd (evalO tm x) fun v => bd (evalL tm l) fun vs => some (v :: vs)) = bd (evalO tm' x) fun v => bd (evalL tm' l) fun vs => some (v :: vs)
    rw [evalO_congr (fun t q => h t (by subst q; exact .head _)), evalL_congr (l := l) (fun t q => h t (.tail _ q))]
theorem evalP_congr {tm tm' : T V} : ∀ {l : List (Nat × Operand)}, (∀ t, Operand.tmp t ∈ l.map (·.2) → tm.get t = tm'.get t) → evalP tm l = evalP tm' l
  | [], _ => rfl
  | x :: l, h => by
    show (bd (evalO tm x.2) fun v => bd (evalP tm l) fun vs => some ((x.1, v) :: vs)) = bd (evalO tm' x.2) fun v => bd (evalP tm' l) fun vs => some ((x.1, v) :: vs)
    rw [evalO_congr (fun t q => h t (by rw [← q]; exact .head _)), evalP_congr (l := l) (fun t q => h t (.tail _ q))]
theorem opA_congr {tm tm' : T V} {h : T AObj} {nx : Nat} {op : Op} (hc : ∀ t, Operand.tmp t ∈ op.operands.toList → tm.get t = tm'.get t) : opA P tm h nx op = opA P tm' h nx op := by
  have ev : ∀ x, x ∈ op.operands.toList → evalO tm x = evalO tm' x := fun x hx => evalO_congr fun t q => hc t (by rw [← q]; exact hx)
  have evL : ∀ l : List Operand, (∀ x ∈ l, x ∈ op.operands.toList) → evalL tm l = evalL tm' l := fun l hl => evalL_congr fun t ht => hc t (hl _ ht)
  have evP : ∀ l : List (Nat × Operand), (∀ x ∈ l.map (·.2), x ∈ op.operands.toList) → evalP tm l = evalP tm' l := fun l hl => evalP_congr fun t ht => hc t (hl _ ht)
  have evOp : ∀ o : Option Operand, (∀ x, o = some x → x ∈ op.operands.toList) → evalOp tm o = evalOp tm' o := fun o ho => by
    cases o with
    | none => rfl
    | some x => simp only [evalOp]; rw [ev x (ho x rfl)]
  cases op <;> first | rfl | skip
  case makeMap t r => cases r <;> rfl
  case slice t x lo hi mx =>
    cases mx <;> first | rfl | skip
    simp only [opA, op1]
    rw [ev x (by simp [Op.operands]), evOp lo (fun y q => by subst q; simp [Op.operands]), evOp hi (fun y q => by subst q; simp [Op.operands])]
  case build t ps => simp only [opA]; rw [evP _ (fun x hx => by simpa [Op.operands] using hx)]
  case buildSlice t n ps => simp only [opA]; rw [evP _ (fun x hx => by simpa [Op.operands] using hx)]
  case makeFunc fn a b => simp only [opA]; rw [evL a.toList (fun x hx => by simp only [Op.operands, Array.toList_append, List.mem_append]; exact .inl hx), evL b.toList (fun x hx => by simp only [Op.operands, Array.toList_append, List.mem_append]; exact .inr hx)]
  case call c =>
    obtain ⟨callee, args, ts⟩ := c
    simp only [opA, callA]
    rw [evL args.toList (fun x hx => by simp only [Op.operands, Call.operands, Array.toList_append, List.mem_append]; exact .inr hx)]
    cases callee with
    | value f => simp only; rw [ev f (by simp [Op.operands, Call.operands])]
    | _ => rfl
  case defer c =>
    obtain ⟨callee, args, ts⟩ := c
    simp only [opA, deferA]
    rw [evL args.toList (fun x hx => by simp only [Op.operands, Call.operands, Array.toList_append, List.mem_append]; exact .inr hx)]
    cases callee with
    | value f => simp only; rw [ev f (by simp [Op.operands, Call.operands])]
    | _ => rfl
  all_goals simp only [opA, op1, op2, pickA]
  all_goals first
    | (have e1 := ev _ (.head _); have e2 := ev _ (.tail _ (.head _)); have e3 := ev _ (.tail _ (.tail _ (.head _))); simp only [e1, e2, e3]; done)
    | (have e1 := ev _ (.head _); have e2 := ev _ (.tail _ (.head _)); simp only [e1, e2]; done)
    | (have e1 := ev _ (.head _); simp only [e1]; done)
theorem looks_op {ops : List Oper} {o : Oper} {t : Tmp} (h : Operand.tmp t ∈ o.op.operands.toList) : t ∈ looks ops o := by
  unfold looks
  exact List.mem_append_left _ (List.mem_filterMap.2 ⟨.tmp t, h, rfl⟩)
theorem wants_congr {ops : List Oper} {tm tm' : T V} {o : Oper} (h : ∀ t ∈ looks ops o, tm.get t = tm'.get t) : wants ops tm o.guard = wants ops tm' o.guard := by
  unfold wants
  cases hg : o.guard with
  | none => rfl
  | some q =>
    simp only
    cases hd : gdst ops q.1 with
    | none => rfl
    | some t =>
      have ht : t ∈ looks ops o := by
        unfold looks
        refine List.mem_append_right _ ?_
        simp [hg, hd]
      show guardB tm q.2 t = guardB tm' q.2 t
      unfold guardB
      rw [h t ht]
theorem opA_at {ops : List Oper} {tm tm' : T V} {h : T AObj} {nx : Nat} {o : Oper} (hc : ∀ t ∈ looks ops o, tm.get t = tm'.get t) : opA P tm h nx o.op = opA P tm' h nx o.op := opA_congr fun t ht => hc t (looks_op ht)
/-- what changes no heap and looks at none -/
theorem pure_heap {tm : T V} {h h' : T AObj} {nx nx' : Nat} {op : Op} (h1 : isEff op = false) (h2 : isLoad op = false) : opA P tm h nx op = opA P tm h' nx' op := by
  cases op <;> first | (simp only [isEff, reduceCtorEq] at h1; done) | (simp only [isLoad, reduceCtorEq] at h2; done) | (simp only [opA, op1, op2, pickA]; done) | skip
  case slice t x lo hi mx => cases mx <;> simp only [opA, op1]
  case call c =>
    obtain ⟨callee, args, ts⟩ := c
    cases callee with
    | value f => simp [isEff] at h1
    | invoke r m => simp [isEff] at h1
    | builtin b => cases b <;> first | (simp only [isEff, reduceCtorEq] at h1; done) | (simp only [isLoad, reduceCtorEq] at h2; done) | (simp only [opA, callA, builtinA]; done)
theorem row_heap {tm : T V} {h h' : T AObj} {nx : Nat} {op : Op} (h1 : isBS op = true) : opA P tm h nx op = opA P tm h' nx op := by
  cases op <;> first | (simp only [isBS, Bool.false_eq_true] at h1; done) | skip
  all_goals simp only [opA]
/-- what tells a value tells it with more blocks -/
def Has (h h' : T AObj) : Prop := ∀ b x, h.get b = some x → h'.get b = some x
theorem load_more {h h' : T AObj} (k : Has h h') {t : TypeId} {b o : Nat} {v : V} (e : loadA P h t b o = some v) : loadA P h' t b o = some v := by
  unfold loadA at e ⊢
  cases hg : h.get b with
  | none => simp only [hg, reduceCtorEq] at e
  | some x => rw [k b x hg]; rw [hg] at e; exact e
theorem mapOf_more {h h' : T AObj} (k : Has h h') {x : V} {es : List (V × V)} (e : mapOf h x = some es) : mapOf h' x = some es := by
  unfold mapOf at e ⊢
  cases x <;> first | exact e | skip
  rename_i r
  simp only at e ⊢
  cases hg : h.get r with
  | none => simp only [hg, reduceCtorEq] at e
  | some x => rw [k r x hg]; rw [hg] at e; exact e
theorem lookup_more {h h' : T AObj} (k : Has h h') {t : TypeId} {x y : V} {ok : Bool} {v : V} (e : lookupA P h t x y ok = some v) : lookupA P h' t x y ok = some v := by
  unfold lookupA at e ⊢
  cases hu : und P t with
  | none => simp only [hu, reduceCtorEq] at e
  | some d =>
    rw [hu] at e
    cases d <;> first | (simp only [reduceCtorEq] at e; done) | skip
    simp only at e ⊢
    obtain ⟨s, e1, e⟩ := bd_some.1 e
    obtain ⟨es, e2, e⟩ := bd_some.1 e
    exact bd_some.2 ⟨s, e1, bd_some.2 ⟨es, mapOf_more k e2, e⟩⟩
theorem len_more {h h' : T AObj} (k : Has h h') {t : TypeId} {x : V} {v : V} (e : lenA P h t x = some v) : lenA P h' t x = some v := by
  unfold lenA at e ⊢
  cases hu : und P t with
  | none => simp only [hu, reduceCtorEq] at e
  | some d =>
    rw [hu] at e
    cases d <;> first | exact e | skip
    simp only at e ⊢
    obtain ⟨es, e2, e⟩ := bd_some.1 e
    exact bd_some.2 ⟨es, mapOf_more k e2, e⟩
theorem val_of {r : R V} {v : V} (h : val r = some (.val v)) : r = some v := by
  obtain ⟨u, h1, h2⟩ := val_some h
  injection h2 with h2; subst h2; exact h1
theorem of_val {r : R V} {v : V} (h : r = some v) : val r = some (.val v) := by subst h; rfl
theorem more_heap {tm : T V} {h h' : T AObj} {n n' : Nat} {op : Op} {v : V} (h1 : isEff op = false) (k : Has h h') (hv : opA P tm h n op = some (.val v)) : opA P tm h' n' op = some (.val v) := by
  cases hl : isLoad op with
  | false => rw [pure_heap (h' := h) (nx' := n) h1 hl]; exact hv
  | true =>
    cases op <;> first | (simp only [isLoad, Bool.false_eq_true] at hl; done) | skip
    case load t x =>
      obtain ⟨y, e1, hv⟩ := bd_some.1 hv
      obtain ⟨b, o, rfl, e2⟩ := withP_some hv
      exact bd_some.2 ⟨_, e1, of_val (load_more k (val_of e2))⟩
    case lookup t x y ok =>
      obtain ⟨u, e1, hv⟩ := bd_some.1 hv
      obtain ⟨u', e2, hv⟩ := bd_some.1 hv
      exact bd_some.2 ⟨_, e1, bd_some.2 ⟨_, e2, of_val (lookup_more k (val_of hv))⟩⟩
    case call c =>
      obtain ⟨callee, args, ts⟩ := c
      cases callee with
      | value f => simp [isEff] at h1
      | invoke r m => simp [isEff] at h1
      | builtin b =>
        cases b <;> first | (simp only [isLoad, Bool.false_eq_true] at hl; done) | skip
        obtain ⟨vs, e1, hv⟩ := bd_some.1 hv
        refine bd_some.2 ⟨_, e1, ?_⟩
        have hv : lenB P h ts.toList vs = some (.val v) := hv
        show lenB P h' ts.toList vs = some (.val v)
        unfold lenB at hv ⊢
        cases hts : ts.toList with
        | nil => rw [hts] at hv; exact hv
        | cons t0 tl =>
          rw [hts] at hv
          cases vs with
          | nil => exact hv
          | cons y0 xl =>
            cases xl with
            | nil => exact of_val (len_more k (val_of hv))
            | cons y1 yl => exact hv
theorem bs_eff {op : Op} (h1 : isBS op = true) : isEff op = true := by
  cases op <;> first | (simp only [isBS, Bool.false_eq_true] at h1; done) | rfl
theorem load_nx {tm : T V} {h : T AObj} {nx nx' : Nat} {op : Op} (h1 : isEff op = false) : opA P tm h nx op = opA P tm h nx' op := by
  cases op <;> first | (simp only [isEff, reduceCtorEq] at h1; done) | (simp only [opA, op1, op2, pickA]; done) | skip
  case slice t x lo hi mx => cases mx <;> simp only [opA, op1]
  case call c =>
    obtain ⟨callee, args, ts⟩ := c
    cases callee with
    | value f => simp [isEff] at h1
    | invoke r m => simp [isEff] at h1
    | builtin b => cases b <;> first | (simp only [isEff, reduceCtorEq] at h1; done) | (simp only [opA, callA, builtinA]; done)
theorem eqN_ok {v w : V} (h : eqN v w = true) : v = w := by
  cases v <;> cases w <;> simp only [eqN, Bool.false_eq_true, Bool.and_eq_true] at h <;> first | rfl | contradiction | skip
  · rename_i a b; cases a <;> cases b <;> first | rfl | cases h
  · rw [kNo_inj (beq_true.1 h.1), beq_true.1 h.2]
  · rw [beq_true.1 h.1, beq_true.1 h.2]
  · rw [beq_true.1 h.1, beq_true.1 h.2]
  · rw [beq_true.1 h.1.1, beq_true.1 h.1.2, beq_true.1 h.2.1, beq_true.1 h.2.2]
  · rw [beq_true.1 h]
theorem eqNs_ok : ∀ {l m : List V}, eqNs l m = true → l = m
  | [], [], _ => rfl
  | [], _ :: _, h => by cases h
  | _ :: _, [], h => by cases h
  | v :: l, w :: m, h => by
    have h' : Bool.and (eqN v w) (eqNs l m) = true := h
    rw [Bool.and_eq_true] at h'
    rw [eqN_ok h'.1, eqNs_ok h'.2]
theorem eqVV_ok {v w : V} (h : eqVV v w = true) : v = w := by
  unfold eqVV at h
  cases v <;> first | exact eqN_ok h | skip
  · cases w <;> first | cases h | (rw [eqNs_ok h])
  · cases w <;> first | cases h | (rw [eqNs_ok h])

/-! listed operations -/
theorem lt_of_listed {ops : List Oper} {listed : Array Bool} (hs : listed.size = ops.length) {i : Nat} (h : listed.getD i false = true) : i < ops.length := by
  rcases Nat.lt_or_ge i listed.size with q | q
  · omega
  · rw [Array.getD_eq_getD_getElem?, Array.getElem?_eq_none q] at h; cases h
theorem getD_any {listed : Array Bool} {i : Nat} (hi : i < listed.size) (d : Bool) : listed.getD i d = listed.getD i false := by
  simp [Array.getD_eq_getD_getElem?, hi]
theorem listed_pre {ops : List Oper} (h : okOps ops (maskT ops 0 .e) ops 0 = true) {listed : Array Bool} (hs : listed.size = ops.length) (hc : ∀ i o, listed.getD i false = true → ops[i]? = some o → ∀ e ∈ o.after, Region.binds .any e = true → listed.getD e.on false = true) :
    ∀ i j, listed.getD i false = true → pre ops j i → listed.getD j false = true := by
  intro i
  induction i using Nat.strongRecOn with
  | _ i ih =>
    intro j hi hp
    have hlt := lt_of_listed hs hi
    obtain ⟨e, h1, h2, h3, h4⟩ := pre_edge h (List.getElem?_eq_getElem hlt) hp
    have he := hc i _ hi (List.getElem?_eq_getElem hlt) e h1 h2
    rcases h4 with rfl | h4
    · exact he
    · exact ih e.on h3 j he h4
theorem all_listed {ops : List Oper} (h : okOps ops (maskT ops 0 .e) ops 0 = true) {listed : Array Bool} (hs : listed.size = ops.length) (hr : Region.ready .any ops.toArray listed = []) : ∀ i, i < ops.length → listed.getD i false = true := by
  intro i
  induction i using Nat.strongRecOn with
  | _ i ih =>
    intro hi
    cases hl : listed.getD i false with
    | true => rfl
    | false =>
      exfalso
      have hm : i ∈ Region.ready .any ops.toArray listed := by
        rw [mem_ready]
        refine ⟨by rw [getD_any (by omega) true]; exact hl, ops[i], by simp [hi], fun e he hb => ?_⟩
        have := (okOp_is h (List.getElem?_eq_getElem hi)).back e he hb
        exact ih e.on this (by omega)
      rw [hr] at hm; cases hm
theorem getD_set {listed : Array Bool} {i : Nat} (hi : i < listed.size) (j : Nat) : (listed.setIfInBounds i true).getD j false = true ↔ listed.getD j false = true ∨ j = i := by
  by_cases h : j = i
  · subst h; simp [Array.getD_eq_getD_getElem?, hi]
  · rw [getD_set_ne false (Ne.symm h)]; simp [h]
theorem left_set {listed : Array Bool} {i : Nat} (hi : i < listed.size) (h : listed.getD i false = false) : left (listed.setIfInBounds i true) < left listed := by
  unfold left
  have h2 : listed.toList[i]'(by simpa using hi) = false := by
    simpa [Array.getD_eq_getD_getElem?, hi] using h
  have e := List.countP_set (p := fun b : Bool => !b) (l := listed.toList) (i := i) (a := true) (by simpa using hi)
  simp only [Array.toList_setIfInBounds]
  rw [e]
  have e1 : (if (!listed.toList[i]'(by simpa using hi)) = true then 1 else 0) = 1 := by rw [h2]; rfl
  have e2 : (if (!true) = true then 1 else 0) = 0 := rfl
  have : 0 < listed.toList.countP (fun b => !b) := List.countP_pos_iff.2 ⟨false, by rw [← h2]; exact List.getElem_mem _, rfl⟩
  omega
theorem Conc.name {ops : List Oper} {lt : Option Nat} (hok : okOps ops (maskT ops 0 .e) ops 0 = true) {tm0 : T V} {done effs : Nat} {s : St} {ρ : Rho} {listed : Array Bool} {a : Act} {w : World} (C : Conc P w0 ops lt tm0 done effs s ρ listed a w)
    {i : Nat} {o : Oper} (ho : ops[i]? = some o) (hl : listed.getD i false = false) (hp : ∀ j, pre ops j i → listed.getD j false = true) {tm : T V}
    (h1 : ∀ t, (∀ j, gdst ops j = some t → listed.getD j false = true) → tm.get t = s.tm.get t) (h2 : ∀ j t, gdst ops j = some t → listed.getD j false = false → tm.get t = tm0.get t) : AtOp ops i o tm0 s.tm tm := by
  intro t ht
  refine ⟨fun hall => h1 t fun j hj => hp j (hall j hj), fun j hj hnp => ?_⟩
  have := (okOp_is hok ho).look t ht j hj
  refine h2 j t hj ?_
  rcases this with rfl | q | q
  · exact hl
  · exact absurd q hnp
  · cases hlj : listed.getD j false with
    | false => rfl
    | true => rw [listed_pre hok C.size C.closed j i hlj q] at hl; cases hl
/-- an operation of the region is done in the world, too -/
theorem Conc.step {ops : List Oper} {lt : Option Nat} (hok : okOps ops (maskT ops 0 .e) ops 0 = true) {tm0 : T V} {done effs : Nat} {s : St} {ρ : Rho} {listed : Array Bool} {a : Act} {w : World} (C : Conc P w0 ops lt tm0 done effs s ρ listed a w)
    {i : Nat} {o : Oper} (ho : ops[i]? = some o) (hl : listed.getD i false = false) (hpe : ∀ e ∈ o.after, Region.binds .any e = true → listed.getD e.on false = true)
    {tm : T V} (h1 : ∀ t, (∀ j, gdst ops j = some t → listed.getD j false = true) → tm.get t = s.tm.get t) (h2 : ∀ j t, gdst ops j = some t → listed.getD j false = false → tm.get t = tm0.get t)
    {ρ' : Rho} {s' : St} {v : V} {x : Value} {a' : Act} {w' : World} {done' effs' : Nat} (S' : SG P (w0.more (Still ops lt done' s' (listed.setIfInBounds i true))) ρ' (putT tm o.dst v) s' (a'.put o.dst x) w')
    (hfr : ∀ r, LateIs ops lt done' s' r → ¬ w0.gone r) (hs' : ∀ t, (∀ d, o.dst = some d → t ≠ d) → s'.tm.get t = s.tm.get t) (hd' : ∀ d, o.dst = some d → s'.tm.get d = some v)
    (hdone : ∀ j, Nat.testBit done j = true → Nat.testBit done' j = true) (hi : Nat.testBit done' i = true) (heff : ∀ e, Nat.testBit effs' e = true → Nat.testBit effs e = true ∨ e = i) :
    Conc P w0 ops lt tm0 done' effs' s' ρ' (listed.setIfInBounds i true) (a'.put o.dst x) w' := by
  have hilt : i < ops.length := (List.getElem?_eq_some_iff.1 ho).1
  have hil : i < listed.size := by rw [C.size]; exact hilt
  have hO := okOp_is hok ho
  refine ⟨by simpa using C.size, ⟨putT tm o.dst v, S', fun t ht => ?_, fun j t hj hlj => ?_⟩, hfr, fun k ok hk hok' e he hb => ?_, fun k hk => ?_, fun e he => ?_⟩
  · by_cases hd : o.dst = some t
    · rw [hd' t hd, hd]; simp [putT, T.get_set]
    · have e1 : (putT tm o.dst v).get t = tm.get t := by
        cases hq : o.dst with
        | none => rfl
        | some d => simp only [putT]; rw [T.get_set, if_neg]; intro q; subst q; exact hd hq
      rw [e1, hs' t (fun d hq q => hd (by rw [hq, q])), h1 t (fun j hj => ?_)]
      have := (getD_set hil j).1 (ht j hj)
      rcases this with q | q
      · exact q
      · subst q; rw [gdst_of ho] at hj; exact absurd hj hd
  · have hlj' : listed.getD j false = false := by
      cases q : listed.getD j false with
      | false => rfl
      | true => rw [(getD_set hil j).2 (.inl q)] at hlj; cases hlj
    have hne : j ≠ i := fun q => by subst q; rw [(getD_set hil j).2 (.inr rfl)] at hlj; cases hlj
    have e1 : (putT tm o.dst v).get t = tm.get t := by
      cases hq : o.dst with
      | none => rfl
      | some d => simp only [putT]; rw [T.get_set, if_neg]; intro q; subst q; exact hne (hO.once j t hq hj).symm
    rw [e1, h2 j t hj hlj']
  · rcases (getD_set hil k).1 hk with q | q
    · exact (getD_set hil _).2 (.inl (C.closed k ok q hok' e he hb))
    · subst q; rw [ho] at hok'; injection hok' with hok'; subst hok'
      exact (getD_set hil _).2 (.inl (hpe e he hb))
  · rcases (getD_set hil k).1 hk with q | q
    · exact hdone k (C.within k q)
    · subst q; exact hi
  · rcases heff e he with q | q
    · exact (getD_set hil e).2 (.inl (C.all e q))
    · exact (getD_set hil e).2 (.inr q)

/-! the plan's run -/
/-- names at an earlier one's time are those of then -/
theorem at_back {ops : List Oper} {lt : Option Nat} {tm0 : T V} {done effs : Nat} {s : St} {tm1 : T V} (A : Abs P ops lt tm0 done effs s) {it : PI} {o : Oper} (I : ItemIs ops lt done effs it o)
    (hne : ∀ t, (∀ d, o.dst = some d → t ≠ d) → tm1.get t = s.tm.get t) {i : Nat} {oi : Oper} (hdi : Nat.testBit done i = true) {tm' : T V} (h : AtOp ops i oi tm0 tm1 tm') : AtOp ops i oi tm0 s.tm tm' := by
  intro t ht
  refine ⟨fun hall => ?_, (h t ht).2⟩
  rw [(h t ht).1 hall]
  refine hne t fun d hd q => ?_
  subst q
  have hp := hall it.i (by rw [gdst_of I.op, hd])
  have hx := A.clos i it.i hdi hp
  rw [I.fresh] at hx
  cases hx
/-- one more is done: what is told so far is told still -/
theorem Abs.step {ops : List Oper} {lt : Option Nat} (hok : okOps ops (maskT ops 0 .e) ops 0 = true) {tm0 : T V} {done effs : Nat} {s s' : St} (A : Abs P ops lt tm0 done effs s) {it : PI} {o : Oper} (I : ItemIs ops lt done effs it o) {v : V}
    (htm : s'.tm = putT s.tm o.dst v) (hnt : s'.nt = s.nt)
    (hself : it.eff = false → it.late = false → Fact P ops tm0 s' it.i o)
    (hselfL : it.late = true → LFact P ops tm0 s' it.i o)
    (hold : ∀ i oi, Nat.testBit done i = true → ops[i]? = some oi → isEff oi.op = false → (it.eff = true → ¬ pre ops i it.i) → ∀ b u tm', (∀ t ∈ looks ops oi, (∀ j, gdst ops j = some t → pre ops j i) → tm'.get t = s'.tm.get t) →
      (∀ d, oi.dst = some d → s'.tm.get d = some u) → wants ops tm' oi.guard = some b → (b = true → opA P tm' s.h s.nx oi.op = some (.val u)) → ∃ u', (∀ d, oi.dst = some d → u' = u) ∧ (b = true → opA P tm' s'.h s'.nx oi.op = some (.val u')))
    (holdL : ∀ i oi, Nat.testBit done i = true → ops[i]? = some oi → isLt lt i = true → it.late = false → (it.eff = true → ¬ pre ops i it.i) → isBS oi.op = true → ∀ b u, (b = true → oi.dst.isSome = true) →
      (∀ d, oi.dst = some d → s'.tm.get d = some u) → (∀ tm', AtOp ops i oi tm0 s'.tm tm' → wants ops tm' oi.guard = some b ∧ (b = true → ∃ r c m ob, nameV u = some r ∧ opA P tm' s.h r oi.op = some (.new u (.row c m)) ∧ s.h.get r = some ob ∧ RowIs c m ob)) →
      ∀ tm', AtOp ops i oi tm0 s'.tm tm' → b = true → ∃ r c m ob, nameV u = some r ∧ opA P tm' s'.h r oi.op = some (.new u (.row c m)) ∧ s'.h.get r = some ob ∧ RowIs c m ob) :
    Abs P ops lt tm0 (Nat.lor done (Nat.shiftLeft 1 it.i)) (Bool.rec effs (Nat.lor effs (Nat.shiftLeft 1 it.i)) it.eff) s' := by
  have hi : it.i < ops.length := (List.getElem?_eq_some_iff.1 I.op).1
  have hne : ∀ t, (∀ d, o.dst = some d → t ≠ d) → s'.tm.get t = s.tm.get t := fun t ht => by
    rw [htm]
    cases hq : o.dst with
    | none => rfl
    | some d => simp only [putT]; rw [T.get_set, if_neg (ht d hq)]
  refine ⟨fun t ht => ?_, fun i j h1 h2 => ?_, fun i h1 => ?_, fun i oi h1 h2 h3 h3' => ?_, fun i oi h1 h2 h3 h4 => ?_, fun i oi h1 h2 h3 h4 => ?_⟩
  · rw [hne t (fun d hd q => ht it.i ((bit_or _ _ _).2 (.inr rfl)) (by rw [gdst_of I.op, hd, q])), A.keep t (fun j hj => ht j ((bit_or _ _ _).2 (.inl hj)))]
  · rcases (bit_or _ _ _).1 h1 with q | q
    · exact (bit_or _ _ _).2 (.inl (A.clos i j q h2))
    · subst q; exact (bit_or _ _ _).2 (.inl (I.ahead j h2))
  · cases he : it.eff with
    | false => rw [he] at h1; exact (bit_or _ _ _).2 (.inl (A.sub i h1))
    | true =>
      rw [he] at h1
      rcases (bit_or _ _ _).1 h1 with q | q
      · exact (bit_or _ _ _).2 (.inl (A.sub i q))
      · exact (bit_or _ _ _).2 (.inr q)
  · rcases (bit_or _ _ _).1 h1 with q | q
    · have := A.eff i oi q h2 h3 h3'
      cases he : it.eff with
      | false => exact this
      | true => exact (bit_or _ _ _).2 (.inl this)
    · subst q
      cases he : it.eff with
      | false =>
        cases hl : it.late with
        | false =>
          have := I.kind he hl
          rw [I.op] at h2; injection h2 with h2; subst h2
          rw [this] at h3; cases h3
        | true => rw [(I.kindL hl).1] at h3'; cases h3'
      | true => exact (bit_or _ _ _).2 (.inr rfl)
  · have hnoe : ∀ e, Nat.testBit effs e = true → ¬ pre ops i e := fun e he => h4 e (by cases q : it.eff with
      | false => exact he
      | true => exact (bit_or _ _ _).2 (.inl he))
    have hnoi : it.eff = true → ¬ pre ops i it.i := fun q => h4 it.i (by rw [q]; exact (bit_or _ _ _).2 (.inr rfl))
    by_cases hii : i = it.i
    · subst hii
      rw [I.op] at h2; injection h2 with h2; subst h2
      cases he : it.eff with
      | false =>
        cases hl : it.late with
        | false => exact hself he hl
        | true => rw [bs_eff (I.kindL hl).2] at h3; cases h3
      | true => rw [(I.kind' he).1] at h3; cases h3
    · have hdi : Nat.testBit done i = true := by rcases (bit_or _ _ _).1 h1 with q | q; exact q; exact absurd q hii
      obtain ⟨b, u, f1, f2, f3⟩ := A.fact i oi hdi h2 h3 hnoe
      have hO := okOp_is hok h2
      have f2' : ∀ d, oi.dst = some d → s'.tm.get d = some u := fun d hd => by
        rw [hne d (fun d' hd' q => by subst q; exact hii (hO.once it.i d hd (by rw [gdst_of I.op, hd']))), (f2 d hd).1]
      have hat : ∀ tm', AtOp ops i oi tm0 s'.tm tm' → AtOp ops i oi tm0 s.tm tm' := fun tm' h => at_back A I hne hdi h
      by_cases hex : ∃ tm', AtOp ops i oi tm0 s'.tm tm'
      · obtain ⟨tm₁, h5⟩ := hex
        obtain ⟨f4, f5⟩ := f3 tm₁ (hat tm₁ h5)
        obtain ⟨u', f6, f7⟩ := hold i oi hdi h2 h3 hnoi b u tm₁ (fun t ht hall => (h5 t ht).1 hall) f2' f4 f5
        cases b with
        | false =>
          refine ⟨false, u, f1, fun d hd => ⟨f2' d hd, by rw [hnt]; exact (f2 d hd).2⟩, fun tm' h6 => ⟨(f3 tm' (hat tm' h6)).1, fun q => (Bool.noConfusion q)⟩⟩
        | true =>
          refine ⟨true, u', fun q => (Bool.noConfusion q), fun d hd => ⟨by rw [f6 d hd]; exact f2' d hd, by rw [hnt]; exact (f2 d hd).2⟩, fun tm' h6 => ⟨(f3 tm' (hat tm' h6)).1, fun _ => ?_⟩⟩
          have : ∀ t ∈ looks ops oi, tm'.get t = tm₁.get t := fun t ht => by
            by_cases hall : ∀ j, gdst ops j = some t → pre ops j i
            · rw [(h6 t ht).1 hall, (h5 t ht).1 hall]
            · obtain ⟨j, hj⟩ := Classical.not_forall.1 hall
              obtain ⟨hj1, hj2⟩ := Classical.not_imp.1 hj
              rw [(h6 t ht).2 j hj1 hj2, (h5 t ht).2 j hj1 hj2]
          rw [opA_at this]
          exact f7 rfl
      · exact ⟨b, u, f1, fun d hd => ⟨f2' d hd, by rw [hnt]; exact (f2 d hd).2⟩, fun tm' h6 => absurd ⟨tm', h6⟩ hex⟩
  · have hnoe : ∀ e, Nat.testBit effs e = true → ¬ pre ops i e := fun e he => h4 e (by cases q : it.eff with
      | false => exact he
      | true => exact (bit_or _ _ _).2 (.inl he))
    have hnoi : it.eff = true → ¬ pre ops i it.i := fun q => h4 it.i (by rw [q]; exact (bit_or _ _ _).2 (.inr rfl))
    by_cases hii : i = it.i
    · subst hii
      rw [I.op] at h2; injection h2 with h2; subst h2
      cases hl : it.late with
      | true => exact hselfL hl
      | false => rw [I.notLt hl] at h3; cases h3
    · have hdi : Nat.testBit done i = true := by rcases (bit_or _ _ _).1 h1 with q | q; exact q; exact absurd q hii
      have hl : it.late = false := by
        cases q : it.late with
        | false => rfl
        | true => exact absurd (isLt_one h3 (I.kindL q).1) hii
      obtain ⟨f0, b, u, f1, f1', f2, f3⟩ := A.late i oi hdi h2 h3 hnoe
      have hO := okOp_is hok h2
      have f2' : ∀ d, oi.dst = some d → s'.tm.get d = some u := fun d hd => by
        rw [hne d (fun d' hd' q => by subst q; exact hii (hO.once it.i d hd (by rw [gdst_of I.op, hd']))), (f2 d hd).1]
      have f3' := fun tm' (h : AtOp ops i oi tm0 s'.tm tm') => f3 tm' (at_back A I hne hdi h)
      exact ⟨f0, b, u, f1, f1', fun d hd => ⟨f2' d hd, by rw [hnt]; exact (f2 d hd).2⟩, fun tm' h6 => ⟨(f3' tm' h6).1, fun hb => holdL i oi hdi h2 h3 hl hnoi f0 b u f1' f2' f3' tm' h6 hb⟩⟩
end
end Go.Proofs.Ev
/- Drawn regions, second part: every order. -/
set_option linter.unusedVariables false
namespace Go.Proofs.Ev
open Go
section
variable {P : Program} {w0 : Base}

theorem wpOp_monoQ {ops : Array Oper} {Q Q' : Exit → Act → World → Prop} (hq : ∀ e a w, Q e a w → Q' e a w) {i : Nat} {K : Act → World → Prop} {a : Act} {w : World} (h : wpOp P ops Q i K a w) : wpOp P ops Q' i K a w := by
  unfold wpOp at h ⊢
  cases ho : ops[i]? with
  | none => simp only [ho] at h ⊢; exact h
  | some o =>
    simp only [ho] at h ⊢
    split
    · rename_i hw
      rw [if_pos hw] at h
      rcases h with h | ⟨h1, h2⟩
      · refine .inl ?_
        unfold Oper.wp at *
        generalize (execOp a.eval o).run P w = r at *
        cases r with
        | ok n w' =>
          cases n <;> simp only [Oper.upon] at h ⊢ <;>
            first
              | exact h
              | exact Calls.mono h (fun e w'' he => by cases e <;> first | exact he | exact hq _ _ _ he | exact (let ⟨a, w, h⟩ := he; ⟨a, w, hq _ _ _ h⟩))
        | halt x w' => cases x <;> simp only [Oper.upon] at h ⊢ <;> first | exact h | exact hq _ _ _ h
      · exact .inr ⟨h1, let ⟨a, w, h⟩ := h2; ⟨a, w, hq _ _ _ h⟩⟩
    · rename_i hw
      rw [if_neg hw] at h
      exact h
theorem wpAny_monoQ {ops : Array Oper} {md : Region.Mode} {Q Q' : Exit → Act → World → Prop} (hq : ∀ e a w, Q e a w → Q' e a w) : ∀ {fuel : Nat} {listed : Array Bool} {a : Act} {w : World}, wpAny P md ops Q fuel listed a w → wpAny P md ops Q' fuel listed a w
  | 0, _, _, _, h => ⟨h.1, hq _ _ _ h.2⟩
  | fuel + 1, _, _, _, h => ⟨fun hr => hq _ _ _ (h.1 hr), fun i hi => wpOp_mono (fun _ _ => wpAny_monoQ hq) (wpOp_monoQ hq (h.2 i hi))⟩
theorem TmR.congr {ρ : Rho} {tm tm' : T V} {tmps : Array Value} (h : TmR ρ tm tmps) (he : ∀ t, tm.get t = tm'.get t) : TmR ρ tm' tmps := fun t v hv => h t v (by rw [he t]; exact hv)
theorem SG.put {ρ : Rho} {tm : T V} {s : St} {a : Act} {w : World} (S : SG P w0 ρ tm s a w) {d : Option Tmp} {v : V} {x : Value} (hd : ∀ t, d = some t → t < s.nt) (hv : VR ρ v x) : SG P w0 ρ (putT tm d v) s (a.put d x) w := by
  cases d with
  | none => exact ⟨S.inv, S.tm, S.nt, S.ds⟩
  | some d => exact ⟨S.inv, S.tm.set (Nat.lt_of_lt_of_le (hd d rfl) S.nt) hv, by simpa [Act.put] using S.nt, S.ds⟩
/-- names at the time of what comes next are as they are -/
theorem at_now {ops : List Oper} {lt : Option Nat} (hok : okOps ops (maskT ops 0 .e) ops 0 = true) {tm0 : T V} {done effs : Nat} {s : St} (A : Abs P ops lt tm0 done effs s) {it : PI} {o : Oper} (I : ItemIs ops lt done effs it o) {tm : T V} (h : AtOp ops it.i o tm0 s.tm tm) :
    ∀ t ∈ looks ops o, tm.get t = s.tm.get t := by
  intro t ht
  by_cases hall : ∀ j, gdst ops j = some t → pre ops j it.i
  · exact (h t ht).1 hall
  · obtain ⟨j, hj⟩ := Classical.not_forall.1 hall
    obtain ⟨hj1, hj2⟩ := Classical.not_imp.1 hj
    rw [(h t ht).2 j hj1 hj2]
    refine (A.keep t fun k hk hkt => ?_).symm
    have hjo := List.getElem?_eq_getElem (gdst_lt hj1)
    have hjk : j = k := (okOp_is hok hjo).once k t (by rw [← gdst_of hjo]; exact hj1) hkt
    subst hjk
    rcases (okOp_is hok I.op).look t ht j hj1 with q | q | q
    · rw [← q, I.fresh] at hk; cases hk
    · exact hj2 q
    · have := A.clos j it.i hk q
      rw [I.fresh] at this; cases this
theorem Post.fewer {G : Nat → Prop} {ρ : Rho} {res : Res} {e : Exit} {a : Act} {w : World} (h : Post P (w0.more G) ρ res e a w) : Post P w0 ρ res e a w :=
  let ⟨ρ', o, s, h1, h2, h3, h4, h5⟩ := h; ⟨ρ', o, s, h1, h2, h3.fewer, fun q => (h4 q).fewer, h5⟩
theorem still_iff {ops : List Oper} {lt : Option Nat} {done done' : Nat} {s s' : St} {listed listed' : Array Bool}
    (h : ∀ L o d, isLt lt L = true → ops[L]? = some o → o.dst = some d → (Nat.testBit done L = true ↔ Nat.testBit done' L = true) ∧ listed.getD L false = listed'.getD L false ∧ s'.tm.get d = s.tm.get d) (r : Nat) : Still ops lt done s listed r ↔ Still ops lt done' s' listed' r := by
  constructor
  · rintro ⟨L, o, d, v, h1, h2, h3, h4, h5, h6, h7⟩
    obtain ⟨q1, q2, q3⟩ := h L o d h1 h4 h5
    exact ⟨L, o, d, v, h1, q1.1 h2, by rw [← q2]; exact h3, h4, h5, by rw [q3]; exact h6, h7⟩
  · rintro ⟨L, o, d, v, h1, h2, h3, h4, h5, h6, h7⟩
    obtain ⟨q1, q2, q3⟩ := h L o d h1 h4 h5
    exact ⟨L, o, d, v, h1, q1.2 h2, by rw [q2]; exact h3, h4, h5, by rw [← q3]; exact h6, h7⟩
theorem lateIs_imp {ops : List Oper} {lt : Option Nat} {done done' : Nat} {s s' : St}
    (h : ∀ L o d, isLt lt L = true → ops[L]? = some o → o.dst = some d → (Nat.testBit done' L = true → Nat.testBit done L = true) ∧ s'.tm.get d = s.tm.get d) {r : Nat} : LateIs ops lt done' s' r → LateIs ops lt done s r := by
  rintro ⟨L, o, d, v, h1, h2, h4, h5, h6, h7⟩
  obtain ⟨q1, q3⟩ := h L o d h1 h4 h5
  exact ⟨L, o, d, v, h1, q1 h2, h4, h5, by rw [← q3]; exact h6, h7⟩
/-- the late one, done in the world -/
theorem late_run {ρ : Rho} {tm : T V} {h : T AObj} {r : Nat} {o : Oper} {a : Act} {w : World} {v : V} {c : T V} {m : Nat} (hb : isBS o.op = true) (hd : opA P tm h r o.op = some (.new v (.row c m))) (ht : TmR ρ tm a.tmps) :
    ∃ cells elem x, (execOp a.eval o).run P w = .ok (.value x) (w.alloc (.cells cells elem)) ∧ cells.size = m ∧ (∀ o v, o < m → c.get o = some v → ∃ u, cells[o]? = some u ∧ VR ρ v u) ∧ ∀ ρ', ρ' r = some (w.heap.size, m) → VR ρ' v x := by
  obtain ⟨dst, op, ty, pos, after, guard⟩ := o
  cases op <;> first | (simp only [isBS, Bool.false_eq_true] at hb; done) | skip
  case buildSlice t n ps =>
    obtain ⟨l, h1, h2⟩ := bd_some.1 hd
    obtain ⟨n', c', cells, elem, h3, h4, h5, h6⟩ := buildS_raw (qs := ps.map fun (i, x) => (i, a.eval x)) h2 (by simpa using evalP_sound ht _ _ h1) w
    injection h3 with h3 h3'
    injection h3' with h3' h3''
    subst h3; subst h3'; subst h3''
    exact ⟨cells, elem, _, run_val h4, h5, h6, fun ρ' q => .l _ _ _ _ _ _ _ _ q (Nat.le_refl _) (by omega) (.inl rfl)⟩
  case alloc elem =>
    obtain ⟨z, h1, h2⟩ := bd_some.1 hd
    injection h2 with h2
    injection h2 with h2 h3
    unfold mkRow at h3
    injection h3 with h3 h4
    subst h2; subst h3; subst h4
    obtain ⟨u, h5, h6, _⟩ := run_zeroValue h1 w ρ
    have hr : (execOp a.eval ⟨dst, .alloc elem, ty, pos, after, guard⟩).run P w = .ok (.value (.pointer (some ⟨w.heap.size, 0, none⟩))) (w.alloc (.cells u.cells elem)) := by
      simp [execOp, Instr.alloc, h5, newVar, newRow]
    have hc := h6.cells
    have hl := hc.length
    refine ⟨u.cells, elem, _, hr, by rw [lenL_eq, hl, Array.length_toList], fun o v ho hv => ?_, fun ρ' q => .p _ _ _ _ q⟩
    rw [lenL_eq] at ho
    rw [get_setCells, if_pos (by omega), Nat.sub_zero] at hv
    obtain ⟨x, q1, q2⟩ := hc.get hv
    exact ⟨x, by simpa using q1, q2⟩
theorem sameRow_is {c : T V} {m : Nat} {ob : AObj} (h : sameRow c m ob = true) : RowIs c m ob := by
  cases ob with
  | map es => simp only [sameRow, Bool.false_eq_true] at h
  | row c' n' =>
    simp only [sameRow, Bool.and_eq_true] at h
    obtain ⟨h1, h2⟩ := h
    have h1 := beq_true.1 h1
    subst h1
    refine ⟨c', rfl, fun o v ho hv => ?_⟩
    cases hl : getCells c m 0 with
    | none => simp only [hl, Bool.false_eq_true] at h2
    | some l =>
      cases hl' : getCells c' m 0 with
      | none => simp only [hl, hl', Bool.false_eq_true] at h2
      | some l' =>
        simp only [hl, hl'] at h2
        have := eqNs_ok h2
        subst this
        obtain ⟨_, e1⟩ := getCells_some c m 0 l hl
        obtain ⟨_, e2⟩ := getCells_some c' m 0 l hl'
        have e1 := e1 o ho
        have e2 := e2 o ho
        rw [Nat.zero_add] at e1 e2
        rw [e1, ← e2]; exact hv
theorem rowIs_ok {ρ : Rho} {c : T V} {m : Nat} {ob : AObj} {cells : Array Value} {elem : TypeId} {w : World} (h : RowIs c m ob) (hsz : cells.size = m) (hg : (w.alloc (.cells cells elem)).heap[w.heap.size]? = some (.cells cells elem (0, 0)))
    (hc : ∀ o v, o < m → c.get o = some v → ∃ u, cells[o]? = some u ∧ VR ρ v u) : OR ρ ob w.heap.size m (w.alloc (.cells cells elem)) := by
  obtain ⟨c', rfl, h⟩ := h
  exact ⟨cells, elem, hg, hsz, Nat.le_refl _, fun o v ho hv => hc o v ho (h o v ho hv)⟩
/-- what is made so -/
theorem bs_form {tm : T V} {h : T AObj} {nx : Nat} {op : Op} {v : V} {ob : AObj} (hb : isBS op = true) (hd : opA P tm h nx op = some (.new v ob)) : ∃ c m, nameV v = some nx ∧ ob = .row c m := by
  cases op <;> first | (simp only [isBS, Bool.false_eq_true] at hb; done) | skip
  case buildSlice t n ps =>
    obtain ⟨l, z1, hm⟩ := bd_some.1 hd
    unfold buildS at hm
    cases hu : P.underlying t with
    | none => simp only [und, hu, reduceCtorEq] at hm
    | some d =>
      simp only [und, hu] at hm
      cases d <;> first | (simp only [reduceCtorEq] at hm; done) | skip
      obtain ⟨n', _, hm1⟩ := bd_some.1 hm
      obtain ⟨zv, _, hm2⟩ := bd_some.1 hm1
      obtain ⟨_, hm3⟩ := gd_some.1 hm2
      obtain ⟨_, hm4⟩ := gd_some.1 hm3
      obtain ⟨_, hm5⟩ := gd_some.1 hm4
      obtain ⟨c, _, hm6⟩ := bd_some.1 hm5
      injection hm6 with hm6
      injection hm6 with hm6 hm7
      subst hm6
      exact ⟨c, _, rfl, hm7.symm⟩
  case alloc elem =>
    obtain ⟨z, h1, h2⟩ := bd_some.1 hd
    injection h2 with h2
    injection h2 with h2 h3
    subst h2
    exact ⟨_, _, rfl, h3.symm⟩
/-- as long as the plan's next one is not done in the world, others may be -/
theorem float (N : Named P) {ops : List Oper} {lt : Option Nat} (hok : okOps ops (maskT ops 0 .e) ops 0 = true) {tm0 : T V} {done effs : Nat} {s : St} {res : Res} (A : Abs P ops lt tm0 done effs s) (head : Option PI)
    (hend : head = none → res = .out .norm s ∧ ∀ i, i < ops.length → Nat.testBit done i = true)
    (hhead : ∀ it, head = some it → ∃ o, ItemIs ops lt done effs it o ∧ it.eff = true)
    (hstep : ∀ it, head = some it → ∀ ρ listed a w fuel, Conc P w0 ops lt tm0 done effs s ρ listed a w → left listed ≤ fuel + 1 → it.i ∈ Region.ready .any ops.toArray listed →
      wpOp P ops.toArray (Post P w0 ρ res) it.i (wpAny P .any ops.toArray (Post P w0 ρ res) fuel (listed.setIfInBounds it.i true)) a w) :
    ∀ fuel ρ listed a w, Conc P w0 ops lt tm0 done effs s ρ listed a w → left listed ≤ fuel → wpAny P .any ops.toArray (Post P w0 ρ res) fuel listed a w := by
  have fin : ∀ ρ listed a w, Conc P w0 ops lt tm0 done effs s ρ listed a w → Region.ready .any ops.toArray listed = [] → Post P w0 ρ res .normal a w := by
    intro ρ listed a w C hr
    have hall := all_listed hok C.size hr
    cases hh : head with
    | some it =>
      obtain ⟨o, I, _⟩ := hhead it hh
      have := C.within it.i (hall it.i (List.getElem?_eq_some_iff.1 I.op).1)
      rw [I.fresh] at this; cases this
    | none =>
      obtain ⟨hres, _⟩ := hend hh
      subst hres
      obtain ⟨tm, S, h1, h2⟩ := C.st
      exact Post.of_norm (Rho.le_refl ρ) ⟨S.inv.fewer, S.tm.congr fun t => h1 t fun j hj => hall j (gdst_lt hj), S.nt, S.ds⟩ trivial
  intro fuel
  induction fuel with
  | zero =>
    intro ρ listed a w C hl
    have hr : Region.ready .any ops.toArray listed = [] := by
      cases hq : Region.ready .any ops.toArray listed with
      | nil => rfl
      | cons i rs =>
        exfalso
        have hm : i ∈ Region.ready .any ops.toArray listed := by rw [hq]; exact .head _
        obtain ⟨h0, o, ho, _⟩ := mem_ready.1 hm
        have hi : i < listed.size := by rw [C.size]; have := (Array.getElem?_eq_some_iff.1 ho).1; simpa using this
        have h0' : listed.getD i false = false := by rw [← getD_any hi true]; exact h0
        have := left_set hi h0'
        omega
    exact ⟨hr, fin ρ listed a w C hr⟩
  | succ fuel ih =>
    intro ρ listed a w C hl
    refine ⟨fin ρ listed a w C, fun i hi => ?_⟩
    obtain ⟨h0, o, ho, he⟩ := mem_ready.1 hi
    have ho : ops[i]? = some o := by simpa using ho
    have hilt : i < ops.length := (List.getElem?_eq_some_iff.1 ho).1
    have hil : i < listed.size := by rw [C.size]; exact hilt
    have h0 : listed.getD i false = false := by rw [← getD_any hil true]; exact h0
    have hpre : ∀ j, pre ops j i → listed.getD j false = true := fun j hj => by
      obtain ⟨e, h1, h2, h3, h4⟩ := pre_edge hok ho hj
      rcases h4 with rfl | h4
      · exact he e h1 h2
      · exact listed_pre hok C.size C.closed e.on j (he e h1 h2) h4
    by_cases hhd : ∃ it, head = some it ∧ it.i = i
    · obtain ⟨it, hh, rfl⟩ := hhd
      exact hstep it hh ρ listed a w fuel C hl hi
    · have hdi : Nat.testBit done i = true := by
        cases hh : head with
        | none => exact (hend hh).2 i hilt
        | some it =>
          obtain ⟨oh, I, hie⟩ := hhead it hh
          cases hd : Nat.testBit done i with
          | true => rfl
          | false =>
            exfalso
            have hne : i ≠ it.i := fun q => hhd ⟨it, hh, q.symm⟩
            have := C.within it.i (hpre it.i (I.later hie i hilt hne hd))
            rw [I.fresh] at this; cases this
      have hnp : ∀ e, Nat.testBit effs e = true → ¬ pre ops i e := fun e hq hp => by
        have := listed_pre hok C.size C.closed e i (C.all e hq) hp
        rw [h0] at this; cases this
      obtain ⟨tm, S, h1, h2⟩ := C.st
      have hleft : left (listed.setIfInBounds i true) ≤ fuel := by have := left_set hil h0; omega
      have ho' : ops.toArray[i]? = some o := by simpa using ho
      have hset : ∀ L, L ≠ i → listed.getD L false = (listed.setIfInBounds i true).getD L false := fun L q => (getD_set_ne false (Ne.symm q)).symm
      cases hlt : isLt lt i with
      | false =>
        have hne : isEff o.op = false := by
          cases hq : isEff o.op with
          | false => rfl
          | true =>
            have := C.all i (A.eff i o hdi ho hq hlt)
            rw [h0] at this; cases this
        obtain ⟨b, v, f1, f2, f3⟩ := A.fact i o hdi ho hne hnp
        obtain ⟨f4, f5⟩ := f3 tm (C.name hok ho h0 hpre h1 h2)
        have hwant := wants_sound f4 S.tm
        have hstill : w0.more (Still ops lt done s listed) = w0.more (Still ops lt done s (listed.setIfInBounds i true)) :=
          w0.more_congr (still_iff fun L oL d hL hoL hdL => ⟨Iff.rfl, hset L (fun q => by subst q; rw [hlt] at hL; cases hL), rfl⟩)
        have next : ∀ x, VR ρ v x → wpAny P .any ops.toArray (Post P w0 ρ res) fuel (listed.setIfInBounds i true) (a.put o.dst x) w := fun x hx =>
          ih ρ _ _ w (C.step hok ho h0 he h1 h2 (a' := a) (by rw [← hstill]; exact S.put (fun t ht => (f2 t ht).2) hx) C.fresh (fun t _ => rfl) (fun d hd => (f2 d hd).1) (fun j hj => hj) hdi (fun e he => .inl he)) hleft
        unfold wpOp
        simp only [ho']
        cases b with
        | false =>
          rw [if_neg (by rw [hwant]; simp)]
          have := f1 rfl
          subst this
          exact next undef (VR.undef ρ)
        | true =>
          rw [if_pos hwant]
          obtain ⟨x, hr, hv⟩ := op_ok N o ρ tm s.h s.nx a w (.val v) (f5 rfl) S.tm S.inv rfl
          refine .inl ?_
          unfold Oper.wp
          rw [hr]
          exact next x hv
      | true =>
        -- the late one: the world makes its row now
        obtain ⟨f0, b, v, f1, f1', f2, f3⟩ := A.late i o hdi ho hlt hnp
        obtain ⟨f4, f5⟩ := f3 tm (C.name hok ho h0 hpre h1 h2)
        have hwant := wants_sound f4 S.tm
        have hgone : ∀ r, ¬ Still ops lt done s (listed.setIfInBounds i true) r := by
          rintro r ⟨L, _, _, _, q1, _, q3, _⟩
          have := isLt_one q1 hlt
          subst this
          rw [(getD_set hil L).2 (.inr rfl)] at q3; cases q3
        have next : ∀ ρ' x w', ρ.le ρ' → Inv w0 ρ' s.h s.nx w' → VR ρ' v x → wpAny P .any ops.toArray (Post P w0 ρ res) fuel (listed.setIfInBounds i true) (a.put o.dst x) w' := fun ρ' x w' hle I' hx => by
          have S' : SG P w0 ρ' tm s a w' := ⟨I', S.tm.mono hle, S.nt, S.ds.mono hle⟩
          exact wpAny_monoQ (fun _ _ _ => Post.mono hle) (ih ρ' _ _ w' (C.step hok ho h0 he h1 h2 (a' := a) (by rw [w0.more_none hgone]; exact S'.put (fun t ht => (f2 t ht).2) hx) C.fresh (fun t _ => rfl) (fun d hd => (f2 d hd).1) (fun j hj => hj) hdi (fun e he => .inl he)) hleft)
        unfold wpOp
        simp only [ho']
        cases b with
        | false =>
          rw [if_neg (by rw [hwant]; simp)]
          have := f1 rfl
          subst this
          exact next ρ undef w (Rho.le_refl ρ) S.inv.fewer (VR.undef ρ)
        | true =>
          rw [if_pos hwant]
          obtain ⟨r, c, m, ob, hv, hop, hg, hsame⟩ := f5 rfl
          obtain ⟨cells, elem, x, hrun, hsz, hcells, hvr⟩ := late_run (w := w) f0 hop S.tm
          obtain ⟨d, hd⟩ := Option.isSome_iff_exists.1 (f1' rfl)
          have hLate : LateIs ops lt done s r := ⟨i, o, d, v, hlt, hdi, ho, hd, (f2 d hd).1, hv⟩
          have hbase : w0.more (Still ops lt done s listed) = w0.more (· = r) := w0.more_congr fun x => by
            constructor
            · rintro ⟨L, oL, dL, v', q1, q2, q3, q4, q5, q6, q7⟩
              have := isLt_one q1 hlt
              subst this
              rw [ho] at q4; injection q4 with q4; subst q4
              rw [hd] at q5; injection q5 with q5; subst q5
              rw [(f2 _ hd).1] at q6
              injection q6 with q6
              subst q6
              rw [hv] at q7
              injection q7 with q7
              exact q7.symm
            · rintro rfl
              exact ⟨i, o, d, v, hlt, hdi, h0, ho, hd, (f2 d hd).1, hv⟩
          have I := S.inv
          rw [hbase] at I
          have hle : ρ.le (ρ.put r (w.heap.size, m)) := Rho.le_put (I.gone r (.inr rfl)).2
          refine .inl ?_
          unfold Oper.wp
          rw [hrun]
          refine next (ρ.put r (w.heap.size, m)) _ _ hle (I.late (C.fresh r hLate) hg (by simp) (fun k hk => (MapKept.heap_alloc w _).2 k hk) rfl rfl rfl ?_) ?_
          · exact rowIs_ok hsame hsz (MapKept.heap_alloc w _).1 fun o v q1 q2 => let ⟨u, q3, q4⟩ := hcells o v q1 q2; ⟨u, q3, q4.mono hle⟩
          · exact hvr _ (put_self ..)
theorem clearT_get {t0 : T V} : ∀ {ops : List Oper} {t : Nat} {v : V}, (clearT ops t0).get t = some v → (∀ o ∈ ops, o.dst ≠ some t) ∧ t0.get t = some v
  | [], t, v, h => ⟨fun o ho => (by cases ho), h⟩
  | o :: l, t, v, h => by
    have h' : (match o.dst with | some d => (clearT l t0).del d | none => clearT l t0).get t = some v := h
    cases hd : o.dst with
    | none =>
      simp only [hd] at h'
      obtain ⟨h1, h2⟩ := clearT_get h'
      refine ⟨fun x hx => ?_, h2⟩
      cases hx with
      | head => rw [hd]; exact fun q => (by cases q)
      | tail _ hx => exact h1 x hx
    | some d =>
      simp only [hd] at h'
      rw [T.get_del] at h'
      split at h'
      · cases h'
      · rename_i hne
        obtain ⟨h1, h2⟩ := clearT_get h'
        refine ⟨fun x hx => ?_, h2⟩
        cases hx with
        | head => rw [hd]; exact fun q => hne (by injection q with q; exact q.symm)
        | tail _ hx => exact h1 x hx
theorem ready_of {ops : List Oper} {listed : Array Bool} (hs : listed.size = ops.length) {i : Nat} (hi : i ∈ Region.ready .any ops.toArray listed) :
    ∃ o, ops[i]? = some o ∧ i < listed.size ∧ listed.getD i false = false ∧ ∀ e ∈ o.after, Region.binds .any e = true → listed.getD e.on false = true := by
  obtain ⟨h0, o, ho, he⟩ := mem_ready.1 hi
  have ho : ops[i]? = some o := by simpa using ho
  have hilt : i < ops.length := (List.getElem?_eq_some_iff.1 ho).1
  have hil : i < listed.size := by rw [hs]; exact hilt
  exact ⟨o, ho, hil, by rw [← getD_any hil true]; exact h0, he⟩
/-- behind an effect: the loads that may come later tell the same -/
theorem again_ok {ops : List Oper} {s : St} {j : Nat} {o : Oper} (ho : ops[j]? = some o) (h : again P ops s j = true) :
    ∃ b, wants ops s.tm o.guard = some b ∧ (b = true → ∃ v, opA P s.tm s.h s.nx o.op = some (.val v) ∧ ∀ d, o.dst = some d → s.tm.get d = some v) := by
  unfold again at h
  simp only [ho] at h
  cases hw : wants ops s.tm o.guard with
  | none => simp only [hw] at h; cases h
  | some b =>
    refine ⟨b, rfl, fun q => ?_⟩
    subst q
    simp only [hw] at h
    cases hop : opA P s.tm s.h s.nx o.op with
    | none => simp only [hop] at h; cases h
    | some d =>
      simp only [hop] at h
      cases d <;> first | (simp only [Bool.false_eq_true] at h; done) | skip
      rename_i v
      refine ⟨v, rfl, fun d hd => ?_⟩
      simp only [hd] at h
      cases hg : s.tm.get d with
      | none => simp only [hg] at h; cases h
      | some u => simp only [hg] at h; rw [eqVV_ok h]
theorem againL_ok {ops : List Oper} {s : St} {j : Nat} {o : Oper} (ho : ops[j]? = some o) (h : againL P ops s j = true) :
    ∃ b, wants ops s.tm o.guard = some b ∧ (b = true → ∃ d v, o.dst = some d ∧ s.tm.get d = some v ∧ ∃ r c m ob, nameV v = some r ∧ opA P s.tm s.h r o.op = some (.new v (.row c m)) ∧ s.h.get r = some ob ∧ RowIs c m ob) := by
  unfold againL at h
  simp only [ho] at h
  cases hw : wants ops s.tm o.guard with
  | none => simp only [hw] at h; cases h
  | some b =>
    refine ⟨b, rfl, fun q => ?_⟩
    subst q
    simp only [hw] at h
    cases hd : o.dst with
    | none => simp only [hd] at h; cases h
    | some d =>
      simp only [hd] at h
      cases hg : s.tm.get d with
      | none => simp only [hg] at h; cases h
      | some v =>
        simp only [hg] at h
        refine ⟨d, v, rfl, hg, ?_⟩
        unfold againR at h
        cases hn : nameV v with
        | none => simp only [hn, Bool.false_eq_true] at h
        | some r =>
          simp only [hn] at h
          cases hop : opA P s.tm s.h r o.op with
          | none => simp only [hop] at h; cases h
          | some q =>
            simp only [hop] at h
            cases q <;> first | (simp only [Bool.false_eq_true] at h; done) | skip
            rename_i u ob'
            cases ob' <;> first | (simp only [Bool.false_eq_true] at h; done) | skip
            rename_i c m
            cases hh : s.h.get r with
            | none => simp only [hh] at h; cases h
            | some ob =>
              simp only [hh, Bool.and_eq_true] at h
              obtain ⟨h1, h2⟩ := h
              have := eqVV_ok h1
              subst this
              exact ⟨r, c, m, ob, rfl, hop, hh ▸ rfl, sameRow_is h2⟩
theorem again'_ok {ops : List Oper} {s : St} {j : Nat} {o : Oper} (ho : ops[j]? = some o) (h : again' P ops s j = true) : (isBS o.op = false → again P ops s j = true) ∧ (isBS o.op = true → againL P ops s j = true) := by
  have ho' : opAt ops j = o.op := by unfold opAt; rw [ho]
  unfold again' at h
  rw [ho'] at h
  cases hb : isBS o.op with
  | false => rw [hb] at h; exact ⟨fun _ => h, fun q => (by cases q)⟩
  | true => rw [hb] at h; exact ⟨fun q => (by cases q), fun _ => h⟩
theorem load_bs {op : Op} (h : isLoad op = true) : isBS op = false := by
  cases op <;> first | rfl | (simp only [isLoad, Bool.false_eq_true] at h; done)
theorem stepDr_ok (N : Named P) {c : Cfg} (hP : c.P = P) {rc : Rec} (G : Good P w0 rc) (G' : ∀ X, Good P (w0.more X) rc) {ops : List Oper} {pl : List PI} {tp : T V} {s : St} {res : Res} (h : stepDr c rc ops pl tp s = some res) : GoodJ P w0 (.dr ops pl tp s) res := by
  intro hok lt done effs tm0 hplan htp A ρ listed a w C fuel hfuel
  cases pl with
  | nil =>
    injection h with h
    subst h
    exact float N hok A none (fun _ => ⟨rfl, fun i hi => okPlan_nil hplan hi⟩) (fun it q => (by cases q)) (fun it q => (by cases q)) fuel ρ listed a w C hfuel
  | cons it rest =>
    obtain ⟨hitem, hrest⟩ := okPlan_cons hplan
    obtain ⟨o, I⟩ := okItem_is hitem
    have h : (match ops[it.i]? with
      | none => none
      | some o => Bool.rec
          (bd (wants ops s.tm o.guard) (Bool.rec (andPut (fun s => rc (.dr ops rest tp s)) o.dst (.t []) s) (bd (opA c.P s.tm s.h s.nx o.op) (Bool.rec (onlyVal (fun s => rc (.dr ops rest tp s)) o.dst s) (onlyNew (fun s => rc (.dr ops rest tp s)) o.dst s) it.late))))
          (stepOp c rc (fun s => gd (allL (again' c.P ops s) it.pend) (rc (.dr ops rest tp s))) tp ops o s) it.eff : R Res) = some res := h
    rw [I.op, hP] at h
    have hO := okOp_is hok I.op
    -- names written before are as they were
    have hold : ∀ {v : V} {s' : St}, s'.tm = putT s.tm o.dst v → (∀ t, (∀ d, o.dst = some d → t ≠ d) → s'.tm.get t = s.tm.get t) := fun {v s'} hs' t ht => by
      rw [hs']
      cases hq : o.dst with
      | none => rfl
      | some d => simp only [putT]; rw [T.get_set, if_neg (ht d hq)]
    -- a name that was written alone earlier
    have hlate : ∀ {v : V} {s' : St}, s'.tm = putT s.tm o.dst v → it.late = false → ∀ L oL d, isLt lt L = true → ops[L]? = some oL → oL.dst = some d → L ≠ it.i ∧ (Nat.testBit done L = true ↔ Nat.testBit (Nat.lor done (Nat.shiftLeft 1 it.i)) L = true) ∧ s'.tm.get d = s.tm.get d := fun {v s'} hs' hl L oL d hL hoL hdL => by
      have hne : L ≠ it.i := fun q => by subst q; rw [I.notLt hl] at hL; cases hL
      refine ⟨hne, ⟨fun q => (bit_or _ _ _).2 (.inl q), fun q => ((bit_or _ _ _).1 q).resolve_right hne⟩, hold hs' d fun d' hd' q => ?_⟩
      subst q
      exact hne (((okOp_is hok hoL).once it.i d hdL (by rw [gdst_of I.op, hd'])))
    cases he : it.eff with
    | false =>
      rw [he] at h
      have hat' : ∀ {v : V} {s' : St}, s'.tm = putT s.tm o.dst v → ∀ {tm'}, AtOp ops it.i o tm0 s'.tm tm' → AtOp ops it.i o tm0 s.tm tm' := by
        intro v s' hs' tm' hat t ht
        refine ⟨fun hall => ?_, (hat t ht).2⟩
        rw [(hat t ht).1 hall, hs']
        cases hq : o.dst with
        | none => rfl
        | some d =>
          simp only [putT]
          rw [T.get_set, if_neg]
          intro q; subst q
          have := I.ahead it.i (hall it.i (by rw [gdst_of I.op, hq]))
          rw [I.fresh] at this; cases this
      -- the names of a state of the world
      have hnames : ∀ {v : V} {s' : St}, s'.tm = putT s.tm o.dst v → ∀ {tm : T V}, (∀ t, (∀ j, gdst ops j = some t → listed.getD j false = true) → tm.get t = s.tm.get t) → ∀ t, (∀ j, gdst ops j = some t → listed.getD j false = true) → tm.get t = s'.tm.get t := by
        intro v s' hs' tm h1 t ht
        rw [h1 t ht, hs']
        cases hq : o.dst with
        | none => rfl
        | some d =>
          simp only [putT]
          rw [T.get_set, if_neg]
          intro q; subst q
          have := C.within it.i (ht it.i (by rw [gdst_of I.op, hq]))
          rw [I.fresh] at this; cases this
      cases hl : it.late with
      | false =>
        rw [hl] at h
        -- nothing of the heap is changed
        have hne := I.kind he hl
        have go : ∀ b v s', wants ops s.tm o.guard = some b → (b = false → v = .t []) → (b = true → opA P s.tm s.h s.nx o.op = some (.val v)) → s.put o.dst v = some s' → rc (.dr ops rest tp s') = some res →
            wpAny P .any ops.toArray (Post P w0 ρ res) fuel listed a w := by
          intro b v s' hb hv hop hput hrc
          obtain ⟨hnt, hs'⟩ := put_some hput
          have htm : s'.tm = putT s.tm o.dst v := by rw [hs']
          have A' := A.step hok I (s' := s') (v := v) htm (by rw [hs'])
            (fun _ _ => ⟨b, v, hv, fun d hd => ⟨by rw [hs', hd]; simp [putT, T.get_set], by rw [hs']; exact hnt d hd⟩, fun tm' hat => by
              have hn := at_now hok A I (hat' htm hat)
              refine ⟨by rw [wants_congr hn]; exact hb, fun q => ?_⟩
              rw [opA_at hn, hs']
              exact hop q⟩)
            (fun q => by rw [hl] at q; cases q)
            (fun i oi _ _ _ _ b u tm' _ _ _ hval => ⟨u, fun _ _ => rfl, fun q => by rw [hs']; exact hval q⟩)
            (fun i oi _ _ _ _ _ _ b u _ _ hf tm' hat q => by rw [hs']; exact (hf tm' hat).2 q)
          rw [he] at A'
          refine G _ _ hrc hok lt _ _ tm0 (by rw [he] at hrest; exact hrest) htp A' ρ listed a w ?_ fuel hfuel
          obtain ⟨tm, S, h1, h2⟩ := C.st
          have hstill : w0.more (Still ops lt done s listed) = w0.more (Still ops lt (Nat.lor done (Nat.shiftLeft 1 it.i)) s' listed) :=
            w0.more_congr (still_iff fun L oL d q1 q2 q3 => let ⟨_, z1, z2⟩ := hlate htm hl L oL d q1 q2 q3; ⟨z1, rfl, z2⟩)
          rw [hstill] at S
          exact ⟨C.size, ⟨tm, ⟨by have := S.inv; rw [hs'] at this ⊢; exact this, S.tm, by rw [hs']; exact S.nt, by rw [hs']; exact S.ds⟩, hnames htm h1, h2⟩,
            fun r hr => C.fresh r (lateIs_imp (fun L oL d q1 q2 q3 => let ⟨_, z1, z2⟩ := hlate htm hl L oL d q1 q2 q3; ⟨z1.2, z2⟩) hr), C.closed, fun i hi => (bit_or _ _ _).2 (.inl (C.within i hi)), C.all⟩
        obtain ⟨b, h1, h2⟩ := bd_some.1 h
        cases b with
        | false =>
          obtain ⟨s', h3, h4⟩ := bd_some.1 h2
          exact go false _ s' h1 (fun _ => rfl) (fun q => (Bool.noConfusion q)) h3 h4
        | true =>
          obtain ⟨d, h3, h4⟩ := bd_some.1 h2
          cases d <;> first | (simp only [onlyVal, reduceCtorEq] at h4; done) | skip
          obtain ⟨s', h5, h6⟩ := bd_some.1 h4
          exact go true _ s' h1 (fun q => (Bool.noConfusion q)) (fun _ => h3) h5 h6
      | true =>
        rw [hl] at h
        obtain ⟨hLt, hBS⟩ := I.kindL hl
        -- no late one was done so far
        have hnone : ∀ L, isLt lt L = true → Nat.testBit done L = false := fun L q => by
          have := isLt_one q hLt
          subst this; exact I.fresh
        have hno : ∀ r, ¬ Still ops lt done s listed r := by
          rintro r ⟨L, _, _, _, q1, q2, _⟩
          rw [hnone L q1] at q2; cases q2
        obtain ⟨tm, S, h1, h2⟩ := C.st
        rw [w0.more_none hno] at S
        have go : ∀ b v h' nx' s', wants ops s.tm o.guard = some b → (b = false → v = .t [] ∧ h' = s.h ∧ nx' = s.nx) → (b = true → o.dst.isSome = true ∧ nx' = s.nx + 1 ∧ ∃ ob, h' = s.h.set s.nx ob ∧ opA P s.tm s.h s.nx o.op = some (.new v ob)) → St.put ⟨s.tm, h', nx', s.nt, s.ds⟩ o.dst v = some s' → rc (.dr ops rest tp s') = some res →
            wpAny P .any ops.toArray (Post P w0 ρ res) fuel listed a w := by
          intro b v h' nx' s' hb hv hop hput hrc
          obtain ⟨hnt, hs'⟩ := put_some hput
          have htm : s'.tm = putT s.tm o.dst v := by rw [hs']
          have hdst : ∀ d, o.dst = some d → s'.tm.get d = some v := fun d hd => by rw [hs', hd]; simp [putT, T.get_set]
          have hraw : b = true → ∃ c m, nameV v = some s.nx ∧ h' = s.h.set s.nx (.row c m) ∧ opA P s.tm s.h s.nx o.op = some (.new v (.row c m)) := fun q => by
            obtain ⟨_, _, ob, q2, q3⟩ := hop q
            obtain ⟨c, m, q4, rfl⟩ := bs_form hBS q3
            exact ⟨c, m, q4, q2, q3⟩
          have hrow : LFact P ops tm0 s' it.i o := by
            refine ⟨hBS, b, v, fun q => (hv q).1, fun q => (hop q).1, fun d hd => ⟨hdst d hd, by rw [hs']; exact hnt d hd⟩, fun tm' hat => ?_⟩
            have hn := at_now hok A I (hat' htm hat)
            refine ⟨by rw [wants_congr hn]; exact hb, fun q => ?_⟩
            obtain ⟨c, m, q1, q2, q3⟩ := hraw q
            refine ⟨s.nx, c, m, .row c m, q1, ?_, ?_, ?_⟩
            · rw [opA_at hn, row_heap (P := P) (h' := s.h) hBS]; exact q3
            · rw [hs']; show h'.get s.nx = _; rw [q2, T.get_set, if_pos rfl]
            · exact ⟨c, rfl, fun _ _ _ z => z⟩
          have A' := A.step hok I (s' := s') (v := v) htm (by rw [hs'])
            (fun _ q => by rw [hl] at q; cases q)
            (fun _ => hrow)
            (fun i oi hdi hoi hei _ b' u tm' hnm hdst' hw hval => ⟨u, fun _ _ => rfl, fun q => more_heap hei (by
              intro x y hxy
              rw [hs']
              show h'.get x = _
              cases b with
              | false => rw [(hv rfl).2.1]; exact hxy
              | true =>
                obtain ⟨_, _, ob, q2, _⟩ := hop rfl
                rw [q2, T.get_set, if_neg]
                · exact hxy
                · intro e; subst e; rw [(S.inv.new _ (Nat.le_refl _)).2] at hxy; cases hxy) (hval q)⟩)
            (fun i oi _ _ _ q => by rw [hl] at q; cases q)
          rw [he] at A'
          refine G _ _ hrc hok lt _ _ tm0 (by rw [he] at hrest; exact hrest) htp A' ρ listed a w ?_ fuel hfuel
          have hpos : ∀ L oL d, isLt lt L = true → ops[L]? = some oL → oL.dst = some d → L = it.i ∧ oL = o ∧ s'.tm.get d = some v := fun L oL d q1 q2 q3 => by
            have := isLt_one q1 hLt
            subst this
            rw [I.op] at q2; injection q2 with q2; subst q2
            exact ⟨rfl, rfl, hdst d q3⟩
          have hlis : listed.getD it.i false = false := by
            cases q : listed.getD it.i false with
            | false => rfl
            | true => have := C.within it.i q; rw [I.fresh] at this; cases this
          have hS : SG P (w0.more (Still ops lt (Nat.lor done (Nat.shiftLeft 1 it.i)) s' listed)) ρ tm s' a w := by
            cases b with
            | false =>
              rw [w0.more_none]
              · obtain ⟨_, rfl, rfl⟩ := hv rfl
                exact ⟨by rw [hs']; exact S.inv, S.tm, by rw [hs']; exact S.nt, by rw [hs']; exact S.ds⟩
              · rintro r ⟨L, oL, d, v', q1, _, _, q4, q5, q6, q8⟩
                obtain ⟨_, _, q7⟩ := hpos L oL d q1 q4 q5
                rw [q7, (hv rfl).1] at q6
                injection q6 with q6
                subst q6
                cases q8
            | true =>
              obtain ⟨c, m, q1, q2, q3⟩ := hraw rfl
              obtain ⟨hsome, hnx, _⟩ := hop rfl
              obtain ⟨d, hd⟩ := Option.isSome_iff_exists.1 hsome
              have hb' : w0.more (Still ops lt (Nat.lor done (Nat.shiftLeft 1 it.i)) s' listed) = w0.more (· = s.nx) := w0.more_congr fun x => by
                constructor
                · rintro ⟨L, oL, dL, v', z1, _, _, z4, z5, z6, z8⟩
                  obtain ⟨_, _, z7⟩ := hpos L oL dL z1 z4 z5
                  rw [z7] at z6
                  injection z6 with z6
                  subst z6
                  rw [q1] at z8
                  injection z8 with z8
                  exact z8.symm
                · rintro rfl
                  exact ⟨it.i, o, d, v, hLt, (bit_or _ _ _).2 (.inr rfl), hlis, I.op, hd, hdst d hd, q1⟩
              rw [hb']
              refine ⟨?_, S.tm, by rw [hs']; exact S.nt, by rw [hs']; exact S.ds⟩
              rw [hs']
              show Inv _ ρ h' nx' w
              rw [q2, hnx]
              exact S.inv.ahead _
          refine ⟨C.size, ⟨tm, hS, hnames htm h1, h2⟩, ?_, C.closed, fun i hi => (bit_or _ _ _).2 (.inl (C.within i hi)), C.all⟩
          rintro r ⟨L, oL, d, v', q1, _, q4, q5, q6, q8⟩ hgr
          obtain ⟨_, _, q7⟩ := hpos L oL d q1 q4 q5
          rw [q7] at q6
          injection q6 with q6
          subst q6
          cases b with
          | false => rw [(hv rfl).1] at q8; cases q8
          | true =>
            obtain ⟨c, m, z1, _, _⟩ := hraw rfl
            rw [z1] at q8
            injection q8 with q8
            have := (S.inv.gone r hgr).1
            omega
        obtain ⟨b, h3, h4⟩ := bd_some.1 h
        cases b with
        | false =>
          obtain ⟨s', h5, h6⟩ := bd_some.1 h4
          exact go false _ s.h s.nx s' h3 (fun _ => ⟨rfl, rfl, rfl⟩) (fun q => (Bool.noConfusion q)) h5 h6
        | true =>
          obtain ⟨d, h5, h6⟩ := bd_some.1 h4
          cases d <;> first | (simp only [onlyNew, reduceCtorEq] at h6; done) | skip
          obtain ⟨h7, h8⟩ := gd_some.1 h6
          obtain ⟨s', h9, h10⟩ := bd_some.1 h8
          exact go true _ _ _ s' h3 (fun q => (Bool.noConfusion q)) (fun _ => ⟨h7, rfl, _, rfl, h5⟩) h9 h10
    | true =>
      rw [he] at h
      refine float N hok A (some it) (fun q => (by cases q)) (fun it' q => by injection q with q; subst q; exact ⟨o, I, he⟩) (fun it' q => ?_) fuel ρ listed a w C hfuel
      injection q with q
      subst q
      intro ρ listed a w fuel C hfuel hready
      obtain ⟨o', ho', hil, h0, hedge⟩ := ready_of C.size hready
      rw [I.op] at ho'; injection ho' with ho'; subst ho'
      obtain ⟨tm, S, h1, h2⟩ := C.st
      have hpre : ∀ j, pre ops j it.i → listed.getD j false = true := fun j hj => by
        obtain ⟨e, q1, q2, q3, q4⟩ := pre_edge hok I.op hj
        rcases q4 with rfl | q4
        · exact hedge e q1 q2
        · exact listed_pre hok C.size C.closed e.on j (hedge e q1 q2) q4
      have hn := at_now hok A I (C.name hok I.op h0 hpre h1 h2)
      have hleft : left (listed.setIfInBounds it.i true) ≤ fuel := by have := left_set hil h0; omega
      obtain ⟨b, h3, h4⟩ := bd_some.1 h
      rw [← wants_congr hn] at h3
      have hwant := wants_sound h3 S.tm
      -- what comes behind
      have hl : it.late = false := (I.kind' he).2
      have behind : ∀ ρ' h' nx' ds' v u (a' : Act) w' s', ρ.le ρ' → Inv (w0.more (Still ops lt done s listed)) ρ' h' nx' w' → VR ρ' v u → DR P ρ' ds' a'.defers → a'.tmps = a.tmps → St.put ⟨s.tm, h', nx', s.nt, ds'⟩ o.dst v = some s' →
          allL (again' P ops s') it.pend = true → rc (.dr ops rest tp s') = some res → wpAny P .any ops.toArray (Post P w0 ρ res) fuel (listed.setIfInBounds it.i true) (a'.put o.dst u) w' := by
        intro ρ' h' nx' ds' v u a' w' s' hle I' hv hD ha hput hag hrc
        obtain ⟨hnt, hs'⟩ := put_some hput
        have htm : s'.tm = putT s.tm o.dst v := by rw [hs']
        have A' := A.step hok I (s' := s') (v := v) htm (by rw [hs']) (fun q => by rw [he] at q; cases q) (fun q => by rw [hl] at q; cases q)
          (fun i oi hdi hoi hei hnp b u tm' hnames hdst hw hval => by
            cases hll : isLoad oi.op with
            | false => exact ⟨u, fun _ _ => rfl, fun q => by rw [pure_heap (P := P) (h' := s.h) (nx' := s.nx) hei hll]; exact hval q⟩
            | true =>
              obtain ⟨hpend, hlook⟩ := I.loads he i oi hoi hdi (.inr hll) (hnp he)
              obtain ⟨b', hw', hval'⟩ := again_ok hoi ((again'_ok hoi (allL_iff.1 hag i hpend)).1 (load_bs hll))
              have hnm : ∀ t ∈ looks ops oi, tm'.get t = s'.tm.get t := fun t ht => hnames t ht (fun k hk => hlook t ht k hk)
              have hbb : b' = b := by
                rw [wants_congr hnm, hw'] at hw
                injection hw
              subst hbb
              cases b' with
              | false => exact ⟨u, fun _ _ => rfl, fun q => (Bool.noConfusion q)⟩
              | true =>
                obtain ⟨u', h5, h6⟩ := hval' rfl
                refine ⟨u', fun d hd => ?_, fun _ => by rw [opA_at hnm]; exact h5⟩
                have e1 := h6 d hd
                rw [hdst d hd] at e1
                injection e1 with e1
                exact e1.symm)
          (fun i oi hdi hoi hLi _ hnp hBi b u hsome hdst hfact tm' hat hb => by
            obtain ⟨hpend, hlook⟩ := I.loads he i oi hoi hdi (.inl hLi) (hnp he)
            obtain ⟨b', hw', hval'⟩ := againL_ok hoi ((again'_ok hoi (allL_iff.1 hag i hpend)).2 hBi)
            have hnm : ∀ t ∈ looks ops oi, tm'.get t = s'.tm.get t := fun t ht => (hat t ht).1 (fun k hk => hlook t ht k hk)
            have hbb : b' = b := by
              have := (hfact tm' hat).1
              rw [wants_congr hnm, hw'] at this
              injection this
            subst hbb
            obtain ⟨d, v', q1, q2, r, c, m, ob, q3, q4, q5, q6⟩ := hval' hb
            rw [hdst d q1] at q2
            injection q2 with q2
            subst q2
            exact ⟨r, c, m, ob, q3, by rw [opA_at hnm]; exact q4, q5, q6⟩)
        rw [he] at A'
        have hset : ∀ L, L ≠ it.i → listed.getD L false = (listed.setIfInBounds it.i true).getD L false := fun L q => (getD_set_ne false (Ne.symm q)).symm
        have hstill : w0.more (Still ops lt done s listed) = w0.more (Still ops lt (Nat.lor done (Nat.shiftLeft 1 it.i)) s' (listed.setIfInBounds it.i true)) :=
          w0.more_congr (still_iff fun L oL d q1 q2 q3 => let ⟨z0, z1, z2⟩ := hlate htm hl L oL d q1 q2 q3; ⟨z1, hset L z0, z2⟩)
        rw [hstill] at I'
        have S' : SG P (w0.more (Still ops lt (Nat.lor done (Nat.shiftLeft 1 it.i)) s' (listed.setIfInBounds it.i true))) ρ' (putT tm o.dst v) s' (a'.put o.dst u) w' := by
          revert I'
          generalize w0.more (Still ops lt (Nat.lor done (Nat.shiftLeft 1 it.i)) s' (listed.setIfInBounds it.i true)) = B
          intro I'
          have S0 : SG P B ρ' tm ⟨s.tm, h', nx', s.nt, ds'⟩ a' w' := ⟨I', by rw [ha]; exact S.tm.mono hle, by rw [ha]; exact S.nt, hD⟩
          have := S0.put (d := o.dst) (v := v) hnt hv
          rw [hs']
          exact ⟨this.inv, this.tm, this.nt, this.ds⟩
        have C' := C.step hok I.op h0 hedge h1 h2 (ρ' := ρ') (s' := s') (v := v) (x := u) (a' := a') (w' := w')
          (done' := Nat.lor done (Nat.shiftLeft 1 it.i)) (effs' := Nat.lor effs (Nat.shiftLeft 1 it.i)) S'
          (fun r hr => C.fresh r (lateIs_imp (fun L oL d q1 q2 q3 => let ⟨_, z1, z2⟩ := hlate htm hl L oL d q1 q2 q3; ⟨z1.2, z2⟩) hr))
          (fun t ht => by
            rw [hs']
            cases hq : o.dst with
            | none => rfl
            | some d => simp only [putT]; rw [T.get_set, if_neg (ht d hq)])
          (fun d hd => by rw [hs', hd]; simp [putT, T.get_set])
          (fun j hj => (bit_or _ _ _).2 (.inl hj)) ((bit_or _ _ _).2 (.inr rfl)) (fun e q => (bit_or _ _ _).1 q)
        have := G _ _ hrc hok lt _ _ tm0 (by rw [he] at hrest; exact hrest) htp A' ρ' _ _ w' C' fuel hleft
        exact wpAny_monoQ (fun _ _ _ => Post.mono hle) this
      unfold wpOp
      have hop' : ops.toArray[it.i]? = some o := by simpa using I.op
      simp only [hop']
      cases b with
      | false =>
        rw [if_neg (by rw [hwant]; simp)]
        obtain ⟨s', h5, h6⟩ := bd_some.1 h4
        obtain ⟨h7, h8⟩ := gd_some.1 h6
        exact behind ρ s.h s.nx s.ds _ _ a w s' (Rho.le_refl ρ) S.inv (VR.undef ρ) S.ds rfl h5 h7 h8
      | true =>
        rw [if_pos hwant]
        obtain ⟨d, h5, h6⟩ := bd_some.1 h4
        rw [hP] at h5
        refine .inl (afterOp_ok N (G' _) h6 S (by rw [opA_at hn]; exact h5) (fun ρ' h' nx' ds' v u a' w' hle I' hv hD ha hk => ?_) fun ρ' v x h' nx' w' hle I' hv hres => ?_)
        · obtain ⟨s', h7, h8⟩ := bd_some.1 hk
          obtain ⟨h9, h10⟩ := gd_some.1 h8
          exact behind ρ' h' nx' ds' v u a' w' s' hle I' hv hD ha h7 h9 h10
        · subst hres
          refine ⟨ρ', _, _, rfl, hle, ⟨I'.fewer, fun t v hv => ?_, S.ds.mono hle⟩, fun q => (by cases q), x, rfl, hv⟩
          have hv : tp.get t = some v := hv
          rw [htp] at hv
          obtain ⟨q1, q2⟩ := clearT_get hv
          have hnd : ∀ j, gdst ops j ≠ some t := fun j hj => by
            have hjo := List.getElem?_eq_getElem (gdst_lt hj)
            rw [gdst_of hjo] at hj
            exact q1 _ (List.getElem_mem _) hj
          have e1 : tm.get t = some v := by rw [h1 t (fun j hj => absurd hj (hnd j)), A.keep t (fun j _ hj => hnd j hj), q2]
          exact (S.tm.mono hle) t v e1
theorem drawn_ok (N : Named P) (hm : P.follows .mixedOrders = true) {rc : Rec} (G : Good P w0 rc) (id : Nat) (ops : Array Oper) (pl : List PI) (s : St) (res : Res) (ρ : Rho) (a : Act) (w : World) (hpl : planned ops.toList = some pl) (hrc : rc (.dr ops.toList pl (clearT ops.toList s.tm) s) = some res) (S : SR P w0 ρ s a w) :
    (Code.region id ops true).wp P (Post P w0 ρ res) a w := by
  obtain ⟨h1, h2⟩ := gd_some.1 hpl
  obtain ⟨lt, hlt⟩ : ∃ lt, lt = lateOf ops.toList (maskT ops.toList 0 .e) (List.range ops.toList.length) := ⟨_, rfl⟩
  rw [← hlt] at h2
  obtain ⟨h3, h4⟩ := gd_some.1 h2
  injection h4 with h4
  subst h4
  refine wp_region_any hm ?_
  have A : Abs P ops.toList lt s.tm 0 0 s := ⟨fun t _ => rfl, fun i j h _ => by simp at h, fun i h => by simp at h, fun i o h => by simp at h, fun i o h => by simp at h, fun i o h => by simp at h⟩
  have hsz : (Array.replicate ops.size false).size = ops.toList.length := by simp
  have hno : ∀ i, (Array.replicate ops.size false).getD i false = false := fun i => by
    rw [Array.getD_eq_getD_getElem?, Array.getElem?_replicate]; split <;> rfl
  have C : Conc P w0 ops.toList lt s.tm 0 0 s ρ (Array.replicate ops.size false) a w.drew := by
    have hno' : ∀ r, ¬ Still ops.toList lt 0 s (Array.replicate ops.size false) r := by
      rintro r ⟨L, _, _, _, _, q, _⟩; simp at q
    refine ⟨hsz, ⟨s.tm, by rw [w0.more_none hno']; exact ⟨S.inv.drew, S.tm, S.nt, S.ds⟩, fun _ _ => rfl, fun _ _ _ _ => rfl⟩, by rintro r ⟨L, _, _, _, _, q, _⟩; simp at q, fun i o h => ?_, fun i h => ?_, fun e h => ?_⟩
    · rw [hno] at h; cases h
    · rw [hno] at h; cases h
    · simp at h
  have := G _ _ hrc h1 lt 0 0 s.tm h3 rfl A ρ (Array.replicate ops.size false) a w.drew C ops.size (by unfold left; refine Nat.le_trans (List.countP_le_length) (by simp))
  simpa using this
end
end Go.Proofs.Ev
/- Calls, and the evaluator as a whole (regions that draw come in as a premise). -/
set_option linter.unusedVariables false
namespace Go.Proofs.Ev
open Go
section
variable {P : Program} {w0 : Base}

theorem start_tm {ρ : Rho} {args : List V} {xs : Array Value} (h : VRs ρ args xs.toList) (k : Nat) : TmR ρ (setArgs args) (xs ++ Array.replicate k undef) := by
  intro t v hv
  have hv : (setCells args .e 0).get t = some v := hv
  rw [get_setCells] at hv
  have hl := h.length
  split at hv
  · rename_i ht
    rw [Nat.sub_zero] at hv
    obtain ⟨u, h1, h2⟩ := h.get hv
    have h1 : xs[t]? = some u := by simpa using h1
    have hx : t < xs.size := (Array.getElem?_eq_some_iff.1 h1).1
    have : (xs ++ Array.replicate k undef).getD t undef = u := by
      rw [Array.getD_eq_getD_getElem?, Array.getElem?_append_left hx, h1]; rfl
    rw [this]; exact h2
  · rw [T.get_e] at hv; cases hv
/-- one result -/
def oneRes (tmps : Array Value) : ResultVar → Sem Value
  | .tmp t => pure (tmps.getD t undef)
  | .cell a t => do loadVar t (← asAddr (tmps.getD a undef))
theorem results_eq (fn : Func) (tmps : Array Value) : results fn tmps = (do let vs ← fn.results.mapM (oneRes tmps); pure (if h : vs.size = 1 then vs[0] else .tuple vs)) := rfl
theorem resOf_ok {ρ : Rho} {s : St} {tmps : Array Value} {w : World} (I : Inv w0 ρ s.h s.nx w) (ht : PTm ρ s.tm tmps) : ∀ (l : List ResultVar) (vs : List V), resOf P s l = some vs →
    ∃ us : List Value, (l.mapM (oneRes tmps)).run P w = .ok us w ∧ VRs ρ vs us
  | [], vs, h => by injection h with h; subst h; exact ⟨[], by simp, .nil⟩
  | r :: l, vs, h => by
    have h' : (bd (oneOf P s r) fun v => bd (resOf P s l) fun vs => some (v :: vs)) = some vs := h
    obtain ⟨v, h1, h'⟩ := bd_some.1 h'
    obtain ⟨vs', h2, h'⟩ := bd_some.1 h'
    injection h' with h'; subst h'
    obtain ⟨us, h3, h4⟩ := resOf_ok I ht l vs' h2
    cases r with
    | tmp t =>
      have := ht t v h1
      have e1 : (oneRes tmps (.tmp t)).run P w = .ok (tmps.getD t undef) w := rfl
      exact ⟨tmps.getD t undef :: us, by simp only [List.mapM_cons, Sem.run_bind, e1, Result.andThen_ok, h3, Sem.run_pure], .cons _ _ _ _ this h4⟩
    | cell b t =>
      obtain ⟨p, h5, h6⟩ := bd_some.1 h1
      obtain ⟨q, o, rfl, h7⟩ := withP_some h6
      obtain ⟨cb, sz, h8, h9⟩ := (ht b _ h5).p_inv
      obtain ⟨u, h10, h11⟩ := loadA_ok I h7 h8
      have e1 : (oneRes tmps (.cell b t)).run P w = .ok u w := by simp only [oneRes, h9]; simp [asAddr, h10]
      exact ⟨u :: us, by simp only [List.mapM_cons, Sem.run_bind, e1, Result.andThen_ok, h3, Sem.run_pure], .cons _ _ _ _ h11 h4⟩
theorem finCall_ok {ρ : Rho} {fn : Func} {s : St} {tmps : Array Value} {w : World} (I : Inv w0 ρ s.h s.nx w) (ht : PTm ρ s.tm tmps) {res : Res} (h : finCall P fn s = some res) : ∃ v u, res = .got v s.h s.nx ∧ (results fn tmps).run P w = .ok u w ∧ VR ρ v u := by
  obtain ⟨l, h1, h2⟩ := bd_some.1 h
  obtain ⟨us, h3, h4⟩ := resOf_ok I ht fn.results.toList l h1
  have hr : (results fn tmps).run P w = .ok (if h : us.toArray.size = 1 then us.toArray[0] else .tuple us.toArray) w := by
    rw [results_eq, Array.mapM_eq_mapM_toList]
    simp [h3]
  cases h4 with
  | nil => injection h2 with h2; exact ⟨_, _, h2.symm, hr, .t _ _ .nil⟩
  | cons v u vs us' h5 h6 =>
    cases h6 with
    | nil => injection h2 with h2; exact ⟨_, _, h2.symm, hr, h5⟩
    | cons v' u' vs' us'' h7 h8 =>
      injection h2 with h2
      refine ⟨_, _, h2.symm, hr, ?_⟩
      have : ¬ (u :: u' :: us'').toArray.size = 1 := by simp
      rw [dif_neg this]
      exact .t _ _ (.cons _ _ _ _ h5 (.cons _ _ _ _ h7 h8))
/-- how a frame leaves -/
def modeOf : FrameMode → Option V → Rho → Prop
  | .returning, none, _ => True
  | .panicking chain, some v, ρ => ∃ x, chain = [{ v := x, recovered := false }] ∧ VR ρ v x
  | _, _, _ => False
theorem modeOf_MR {u : FrameMode} {m : Option V} {ρ : Rho} (h : modeOf u m ρ) : MR ρ m u ∧ u ≠ .run := by
  cases u with
  | run => cases m <;> exact h.elim
  | returning => cases m with
    | none => exact ⟨.inl rfl, by simp⟩
    | some v => exact h.elim
  | panicking chain => cases m with
    | none => exact h.elim
    | some v =>
      obtain ⟨x, rfl, hx⟩ := h
      exact ⟨⟨x, rfl, hx⟩, by simp⟩
theorem settle_mode {u : FrameMode} {m : Option V} {ρ : Rho} (h : MR ρ m u) : modeOf (settle u) m ρ := by
  cases m with
  | none =>
    rcases h with rfl | ⟨x, rfl⟩
    · exact trivial
    · exact trivial
  | some v =>
    obtain ⟨x, rfl, hx⟩ := h
    exact ⟨x, rfl, hx⟩
theorem leave_ok {fn : Func} {rc : Rec} (G : Good P w0 rc) {res : Res} {tmps : Array Value} : ∀ (ds : List (FuncId × List V)) (m : Option V) (s : St) (dd : List Deferred) (u : FrameMode) (ρ0 ρ : Rho) (w : World),
    leave P fn rc ds m s = some res → ρ0.le ρ → Inv w0 ρ s.h s.nx w → PTm ρ s.tm tmps → DR P ρ ds dd → modeOf u m ρ → Leaves P fn tmps (CPost w0 ρ0 res) dd u w
  | [], m, s, [], u, ρ0, ρ, w, h, hle, I, ht, _, hm => by
    cases m with
    | none =>
      cases u <;> first | exact hm.elim | skip
      obtain ⟨v, x, rfl, h1, h2⟩ := finCall_ok I ht h
      exact ⟨x, h1, ρ, v, _, _, rfl, hle, I, h2⟩
    | some v =>
      cases u <;> first | exact hm.elim | skip
      obtain ⟨x, rfl, hx⟩ := hm
      injection h with h
      subst h
      exact ⟨ρ, v, _, _, x, rfl, hle, I, rfl, hx⟩
  | [], _, _, _ :: _, _, _, _, _, _, _, _, _, hd, _ => hd.elim
  | _ :: _, _, _, [], _, _, _, _, _, _, _, _, hd, _ => hd.elim
  | q :: ds, m, s, d :: dd, u, ρ0, ρ, w, h, hle, I, ht, hd, hm => by
    obtain ⟨⟨ys, ⟨fv, cap, h1⟩, h2, h3⟩, hd'⟩ := hd
    obtain ⟨r, h4, h5⟩ := bd_some.1 h
    obtain ⟨hmr, hrun⟩ := modeOf_MR hm
    refine ⟨hrun, fv, cap, q.1, ys, h1, h2 w, CallsD.mono (G _ _ h4 ρ ys w u I h3 hmr) fun e u' w' he => ?_⟩
    cases e with
    | returned x =>
      obtain ⟨ρ', m', h', nx', rfl, hle', I', hmr'⟩ := he
      exact leave_ok G ds m' ⟨s.tm, h', nx', s.nt, s.ds⟩ dd (settle u') ρ0 ρ' w' h5 (Rho.le_trans hle hle') I' (ht.mono hle') (hd'.mono hle') (settle_mode hmr')
    | panicked chain => exact he.elim
    | outgrown => exact he.elim
theorem body_ok {ρ : Rho} {fn : Func} {rc : Rec} (G : Good P w0 rc) {r res : Res} (h : afterBody P fn rc r = some res) {e : Exit} {a : Act} {w : World} (he : Post P w0 ρ r e a w) : bodyPostD P fn (CPost w0 ρ res) e a w := by
  obtain ⟨ρ', o, s, rfl, hle, S, _, ho⟩ := he
  cases o with
  | norm =>
    cases e <;> first | exact ho.elim | skip
    exact leave_ok G s.ds none s a.defers .returning ρ ρ' w h hle S.inv S.tm S.ds trivial
  | ret =>
    cases e <;> first | exact ho.elim | skip
    exact leave_ok G s.ds none s a.defers .returning ρ ρ' w h hle S.inv S.tm S.ds trivial
  | exit id => cases h
  | pan v =>
    cases e <;> first | exact ho.elim | skip
    exact leave_ok G s.ds (some v) s a.defers (.panicking _) ρ ρ' w h hle S.inv S.tm S.ds ho
theorem start_SR {ρ : Rho} {args : List V} {xs : Array Value} {h : T AObj} {nx : Nat} {w : World} {fn : Func} (I : Inv w0 ρ h nx w) (hv : VRs ρ args xs.toList) (hl : lenL args ≤ fn.ntmps) :
    SR P w0 ρ ⟨setArgs args, h, nx, fn.ntmps, []⟩ { tmps := xs ++ Array.replicate (fn.ntmps - xs.size) undef, defers := [] } w := by
  refine ⟨I, start_tm hv _, ?_, trivial⟩
  have h1 := hv.length
  rw [lenL_eq] at hl
  have hx : xs.toList.length = xs.size := by simp
  show fn.ntmps ≤ (xs ++ Array.replicate (fn.ntmps - xs.size) undef).size
  simp
  omega
theorem stepCall_ok {c : Cfg} (hP : c.P = P) (hext : ∀ f e, c.ext f = some e → ∀ args h nx r, e args h nx = some r → GoodJ P w0 (.call f args h nx) (.got r.1 r.2.1 r.2.2)) {rc : Rec} (G : Good P w0 rc) {f : FuncId} {args : List V} {h : T AObj} {nx : Nat} {res : Res}
    (hs : stepCall c rc f args h nx = some res) : GoodJ P w0 (.call f args h nx) res := by
  unfold stepCall at hs
  cases he : c.ext f with
  | some e =>
    simp only [he] at hs
    obtain ⟨r, h1, h2⟩ := bd_some.1 hs
    injection h2 with h2; subst h2
    exact hext f e he args h nx r h1
  | none =>
    simp only [he] at hs
    unfold fnOf at hs
    rw [hP] at hs
    cases hf : P.funcs.toList[f]? with
    | none => simp only [hf, reduceCtorEq] at hs
    | some fn =>
      simp only [hf] at hs
      cases hb : fn.body with
      | none => simp only [hb, reduceCtorEq] at hs
      | some b =>
        simp only [hb] at hs
        obtain ⟨h1, h2⟩ := gd_some.1 hs
        obtain ⟨r, h3, h4⟩ := bd_some.1 h2
        intro ρ xs w I hv
        refine calls_of_wp_defers (c := b) (by simpa using hf) hb ?_
        exact wp_mono (G _ _ h3 ρ _ w (start_SR I hv (ble_true.1 h1))) fun e a w' hp => body_ok G h4 hp

/-! what was left for later -/
theorem wpOpsS_mono {ops : Array Oper} {Q Q' : Exit → Act → List Frame → World → Prop} (hq : ∀ e a cs w, Q e a cs w → Q' e a cs w) : ∀ (l : List Nat) {a : Act} {cs : List Frame} {w : World}, wpOpsS P ops Q l a cs w → wpOpsS P ops Q' l a cs w
  | [], _, _, _, h => hq _ _ _ _ h
  | i :: rest, a, cs, w, h => by
    unfold wpOpsS at h ⊢
    cases ho : ops[i]? with
    | none => simp only [ho] at h ⊢; exact wpOpsS_mono hq rest h
    | some o =>
      simp only [ho] at h ⊢
      split
      · rename_i hw
        rw [if_pos hw] at h
        generalize (execOp a.eval o).run P w = r at *
        cases r with
        | ok n w' =>
          cases n <;> simp only [Oper.upon] at h ⊢ <;>
            first
              | exact h
              | exact wpOpsS_mono hq rest h
              | exact Calls.mono h (fun e w'' he => by cases e <;> first | exact wpOpsS_mono hq rest he | exact hq _ _ _ _ he | exact (let ⟨a, w, h⟩ := he; ⟨a, w, hq _ _ _ _ h⟩))
              | exact Rows.mono h (fun _ _ he => wpOpsS_mono hq rest he)
              | skip
          case recover =>
            cases hr : recoverD cs with
            | none => simp only [hr] at h ⊢; exact wpOpsS_mono hq rest h
            | some q => simp only [hr] at h ⊢; exact wpOpsS_mono hq rest h
        | halt x w' => cases x <;> simp only [Oper.upon] at h ⊢ <;> first | exact h | exact hq _ _ _ _ h
      · rename_i hw
        rw [if_neg hw] at h
        exact wpOpsS_mono hq rest h
theorem wpS_mono {c : Code} {Q Q' : Exit → Act → List Frame → World → Prop} (hq : ∀ e a cs w, Q e a cs w → Q' e a cs w) {a : Act} {cs : List Frame} {w : World} (h : c.wpS P Q a cs w) : c.wpS P Q' a cs w :=
  fun b k hb hr => let ⟨e, a', cs', w', q, r⟩ := h b k hb hr; ⟨e, a', cs', w', hq _ _ _ _ q, r⟩
theorem run_recover {o : Oper} {a : Act} {w : World} (h : isRec o.op = true) : (execOp a.eval o).run P w = .ok .recover w := by
  obtain ⟨dst, op, ty, pos, after, guard⟩ := o
  cases op <;> first | (simp only [isRec, Bool.false_eq_true] at h; done) | skip
  rename_i c
  obtain ⟨callee, args, ts⟩ := c
  cases callee <;> first | (simp only [isRec, Bool.false_eq_true] at h; done) | skip
  rename_i b
  cases b <;> first | (simp only [isRec, Bool.false_eq_true] at h; done) | rfl
theorem stepDops_ok (N : Named P) {c : Cfg} (hP : c.P = P) {rc : Rec} (G : Good P w0 rc) {ops : List Oper} {l : List Nat} {s : St} {m : Option V} {res : Res} (h : stepDops c rc ops l s m = some res) : GoodJ P w0 (.dops ops l s m) res := by
  intro ρ a w c₀ rest u S hm
  cases l with
  | nil => injection h with h; subst h; exact ⟨ρ, _, _, m, u, rfl, Rho.le_refl ρ, S.part, fun _ => S, trivial, hm, rfl⟩
  | cons i l =>
    have h : (match ops[i]? with
      | none => none
      | some o => bd (wants ops s.tm o.guard) (Bool.rec (bd (s.put o.dst (.t [])) fun s => rc (.dops ops l s m)) (bd (opA c.P s.tm s.h s.nx o.op) (afterDops rc ops l o s m))) : R Res) = some res := h
    unfold wpOpsS
    cases ho : ops[i]? with
    | none => simp only [ho, reduceCtorEq] at h
    | some o =>
      have ho' : ops.toArray[i]? = some o := by simpa using ho
      simp only [ho] at h
      simp only [ho']
      obtain ⟨b, h1, h2⟩ := bd_some.1 h
      have hw := wants_sound h1 S.tm
      cases b with
      | false =>
        rw [if_neg (by rw [hw]; simp)]
        obtain ⟨s', h3, h4⟩ := bd_some.1 h2
        exact G _ _ h4 ρ _ _ c₀ rest u (put_SR h3 S (VR.undef ρ)) hm
      | true =>
        rw [if_pos hw]
        obtain ⟨d, h3, h4⟩ := bd_some.1 h2
        rw [hP] at h3
        cases d <;> first | (simp only [afterDops, reduceCtorEq] at h4; done) | skip
        case recov =>
          obtain ⟨h5, h6⟩ := gd_some.1 h4
          rw [run_recover h5]
          cases m with
          | none =>
            obtain ⟨s', h7, h8⟩ := bd_some.1 h6
            have hrec : recoverD ({ c₀ with mode := u } :: rest) = none := by
              rcases hm with rfl | ⟨x, rfl⟩ <;> rfl
            simp only [hrec]
            exact G _ _ h8 ρ _ _ c₀ rest u (put_SR h7 S .x0) hm
          | some v =>
            obtain ⟨s', h7, h8⟩ := bd_some.1 h6
            obtain ⟨x, rfl, hx⟩ := hm
            have hrec : recoverD ({ c₀ with mode := .panicking [{ v := x, recovered := false }] } :: rest) = some (x, { c₀ with mode := .panicking [{ v := x, recovered := true }] } :: rest) := rfl
            simp only [hrec]
            exact G _ _ h8 ρ _ _ c₀ rest _ (put_SR h7 S hx) (.inr ⟨x, rfl⟩)
        all_goals have D := op_ok N o ρ s.tm s.h s.nx a w _ h3 S.tm S.inv rfl
        case val v =>
          obtain ⟨x, hr, hv⟩ := D
          rw [hr]
          obtain ⟨s', h7, h8⟩ := bd_some.1 h4
          exact G _ _ h8 ρ _ _ c₀ rest u (put_SR h7 S hv) hm
        case new v ob =>
          obtain ⟨x, w', cc, hr, I, hv⟩ := D
          rw [hr]
          have hle := le_put' S.inv cc
          obtain ⟨s', h7, h8⟩ := bd_some.1 h4
          have S' : SR P w0 (ρ.put s.nx cc) ⟨s.tm, s.h.set s.nx ob, Nat.succ s.nx, s.nt, s.ds⟩ a w' := ⟨I, S.tm.mono hle, S.nt, S.ds.mono hle⟩
          exact wpOpsS_mono (fun _ _ _ _ => PostS.mono hle) _ (G _ _ h8 _ _ _ c₀ rest u (put_SR h7 S' hv) (hm.mono hle))
        case set b ob =>
          obtain ⟨w', hr, I⟩ := D
          rw [hr]
          obtain ⟨s', h7, h8⟩ := bd_some.1 h4
          have S' : SR P w0 ρ ⟨s.tm, s.h.set b ob, s.nx, s.nt, s.ds⟩ a w' := ⟨I, S.tm, S.nt, S.ds⟩
          exact G _ _ h8 ρ _ _ c₀ rest u (put_SR h7 S' (VR.undef ρ)) hm
theorem plainly_ok {rc : Rec} (G : Good P w0 rc) {co : Code} {s : St} {m : Option V} {res : Res} (h : bd (rc (.code co s)) (plainly m) = some res) : GoodJ P w0 (.dcode co s m) res := by
  intro ρ a w c₀ rest u S hm
  obtain ⟨r, h1, h2⟩ := bd_some.1 h
  refine wpS_of_wp (wp_mono (G _ _ h1 ρ a w S) fun e a' w' he => ?_)
  obtain ⟨ρ', o, s', rfl, hle, S', S'', ho⟩ := he
  injection h2 with h2
  subst h2
  exact ⟨ρ', o, s', m, u, rfl, hle, S', S'', ho, hm.mono hle, rfl⟩
theorem stepDcode_ok {c : Cfg} {rc : Rec} (G : Good P w0 rc) {co : Code} {s : St} {m : Option V} {res : Res} (h : stepDcode c rc co s m = some res) : GoodJ P w0 (.dcode co s m) res := by
  cases co with
  | region id ops d =>
    cases d with
    | true => exact plainly_ok G h
    | false =>
      intro ρ a w c₀ rest u S hm
      refine wpS_region ?_
      have := G _ _ h ρ a w c₀ rest u S hm
      simpa using this
  | seq x y =>
    intro ρ a w c₀ rest u S hm
    obtain ⟨r, h1, h2⟩ := bd_some.1 h
    refine wpS_seq (wpS_mono (fun e a' cs' w' he => ?_) (G _ _ h1 ρ a w c₀ rest u S hm))
    obtain ⟨ρ', o, s', m', u', rfl, hle, S', S'', ho, hm', rfl⟩ := he
    cases o with
    | norm =>
      cases e <;> first | exact ho.elim | skip
      exact wpS_mono (fun _ _ _ _ => PostS.mono hle) (G _ _ h2 ρ' a' w' c₀ rest u' (S'' rfl) hm')
    | exit id => cases e <;> first | exact ho.elim | (injection h2 with h2; subst h2; exact ⟨ρ', _, _, m', u', rfl, hle, S', S'', ho, hm', rfl⟩)
    | ret => cases e <;> first | exact ho.elim | (injection h2 with h2; subst h2; exact ⟨ρ', _, _, m', u', rfl, hle, S', S'', ho, hm', rfl⟩)
    | pan v => cases e <;> first | exact ho.elim | (injection h2 with h2; subst h2; exact ⟨ρ', _, _, m', u', rfl, hle, S', S'', ho, hm', rfl⟩)
  | cond x y z =>
    intro ρ a w c₀ rest u S hm
    obtain ⟨v, h1, h2⟩ := bd_some.1 h
    have hv := evalO_sound (a := a) S.tm h1
    cases v <;> first | (cases h2; done) | skip
    rename_i t
    have hx : a.eval x = .bool t := by
      generalize a.eval x = u at hv
      cases hv; rfl
    refine wpS_cond hx ?_
    cases t
    · exact G _ _ h2 ρ a w c₀ rest u S hm
    · exact G _ _ h2 ρ a w c₀ rest u S hm
  | _ => exact plainly_ok G h
theorem stepDcall_ok {c : Cfg} (hP : c.P = P) {rc : Rec} (G : Good P w0 rc) {f : FuncId} {args : List V} {h : T AObj} {nx : Nat} {m : Option V} {res : Res} (hs : stepDcall c rc f args h nx m = some res) : GoodJ P w0 (.dcall f args h nx m) res := by
  unfold stepDcall fnOf at hs
  rw [hP] at hs
  cases hf : P.funcs.toList[f]? with
  | none => simp only [hf, reduceCtorEq] at hs
  | some fn =>
    simp only [hf] at hs
    cases hb : fn.body with
    | none => simp only [hb, reduceCtorEq] at hs
    | some b =>
      simp only [hb] at hs
      obtain ⟨h1, h2⟩ := gd_some.1 hs
      obtain ⟨r, h3, h4⟩ := bd_some.1 h2
      intro ρ xs w u I hv hm
      refine callsD_of_wpS (c := b) (by simpa using hf) hb fun c₀ cs hu => ?_
      have hc : ({ c₀ with mode := u } : Frame) = c₀ := by subst hu; rfl
      have := G _ _ h3 ρ _ w c₀ cs u (start_SR I hv (ble_true.1 h1)) hm
      rw [hc] at this
      refine wpS_mono (fun e a' cs' w' he => ?_) this
      obtain ⟨ρ', o, s', m', u', rfl, hle, S', S'', ho, hm', rfl⟩ := he
      have fin : (bd (finCall P fn s') fun _ => (match s'.ds with | [] => some (.back m' s'.h s'.nx) | _ => none) : R Res) = some res → a'.defers = [] ∧ ∃ v, (results fn a'.tmps).run P w' = .ok v w' ∧ DPost w0 ρ res (.returned v) u' w' := by
        intro hq
        obtain ⟨r, h5, h6⟩ := bd_some.1 hq
        obtain ⟨v, x, _, h7, _⟩ := finCall_ok S'.inv S'.tm h5
        cases hds : s'.ds with
        | cons q l => rw [hds] at h6; simp only [reduceCtorEq] at h6
        | nil =>
          rw [hds] at h6
          injection h6 with h6
          have hD := S'.ds
          rw [hds] at hD
          refine ⟨?_, x, h7, ρ', m', _, _, h6.symm, hle, S'.inv, hm'⟩
          cases hdd : a'.defers with
          | nil => rfl
          | cons d l => rw [hdd] at hD; exact hD.elim
      cases o with
      | norm =>
        cases e <;> first | exact ho.elim | skip
        obtain ⟨h5, v, h6, h7⟩ := fin h4
        exact ⟨h5, u', rfl, v, h6, h7⟩
      | ret =>
        cases e <;> first | exact ho.elim | skip
        obtain ⟨h5, v, h6, h7⟩ := fin h4
        exact ⟨h5, u', rfl, v, h6, h7⟩
      | exit id => simp only [afterDcall, reduceCtorEq] at h4
      | pan v => simp only [afterDcall, reduceCtorEq] at h4
/-- what the evaluator tells is so, at beginnings of a kind -/
theorem ev_soundK {K : Base → Prop} (hK : ∀ w0 X, K w0 → K (w0.more X)) (N : Named P) (hm : P.follows .mixedOrders = true) {c : Cfg} (hP : c.P = P)
    (hext : ∀ w0, K w0 → ∀ f e, c.ext f = some e → ∀ args h nx r, e args h nx = some r → GoodJ P w0 (.call f args h nx) (.got r.1 r.2.1 r.2.2)) : ∀ n w0, K w0 → Good P w0 (ev c n)
  | 0, w0, _ => fun j res h => by cases h
  | n + 1, w0, k => fun j res h => by
    have G := fun w0 k => ev_soundK hK N hm hP hext n w0 k
    have h : step c (ev c n) j = some res := h
    cases j with
    | ops ops l s => exact stepOps_ok N hP (G w0 k) h
    | dr ops pl tp s => exact stepDr_ok N hP (G w0 k) (fun X => G _ (hK w0 X k)) h
    | code co s => exact stepCode_ok hP (G w0 k) (fun id ops pl s res ρ a w h1 h2 S => drawn_ok N hm (G w0 k) id ops pl s res ρ a w h1 h2 S) h
    | loop co s => exact round_ok (G w0 k) h
    | call f args hh nx => exact stepCall_ok hP (hext w0 k) (G w0 k) h
    | dops ops l s m => exact stepDops_ok N hP (G w0 k) h
    | dcode co s m => exact stepDcode_ok (c := c) (G w0 k) h
    | dcall f args hh nx m => exact stepDcall_ok hP (G w0 k) h
/-- what the evaluator tells is so -/
theorem ev_sound (N : Named P) (hm : P.follows .mixedOrders = true) {c : Cfg} (hP : c.P = P) (hext : ∀ w0, ∀ f e, c.ext f = some e → ∀ args h nx r, e args h nx = some r → GoodJ P w0 (.call f args h nx) (.got r.1 r.2.1 r.2.2)) (n : Nat) (w0 : Base) : Good P w0 (ev c n) :=
  ev_soundK (K := fun _ => True) (fun _ _ _ => trivial) N hm hP (fun w0 _ => hext w0) n w0 trivial
end
end Go.Proofs.Ev
