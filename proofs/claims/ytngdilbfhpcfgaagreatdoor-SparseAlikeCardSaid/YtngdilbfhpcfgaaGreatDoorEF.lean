/- Joints between runs of the evaluator, and functions that it does not run itself. -/
import Derived.Test.YtngdilbfhpcfgaaGreatDoorEE
import Derived.Below
import Derived.Test.YtngdilbfhpcfgaaGreatDoorEA
import Derived.Laws.AppendOwn
import Derived.Lib.ParseIntB
import Derived.Lib.ItoaNum
import Derived.Lib.Join
import Derived.Lib.Builder
set_option linter.unusedSimpArgs false
set_option linter.unusedVariables false
/- What code says from a state that is written down: the joints between runs of the evaluator. -/
set_option linter.unusedVariables false
namespace Go.Proofs.Ev
open Go
noncomputable section
/-- a state, written down: names, rows -/
def mkT {α : Type} (l : List (Nat × α)) : T α := List.rec .e (fun p _ ih => ih.set p.1 p.2) l
def mkH (l : List (Nat × List V)) : T AObj := List.rec .e (fun p _ ih => ih.set p.1 (mkRow p.2)) l
def stOf (tm : List (Nat × V)) (hl : List (Nat × List V)) (nx nt : Nat) : St := ⟨mkT tm, mkH hl, nx, nt, []⟩
/-- a row has these cells -/
def hasRow (h : T AObj) (b : Nat) (cs : List V) : Bool :=
  match h.get b with
  | some (.row c size) => Bool.and (Nat.ble (lenL cs) size) (match getCells c (lenL cs) 0 with | some l => eqNs l cs | none => false)
  | _ => false
/-- a state has at least what is written down -/
def covers (s : St) (tm : List (Nat × V)) (hl : List (Nat × List V)) (nx nt : Nat) : Bool :=
  Bool.and (allL (fun p : Nat × V => match s.tm.get p.1 with | some v => eqVV v p.2 | none => false) tm)
  (Bool.and (allL (fun p : Nat × List V => Bool.and (hasRow s.h p.1 p.2) (Nat.ble (Nat.succ p.1) nx)) hl)
  (Bool.and (Nat.ble s.nx nx) (Bool.and (Nat.ble nt s.nt) (match s.ds with | [] => true | _ => false))))
def endsNorm (r : R Res) (tm : List (Nat × V)) (hl : List (Nat × List V)) (nx nt : Nat) : Bool :=
  match r with
  | some (.out .norm s) => covers s tm hl nx nt
  | _ => false
end
section
variable {P : Program} {w0 : Base}
theorem mkT_get {α : Type} : ∀ {l : List (Nat × α)} {k : Nat} {v : α}, (mkT l).get k = some v → (k, v) ∈ l
  | [], k, v, h => by
    have h : (T.e : T α).get k = some v := h
    rw [T.get_e] at h; cases h
  | p :: l, k, v, h => by
    have h : ((mkT l).set p.1 p.2).get k = some v := h
    rw [T.get_set] at h
    split at h
    · rename_i q; injection h with h; subst h; subst q; exact .head _
    · exact .tail _ (mkT_get h)
theorem mkH_get : ∀ {l : List (Nat × List V)} {k : Nat} {ob : AObj}, (mkH l).get k = some ob → ∃ cs, (k, cs) ∈ l ∧ ob = mkRow cs
  | [], k, ob, h => by
    have h : (T.e : T AObj).get k = some ob := h
    rw [T.get_e] at h; cases h
  | p :: l, k, ob, h => by
    have h : ((mkH l).set p.1 (mkRow p.2)).get k = some ob := h
    rw [T.get_set] at h
    split at h
    · rename_i q; injection h with h9; subst q; exact ⟨p.2, .head _, h9.symm⟩
    · obtain ⟨cs, h1, h2⟩ := mkH_get h
      exact ⟨cs, .tail _ h1, h2⟩
theorem covers_ok {s : St} {tm : List (Nat × V)} {hl : List (Nat × List V)} {nx nt : Nat} (h : covers s tm hl nx nt = true) {ρ : Rho} {a : Act} {w : World} (S : SR P w0 ρ s a w) : SR P w0 ρ (stOf tm hl nx nt) a w := by
  unfold covers at h
  simp only [Bool.and_eq_true] at h
  obtain ⟨h1, h2, h3, h4, h5⟩ := h
  have h3 := ble_true.1 h3
  have h4 := ble_true.1 h4
  have row : ∀ b cs, (b, cs) ∈ hl → ∃ c size, s.h.get b = some (.row c size) ∧ cs.length ≤ size ∧ (∀ j, j < cs.length → c.get j = cs[j]?) ∧ b < nx := fun b cs hm => by
    have := allL_iff.1 h2 (b, cs) hm
    rw [Bool.and_eq_true] at this
    obtain ⟨h6, h7⟩ := this
    unfold hasRow at h6
    cases hg : s.h.get b with
    | none => simp only [hg] at h6; cases h6
    | some ob =>
      cases ob with
      | map es => simp only [hg] at h6; cases h6
      | row c size =>
        simp only [hg, Bool.and_eq_true] at h6
        obtain ⟨h8, h9⟩ := h6
        have h8 := ble_true.1 h8
        rw [lenL_eq] at h8 h9
        cases hc : getCells c cs.length 0 with
        | none => simp only [hc] at h9; cases h9
        | some l =>
          simp only [hc] at h9
          have := eqNs_ok h9
          subst this
          obtain ⟨_, h10⟩ := getCells_some c l.length 0 l hc
          exact ⟨c, size, rfl, h8, fun j hj => by have := h10 j hj; rwa [Nat.zero_add] at this, ble_true.1 h7⟩
  refine ⟨⟨S.inv.size, S.inv.old, S.inv.os, S.inv.output, S.inv.tape, S.inv.own, fun x y c z z' hx hy e e' => ?_, fun b hb => ⟨(S.inv.new b (Nat.le_trans h3 hb)).1, ?_⟩, fun b ob cb sz hb e => ?_, fun b hb => ⟨Nat.lt_of_lt_of_le (S.inv.gone b hb).1 h3, (S.inv.gone b hb).2⟩⟩, fun t v hv => ?_, Nat.le_trans h4 S.nt, ?_⟩
  · refine S.inv.inj x y c z z' ?_ ?_ e e'
    · cases q : (mkH hl).get x with
      | none => exact absurd q hx
      | some o => obtain ⟨cs, h6, _⟩ := mkH_get q; obtain ⟨c', s', h7, _⟩ := row x cs h6; simp [h7]
    · cases q : (mkH hl).get y with
      | none => exact absurd q hy
      | some o => obtain ⟨cs, h6, _⟩ := mkH_get q; obtain ⟨c', s', h7, _⟩ := row y cs h6; simp [h7]
  · cases q : (mkH hl).get b with
    | none => exact q
    | some o => obtain ⟨cs, h6, _⟩ := mkH_get q; obtain ⟨_, _, _, _, _, h7⟩ := row b cs h6; have hb : nx ≤ b := hb; omega
  · obtain ⟨cs, h6, rfl⟩ := mkH_get hb
    obtain ⟨c, size, h7, h8, h9, _⟩ := row b cs h6
    obtain ⟨cur, el, h10, h11, h12, h13⟩ := S.inv.obj b _ cb sz h7 e
    have h14 : lenL cs ≤ sz := by rw [lenL_eq]; omega
    refine ⟨cur, el, h10, h11, h14, fun o v ho hv => ?_⟩
    rw [lenL_eq] at ho
    rw [get_setCells, if_pos (by omega), Nat.sub_zero] at hv
    exact h13 o v (by omega) (by rw [h9 o ho]; exact hv)
  · have hm := mkT_get hv
    have := allL_iff.1 h1 (t, v) hm
    cases q : s.tm.get t with
    | none => simp only [q] at this; cases this
    | some u =>
      simp only [q] at this
      rw [← eqVV_ok this]
      exact S.tm t u q
  · have hD := S.ds
    cases q : s.ds with
    | nil => rw [q] at hD; exact hD
    | cons d l => rw [q] at h5; cases h5

/-- code, from a state that is written down, comes to its end with what is written down -/
def Says (P : Program) (co : Code) (s s' : St) : Prop := ∀ w0 ρ a w, SR P w0 ρ s a w → co.wp P (Exit.then (fun a w => ∃ ρ', ρ.le ρ' ∧ SR P w0 ρ' s' a w) (fun _ _ _ => False)) a w
theorem says_of {co : Code} {c : Cfg} (hG : ∀ n w0, Good P w0 (ev c n)) {n : Nat} {s : St} {tm : List (Nat × V)} {hl : List (Nat × List V)} {nx nt : Nat} (h : endsNorm (ev c n (.code co s)) tm hl nx nt = true) : Says P co s (stOf tm hl nx nt) := by
  intro w0 ρ a w S
  unfold endsNorm at h
  cases hr : ev c n (.code co s) with
  | none => rw [hr] at h; cases h
  | some r =>
    rw [hr] at h
    cases r <;> first | (simp only [Bool.false_eq_true] at h; done) | skip
    rename_i o s'
    cases o <;> first | (simp only [Bool.false_eq_true] at h; done) | skip
    refine wp_mono (hG n w0 _ _ hr ρ a w S) fun e a' w' he => ?_
    obtain ⟨ρ', o, s'', hq, hle, _, S', ho⟩ := he
    injection hq with hq1 hq2
    subst hq1; subst hq2
    cases e <;> first | exact ho.elim | skip
    exact ⟨ρ', hle, covers_ok h (S' rfl)⟩
end
end Go.Proofs.Ev
/- Functions that the evaluator does not run itself: how a contract of theirs is used. -/
set_option linter.unusedVariables false
namespace Go.Proofs.Ev
open Go
section
variable {P : Program} {w0 : Base}
theorem Inv.below {ρ : Rho} {h : T AObj} {nx : Nat} {w w' : World} (I : Inv w0 ρ h nx w) (hb : RowKit.Below w.heap.size w w') : Inv w0 ρ h nx w' where
  size := Nat.le_trans I.size hb.size
  old k hk := by rw [hb.block k (by have := I.size; omega), I.old k hk]
  os := hb.os.trans I.os
  output := hb.output.trans I.output
  tape := hb.tape.trans I.tape
  own b cb sz e := let ⟨a, c⟩ := I.own b cb sz e; ⟨a, Nat.lt_of_lt_of_le c hb.size⟩
  inj := I.inj
  new := I.new
  obj b ob cb sz e e' := (I.obj b ob cb sz e e').mono (Rho.le_refl ρ) (hb.block cb (I.own b cb sz e').2)
  gone := I.gone
/-- a block of the world that no block of the run is, gets a name -/
theorem Inv.adopt {ρ : Rho} {h : T AObj} {nx : Nat} {w : World} (I : Inv w0 ρ h nx w) {g sz : Nat} {ob : AObj} (h0 : w0.heap.size ≤ g) (h1 : g < w.heap.size) (hg : ∀ b cb s, ρ b = some (cb, s) → cb ≠ g)
    (hob : OR (ρ.put nx (g, sz)) ob g sz w) : Inv w0 (ρ.put nx (g, sz)) (h.set nx ob) (nx + 1) w where
  size := I.size
  old := I.old
  os := I.os
  output := I.output
  tape := I.tape
  own b cb s e := by
    unfold Rho.put at e
    split at e
    · injection e with e; injection e with e1 e2; subst e1; exact ⟨h0, h1⟩
    · exact I.own b cb s e
  inj x y c s s' hx hy e e' := by
    rw [T.get_set] at hx hy
    unfold Rho.put at e e'
    split at e <;> split at e'
    · omega
    · injection e with e; injection e with e1 e2; subst e1; exact absurd rfl (hg _ _ _ e')
    · injection e' with e'; injection e' with e1 e2; subst e1; exact absurd rfl (hg _ _ _ e)
    · rename_i hxn hyn
      rw [if_neg hxn] at hx; rw [if_neg hyn] at hy
      exact I.inj x y c s s' hx hy e e'
  new x hx := by
    have hne : x ≠ nx := by omega
    unfold Rho.put
    rw [if_neg hne, T.get_set, if_neg hne]
    exact I.new x (by omega)
  obj x ob'' c s hx e := by
    have hle : ρ.le (ρ.put nx (g, sz)) := Rho.le_put (I.new nx (Nat.le_refl _)).1
    rw [T.get_set] at hx
    unfold Rho.put at e
    split at e
    · rename_i hxn; rw [if_pos hxn] at hx; injection hx with hx; subst hx; injection e with e; injection e with e1 e2; subst e1; subst e2; exact hob
    · rename_i hxn; rw [if_neg hxn] at hx
      exact (I.obj x ob'' c s hx e).mono hle rfl
  gone x hx := by
    have := I.gone x hx
    unfold Rho.put
    rw [if_neg (by omega)]
    exact ⟨by omega, this.2⟩
/-- a function that tells a value and leaves what was as it was -/
theorem ext_pure {f : FuncId} {args : List V} {h : T AObj} {nx : Nat} {v : V}
    (H : ∀ ρ (xs : Array Value) w, Inv w0 ρ h nx w → VRs ρ args xs.toList → ∃ u, Calls P f xs w (fun e w' => e = .returned u ∧ RowKit.Below w.heap.size w w') ∧ VR ρ v u) : GoodJ P w0 (.call f args h nx) (.got v h nx) := by
  intro ρ xs w I hv
  obtain ⟨u, h1, h2⟩ := H ρ xs w I hv
  refine Calls.mono h1 fun e w' he => ?_
  obtain ⟨rfl, hb⟩ := he
  exact ⟨ρ, v, h, nx, rfl, Rho.le_refl ρ, I.below hb, h2⟩
end
end Go.Proofs.Ev
/- Functions that the evaluator does not run itself: numbers as texts, rows that a function hands back. -/
set_option linter.unusedVariables false
namespace Go.Proofs.Ev
open Go
section
variable {P : Program} {w0 : Base}
theorem bytesU_enc : ∀ l : List UInt8, ∀ k, bytesU l.length (k * 256 ^ l.length + encL l) = l
  | [], k => rfl
  | b :: l, k => by
    have e : bytesU (b :: l).length (k * 256 ^ (b :: l).length + encL (b :: l)) = UInt8.ofNat (((k * 256 ^ (b :: l).length + encL (b :: l)) >>> (8 * l.length)) % 256) :: bytesU l.length (k * 256 ^ (b :: l).length + encL (b :: l)) := rfl
    have hb : b.toNat < 256 := b.toNat_lt
    have hp : 0 < 256 ^ l.length := Nat.pow_pos (by omega)
    have h1 : k * 256 ^ (b :: l).length + encL (b :: l) = (k * 256 + b.toNat) * 256 ^ l.length + encL l := by
      rw [encL_cons, List.length_cons, Nat.pow_succ, Nat.add_mul, Nat.mul_assoc, Nat.mul_comm 256]
      omega
    have h2 : ((k * 256 ^ (b :: l).length + encL (b :: l)) >>> (8 * l.length)) % 256 = b.toNat := by
      rw [h1, Nat.shiftRight_eq_div_pow, pow256, Nat.mul_comm _ (256 ^ l.length), Nat.mul_add_div hp, Nat.div_eq_of_lt (encL_lt l), Nat.add_zero, Nat.mul_comm k, Nat.mul_add_mod, Nat.mod_eq_of_lt hb]
    rw [e, h2, h1, bytesU_enc l]
    simp
theorem bytesU_of {s : ByteArray} {l n : Nat} (hl : l = s.size) (hn : n = encL s.data.toList) : bytesU l n = s.data.toList := by
  have := bytesU_enc s.data.toList 0
  rw [Nat.zero_mul, Nat.zero_add] at this
  subst hl; subst hn
  exact this
theorem VRs.li1 {ρ : Rho} {v : V} {xs : List Value} (h : VRs ρ [v] xs) : ∃ x, xs = [x] ∧ VR ρ v x := by
  cases h with
  | cons _ x _ us h1 h2 => cases h2; exact ⟨x, rfl, h1⟩
theorem VRs.li2 {ρ : Rho} {v u : V} {xs : List Value} (h : VRs ρ [v, u] xs) : ∃ x y, xs = [x, y] ∧ VR ρ v x ∧ VR ρ u y := by
  cases h with
  | cons _ x _ us h1 h2 => obtain ⟨y, rfl, h3⟩ := h2.li1; exact ⟨x, y, rfl, h1, h3⟩
theorem VRs.li3 {ρ : Rho} {v u t : V} {xs : List Value} (h : VRs ρ [v, u, t] xs) : ∃ x y z, xs = [x, y, z] ∧ VR ρ v x ∧ VR ρ u y ∧ VR ρ t z := by
  cases h with
  | cons _ x _ us h1 h2 => obtain ⟨y, z, rfl, h3⟩ := h2.li2; exact ⟨x, y, z, rfl, h1, h3⟩
theorem VR.nat (ρ : Rho) (k : IntKind) (n : Nat) (z : Int) (h : z = n) : VR ρ (.i k (Nat.add n off)) (.int k z) := by
  subst h
  refine .i _ _ _ ?_
  show (n : Int) = ((n + 9223372036854775808 : Nat) : Int) - 9223372036854775808
  omega
theorem VR.int_inv {ρ : Rho} {k : IntKind} {n : Nat} {u : Value} (h : VR ρ (.i k n) u) : u = .int k ((n : Int) - 9223372036854775808) := by
  cases h with | i _ _ z h => rw [h]
theorem VR.str_inv {ρ : Rho} {l n : Nat} {u : Value} (h : VR ρ (.s l n) u) : ∃ s : ByteArray, u = .string s ∧ l = s.size ∧ n = encL s.data.toList := by
  cases h with | s s _ _ hl hn => exact ⟨s, rfl, hl, hn⟩
theorem VR.str (ρ : Rho) (l : List UInt8) : VR ρ (.s l.length (encL l)) (.string ⟨l.toArray⟩) := .s _ _ _ (by simp [ByteArray.size]) (by simp)
/-- a row that a function made -/
theorem adopt_row {ρ : Rho} {h : T AObj} {nx : Nat} {w w' : World} (I : Inv w0 ρ h nx w) (hb : RowKit.Below w.heap.size w w') {e : TypeId} {size n : Nat} {v : Value} {xs : List Value} (ho : w'.ownsRow w.heap.size e size v (n + 1) xs) {vs : List V} (hv : VRs ρ vs xs) :
    ∃ c, Inv w0 (ρ.put nx c) (h.set nx (mkRow vs)) (nx + 1) w' ∧ VR (ρ.put nx c) (.l nx 0 size (n + 1)) v := by
  obtain ⟨hlen, ho⟩ := ho
  rcases ho with ⟨_, h0⟩ | ⟨g, cap, cur, rfl, h1, h2, h3, h4, h5, h6⟩
  · omega
  · have I' := I.below hb
    have hle : ρ.le (ρ.put nx (g, cap * size)) := Rho.le_put (I.new nx (Nat.le_refl _)).1
    have hgl : g < w'.heap.size := (Array.getElem?_eq_some_iff.1 h2).1
    have hcap : (n + 1) * size ≤ cap * size := Nat.mul_le_mul_right _ h3
    refine ⟨(g, cap * size), I'.adopt (Nat.le_trans I.size h1) hgl (fun b cb s q => ?_) ?_, .l _ _ _ _ _ _ _ _ (by unfold Rho.put; rw [if_pos rfl]) h3 (by omega) (.inl rfl)⟩
    · have := (I.own b cb s q).2
      omega
    · have hvl : vs.length = (n + 1) * size := by rw [hv.length, hlen]
      refine ⟨cur, e, h2, h5, by rw [lenL_eq, hvl]; exact hcap, fun o u hu hg => ?_⟩
      rw [lenL_eq] at hu
      rw [get_setCells, if_pos (by omega), Nat.sub_zero] at hg
      obtain ⟨x, q1, q2⟩ := hv.get hg
      refine ⟨x, ?_, q2.mono hle⟩
      rw [← h6, List.getElem?_take] at q1
      rw [hvl] at hu
      rw [if_pos hu] at q1
      simpa using q1
end
end Go.Proofs.Ev
/- Plain laws of the library's functions that the evaluator does not run itself. -/
set_option linter.unusedVariables false
namespace Go.Proofs.Ev
open Go
theorem decN_ok : ∀ (l : List UInt8) (a u : Nat), decN l a = some u → a ≤ u ∧ (u ≤ 999999999999999999 → Lib.parseUintM (2 ^ 64 - 1) a l = .ok u)
  | [], a, u, h => by
    have h : some a = some u := h
    injection h with h; subst h
    exact ⟨Nat.le_refl _, fun _ => rfl⟩
  | b :: l, a, u, h => by
    have h : gd (Nat.ble 48 b.toNat) (gd (Nat.ble b.toNat 57) (decN l (Nat.add (Nat.mul a 10) (Nat.sub b.toNat 48)))) = some u := h
    obtain ⟨h1, h⟩ := gd_some.1 h
    obtain ⟨h2, h⟩ := gd_some.1 h
    have h1 := ble_true.1 h1
    have h2 := ble_true.1 h2
    obtain ⟨h3, h4⟩ := decN_ok l _ u h
    have e : Nat.add (Nat.mul a 10) (Nat.sub b.toNat 48) = a * 10 + (b.toNat - 48) := rfl
    rw [e] at h3 h4
    refine ⟨by omega, fun hu => ?_⟩
    unfold Lib.parseUintM
    rw [if_pos ⟨h1, h2⟩, if_neg (by omega), if_neg (by omega)]
    exact h4 hu
theorem decN_int {l : List UInt8} {u : Nat} (h : decN l 0 = some u) (hl : l ≠ []) (hu : u ≤ 999999999999999999) : Lib.parseIntB 64 l = .ok (u : Int) := by
  cases l with
  | nil => exact absurd rfl hl
  | cons c r =>
    have h1 := (decN_ok _ _ _ h).2 hu
    have h' : gd (Nat.ble 48 c.toNat) (gd (Nat.ble c.toNat 57) (decN r (Nat.add (Nat.mul 0 10) (Nat.sub c.toNat 48)))) = some u := h
    obtain ⟨h2, h'⟩ := gd_some.1 h'
    obtain ⟨h3, _⟩ := gd_some.1 h'
    have h2 := ble_true.1 h2
    have h3 := ble_true.1 h3
    unfold Lib.parseIntB
    have n1 : ¬ c.toNat = 45 := by omega
    have n2 : ¬ (c.toNat = 43 ∨ c.toNat = 45) := by omega
    simp only [n2, if_false]
    have e : Lib.parseUintB 64 (c :: r) = .ok u := by
      unfold Lib.parseUintB
      rw [if_neg (by simp)]
      exact h1
    rw [e]
    simp only [n1, not_false_eq_true, true_and, false_and, if_false]
    rw [if_neg (by omega)]
theorem decN_big : ∀ (l : List UInt8) (a u : Nat), decN l a = some u → a ≤ u ∧ (u ≤ 18446744073709551615 → Lib.parseUintM (2 ^ 64 - 1) a l = .ok u)
  | [], a, u, h => by
    have h : some a = some u := h
    injection h with h; subst h
    exact ⟨Nat.le_refl _, fun _ => rfl⟩
  | b :: l, a, u, h => by
    have h : gd (Nat.ble 48 b.toNat) (gd (Nat.ble b.toNat 57) (decN l (Nat.add (Nat.mul a 10) (Nat.sub b.toNat 48)))) = some u := h
    obtain ⟨h1, h⟩ := gd_some.1 h
    obtain ⟨h2, h⟩ := gd_some.1 h
    have h1 := ble_true.1 h1
    have h2 := ble_true.1 h2
    obtain ⟨h3, h4⟩ := decN_big l _ u h
    have e : Nat.add (Nat.mul a 10) (Nat.sub b.toNat 48) = a * 10 + (b.toNat - 48) := rfl
    rw [e] at h3 h4
    refine ⟨by omega, fun hu => ?_⟩
    unfold Lib.parseUintM
    rw [if_pos ⟨h1, h2⟩, if_neg (by omega), if_neg (by omega)]
    exact h4 hu
theorem decN_range {l : List UInt8} {u : Nat} (h : decN l 0 = some u) (hl : l ≠ []) (hu : 9223372036854775808 ≤ u) (hu' : u ≤ 18446744073709551615) : Lib.parseIntB 64 l = .range ∧ Lib.intSat 64 l = 9223372036854775807 := by
  cases l with
  | nil => exact absurd rfl hl
  | cons c r =>
    have h1 := (decN_big _ _ _ h).2 hu'
    have h' : gd (Nat.ble 48 c.toNat) (gd (Nat.ble c.toNat 57) (decN r (Nat.add (Nat.mul 0 10) (Nat.sub c.toNat 48)))) = some u := h
    obtain ⟨h2, h'⟩ := gd_some.1 h'
    obtain ⟨h3, _⟩ := gd_some.1 h'
    have h2 := ble_true.1 h2
    have h3 := ble_true.1 h3
    have n1 : ¬ c.toNat = 45 := by omega
    have n2 : ¬ (c.toNat = 43 ∨ c.toNat = 45) := by omega
    constructor
    · unfold Lib.parseIntB
      simp only [n2, if_false]
      have e : Lib.parseUintB 64 (c :: r) = .ok u := by
        unfold Lib.parseUintB
        rw [if_neg (by simp)]
        exact h1
      rw [e]
      simp only [n1, not_false_eq_true, true_and]
      rw [if_pos (by omega)]
    · unfold Lib.intSat
      rw [if_neg (by simpa using n1)]
      decide
theorem digit_ok {i : Nat} (h : i ≤ 9) : Lib.decDigits i = [UInt8.ofNat (48 + i)] := by
  unfold Lib.decDigits
  rw [dif_pos (by omega)]
theorem enc_digit {i : Nat} (h : i ≤ 9) : encL [UInt8.ofNat (48 + i)] = 48 + i := by
  have : (UInt8.ofNat (48 + i)).toNat = 48 + i := by simp; omega
  rw [encL_cons, this]
  have : encL [] = 0 := rfl
  rw [this]
  simp
theorem joinR_ok {ρ : Rho} {sep : List UInt8} : ∀ {cs : List V} {us : List Value} {l n : Nat} {q : Nat × Nat}, VRs ρ cs us → joinR sep.length (encL sep) cs l n = some q →
    ∃ xs : List ByteArray, us = xs.map Value.string ∧ ∀ acc : List UInt8, l = acc.length → n = encL acc → q.1 = (acc ++ Lib.joinTail sep (xs.map (·.data.toList))).length ∧ q.2 = encL (acc ++ Lib.joinTail sep (xs.map (·.data.toList)))
  | _, _, l, n, q, .nil, h => by
    have h : some (l, n) = some q := h
    injection h with h; subst h
    refine ⟨[], rfl, fun acc h1 h2 => ?_⟩
    subst h1; subst h2
    simp [Lib.joinTail]
  | _, _, l, n, q, .cons v u vs us hv hvs, h => by
    cases hv <;> first | (have h : (none : R (Nat × Nat)) = some q := h; cases h; done) | skip
    rename_i s sl sn hsl hsn
    have h : joinR sep.length (encL sep) vs (Nat.add (Nat.add l sep.length) sl) (Nat.add (Nat.mul (Nat.add (Nat.mul n (Nat.pow 256 sep.length)) (encL sep)) (Nat.pow 256 sl)) sn) = some q := h
    obtain ⟨xs, rfl, hx⟩ := joinR_ok hvs h
    refine ⟨s :: xs, rfl, fun acc h1 h2 => ?_⟩
    have hs : sl = s.data.toList.length := hsl.trans Array.length_toList.symm
    have q1 : Nat.add (Nat.add l sep.length) sl = (acc ++ sep ++ s.data.toList).length := by
      rw [List.length_append, List.length_append, ← hs, h1]; rfl
    have q2 : Nat.add (Nat.mul (Nat.add (Nat.mul n (Nat.pow 256 sep.length)) (encL sep)) (Nat.pow 256 sl)) sn = encL (acc ++ sep ++ s.data.toList) := by
      rw [encL_append, encL_append, ← hs, h2, ← hsn]; rfl
    have := hx (acc ++ sep ++ s.data.toList) q1 q2
    have e : Lib.joinTail sep ((s :: xs).map (·.data.toList)) = sep ++ s.data.toList ++ Lib.joinTail sep (xs.map (·.data.toList)) := by simp [Lib.joinTail]
    rw [e]
    simp only [List.append_assoc] at this ⊢
    exact this
theorem VRs.get' {ρ : Rho} {vs : List V} {us : List Value} (h : VRs ρ vs us) {i : Nat} {u : Value} (hu : us[i]? = some u) : ∃ v, vs[i]? = some v ∧ VR ρ v u := by
  have hi : i < us.length := (List.getElem?_eq_some_iff.1 hu).1
  rw [← h.length] at hi
  obtain ⟨u', h1, h2⟩ := h.get (List.getElem?_eq_getElem hi)
  rw [hu] at h1; injection h1 with h1; subst h1
  exact ⟨_, List.getElem?_eq_getElem hi, h2⟩
end Go.Proofs.Ev
/- Joints: code, run piece by piece. -/
set_option linter.unusedVariables false
namespace Go.Proofs.Ev
open Go
noncomputable section
def lft : Code → Code
  | .seq a _ => a
  | c => c
def rgt : Code → Code
  | .seq _ b => b
  | c => c
def inB : Code → Code
  | .block _ b => b
  | c => c
def inL : Code → Code
  | .loop b => b
  | c => c
def isSeq : Code → Bool
  | .seq _ _ => true
  | _ => false
def isBlock (id : Nat) : Code → Bool
  | .block j _ => Nat.beq j id
  | _ => false
def isLoop : Code → Bool
  | .loop _ => true
  | _ => false
def bodyOf (fn : Func) : Code := match fn.body with | some b => b | none => .skip
def outB (o : Out) (o' : Out) : Bool :=
  match o with
  | .norm => (match o' with | .norm => true | _ => false)
  | .ret => (match o' with | .ret => true | _ => false)
  | .exit i => (match o' with | .exit j => Nat.beq i j | _ => false)
  | _ => false
/-- a run ends so, with at least what is written down -/
def endsAs (o : Out) (r : R Res) (tm : List (Nat × V)) (hl : List (Nat × List V)) (nx nt : Nat) : Bool :=
  match r with
  | some (.out o' s) => Bool.and (outB o o') (covers s tm hl nx nt)
  | _ => false
def tells (r : R Res) (v : V) : Bool :=
  match r with
  | some (.got u _ _) => eqVV u v
  | _ => false
end
section
variable {P : Program} {w0 : Base}
theorem outB_ok {o o' : Out} (h : outB o o' = true) : o' = o ∧ isPan o = false := by
  cases o <;> cases o' <;> simp only [outB, Bool.false_eq_true] at h <;> first | exact ⟨rfl, rfl⟩ | skip
  exact ⟨by rw [beq_true.1 h], rfl⟩
theorem good_cover {j : Job} {o : Out} {s : St} {tm : List (Nat × V)} {hl : List (Nat × List V)} {nx nt : Nat} (hc : covers s tm hl nx nt = true) (ho : isPan o = false) {co : Code} {s0 : St} :
    (GoodJ P w0 (.code co s0) (.out o s) → GoodJ P w0 (.code co s0) (.out o (stOf tm hl nx nt))) ∧ (GoodJ P w0 (.loop co s0) (.out o s) → GoodJ P w0 (.loop co s0) (.out o (stOf tm hl nx nt))) := by
  have key : ∀ ρ e a w, Post P w0 ρ (.out o s) e a w → Post P w0 ρ (.out o (stOf tm hl nx nt)) e a w := fun ρ e a w he => by
    obtain ⟨ρ', o', s', hq, hle, _, S', hoo⟩ := he
    injection hq with hq1 hq2
    subst hq1; subst hq2
    have S := covers_ok hc (S' ho)
    exact ⟨ρ', _, _, rfl, hle, S.part, fun _ => S, hoo⟩
  exact ⟨fun h ρ a w S => wp_mono (h ρ a w S) fun e a w he => key ρ e a w he, fun h ρ a w S b k cs => let ⟨e, a', w', q, r⟩ := h ρ a w S b k cs; ⟨e, a', w', key ρ e a' w' q, r⟩⟩
theorem ends_code {c : Cfg} (hG : ∀ n w0, Good P w0 (ev c n)) {n : Nat} {co : Code} {s : St} {o : Out} {tm : List (Nat × V)} {hl : List (Nat × List V)} {nx nt : Nat} (h : endsAs o (ev c n (.code co s)) tm hl nx nt = true) : GoodJ P w0 (.code co s) (.out o (stOf tm hl nx nt)) := by
  unfold endsAs at h
  cases hr : ev c n (.code co s) with
  | none => rw [hr] at h; cases h
  | some r =>
    rw [hr] at h
    cases r <;> first | (simp only [Bool.false_eq_true] at h; done) | skip
    rename_i o' s'
    simp only [Bool.and_eq_true] at h
    obtain ⟨h1, h2⟩ := h
    obtain ⟨rfl, h3⟩ := outB_ok h1
    exact (good_cover (j := .code co s) h2 h3).1 (hG n w0 _ _ hr)
theorem ends_loop {c : Cfg} (hG : ∀ n w0, Good P w0 (ev c n)) {n : Nat} {co : Code} {s : St} {o : Out} {tm : List (Nat × V)} {hl : List (Nat × List V)} {nx nt : Nat} (h : endsAs o (ev c n (.loop co s)) tm hl nx nt = true) : GoodJ P w0 (.loop co s) (.out o (stOf tm hl nx nt)) := by
  unfold endsAs at h
  cases hr : ev c n (.loop co s) with
  | none => rw [hr] at h; cases h
  | some r =>
    rw [hr] at h
    cases r <;> first | (simp only [Bool.false_eq_true] at h; done) | skip
    rename_i o' s'
    simp only [Bool.and_eq_true] at h
    obtain ⟨h1, h2⟩ := h
    obtain ⟨rfl, h3⟩ := outB_ok h1
    exact (good_cover (j := .code co s) h2 h3).2 (hG n w0 _ _ hr)
theorem ends_codeK {c : Cfg} (hG : ∀ n, Good P w0 (ev c n)) {n : Nat} {co : Code} {s : St} {o : Out} {tm : List (Nat × V)} {hl : List (Nat × List V)} {nx nt : Nat} (h : endsAs o (ev c n (.code co s)) tm hl nx nt = true) : GoodJ P w0 (.code co s) (.out o (stOf tm hl nx nt)) := by
  unfold endsAs at h
  cases hr : ev c n (.code co s) with
  | none => rw [hr] at h; cases h
  | some r =>
    rw [hr] at h
    cases r <;> first | (simp only [Bool.false_eq_true] at h; done) | skip
    rename_i o' s'
    simp only [Bool.and_eq_true] at h
    obtain ⟨h1, h2⟩ := h
    obtain ⟨rfl, h3⟩ := outB_ok h1
    exact (good_cover (j := .code co s) h2 h3).1 (hG n _ _ hr)
theorem seq_j {co : Code} {s s1 : St} {res : Res} (hco : isSeq co = true) (h1 : GoodJ P w0 (.code (lft co) s) (.out .norm s1)) (h2 : GoodJ P w0 (.code (rgt co) s1) res) : GoodJ P w0 (.code co s) res := by
  cases co <;> first | (simp only [isSeq, Bool.false_eq_true] at hco; done) | skip
  intro ρ a w S
  refine wp_seq (wp_mono (h1 ρ a w S) fun e a' w' he => ?_)
  obtain ⟨ρ', o, s', hq, hle, S', S'', ho⟩ := he
  injection hq with q1 q2
  subst q1; subst q2
  cases e <;> first | exact ho.elim | skip
  exact wp_mono (h2 ρ' a' w' (S'' rfl)) fun _ _ _ => Post.mono hle
theorem block_j {co : Code} {id : Nat} {s s1 : St} (hco : isBlock id co = true) (h1 : GoodJ P w0 (.code (inB co) s) (.out (.exit id) s1)) : GoodJ P w0 (.code co s) (.out .norm s1) := by
  cases co <;> first | (simp only [isBlock, Bool.false_eq_true] at hco; done) | skip
  rename_i j b
  have := beq_true.1 hco
  subst this
  intro ρ a w S
  refine wp_block (wp_mono (h1 ρ a w S) fun e a' w' he => ?_)
  obtain ⟨ρ', o, s', hq, hle, S', S'', ho⟩ := he
  injection hq with q1 q2
  subst q1; subst q2
  cases e <;> first | exact ho.elim | skip
  have ho : j = _ := ho
  subst ho
  simp only [Exit.inBlock, if_pos]
  exact Post.of_norm hle (S'' rfl) trivial
theorem loop_j {b : Code} {s s1 : St} {res : Res} (h1 : GoodJ P w0 (.code b s) (.out .norm s1)) (h2 : GoodJ P w0 (.loop b s1) res) : GoodJ P w0 (.loop b s) res := by
  intro ρ a w S
  refine loop_round (wp_mono (h1 ρ a w S) fun e a' w' he => ?_)
  obtain ⟨ρ', o, s', hq, hle, S', S'', ho⟩ := he
  injection hq with q1 q2
  subst q1; subst q2
  cases e <;> first | exact ho.elim | skip
  exact fun b k cs => let ⟨e, a, w, hq, r⟩ := h2 ρ' a' w' (S'' rfl) b k cs; ⟨e, a, w, hq.mono hle, r⟩
theorem inl_j {co : Code} {s : St} {res : Res} (hco : isLoop co = true) (h : GoodJ P w0 (.loop (inL co) s) res) : GoodJ P w0 (.code co s) res := by
  cases co <;> first | (simp only [isLoop, Bool.false_eq_true] at hco; done) | skip
  exact fun ρ a w S => wp_loop_in (h ρ a w S)
theorem call_j {f : FuncId} {fn : Func} {b : Code} {args : List V} {h : T AObj} {nx : Nat} {s : St} {res : Res} (hf : P.funcs[f]? = some fn) (hb : fn.body = some b) (hn : lenL args ≤ fn.ntmps)
    (h1 : GoodJ P w0 (.code b ⟨setArgs args, h, nx, fn.ntmps, []⟩) (.out .ret s)) (hd : s.ds = []) (h2 : finCall P fn s = some res) : GoodJ P w0 (.call f args h nx) res := by
  intro ρ xs w I hv
  refine calls_of_wp_defers hf hb ?_
  refine wp_mono (h1 ρ _ w (start_SR I hv hn)) fun e a w hp => ?_
  have G : Good P w0 (fun _ => none) := fun j r q => by cases q
  refine body_ok G (r := .out .ret s) ?_ hp
  have e1 : leave P fn (fun _ => none) s.ds none s = some res := by rw [hd]; exact h2
  exact e1
/-- what a call without arguments tells anywhere: a value that holds no block -/
theorem closed_j {f : FuncId} {v : V} {h' : T AObj} {nx' : Nat} (hv : ∀ ρ u, VR ρ v u → ∀ ρ', VR ρ' v u) (H : ∀ w0, GoodJ P w0 (.call f [] .e 0) (.got v h' nx')) (h : T AObj) (nx : Nat) : GoodJ P w0 (.call f [] h nx) (.got v h nx) := by
  intro ρ xs w I hxs
  have I0 : Inv ⟨w, fun _ => False⟩ (fun _ => none) .e 0 w :=
    { size := Nat.le_refl _
      old := fun _ _ => rfl
      os := rfl
      output := rfl
      tape := rfl
      own := fun _ _ _ q => by cases q
      inj := fun x _ _ _ _ q => by rw [T.get_e] at q; exact absurd rfl q
      new := fun b _ => ⟨rfl, T.get_e b⟩
      obj := fun b ob _ _ q => by rw [T.get_e] at q; cases q
      gone := fun _ q => q.elim }
  have hxs' : VRs (fun _ => none) [] xs.toList := by
    cases hx : xs.toList with
    | nil => exact .nil
    | cons x l => rw [hx] at hxs; cases hxs
  refine Calls.mono (H ⟨w, fun _ => False⟩ (fun _ => none) xs w I0 hxs') fun e w' he => ?_
  cases e with
  | returned u =>
    obtain ⟨ρ', v', h1, nx1, hq, _, I', hvu⟩ := he
    injection hq with q1 q2 q3
    subst q1
    exact ⟨ρ, _, h, nx, rfl, Rho.le_refl ρ, I.below ⟨I'.os, I'.tape, I'.output, I'.size, fun k hk => I'.old k hk⟩, hv _ _ hvu _⟩
  | panicked chain => obtain ⟨ρ', v', h1, nx1, x, hq, _⟩ := he; cases hq
  | outgrown => exact he.elim
/-- the same at beginnings of a kind -/
theorem closed_jK {K : Base → Prop} (hKI : ∀ {w0 : Base} {ρ : Rho} {h : T AObj} {nx : Nat} {w : World}, K w0 → Inv w0 ρ h nx w → K ⟨w, fun _ => False⟩) {f : FuncId} {v : V} {h' : T AObj} {nx' : Nat} (hv : ∀ ρ u, VR ρ v u → ∀ ρ', VR ρ' v u) (H : ∀ w0, K w0 → GoodJ P w0 (.call f [] .e 0) (.got v h' nx')) (hk : K w0) (h : T AObj) (nx : Nat) : GoodJ P w0 (.call f [] h nx) (.got v h nx) := by
  intro ρ xs w I hxs
  have I0 : Inv ⟨w, fun _ => False⟩ (fun _ => none) .e 0 w :=
    { size := Nat.le_refl _
      old := fun _ _ => rfl
      os := rfl
      output := rfl
      tape := rfl
      own := fun _ _ _ q => by cases q
      inj := fun x _ _ _ _ q => by rw [T.get_e] at q; exact absurd rfl q
      new := fun b _ => ⟨rfl, T.get_e b⟩
      obj := fun b ob _ _ q => by rw [T.get_e] at q; cases q
      gone := fun _ q => q.elim }
  have hxs' : VRs (fun _ => none) [] xs.toList := by
    cases hx : xs.toList with
    | nil => exact .nil
    | cons x l => rw [hx] at hxs; cases hxs
  refine Calls.mono (H ⟨w, fun _ => False⟩ (hKI hk I) (fun _ => none) xs w I0 hxs') fun e w' he => ?_
  cases e with
  | returned u =>
    obtain ⟨ρ', v', h1, nx1, hq, _, I', hvu⟩ := he
    injection hq with q1 q2 q3
    subst q1
    exact ⟨ρ, _, h, nx, rfl, Rho.le_refl ρ, I.below ⟨I'.os, I'.tape, I'.output, I'.size, fun k hk => I'.old k hk⟩, hv _ _ hvu _⟩
  | panicked chain => obtain ⟨ρ', v', h1, nx1, x, hq, _⟩ := he; cases hq
  | outgrown => exact he.elim
theorem VR.any_b {b : Bool} : ∀ ρ u, VR ρ (.b b) u → ∀ ρ', VR ρ' (.b b) u := fun ρ u h ρ' => by cases h; exact .b b
end
end Go.Proofs.Ev
