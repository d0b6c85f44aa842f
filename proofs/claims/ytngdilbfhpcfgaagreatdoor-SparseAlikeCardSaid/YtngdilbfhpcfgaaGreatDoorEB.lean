/- What the evaluator says of the world: values, heaps, states. -/
import Derived.Test.YtngdilbfhpcfgaaGreatDoorEA
import Derived.Laws.AppendOwn
import Derived.MapKept
set_option linter.unusedSimpArgs false
set_option linter.unusedVariables false
/- The evaluator's small laws: tries, options. -/
set_option linter.unusedVariables false
namespace Go.Proofs.Ev
open Go

theorem beqD (a b : Nat) : Nat.beq a b = decide (a = b) := by
  by_cases h : a = b
  · subst h; simp
  · simp only [h, decide_false]; exact Bool.eq_false_iff.2 (fun e => h (Nat.eq_of_beq_eq_true e))
theorem bleD (a b : Nat) : Nat.ble a b = decide (a ≤ b) := by
  by_cases h : a ≤ b
  · simp [h, Nat.ble_eq]
  · simp [h]; exact Bool.eq_false_iff.2 (fun e => h (Nat.ble_eq.mp e))
theorem brec {α : Type} (p : Prop) [Decidable p] (x y : α) : (Bool.rec x y (decide p) : α) = if p then y else x := by
  by_cases h : p <;> simp [h]
theorem bd_some {α β : Type} {o : Option α} {f : α → Option β} {r : β} : bd o f = some r ↔ ∃ a, o = some a ∧ f a = some r := by
  cases o <;> simp [bd]
theorem gd_some {β : Type} {b : Bool} {o : Option β} {r : β} : gd b o = some r ↔ b = true ∧ o = some r := by
  cases b <;> simp [gd]
theorem ble_true {a b : Nat} : Nat.ble a b = true ↔ a ≤ b := by rw [Nat.ble_eq]
theorem beq_true {a b : Nat} : Nat.beq a b = true ↔ a = b := by rw [beqD]; simp

namespace T
variable {α : Type}
theorem get_e (k : Nat) : (T.e : T α).get k = none := rfl
theorem get_n (v : Option α) (a b c d : T α) (k : Nat) : (T.n v a b c d).get k =
    if k = 0 then v else if 2 ≤ (k - 1) % 4 then (if (k - 1) % 4 = 3 then d.get ((k - 1) / 4) else c.get ((k - 1) / 4))
      else (if (k - 1) % 4 = 1 then b.get ((k - 1) / 4) else a.get ((k - 1) / 4)) := by
  show (Bool.rec _ v (Nat.beq k 0) : Option α) = _
  rw [beqD, brec, bleD, brec, beqD, brec, beqD, brec]
  rfl
theorem ins_eq (x : Option α) (k : Nat) (ih : T α → Nat → T α) (v : Option α) (a b c d : T α) : ins x k ih v a b c d =
    if k = 0 then .n x a b c d else if 2 ≤ (k - 1) % 4 then (if (k - 1) % 4 = 3 then .n v a b c (ih d ((k - 1) / 4)) else .n v a b (ih c ((k - 1) / 4)) d)
      else (if (k - 1) % 4 = 1 then .n v a (ih b ((k - 1) / 4)) c d else .n v (ih a ((k - 1) / 4)) b c d) := by
  unfold ins
  rw [beqD, brec, bleD, brec, beqD, brec, beqD, brec]
  rfl
theorem get_ins (x : Option α) (k : Nat) (ih : T α → Nat → T α) (hih : ∀ t q j, q < k → (ih t q).get j = if j = q then x else t.get j)
    (v : Option α) (a b c d : T α) (j : Nat) : (ins x k ih v a b c d).get j = if j = k then x else (T.n v a b c d).get j := by
  rw [ins_eq]
  by_cases hk : k = 0
  · subst hk
    rw [if_pos rfl, get_n, get_n]
    by_cases hj : j = 0 <;> simp [hj]
  · rw [if_neg hk]
    have hq : (k - 1) / 4 < k := by omega
    by_cases hj : j = 0
    · subst hj
      rw [if_neg (Ne.symm hk)]
      split <;> split <;> simp [get_n]
    · have key : j = k ↔ ((j - 1) % 4 = (k - 1) % 4 ∧ (j - 1) / 4 = (k - 1) / 4) := by omega
      have h4 : (k - 1) % 4 = 0 ∨ (k - 1) % 4 = 1 ∨ (k - 1) % 4 = 2 ∨ (k - 1) % 4 = 3 := by omega
      have h4' : (j - 1) % 4 = 0 ∨ (j - 1) % 4 = 1 ∨ (j - 1) % 4 = 2 ∨ (j - 1) % 4 = 3 := by omega
      rcases h4 with h | h | h | h <;> rcases h4' with h' | h' | h' | h' <;> simp [get_n, hj, h, h', key, hih _ _ _ hq]
theorem get_setF (x : Option α) : ∀ (f : Nat) (t : T α) (k j : Nat), k < f → (setF f x t k).get j = if j = k then x else t.get j
  | 0, _, k, _, h => absurd h (Nat.not_lt_zero k)
  | f + 1, t, k, j, h => by
    have hih : ∀ t q j, q < k → (setF f x t q).get j = if j = q then x else t.get j := fun t q j hq => get_setF x f t q j (by omega)
    cases t with
    | e =>
      show (ins x k (setF f x) none .e .e .e .e).get j = _
      rw [get_ins x k _ hih, get_n]
      simp [get_e]
    | n v a b c d =>
      show (ins x k (setF f x) v a b c d).get j = _
      rw [get_ins x k _ hih]
theorem get_set (t : T α) (k j : Nat) (x : α) : (t.set k x).get j = if j = k then some x else t.get j := get_setF _ _ _ _ _ (Nat.lt_succ_self k)
theorem get_del (t : T α) (k j : Nat) : (t.del k).get j = if j = k then none else t.get j := get_setF _ _ _ _ _ (Nat.lt_succ_self k)
end T

theorem lenL_eq (l : List V) : lenL l = l.length := by
  induction l with
  | nil => rfl
  | cons v l ih => show Nat.succ (lenL l) = _; rw [ih]; rfl
theorem getCells_some (c : T V) : ∀ (n o : Nat) (l : List V), getCells c n o = some l → l.length = n ∧ ∀ j, j < n → c.get (o + j) = l[j]?
  | 0, o, l, h => by
    have : l = [] := by
      have h' : some ([] : List V) = some l := h
      injection h' with h'; exact h'.symm
    subst this; simp
  | n + 1, o, l, h => by
    have h' : (bd (c.get o) fun v => bd (getCells c n (Nat.succ o)) fun vs => some (v :: vs)) = some l := h
    obtain ⟨v, hv, h'⟩ := bd_some.1 h'
    obtain ⟨vs, hvs, h'⟩ := bd_some.1 h'
    injection h' with h'
    subst h'
    obtain ⟨hl, hc⟩ := getCells_some c n (o + 1) vs hvs
    refine ⟨by simp [hl], fun j hj => ?_⟩
    cases j with
    | zero => simpa using hv
    | succ j => have := hc j (by omega); simpa [Nat.add_assoc, Nat.add_comm 1 j] using this
theorem get_setCells : ∀ (l : List V) (c : T V) (o j : Nat), (setCells l c o).get j = if o ≤ j ∧ j < o + l.length then l[j - o]? else c.get j
  | [], c, o, j => by
    show c.get j = _
    rw [if_neg]; simp
  | v :: l, c, o, j => by
    show (setCells l (c.set o v) (o + 1)).get j = _
    rw [get_setCells l _ _ _, T.get_set]
    simp only [List.length_cons]
    by_cases h1 : j = o
    · subst h1; simp; omega
    · by_cases h2 : o + 1 ≤ j ∧ j < o + 1 + l.length
      · rw [if_pos h2, if_pos (by omega)]
        have : j - o = (j - (o + 1)) + 1 := by omega
        rw [this]; simp
      · rw [if_neg h2, if_neg h1, if_neg (by omega)]
theorem dropL_eq : ∀ (n : Nat) (l : List V), dropL n l = l.drop n
  | 0, l => rfl
  | n + 1, [] => rfl
  | n + 1, v :: l => by show dropL n l = _; rw [dropL_eq n l]; rfl
theorem takeL_eq : ∀ (n : Nat) (l : List V), takeL n l = l.take n
  | 0, l => by simp; rfl
  | n + 1, [] => rfl
  | n + 1, v :: l => by show v :: takeL n l = _; rw [takeL_eq n l]; rfl
theorem nthL_eq (n : Nat) (l : List V) : nthL n l = l[n]? := by
  unfold nthL
  rw [dropL_eq]
  cases h : l.drop n with
  | nil => simp [List.drop_eq_nil_iff] at h; simp [h]
  | cons v t =>
    have : l[n]? = (l.drop n)[0]? := by simp
    rw [this, h]; rfl
theorem spl_eq : ∀ (cs : List V) (o : Nat) (l : List V), spl cs o l = (cs.take o ++ l ++ cs.drop (o + l.length)).take cs.length
  | [], o, l => by simp; rfl
  | c :: cs, 0, [] => by
    show c :: spl cs 0 [] = _
    rw [spl_eq cs 0 []]; simp
  | c :: cs, 0, v :: l => by
    show v :: spl cs 0 l = _
    rw [spl_eq cs 0 l]; simp
  | c :: cs, o + 1, l => by
    show c :: spl cs o l = _
    rw [spl_eq cs o l]
    have : o + 1 + l.length = (o + l.length) + 1 := by omega
    simp [this]
end Go.Proofs.Ev
/- What an abstract value, a heap, a row of temporaries say of the world's. -/
set_option linter.unusedVariables false
namespace Go.Proofs.Ev
open Go

/-! texts as numbers -/
def encG (l : List UInt8) (a : Nat) : Nat := l.foldl (fun a b => a * 256 + b.toNat) a
theorem encL_eq (l : List UInt8) : encL l = encG l 0 := by
  have : ∀ (l : List UInt8) (a : Nat), (List.rec (motive := fun _ => Nat → Nat) (fun a => a) (fun b _ ih a => ih (Nat.add (Nat.mul a 256) b.toNat)) l : Nat → Nat) a = encG l a := by
    intro l
    induction l with
    | nil => intro a; rfl
    | cons b l ih => intro a; exact ih _
  exact this l 0
theorem encG_add (l : List UInt8) : ∀ a, encG l a = a * 256 ^ l.length + encG l 0 := by
  induction l with
  | nil => intro a; simp [encG]
  | cons b l ih =>
    intro a
    have h1 : encG (b :: l) a = encG l (a * 256 + b.toNat) := rfl
    have h2 : encG (b :: l) 0 = encG l (0 * 256 + b.toNat) := rfl
    rw [h1, h2, ih (a * 256 + b.toNat), ih (0 * 256 + b.toNat)]
    simp only [List.length_cons, Nat.pow_succ, Nat.add_mul, Nat.zero_mul, Nat.zero_add]
    rw [Nat.mul_assoc a 256, Nat.mul_comm 256]
    omega
theorem encL_append (l m : List UInt8) : encL (l ++ m) = encL l * 256 ^ m.length + encL m := by
  rw [encL_eq, encL_eq, encL_eq, ← encG_add]
  simp [encG]
theorem encL_cons (b : UInt8) (l : List UInt8) : encL (b :: l) = b.toNat * 256 ^ l.length + encL l := by
  have := encL_append [b] l
  simpa [encL_eq, encG] using this
theorem encL_lt (l : List UInt8) : encL l < 256 ^ l.length := by
  induction l with
  | nil => simp [encL_eq, encG]
  | cons b l ih =>
    rw [encL_cons, List.length_cons, Nat.pow_succ]
    have hb : b.toNat ≤ 255 := Nat.le_of_lt_succ b.toNat_lt
    have := Nat.mul_le_mul_right (256 ^ l.length) hb
    omega
theorem encL_inj : ∀ (l m : List UInt8), l.length = m.length → encL l = encL m → l = m
  | [], [], _, _ => rfl
  | b :: l, c :: m, hl, he => by
    have hl' : l.length = m.length := by simpa using hl
    rw [encL_cons, encL_cons, hl'] at he
    have h1 := encL_lt l
    have h2 := encL_lt m
    rw [hl'] at h1
    have hp : 0 < 256 ^ m.length := Nat.pow_pos (by omega)
    have hb : b.toNat = c.toNat := by
      have e1 : (b.toNat * 256 ^ m.length + encL l) / 256 ^ m.length = b.toNat := by
        rw [Nat.mul_comm, Nat.mul_add_div hp, Nat.div_eq_of_lt h1]; rfl
      have e2 : (c.toNat * 256 ^ m.length + encL m) / 256 ^ m.length = c.toNat := by
        rw [Nat.mul_comm, Nat.mul_add_div hp, Nat.div_eq_of_lt h2]; rfl
      rw [← e1, he, e2]
    have hbc : b = c := UInt8.toNat_inj.1 hb
    subst hbc
    rw [encL_inj l m hl' (by omega)]
theorem pow256 (k : Nat) : 2 ^ (8 * k) = 256 ^ k := by rw [Nat.pow_mul]
theorem encL_mid (p m s : List UInt8) : (encL (p ++ (m ++ s)) >>> (8 * s.length)) % 2 ^ (8 * m.length) = encL m := by
  rw [Nat.shiftRight_eq_div_pow, pow256, pow256, encL_append, encL_append, List.length_append, Nat.pow_add, ← Nat.mul_assoc]
  have hs : 0 < 256 ^ s.length := Nat.pow_pos (by omega)
  have e : (encL p * 256 ^ m.length * 256 ^ s.length + (encL m * 256 ^ s.length + encL s)) = 256 ^ s.length * (encL p * 256 ^ m.length + encL m) + encL s := by
    rw [Nat.mul_add, Nat.mul_comm (256 ^ s.length) (encL p * 256 ^ m.length), Nat.mul_comm (256 ^ s.length) (encL m)]; omega
  rw [e, Nat.mul_add_div hs, Nat.div_eq_of_lt (encL_lt s), Nat.add_zero, Nat.mul_comm (encL p), Nat.mul_add_mod, Nat.mod_eq_of_lt (encL_lt m)]

/-! values -/
abbrev Rho := Nat → Option (Nat × Nat)
def Rho.le (ρ ρ' : Rho) : Prop := ∀ b c, ρ b = some c → ρ' b = some c
def Rho.put (ρ : Rho) (b : Nat) (c : Nat × Nat) : Rho := fun x => if x = b then some c else ρ x
theorem Rho.le_refl (ρ : Rho) : ρ.le ρ := fun _ _ h => h
theorem Rho.le_trans {ρ ρ' ρ'' : Rho} (h : ρ.le ρ') (h' : ρ'.le ρ'') : ρ.le ρ'' := fun b c e => h' b c (h b c e)
theorem Rho.le_put {ρ : Rho} {b : Nat} {c : Nat × Nat} (h : ρ b = none) : ρ.le (ρ.put b c) := fun x d e => by
  unfold Rho.put
  split
  · rename_i hx; subst hx; rw [h] at e; cases e
  · exact e
mutual
inductive VR (ρ : Rho) : V → Value → Prop
  | b (b : Bool) : VR ρ (.b b) (.bool b)
  | i (k : IntKind) (n : Nat) (z : Int) (h : z = (n : Int) - 9223372036854775808) : VR ρ (.i k n) (.int k z)
  | s (s : ByteArray) (l n : Nat) (hl : l = s.size) (hn : n = encL s.data.toList) : VR ρ (.s l n) (.string s)
  | p0 : VR ρ .p0 (.pointer none)
  | p (b o cb sz : Nat) (h : ρ b = some (cb, sz)) : VR ρ (.p b o) (.pointer (some ⟨cb, o, none⟩))
  | l0 : VR ρ .l0 (.slice none 0 0)
  | l (b o z len cap o' cb sz : Nat) (h : ρ b = some (cb, sz)) (hc : len ≤ cap) (hs : o' + cap * z ≤ sz) (ho : o' = o ∨ cap = 0) : VR ρ (.l b o z len) (.slice (some ⟨cb, o', none⟩) len cap)
  | m0 : VR ρ .m0 (.map none)
  | m (b cb sz : Nat) (h : ρ b = some (cb, sz)) : VR ρ (.m b) (.map (some cb))
  | f0 : VR ρ .f0 .nilFunc
  | f (fn : Fn) (a c : List V) (a' c' : Array Value) (ha : VRs ρ a a'.toList) (hc : VRs ρ c c'.toList) : VR ρ (.f fn a c) (.func fn a' c')
  | x0 : VR ρ .x0 .nilIface
  | x (t : TypeId) (v : V) (u : Value) (h : VR ρ v u) : VR ρ (.x t v) (.iface t u)
  | g (cs : List V) (cs' : Array Value) (h : VRs ρ cs cs'.toList) : VR ρ (.g cs) (.agg cs')
  | t (cs : List V) (cs' : Array Value) (h : VRs ρ cs cs'.toList) : VR ρ (.t cs) (.tuple cs')
inductive VRs (ρ : Rho) : List V → List Value → Prop
  | nil : VRs ρ [] []
  | cons (v : V) (u : Value) (vs : List V) (us : List Value) (h : VR ρ v u) (hs : VRs ρ vs us) : VRs ρ (v :: vs) (u :: us)
end
mutual
theorem VR.mono {ρ ρ' : Rho} (h : ρ.le ρ') : ∀ {v : V} {u : Value}, VR ρ v u → VR ρ' v u
  | _, _, .b b => .b b
  | _, _, .i k n z e => .i k n z e
  | _, _, .s s l n a c => .s s l n a c
  | _, _, .p0 => .p0
  | _, _, .p b o cb sz e => .p b o cb sz (h _ _ e)
  | _, _, .l0 => .l0
  | _, _, .l b o z len cap o' cb sz e a c d => .l b o z len cap o' cb sz (h _ _ e) a c d
  | _, _, .m0 => .m0
  | _, _, .m b cb sz e => .m b cb sz (h _ _ e)
  | _, _, .f0 => .f0
  | _, _, .f fn a c a' c' ha hc => .f fn a c a' c' (VRs.mono h ha) (VRs.mono h hc)
  | _, _, .x0 => .x0
  | _, _, .x t v u e => .x t v u (VR.mono h e)
  | _, _, .g cs cs' e => .g cs cs' (VRs.mono h e)
  | _, _, .t cs cs' e => .t cs cs' (VRs.mono h e)
theorem VRs.mono {ρ ρ' : Rho} (h : ρ.le ρ') : ∀ {v : List V} {u : List Value}, VRs ρ v u → VRs ρ' v u
  | _, _, .nil => .nil
  | _, _, .cons v u vs us a c => .cons v u vs us (VR.mono h a) (VRs.mono h c)
end
theorem VRs.length {ρ : Rho} : ∀ {vs : List V} {us : List Value}, VRs ρ vs us → vs.length = us.length
  | _, _, .nil => rfl
  | _, _, .cons _ _ vs us _ h => by simp [VRs.length h]
theorem VRs.get {ρ : Rho} : ∀ {vs : List V} {us : List Value}, VRs ρ vs us → ∀ {i : Nat} {v : V}, vs[i]? = some v → ∃ u, us[i]? = some u ∧ VR ρ v u
  | _, _, .nil, i, v, h => by simp at h
  | _, _, .cons v u vs us a c, 0, v', h => by simp at h; subst h; exact ⟨u, rfl, a⟩
  | _, _, .cons v u vs us a c, i + 1, v', h => by
    obtain ⟨u', h1, h2⟩ := VRs.get c (i := i) (v := v') (by simpa using h)
    exact ⟨u', by simpa using h1, h2⟩
theorem VRs.of_get {ρ : Rho} : ∀ {vs : List V} {us : List Value}, vs.length = us.length → (∀ (i : Nat) (v : V), vs[i]? = some v → ∃ u, us[i]? = some u ∧ VR ρ v u) → VRs ρ vs us
  | [], [], _, _ => .nil
  | v :: vs, u :: us, hl, h => by
    refine .cons v u vs us ?_ (VRs.of_get (by simpa using hl) fun i w hw => ?_)
    · obtain ⟨u', h1, h2⟩ := h 0 v rfl
      simp at h1; subst h1; exact h2
    · obtain ⟨u', h1, h2⟩ := h (i + 1) w (by simpa using hw)
      exact ⟨u', by simpa using h1, h2⟩
theorem VRs.append {ρ : Rho} : ∀ {vs : List V} {us : List Value} {vs' : List V} {us' : List Value}, VRs ρ vs us → VRs ρ vs' us' → VRs ρ (vs ++ vs') (us ++ us')
  | _, _, _, _, .nil, h => h
  | _, _, _, _, .cons v u vs us a c, h => .cons v u _ _ a (VRs.append c h)
theorem VRs.take {ρ : Rho} {vs : List V} {us : List Value} (h : VRs ρ vs us) (n : Nat) : VRs ρ (vs.take n) (us.take n) :=
  VRs.of_get (by simp [h.length]) fun i v hv => by
    rw [List.getElem?_take] at hv ⊢
    split at hv
    · rename_i hi; obtain ⟨u, h1, h2⟩ := h.get hv; exact ⟨u, by simpa [hi] using h1, h2⟩
    · cases hv
theorem VRs.drop {ρ : Rho} {vs : List V} {us : List Value} (h : VRs ρ vs us) (n : Nat) : VRs ρ (vs.drop n) (us.drop n) :=
  VRs.of_get (by simp [h.length]) fun i v hv => by
    rw [List.getElem?_drop] at hv ⊢
    exact h.get hv
theorem VR.undef (ρ : Rho) : VR ρ (.t []) undef := .t [] #[] .nil
theorem VR.cells {ρ : Rho} {v : V} {u : Value} (h : VR ρ v u) : VRs ρ (cellsV v) u.cells.toList := by
  cases h with
  | g cs cs' h => exact h
  | _ => exact .cons _ _ _ _ (by constructor <;> assumption) .nil
theorem VR.flat {ρ : Rho} {v : V} {u : Value} (h : VR ρ v u) (hf : flat v = true) : u.oneCell' = true := by
  cases h <;> first | rfl | cases hf

/-! the program's constants -/
mutual
theorem vOf_ok (ρ : Rho) : ∀ (u : Value) {v : V}, vOf u = some v → VR ρ v u
  | .bool b, v, h => by simp only [vOf] at h; injection h with h; subst h; exact .b b
  | .int k (.ofNat n), v, h => by
    simp only [vOf] at h; injection h with h; subst h
    refine .i _ _ _ ?_
    show (n : Int) = ((n + 9223372036854775808 : Nat) : Int) - 9223372036854775808
    omega
  | .int k (.negSucc n), v, h => by
    simp only [vOf] at h
    obtain ⟨h1, h⟩ := gd_some.1 h
    injection h with h; subst h
    have h1 : n + 1 ≤ 9223372036854775808 := ble_true.1 h1
    refine .i _ _ _ ?_
    show Int.negSucc n = ((9223372036854775808 - (n + 1) : Nat) : Int) - 9223372036854775808
    omega
  | .string s, v, h => by simp only [vOf] at h; injection h with h; subst h; exact .s s _ _ rfl rfl
  | .pointer none, v, h => by simp only [vOf] at h; injection h with h; subst h; exact .p0
  | .pointer (some a), v, h => by simp only [vOf] at h; cases h
  | .slice none 0 0, v, h => by simp only [vOf] at h; injection h with h; subst h; exact .l0
  | .slice none 0 (c + 1), v, h => by simp only [vOf] at h; cases h
  | .slice none (l + 1) c, v, h => by simp only [vOf] at h; cases h
  | .slice (some a) l c, v, h => by simp only [vOf] at h; cases h
  | .map none, v, h => by simp only [vOf] at h; injection h with h; subst h; exact .m0
  | .map (some a), v, h => by simp only [vOf] at h; cases h
  | .nilFunc, v, h => by simp only [vOf] at h; injection h with h; subst h; exact .f0
  | .nilIface, v, h => by simp only [vOf] at h; injection h with h; subst h; exact .x0
  | .iface t u, v, h => by
    simp only [vOf] at h
    cases hu : vOf u with
    | none => rw [hu] at h; cases h
    | some x => rw [hu] at h; injection h with h; subst h; exact .x t x u (vOf_ok ρ u hu)
  | .agg ⟨cs⟩, v, h => by
    simp only [vOf] at h
    cases hu : vsOf cs with
    | none => rw [hu] at h; cases h
    | some x => rw [hu] at h; injection h with h; subst h; exact .g x _ (vsOf_ok ρ cs hu)
  | .tuple ⟨cs⟩, v, h => by
    simp only [vOf] at h
    cases hu : vsOf cs with
    | none => rw [hu] at h; cases h
    | some x => rw [hu] at h; injection h with h; subst h; exact .t x _ (vsOf_ok ρ cs hu)
  | .func f ⟨a⟩ ⟨b⟩, v, h => by
    simp only [vOf] at h
    cases hu : vsOf a with
    | none => rw [hu] at h; cases h
    | some x =>
      cases hw : vsOf b with
      | none => rw [hu, hw] at h; cases h
      | some y => rw [hu, hw] at h; injection h with h; subst h; exact .f f x y _ _ (vsOf_ok ρ a hu) (vsOf_ok ρ b hw)
  | .float _ _, v, h => by simp only [vOf] at h; cases h
  | .complex _ _ _, v, h => by simp only [vOf] at h; cases h
  | .chan _, v, h => by simp only [vOf] at h; cases h
theorem vsOf_ok (ρ : Rho) : ∀ (us : List Value) {vs : List V}, vsOf us = some vs → VRs ρ vs us
  | [], vs, h => by simp only [vsOf] at h; injection h with h; subst h; exact .nil
  | u :: us, vs, h => by
    simp only [vsOf] at h
    cases hu : vOf u with
    | none => rw [hu] at h; cases h
    | some x =>
      cases hw : vsOf us with
      | none => rw [hu, hw] at h; cases h
      | some y => rw [hu, hw] at h; injection h with h; subst h; exact .cons _ _ _ _ (vOf_ok ρ u hu) (vsOf_ok ρ us hw)
end
/-! the heap -/
def OR (ρ : Rho) (ob : AObj) (cb sz : Nat) (w : World) : Prop :=
  match ob with
  | .row c size => ∃ cur e, w.heap[cb]? = some (.cells cur e (0, 0)) ∧ cur.size = sz ∧ size ≤ sz ∧ ∀ o v, o < size → c.get o = some v → ∃ u, cur[o]? = some u ∧ VR ρ v u
  | .map es => ∃ ents clock, w.heap[cb]? = some (.map ents clock) ∧ VRs ρ (es.map (·.1)) (ents.toList.map (·.key)) ∧ VRs ρ (es.map (·.2)) (ents.toList.map (·.val)) ∧ (ents.toList.map (·.born)).Nodup ∧ ∀ b ∈ ents.toList.map (·.born), b < clock
theorem OR.mono {ρ ρ' : Rho} (hle : ρ.le ρ') {ob : AObj} {cb sz : Nat} {w w' : World} (hw : w'.heap[cb]? = w.heap[cb]?) (h : OR ρ ob cb sz w) : OR ρ' ob cb sz w' := by
  cases ob with
  | row c size =>
    obtain ⟨cur, e, h1, h2, h3, h4⟩ := h
    exact ⟨cur, e, by rw [hw, h1], h2, h3, fun o v ho hv => let ⟨u, a, b⟩ := h4 o v ho hv; ⟨u, a, b.mono hle⟩⟩
  | map es =>
    obtain ⟨ents, clock, h1, h2, h3, h4⟩ := h
    exact ⟨ents, clock, by rw [hw, h1], h2.mono hle, h3.mono hle, h4⟩
/-- where a run began, and names of blocks that the world has not made yet -/
structure Base extends World where
  gone : Nat → Prop
def Base.more (w0 : Base) (G : Nat → Prop) : Base := { w0 with gone := fun b => w0.gone b ∨ G b }
theorem Base.more_congr (w0 : Base) {G G' : Nat → Prop} (h : ∀ r, G r ↔ G' r) : w0.more G = w0.more G' := by
  have : G = G' := funext fun r => propext (h r)
  rw [this]
theorem Base.more_none (w0 : Base) {G : Nat → Prop} (h : ∀ r, ¬ G r) : w0.more G = w0 := by
  have : (fun b => w0.gone b ∨ G b) = w0.gone := funext fun r => propext ⟨fun q => q.resolve_right (h r), .inl⟩
  cases w0
  simp only [Base.more] at this ⊢
  rw [this]
structure Inv (w0 : Base) (ρ : Rho) (h : T AObj) (nx : Nat) (w : World) : Prop where
  size : w0.heap.size ≤ w.heap.size
  old : ∀ cb, cb < w0.heap.size → w.heap[cb]? = w0.heap[cb]?
  os : w.os = w0.os
  output : w.output = w0.output
  tape : w.tape = w0.tape
  own : ∀ b cb sz, ρ b = some (cb, sz) → w0.heap.size ≤ cb ∧ cb < w.heap.size
  inj : ∀ b b' cb sz sz', h.get b ≠ none → h.get b' ≠ none → ρ b = some (cb, sz) → ρ b' = some (cb, sz') → b = b'
  new : ∀ b, nx ≤ b → ρ b = none ∧ h.get b = none
  obj : ∀ b ob cb sz, h.get b = some ob → ρ b = some (cb, sz) → OR ρ ob cb sz w
  gone : ∀ b, w0.gone b → b < nx ∧ ρ b = none

/-- a step of the world that changes one block of the run's own, or none -/
theorem Inv.set {w0 : Base} {ρ : Rho} {h : T AObj} {nx : Nat} {w w' : World} (I : Inv w0 ρ h nx w) {b cb sz : Nat} {ob ob' : AObj} (hb : h.get b = some ob) (hr : ρ b = some (cb, sz))
    (hs : w'.heap.size = w.heap.size) (ho : ∀ k, k ≠ cb → w'.heap[k]? = w.heap[k]?) (h1 : w'.os = w.os) (h2 : w'.output = w.output) (h3 : w'.tape = w.tape) (hob : OR ρ ob' cb sz w') :
    Inv w0 ρ (h.set b ob') nx w' where
  size := hs ▸ I.size
  old k hk := by rw [ho k (fun e => by have := (I.own b cb sz hr).1; omega), I.old k hk]
  os := h1.trans I.os
  output := h2.trans I.output
  tape := h3.trans I.tape
  own b cb sz e := hs ▸ I.own b cb sz e
  inj x y c s s' hx hy e e' := by
    rw [T.get_set] at hx hy
    refine I.inj x y c s s' ?_ ?_ e e'
    · split at hx
      · rename_i e; subst e; simp [hb]
      · exact hx
    · split at hy
      · rename_i e; subst e; simp [hb]
      · exact hy
  new x hx := by
    refine ⟨(I.new x hx).1, ?_⟩
    rw [T.get_set, if_neg, (I.new x hx).2]
    intro e; subst e; rw [(I.new x hx).2] at hb; cases hb
  obj x ob'' c s hx e := by
    rw [T.get_set] at hx
    split at hx
    · rename_i hxb; subst hxb; injection hx with hx; subst hx
      rw [hr] at e; injection e with e; injection e with e1 e2; subst e1; subst e2; exact hob
    · rename_i hxb
      have hc : c ≠ cb := fun ec => by
        subst ec
        exact hxb (I.inj x b c s sz (by simp [hx]) (by simp [hb]) e hr)
      exact (I.obj x ob'' c s hx e).mono (Rho.le_refl ρ) (ho c hc)
  gone := I.gone
/-- a new block -/
theorem Inv.push {w0 : Base} {ρ : Rho} {h : T AObj} {nx : Nat} {w w' : World} (I : Inv w0 ρ h nx w) {sz : Nat} {ob : AObj}
    (hs : w'.heap.size = w.heap.size + 1) (ho : ∀ k, k < w.heap.size → w'.heap[k]? = w.heap[k]?) (h1 : w'.os = w.os) (h2 : w'.output = w.output) (h3 : w'.tape = w.tape)
    (hob : OR (ρ.put nx (w.heap.size, sz)) ob w.heap.size sz w') : Inv w0 (ρ.put nx (w.heap.size, sz)) (h.set nx ob) (nx + 1) w' where
  size := by have := I.size; omega
  old k hk := by rw [ho k (by have := I.size; omega), I.old k hk]
  os := h1.trans I.os
  output := h2.trans I.output
  tape := h3.trans I.tape
  own b cb s e := by
    unfold Rho.put at e
    split at e
    · injection e with e; injection e with e1 e2; subst e1; have := I.size; omega
    · have := I.own b cb s e; omega
  inj x y c s s' hx hy e e' := by
    rw [T.get_set] at hx hy
    unfold Rho.put at e e'
    split at e <;> split at e'
    · omega
    · injection e with e; injection e with e1 e2; have := I.own y c s' e'; omega
    · injection e' with e'; injection e' with e1 e2; have := I.own x c s e; omega
    · rename_i hxn hyn
      rw [if_neg hxn] at hx; rw [if_neg hyn] at hy
      exact I.inj x y c s s' hx hy e e'
  new x hx := by
    have hne : x ≠ nx := by omega
    unfold Rho.put
    rw [if_neg hne, T.get_set, if_neg hne]
    exact I.new x (by omega)
  obj x ob'' c s hx e := by
    have hle : ρ.le (ρ.put nx (w.heap.size, sz)) := Rho.le_put (I.new nx (Nat.le_refl _)).1
    rw [T.get_set] at hx
    unfold Rho.put at e
    split at e
    · rename_i hxn; rw [if_pos hxn] at hx; injection hx with hx; subst hx; injection e with e; injection e with e1 e2; subst e1; subst e2; exact hob
    · rename_i hxn; rw [if_neg hxn] at hx
      exact (I.obj x ob'' c s hx e).mono hle (ho c (I.own x c s e).2)
  gone x hx := by
    have := I.gone x hx
    unfold Rho.put
    rw [if_neg (by omega)]
    exact ⟨by omega, this.2⟩
/-- a block gets another name -/
theorem Inv.rename {w0 : Base} {ρ : Rho} {h : T AObj} {nx : Nat} {w w' : World} (I : Inv w0 ρ h nx w) {b cb sz : Nat} {ob ob' : AObj} (hb : h.get b = some ob) (hr : ρ b = some (cb, sz))
    (hs : w'.heap.size = w.heap.size) (ho : ∀ k, k ≠ cb → w'.heap[k]? = w.heap[k]?) (h1 : w'.os = w.os) (h2 : w'.output = w.output) (h3 : w'.tape = w.tape)
    (hob : OR (ρ.put nx (cb, sz)) ob' cb sz w') : Inv w0 (ρ.put nx (cb, sz)) ((h.del b).set nx ob') (nx + 1) w' where
  size := hs ▸ I.size
  old k hk := by rw [ho k (fun e => by have := (I.own b cb sz hr).1; omega), I.old k hk]
  os := h1.trans I.os
  output := h2.trans I.output
  tape := h3.trans I.tape
  own x c s e := by
    rw [hs]
    unfold Rho.put at e
    split at e
    · injection e with e; injection e with e1 e2; subst e1; exact I.own b cb sz hr
    · exact I.own x c s e
  inj x y c s s' hx hy e e' := by
    rw [T.get_set, T.get_del] at hx hy
    unfold Rho.put at e e'
    have hbn : b ≠ nx := fun e => by subst e; rw [(I.new b (Nat.le_refl _)).2] at hb; cases hb
    split at e <;> split at e'
    · omega
    · rename_i hxn hyn
      rw [if_neg hyn] at hy
      injection e with e; injection e with e1 e2; subst e1
      split at hy
      · exact absurd rfl hy
      · rename_i hyb; exact absurd (I.inj y b cb s' sz hy (by simp [hb]) e' hr) hyb
    · rename_i hxn hyn
      rw [if_neg hxn] at hx
      injection e' with e'; injection e' with e1 e2; subst e1
      split at hx
      · exact absurd rfl hx
      · rename_i hxb; exact absurd (I.inj x b cb s sz hx (by simp [hb]) e hr) hxb
    · rename_i hxn hyn
      rw [if_neg hxn] at hx; rw [if_neg hyn] at hy
      split at hx
      · exact absurd rfl hx
      · split at hy
        · exact absurd rfl hy
        · exact I.inj x y c s s' hx hy e e'
  new x hx := by
    have hne : x ≠ nx := by omega
    unfold Rho.put
    rw [if_neg hne, T.get_set, if_neg hne, T.get_del]
    refine ⟨(I.new x (by omega)).1, ?_⟩
    split
    · rfl
    · exact (I.new x (by omega)).2
  obj x ob'' c s hx e := by
    have hle : ρ.le (ρ.put nx (cb, sz)) := Rho.le_put (I.new nx (Nat.le_refl _)).1
    rw [T.get_set, T.get_del] at hx
    unfold Rho.put at e
    split at e
    · rename_i hxn; rw [if_pos hxn] at hx; injection hx with hx; subst hx; injection e with e; injection e with e1 e2; subst e1; subst e2; exact hob
    · rename_i hxn; rw [if_neg hxn] at hx
      split at hx
      · cases hx
      · rename_i hxb
        have hc : c ≠ cb := fun ec => by
          subst ec
          exact hxb (I.inj x b c s sz (by simp [hx]) (by simp [hb]) e hr)
        exact (I.obj x ob'' c s hx e).mono hle (ho c hc)
  gone x hx := by
    have := I.gone x hx
    unfold Rho.put
    rw [if_neg (by omega)]
    exact ⟨by omega, this.2⟩
/-- a block that the world has not made yet -/
theorem Inv.ahead {w0 : Base} {ρ : Rho} {h : T AObj} {nx : Nat} {w : World} (I : Inv w0 ρ h nx w) (ob : AObj) : Inv (w0.more (· = nx)) ρ (h.set nx ob) (nx + 1) w where
  size := I.size
  old := I.old
  os := I.os
  output := I.output
  tape := I.tape
  own := I.own
  inj x y c s s' hx hy e e' := by
    rw [T.get_set] at hx hy
    rw [if_neg (fun q => by subst q; rw [(I.new _ (Nat.le_refl _)).1] at e; cases e)] at hx
    rw [if_neg (fun q => by subst q; rw [(I.new _ (Nat.le_refl _)).1] at e'; cases e')] at hy
    exact I.inj x y c s s' hx hy e e'
  new x hx := by
    have hne : x ≠ nx := by omega
    rw [T.get_set, if_neg hne]
    exact I.new x (by omega)
  obj x ob'' c s hx e := by
    rw [T.get_set, if_neg (fun q => by subst q; rw [(I.new _ (Nat.le_refl _)).1] at e; cases e)] at hx
    exact I.obj x ob'' c s hx e
  gone x hx := by
    rcases hx with hx | rfl
    · have := I.gone x hx
      exact ⟨by omega, this.2⟩
    · exact ⟨Nat.lt_succ_self _, (I.new _ (Nat.le_refl _)).1⟩
/-- the world makes it -/
theorem Inv.late {w0 : Base} {ρ : Rho} {h : T AObj} {nx r : Nat} {w w' : World} (I : Inv (w0.more (· = r)) ρ h nx w) (hr : ¬ w0.gone r) {sz : Nat} {ob : AObj} (hg : h.get r = some ob)
    (hs : w'.heap.size = w.heap.size + 1) (ho : ∀ k, k < w.heap.size → w'.heap[k]? = w.heap[k]?) (h1 : w'.os = w.os) (h2 : w'.output = w.output) (h3 : w'.tape = w.tape)
    (hob : OR (ρ.put r (w.heap.size, sz)) ob w.heap.size sz w') : Inv w0 (ρ.put r (w.heap.size, sz)) h nx w' where
  size := by have := I.size; have : w0.heap.size ≤ w.heap.size := this; omega
  old k hk := by rw [ho k (by have := I.size; have : w0.heap.size ≤ w.heap.size := this; omega)]; exact I.old k hk
  os := h1.trans I.os
  output := h2.trans I.output
  tape := h3.trans I.tape
  own b cb s e := by
    unfold Rho.put at e
    split at e
    · injection e with e; injection e with e1 e2; subst e1; have := I.size; have : w0.heap.size ≤ w.heap.size := this; omega
    · have := I.own b cb s e; have : w0.heap.size ≤ cb ∧ cb < w.heap.size := this; omega
  inj x y c s s' hx hy e e' := by
    unfold Rho.put at e e'
    split at e <;> split at e'
    · omega
    · injection e with e; injection e with e1 e2; have := I.own y c s' e'; omega
    · injection e' with e'; injection e' with e1 e2; have := I.own x c s e; omega
    · exact I.inj x y c s s' hx hy e e'
  new x hx := by
    have hl := (I.gone r (.inr rfl)).1
    have hne : x ≠ r := by omega
    unfold Rho.put
    rw [if_neg hne]
    exact I.new x hx
  obj x ob'' c s hx e := by
    have hle : ρ.le (ρ.put r (w.heap.size, sz)) := Rho.le_put (I.gone r (.inr rfl)).2
    unfold Rho.put at e
    split at e
    · rename_i hxn; subst hxn; rw [hg] at hx; injection hx with hx; subst hx; injection e with e; injection e with e1 e2; subst e1; subst e2; exact hob
    · exact (I.obj x ob'' c s hx e).mono hle (ho c (I.own x c s e).2)
  gone x hx := by
    have hne : x ≠ r := fun q => by subst q; exact hr hx
    unfold Rho.put
    rw [if_neg hne]
    exact I.gone x (.inl hx)
theorem Inv.fewer {w0 : Base} {G : Nat → Prop} {ρ : Rho} {h : T AObj} {nx : Nat} {w : World} (I : Inv (w0.more G) ρ h nx w) : Inv w0 ρ h nx w :=
  ⟨I.size, I.old, I.os, I.output, I.tape, I.own, I.inj, I.new, I.obj, fun b hb => I.gone b (.inl hb)⟩
/-- the world draws, nothing else -/
theorem Inv.drew {w0 : Base} {ρ : Rho} {h : T AObj} {nx : Nat} {w : World} (I : Inv w0 ρ h nx w) : Inv w0 ρ h nx w.drew := 
  ⟨I.size, I.old, I.os, I.output, I.tape, I.own, I.inj, I.new, fun b ob cb sz e e' => (I.obj b ob cb sz e e').mono (Rho.le_refl ρ) rfl, I.gone⟩
/-- blocks are forgotten -/
theorem Inv.less {w0 : Base} {ρ : Rho} {h h' : T AObj} {nx : Nat} {w : World} (I : Inv w0 ρ h nx w) (hh : ∀ b ob, h'.get b = some ob → h.get b = some ob) : Inv w0 ρ h' nx w where
  size := I.size
  old := I.old
  os := I.os
  output := I.output
  tape := I.tape
  own := I.own
  inj x y c s s' hx hy e e' := by
    refine I.inj x y c s s' ?_ ?_ e e'
    · cases q : h'.get x with
      | none => exact absurd q hx
      | some o => simp [hh x o q]
    · cases q : h'.get y with
      | none => exact absurd q hy
      | some o => simp [hh y o q]
  new x hx := by
    refine ⟨(I.new x hx).1, ?_⟩
    cases q : h'.get x with
    | none => rfl
    | some o => have := hh x o q; rw [(I.new x hx).2] at this; cases this
  obj x ob c s hx e := I.obj x ob c s (hh x ob hx) e
  gone := I.gone

/-! temporaries -/
def TmR (ρ : Rho) (tm : T V) (tmps : Array Value) : Prop := ∀ t v, tm.get t = some v → VR ρ v (tmps.getD t undef)
theorem TmR.mono {ρ ρ' : Rho} (hle : ρ.le ρ') {tm : T V} {tmps : Array Value} (h : TmR ρ tm tmps) : TmR ρ' tm tmps := fun t v hv => (h t v hv).mono hle
theorem TmR.set {ρ : Rho} {tm : T V} {tmps : Array Value} (h : TmR ρ tm tmps) {d : Nat} {v : V} {u : Value} (hd : d < tmps.size) (hv : VR ρ v u) : TmR ρ (tm.set d v) (tmps.setIfInBounds d u) := by
  intro t x hx
  rw [T.get_set] at hx
  by_cases ht : t = d
  · subst ht
    rw [if_pos rfl] at hx
    injection hx with hx
    subst hx
    simpa [hd] using hv
  · rw [if_neg ht] at hx
    have e : (tmps.setIfInBounds d u).getD t undef = tmps.getD t undef := by
      simp [Array.getD_eq_getD_getElem?, Array.getElem?_setIfInBounds_ne (Ne.symm ht)]
    rw [e]; exact h t x hx
theorem evalO_sound {ρ : Rho} {tm : T V} {a : Act} (h : TmR ρ tm a.tmps) {x : Operand} {v : V} (hv : evalO tm x = some v) : VR ρ v (a.eval x) := by
  cases x with
  | tmp t => exact h t v hv
  | const u => exact vOf_ok ρ u hv
  | global g => cases hv
  | func f =>
    injection hv with hv; subst hv
    exact .f _ _ _ _ _ .nil .nil
theorem evalL_sound {ρ : Rho} {tm : T V} {a : Act} (h : TmR ρ tm a.tmps) : ∀ (l : List Operand) (vs : List V), evalL tm l = some vs → VRs ρ vs (l.map a.eval)
  | [], vs, e => by injection e with e; subst e; exact .nil
  | x :: l, vs, e => by
    have e' : (bd (evalO tm x) fun v => bd (evalL tm l) fun vs => some (v :: vs)) = some vs := e
    obtain ⟨v, hv, e'⟩ := bd_some.1 e'
    obtain ⟨us, hus, e'⟩ := bd_some.1 e'
    injection e' with e'; subst e'
    exact .cons _ _ _ _ (evalO_sound h hv) (evalL_sound h l us hus)
end Go.Proofs.Ev
/- What the evaluator's steps say of the program's runs: the words, and what holds of one operation. -/
set_option linter.unusedVariables false
namespace Go.Proofs.Ev
open Go

/-- what is left for later -/
def DR (P : Program) (ρ : Rho) : List (FuncId × List V) → List Deferred → Prop
  | [], [] => True
  | q :: ds, d :: dd => (∃ ys : Array Value, (∃ fv cap, d.target = .fn fv cap) ∧ (∀ w, (invoke d.target d.args).run P w = .ok (.enter q.1 ys) w) ∧ VRs ρ q.2 ys.toList) ∧ DR P ρ ds dd
  | _, _ => False
theorem DR.mono {P : Program} {ρ ρ' : Rho} (hle : ρ.le ρ') : ∀ {ds : List (FuncId × List V)} {dd : List Deferred}, DR P ρ ds dd → DR P ρ' ds dd
  | [], [], _ => trivial
  | _ :: _, _ :: _, ⟨⟨ys, h1, h2, h3⟩, h⟩ => ⟨⟨ys, h1, h2, h3.mono hle⟩, DR.mono hle h⟩
  | [], _ :: _, h => h.elim
  | _ :: _, [], h => h.elim
/-- a state, its temporaries named apart -/
structure SG (P : Program) (w0 : Base) (ρ : Rho) (tm : T V) (s : St) (a : Act) (w : World) : Prop where
  inv : Inv w0 ρ s.h s.nx w
  tm : TmR ρ tm a.tmps
  nt : s.nt ≤ a.tmps.size
  ds : DR P ρ s.ds a.defers
abbrev SR (P : Program) (w0 : Base) (ρ : Rho) (s : St) (a : Act) (w : World) : Prop := SG P w0 ρ s.tm s a w
abbrev PTm (ρ : Rho) (tm : T V) (tmps : Array Value) : Prop := TmR ρ tm tmps
theorem TmR.part {ρ : Rho} {tm : T V} {tmps : Array Value} (h : TmR ρ tm tmps) : PTm ρ tm tmps := h
structure SP (P : Program) (w0 : Base) (ρ : Rho) (s : St) (a : Act) (w : World) : Prop where
  inv : Inv w0 ρ s.h s.nx w
  tm : PTm ρ s.tm a.tmps
  ds : DR P ρ s.ds a.defers
theorem SG.part {P : Program} {w0 : Base} {ρ : Rho} {s : St} {a : Act} {w : World} (S : SR P w0 ρ s a w) : SP P w0 ρ s a w := ⟨S.inv, S.tm.part, S.ds⟩
def isPan : Out → Bool
  | .pan _ => true
  | _ => false
def OutR (ρ : Rho) : Out → Exit → Prop
  | .norm, .normal => True
  | .exit i, .exit j => i = j
  | .ret, .ret => True
  | .pan v, .panic chain => ∃ x, chain = [{ v := x, recovered := false }] ∧ VR ρ v x
  | _, _ => False
def Post (P : Program) (w0 : Base) (ρ0 : Rho) (res : Res) (e : Exit) (a : Act) (w : World) : Prop :=
  ∃ ρ o s, res = .out o s ∧ ρ0.le ρ ∧ SP P w0 ρ s a w ∧ (isPan o = false → SR P w0 ρ s a w) ∧ OutR ρ o e
def CPost (w0 : Base) (ρ0 : Rho) (res : Res) : Ending → World → Prop
  | .returned u, w => ∃ ρ v h nx, res = .got v h nx ∧ ρ0.le ρ ∧ Inv w0 ρ h nx w ∧ VR ρ v u
  | .panicked chain, w => ∃ ρ v h nx x, res = .threw v h nx ∧ ρ0.le ρ ∧ Inv w0 ρ h nx w ∧ chain = [{ v := x, recovered := false }] ∧ VR ρ v x
  | .outgrown, _ => False
theorem Post.mono {P : Program} {w0 : Base} {ρ ρ0 : Rho} (hle : ρ0.le ρ) {res : Res} {e : Exit} {a : Act} {w : World} (h : Post P w0 ρ res e a w) : Post P w0 ρ0 res e a w :=
  let ⟨ρ', o, s, h1, h2, h3⟩ := h; ⟨ρ', o, s, h1, Rho.le_trans hle h2, h3⟩
theorem CPost.mono {w0 : Base} {ρ ρ0 : Rho} (hle : ρ0.le ρ) {res : Res} {e : Ending} {w : World} (h : CPost w0 ρ res e w) : CPost w0 ρ0 res e w := by
  cases e with
  | returned u => obtain ⟨ρ', v, h', nx, h1, h2, h3⟩ := h; exact ⟨ρ', v, h', nx, h1, Rho.le_trans hle h2, h3⟩
  | panicked chain => obtain ⟨ρ', v, h', nx, x, h1, h2, h3⟩ := h; exact ⟨ρ', v, h', nx, x, h1, Rho.le_trans hle h2, h3⟩
  | outgrown => exact h
theorem Post.of_norm {P : Program} {w0 : Base} {ρ ρ0 : Rho} {s : St} {a : Act} {w : World} {o : Out} {e : Exit} (hle : ρ0.le ρ) (S : SR P w0 ρ s a w) (h : OutR ρ o e) : Post P w0 ρ0 (.out o s) e a w :=
  ⟨ρ, o, s, rfl, hle, S.part, fun _ => S, h⟩

theorem SG.fewer {P : Program} {w0 : Base} {G : Nat → Prop} {ρ : Rho} {tm : T V} {s : St} {a : Act} {w : World} (S : SG P (w0.more G) ρ tm s a w) : SG P w0 ρ tm s a w := ⟨S.inv.fewer, S.tm, S.nt, S.ds⟩
theorem SP.fewer {P : Program} {w0 : Base} {G : Nat → Prop} {ρ : Rho} {s : St} {a : Act} {w : World} (S : SP P (w0.more G) ρ s a w) : SP P w0 ρ s a w := ⟨S.inv.fewer, S.tm, S.ds⟩
/-- inside a loop, a round ahead -/
def LoopWp (P : Program) (c : Code) (Q : Exit → Act → World → Prop) (a : Act) (w : World) : Prop :=
  ∀ (b : Frame) (k : List Item) (cs : List Frame), ∃ e a' w', Q e a' w' ∧ Arrives P (lone (b.at a (.code c :: .inLoop c :: k)) cs w) b k cs e a' w'
/-- what panics in the frame that leaves -/
def MR (ρ : Rho) : Option V → FrameMode → Prop
  | none, u => u = .returning ∨ ∃ x, u = .panicking [{ v := x, recovered := true }]
  | some v, u => ∃ x, u = .panicking [{ v := x, recovered := false }] ∧ VR ρ v x
theorem MR.mono {ρ ρ' : Rho} (hle : ρ.le ρ') : ∀ {m : Option V} {u : FrameMode}, MR ρ m u → MR ρ' m u
  | none, _, h => h
  | some _, _, ⟨x, h1, h2⟩ => ⟨x, h1, h2.mono hle⟩
def PostS (P : Program) (w0 : Base) (ρ0 : Rho) (c₀ : Frame) (rest : List Frame) (res : Res) (e : Exit) (a : Act) (cs : List Frame) (w : World) : Prop :=
  ∃ ρ o s m u, res = .dout o s m ∧ ρ0.le ρ ∧ SP P w0 ρ s a w ∧ (isPan o = false → SR P w0 ρ s a w) ∧ OutR ρ o e ∧ MR ρ m u ∧ cs = { c₀ with mode := u } :: rest
theorem PostS.mono {P : Program} {w0 : Base} {ρ ρ0 : Rho} (hle : ρ0.le ρ) {c₀ : Frame} {rest : List Frame} {res : Res} {e : Exit} {a : Act} {cs : List Frame} {w : World} (h : PostS P w0 ρ c₀ rest res e a cs w) : PostS P w0 ρ0 c₀ rest res e a cs w :=
  let ⟨ρ', o, s, m, u, h1, h2, h3⟩ := h; ⟨ρ', o, s, m, u, h1, Rho.le_trans hle h2, h3⟩
def DPost (w0 : Base) (ρ0 : Rho) (res : Res) : Ending → FrameMode → World → Prop
  | .returned _, u, w => ∃ ρ m h nx, res = .back m h nx ∧ ρ0.le ρ ∧ Inv w0 ρ h nx w ∧ MR ρ m u
  | _, _, _ => False
/-- the numbers of a region's operations that stand ahead of one -/
def pre (ops : List Oper) (j i : Nat) : Prop := Nat.testBit (mask (maskT ops 0 .e) i) j = true
/-- names at an operation's own time: what is written ahead of it as it is, other names as they were -/
def AtOp (ops : List Oper) (i : Nat) (o : Oper) (tm0 tm tm' : T V) : Prop :=
  ∀ t ∈ looks ops o, ((∀ j, gdst ops j = some t → pre ops j i) → tm'.get t = tm.get t) ∧ ∀ j, gdst ops j = some t → ¬ pre ops j i → tm'.get t = tm0.get t
/-- what an operation that changes no heap tells -/
def Fact (P : Program) (ops : List Oper) (tm0 : T V) (s : St) (i : Nat) (o : Oper) : Prop :=
  ∃ b v, (b = false → v = .t []) ∧ (∀ d, o.dst = some d → s.tm.get d = some v ∧ d < s.nt) ∧ ∀ tm' : T V, AtOp ops i o tm0 s.tm tm' → wants ops tm' o.guard = some b ∧ (b = true → opA P tm' s.h s.nx o.op = some (.val v))
/-- a row is as it was made -/
def RowIs (c : T V) (m : Nat) (ob : AObj) : Prop := ∃ c', ob = .row c' m ∧ ∀ o v, o < m → c'.get o = some v → c.get o = some v
/-- what the late one tells: a row under a name of its own, as it was made -/
def LFact (P : Program) (ops : List Oper) (tm0 : T V) (s : St) (i : Nat) (o : Oper) : Prop :=
  isBS o.op = true ∧ ∃ b v, (b = false → v = .t []) ∧ (b = true → o.dst.isSome = true) ∧ (∀ d, o.dst = some d → s.tm.get d = some v ∧ d < s.nt) ∧
    ∀ tm' : T V, AtOp ops i o tm0 s.tm tm' → wants ops tm' o.guard = some b ∧ (b = true → ∃ r c m ob, nameV v = some r ∧ opA P tm' s.h r o.op = some (.new v (.row c m)) ∧ s.h.get r = some ob ∧ RowIs c m ob)
/-- what the plan's run has told so far: names of what is done alone are written; what changes no heap tells the same still -/
structure Abs (P : Program) (ops : List Oper) (lt : Option Nat) (tm0 : T V) (done effs : Nat) (s : St) : Prop where
  keep : ∀ t, (∀ j, Nat.testBit done j = true → gdst ops j ≠ some t) → s.tm.get t = tm0.get t
  clos : ∀ i j, Nat.testBit done i = true → pre ops j i → Nat.testBit done j = true
  sub : ∀ i, Nat.testBit effs i = true → Nat.testBit done i = true
  eff : ∀ i o, Nat.testBit done i = true → ops[i]? = some o → isEff o.op = true → isLt lt i = false → Nat.testBit effs i = true
  fact : ∀ i o, Nat.testBit done i = true → ops[i]? = some o → isEff o.op = false → (∀ e, Nat.testBit effs e = true → ¬ pre ops i e) → Fact P ops tm0 s i o
  late : ∀ i o, Nat.testBit done i = true → ops[i]? = some o → isLt lt i = true → (∀ e, Nat.testBit effs e = true → ¬ pre ops i e) → LFact P ops tm0 s i o
/-- the late one's row has this name -/
def LateIs (ops : List Oper) (lt : Option Nat) (done : Nat) (s : St) (r : Nat) : Prop :=
  ∃ L o d v, isLt lt L = true ∧ Nat.testBit done L = true ∧ ops[L]? = some o ∧ o.dst = some d ∧ s.tm.get d = some v ∧ nameV v = some r
/-- and the world has not made it -/
def Still (ops : List Oper) (lt : Option Nat) (done : Nat) (s : St) (listed : Array Bool) (r : Nat) : Prop :=
  ∃ L o d v, isLt lt L = true ∧ Nat.testBit done L = true ∧ listed.getD L false = false ∧ ops[L]? = some o ∧ o.dst = some d ∧ s.tm.get d = some v ∧ nameV v = some r
/-- where a run of the world stands: some operations are listed -/
structure Conc (P : Program) (w0 : Base) (ops : List Oper) (lt : Option Nat) (tm0 : T V) (done effs : Nat) (s : St) (ρ : Rho) (listed : Array Bool) (a : Act) (w : World) : Prop where
  size : listed.size = ops.length
  st : ∃ tm, SG P (w0.more (Still ops lt done s listed)) ρ tm s a w ∧ (∀ t, (∀ j, gdst ops j = some t → listed.getD j false = true) → tm.get t = s.tm.get t) ∧ ∀ j t, gdst ops j = some t → listed.getD j false = false → tm.get t = tm0.get t
  fresh : ∀ r, LateIs ops lt done s r → ¬ w0.gone r
  closed : ∀ i o, listed.getD i false = true → ops[i]? = some o → ∀ e ∈ o.after, Region.binds .any e = true → listed.getD e.on false = true
  within : ∀ i, listed.getD i false = true → Nat.testBit done i = true
  all : ∀ e, Nat.testBit effs e = true → listed.getD e false = true
/-- how many operations are not listed -/
def left (listed : Array Bool) : Nat := listed.toList.countP (!·)
/-- what holds in the middle of a drawn region -/
def Drawn (P : Program) (w0 : Base) (ops : List Oper) (pl : List PI) (tp : T V) (s : St) (res : Res) : Prop :=
  okOps ops (maskT ops 0 .e) ops 0 = true → ∀ (lt : Option Nat) (done effs : Nat) (tm0 : T V), okPlan ops (maskT ops 0 .e) lt pl done effs = true → tp = clearT ops tm0 → Abs P ops lt tm0 done effs s →
    ∀ ρ listed a w, Conc P w0 ops lt tm0 done effs s ρ listed a w → ∀ fuel, left listed ≤ fuel → wpAny P .any ops.toArray (Post P w0 ρ res) fuel listed a w
def GoodJ (P : Program) (w0 : Base) : Job → Res → Prop
  | .ops ops l s, res => ∀ ρ a w, SR P w0 ρ s a w → wpList P ops.toArray (Post P w0 ρ res) l a w
  | .dr ops pl tp s, res => Drawn P w0 ops pl tp s res
  | .code co s, res => ∀ ρ a w, SR P w0 ρ s a w → co.wp P (Post P w0 ρ res) a w
  | .loop c s, res => ∀ ρ a w, SR P w0 ρ s a w → LoopWp P c (Post P w0 ρ res) a w
  | .call f args h nx, res => ∀ ρ (xs : Array Value) w, Inv w0 ρ h nx w → VRs ρ args xs.toList → Calls P f xs w (CPost w0 ρ res)
  | .dops ops l s m, res => ∀ ρ a w c₀ rest u, SR P w0 ρ s a w → MR ρ m u → wpOpsS P ops.toArray (PostS P w0 ρ c₀ rest res) l a ({ c₀ with mode := u } :: rest) w
  | .dcode co s m, res => ∀ ρ a w c₀ rest u, SR P w0 ρ s a w → MR ρ m u → co.wpS P (PostS P w0 ρ c₀ rest res) a ({ c₀ with mode := u } :: rest) w
  | .dcall f args h nx m, res => ∀ ρ (xs : Array Value) w u, Inv w0 ρ h nx w → VRs ρ args xs.toList → MR ρ m u → CallsD P f xs u w (DPost w0 ρ res)
def Good (P : Program) (w0 : Base) (rc : Rec) : Prop := ∀ j res, rc j = some res → GoodJ P w0 j res
def DidOk (w0 : Base) (ρ : Rho) (h : T AObj) (nx : Nat) (w : World) (r : Result Next) : Did → Prop
  | .val v => ∃ x, r = .ok (.value x) w ∧ VR ρ v x
  | .new v ob => ∃ x w' c, r = .ok (.value x) w' ∧ Inv w0 (ρ.put nx c) (h.set nx ob) (nx + 1) w' ∧ VR (ρ.put nx c) v x
  | .app v b ob => ∃ x w' c, r = .ok (.value x) w' ∧ Inv w0 (ρ.put nx c) ((h.del b).set nx ob) (nx + 1) w' ∧ VR (ρ.put nx c) v x
  | .set b ob => ∃ w', r = .ok .skip w' ∧ Inv w0 ρ (h.set b ob) nx w'
  | .enter f args => ∃ xs : Array Value, r = .ok (.enter f xs) w ∧ VRs ρ args xs.toList
  | .pan v => ∃ x, r = .halt (.panic x) w ∧ VR ρ v x
  | .defer _ _ => False
  | .recov => False
theorem le_put' {w0 : Base} {ρ : Rho} {h : T AObj} {nx : Nat} {w : World} (I : Inv w0 ρ h nx w) (c : Nat × Nat) : ρ.le (ρ.put nx c) := Rho.le_put (I.new nx (Nat.le_refl _)).1
theorem wpList_mono {P : Program} {ops : Array Oper} {Q Q' : Exit → Act → World → Prop} (hq : ∀ e a w, Q e a w → Q' e a w) : ∀ (l : List Oper) {a : Act} {w : World}, wpList P ops Q l a w → wpList P ops Q' l a w
  | [], _, _, h => hq _ _ _ h
  | o :: rest, a, w, h => by
    unfold wpList at h ⊢
    split
    · rename_i hw
      rw [if_pos hw] at h
      rcases h with h | ⟨h1, h2⟩
      · refine .inl ?_
        unfold Oper.wp at *
        generalize (execOp a.eval o).run P w = r at *
        cases r with
        | ok n w' =>
          cases n <;> simp only [Oper.upon] at h ⊢ <;>
            first
              | exact wpList_mono hq rest h
              | exact Calls.mono h (fun e w'' he => by cases e <;> first | exact wpList_mono hq rest he | exact hq _ _ _ he | exact (let ⟨a, w, h⟩ := he; ⟨a, w, hq _ _ _ h⟩))
              | exact Rows.mono h (fun _ _ he => wpList_mono hq rest he)
        | halt x w' => cases x <;> simp only [Oper.upon] at h ⊢ <;> first | exact h | exact hq _ _ _ h
      · exact .inr ⟨h1, let ⟨a, w, h⟩ := h2; ⟨a, w, hq _ _ _ h⟩⟩
    · rename_i hw
      rw [if_neg hw] at h
      exact wpList_mono hq rest h
theorem wants_sound {ops : List Oper} {tm : T V} {o : Oper} {b : Bool} {ρ : Rho} {a : Act} (h : wants ops tm o.guard = some b) (ht : TmR ρ tm a.tmps) : Region.wanted o (yielded ops.toArray a.tmps) = b := by
  unfold Region.wanted
  cases hg : o.guard with
  | none => rw [hg] at h; injection h
  | some q =>
    obtain ⟨j, want⟩ := q
    rw [hg] at h
    obtain ⟨t, h1, h2⟩ := bd_some.1 h
    have hd : (ops.toArray[j]?).bind (·.dst) = some t := by
      unfold gdst at h1
      cases ho : ops[j]? with
      | none => rw [ho] at h1; cases h1
      | some o' => rw [ho] at h1; simp [ho]; exact h1
    unfold guardB at h2
    cases hv : tm.get t with
    | none => rw [hv] at h2; cases h2
    | some v =>
      rw [hv] at h2
      have hr := ht t v hv
      cases v <;> first | (cases h2; done) | skip
      · rename_i c
        have hc : (some (Bool.rec (Bool.not want) want c) : Option Bool) = some b := h2
        have hx : a.tmps.getD t undef = .bool c := by
          generalize a.tmps.getD t undef = x at hr
          cases hr; rfl
        have hx' : a.tmps[t]? = some (.bool c) := by
          rw [Array.getD_eq_getD_getElem?] at hx
          cases hq : a.tmps[t]? with
          | none => rw [hq] at hx; cases hx
          | some y => rw [hq] at hx; simpa using hx
        unfold yielded
        simp only [hd, Option.bind_some, hx']
        injection hc with hc
        subst hc
        cases c <;> cases want <;> rfl
      · rename_i vs
        have hc : (some false : Option Bool) = some b := h2
        injection hc with hc
        subst hc
        have hx : ∀ c, a.tmps[t]? ≠ some (.bool c) := by
          intro c hq
          rw [Array.getD_eq_getD_getElem?, hq] at hr
          cases hr
        have hy : yielded ops.toArray a.tmps j = none := by
          unfold yielded
          rw [hd, Option.bind_some]
          cases hq : a.tmps[t]? with
          | none => rfl
          | some y => cases y <;> first | exact absurd hq (hx _) | rfl
        show (yielded ops.toArray a.tmps j == some want) = false
        rw [hy]
        cases want <;> rfl
/-- a name is written -/
noncomputable def putT (tm : T V) (d : Option Tmp) (v : V) : T V := match d with | some t => tm.set t v | none => tm
theorem put_some {s s' : St} {d : Option Tmp} {v : V} (h : s.put d v = some s') : (∀ t, d = some t → t < s.nt) ∧ s' = ⟨putT s.tm d v, s.h, s.nx, s.nt, s.ds⟩ := by
  cases d with
  | none => injection h with h; subst h; exact ⟨fun t q => (by cases q), rfl⟩
  | some d =>
    obtain ⟨hd, h⟩ := gd_some.1 h
    injection h with h
    exact ⟨fun t q => by injection q with q; subst q; exact ble_true.1 hd, h.symm⟩
theorem putT_ok {P : Program} {w0 : Base} {ρ : Rho} {tm : T V} {s s' : St} {d : Option Tmp} {v : V} {u : Value} {a : Act} {w : World} (h : s.put d v = some s') (S : SG P w0 ρ tm s a w) (hv : VR ρ v u) : SG P w0 ρ (putT tm d v) s' (a.put d u) w := by
  obtain ⟨h1, h2⟩ := put_some h
  subst h2
  cases d with
  | none => exact ⟨S.inv, S.tm, S.nt, S.ds⟩
  | some d => exact ⟨S.inv, S.tm.set (Nat.lt_of_lt_of_le (h1 d rfl) S.nt) hv, by simpa [Act.put] using S.nt, S.ds⟩
theorem put_tm {s s' : St} {d : Option Tmp} {v : V} (h : s.put d v = some s') : s'.tm = putT s.tm d v := by
  rw [(put_some h).2]
theorem put_SR {P : Program} {w0 : Base} {ρ : Rho} {s s' : St} {d : Option Tmp} {v : V} {u : Value} {a : Act} {w : World} (h : s.put d v = some s') (S : SR P w0 ρ s a w) (hv : VR ρ v u) : SR P w0 ρ s' (a.put d u) w := by
  have := putT_ok h S hv
  rw [← put_tm h] at this
  exact this
end Go.Proofs.Ev
