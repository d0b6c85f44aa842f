/- The evaluator and the world: maps, slices, operations. -/
import Derived.Test.YtngdilbfhpcfgaaGreatDoorEC
set_option linter.unusedSimpArgs false
set_option linter.unusedVariables false
/- The operations, fifth part: maps. -/
set_option linter.unusedVariables false
namespace Go.Proofs.Ev
open Go
section
variable {P : Program} {w0 : Base}

/-- two keys of one kind, compared -/
theorem eqKey_ok {ρ : Rho} {s : Bool} {x y : V} {a b : Value} {r : Bool} {d : TypeDesc} (h : eqKey s x y = some r) (hd : (s = true ∧ d = .string) ∨ (s = false ∧ ∃ k, d = .int k)) (hx : VR ρ x a) (hy : VR ρ y b) :
    Instr.sameNow d a b = some r ∧ (r = true → a = b) ∧ (∀ n, r = true → Instr.sameBits n a b = true ∧ Instr.sameBits n b a = true) := by
  cases s with
  | true =>
    have hd : d = .string := by rcases hd with ⟨_, q⟩ | ⟨q, _⟩; exact q; cases q
    subst hd
    have h : eqS x y = some r := h
    cases x <;> first | (cases h; done) | skip
    cases y <;> first | (cases h; done) | skip
    injection h with h
    cases hx with
    | s sa _ _ hl hn =>
    cases hy with
    | s sb _ _ hl' hn' =>
    subst hl; subst hn; subst hl'; subst hn'
    rw [← str_eq] at h
    have e : (sa == sb) = r := by
      rw [← h]
      by_cases q : sa = sb
      · subst q; simp [MapKept.bytes_beq]
      · have h1 : (sa == sb) = false := Bool.eq_false_iff.2 fun z => q ((MapKept.bytes_beq _ _).1 z)
        rw [h1, eq_comm, Bool.eq_false_iff]
        intro z
        have z : sa.toList = sb.toList := by simpa using z
        rw [bytes_list, bytes_list] at z
        exact q (ByteArray.ext (Array.ext' z))
    refine ⟨by simp [Instr.sameNow, e], fun q => by subst q; rw [(MapKept.bytes_beq _ _).1 e], fun n q => ?_⟩
    subst q
    have := (MapKept.bytes_beq _ _).1 e
    subst this
    cases n <;> simp [Instr.sameBits, MapKept.bytes_beq]
  | false =>
    have hd : ∃ k, d = .int k := by rcases hd with ⟨q, _⟩ | ⟨_, q⟩; cases q; exact q
    obtain ⟨kd, rfl⟩ := hd
    have h : eqI x y = some r := h
    cases x <;> first | (cases h; done) | skip
    cases y <;> first | (cases h; done) | skip
    obtain ⟨h1, h2⟩ := gd_some.1 h
    have hk := kNo_inj (beq_true.1 h1)
    subst hk
    injection h2 with h2
    rename_i k m n _
    rw [hx.i_inv, hy.i_inv]
    rw [beqD] at h2
    by_cases q : m = n
    · subst q
      simp only [decide_true] at h2
      subst h2
      exact ⟨by simp [Instr.sameNow], fun _ => rfl, fun n _ => by cases n <;> simp [Instr.sameBits]⟩
    · simp only [q, decide_false] at h2
      subst h2
      refine ⟨?_, fun z => (Bool.noConfusion z), fun _ z => (Bool.noConfusion z)⟩
      have : ¬ ((m : Int) - 9223372036854775808 = (n : Int) - 9223372036854775808) := by omega
      simp [Instr.sameNow, this]
theorem keyType_some {t : TypeId} {s : Bool} (h : keyType P t = some s) : ∃ d, P.underlying t = some d ∧ ((s = true ∧ d = .string) ∨ (s = false ∧ ∃ k, d = .int k)) := by
  unfold keyType at h
  cases hu : P.underlying t with
  | none => simp only [und, hu] at h; cases h
  | some d =>
    simp only [und, hu] at h
    cases d <;> first | (cases h; done) | skip
    · injection h with h; exact ⟨_, rfl, .inr ⟨h.symm, _, rfl⟩⟩
    · injection h with h; exact ⟨_, rfl, .inl ⟨h.symm, rfl⟩⟩
/-- the entries of a map, in their order -/
def ER (ρ : Rho) (es : List (V × V)) (ents : List MapEntry) : Prop := VRs ρ (es.map (·.1)) (ents.map (·.key)) ∧ VRs ρ (es.map (·.2)) (ents.map (·.val))
theorem ER.nil_inv {ρ : Rho} {ents : List MapEntry} (h : ER ρ [] ents) : ents = [] := by
  have := h.1.length
  simpa using this.symm
theorem ER.cons_inv {ρ : Rho} {e : V × V} {es : List (V × V)} {ents : List MapEntry} (h : ER ρ (e :: es) ents) : ∃ x xs, ents = x :: xs ∧ VR ρ e.1 x.key ∧ VR ρ e.2 x.val ∧ ER ρ es xs := by
  obtain ⟨h1, h2⟩ := h
  cases ents with
  | nil => cases h1
  | cons x xs =>
    cases h1 with
    | cons _ _ _ _ a b =>
    cases h2 with
    | cons _ _ _ _ c d => exact ⟨x, xs, rfl, a, c, b, d⟩
theorem ER.cons {ρ : Rho} {e : V × V} {es : List (V × V)} {x : MapEntry} {xs : List MapEntry} (h1 : VR ρ e.1 x.key) (h2 : VR ρ e.2 x.val) (h : ER ρ es xs) : ER ρ (e :: es) (x :: xs) :=
  ⟨.cons _ _ _ _ h1 h.1, .cons _ _ _ _ h2 h.2⟩
theorem findM_ok {ρ : Rho} {s : Bool} {d : TypeDesc} (hd : (s = true ∧ d = .string) ∨ (s = false ∧ ∃ k, d = .int k)) {k : V} {kv : Value} (hk : VR ρ k kv) : ∀ (es : List (V × V)) (ents : List MapEntry) (i : Nat) (r : Option V),
    findM s k es = some r → ER ρ es ents → (r = none ∧ Instr.findNow d kv ents i = some none) ∨ ∃ u j x, r = some u ∧ Instr.findNow d kv ents i = some (some (j, x)) ∧ VR ρ u x
  | [], ents, i, r, h, he => by
    have := he.nil_inv
    subst this
    injection h with h; subst h
    exact .inl ⟨rfl, rfl⟩
  | e :: es, ents, i, r, h, he => by
    obtain ⟨x, xs, rfl, h1, h2, h3⟩ := he.cons_inv
    have h : (bd (eqKey s k e.1) (Bool.rec (findM s k es) (some (some e.2))) : R (Option V)) = some r := h
    obtain ⟨b, h4, h5⟩ := bd_some.1 h
    obtain ⟨h6, h7, _⟩ := eqKey_ok h4 hd hk h1
    cases b with
    | true =>
      injection h5 with h5; subst h5
      exact .inr ⟨e.2, i, x.val, rfl, by simp [Instr.findNow, h6], h2⟩
    | false =>
      rcases findM_ok hd hk es xs (i + 1) r h5 h3 with ⟨h8, h9⟩ | ⟨u, j, y, h8, h9, h10⟩
      · exact .inl ⟨h8, by simp [Instr.findNow, h6, h9]⟩
      · exact .inr ⟨u, j, y, h8, by simp [Instr.findNow, h6, h9], h10⟩
theorem run_checkKey' {kt : TypeId} {d : TypeDesc} {s : Bool} (hu : P.underlying kt = some d) (hd : (s = true ∧ d = .string) ∨ (s = false ∧ ∃ k, d = .int k)) (e : Bool) (kv : Value) (w : World) :
    (Instr.checkKey e 10000 kt kv).run P w = .ok () w := by
  show (Instr.checkKey e (9999 + 1) kt kv).run P w = _
  generalize (9999 : Nat) = n
  rcases hd with ⟨_, rfl⟩ | ⟨_, k, rfl⟩
  · unfold Instr.checkKey; simp only [Sem.run_bind, run_underlying hu, Result.andThen_ok]; rfl
  · unfold Instr.checkKey; simp only [Sem.run_bind, run_underlying hu, Result.andThen_ok]; rfl
theorem mapOf_ok {ρ : Rho} {h : T AObj} {nx : Nat} {w : World} (I : Inv w0 ρ h nx w) {x : V} {a : Value} {es : List (V × V)} (hm : mapOf h x = some es) (hx : VR ρ x a) :
    (a = .map none ∧ es = []) ∨ ∃ b cb sz ents clock, x = .m b ∧ ρ b = some (cb, sz) ∧ h.get b = some (.map es) ∧ a = .map (some cb) ∧ w.heap[cb]? = some (.map ents clock) ∧ ER ρ es ents.toList := by
  cases x <;> first | (cases hm; done) | skip
  · injection hm with hm; subst hm
    cases hx; exact .inl ⟨rfl, rfl⟩
  · rename_i b
    have hm : (match h.get b with | some (.map es) => some es | _ => none : R (List (V × V))) = some es := hm
    cases hb : h.get b with
    | none => rw [hb] at hm; cases hm
    | some ob =>
      rw [hb] at hm
      cases ob with
      | row c z => cases hm
      | map es' =>
        injection hm with hm; subst hm
        cases hx with
        | m _ cb sz hr =>
        obtain ⟨ents, clock, h1, h2, h3, _⟩ := I.obj b _ cb sz hb hr
        exact .inr ⟨b, cb, sz, ents, clock, rfl, hr, hb, rfl, h1, h2, h3⟩
theorem lookupA_ok {ρ : Rho} {h : T AObj} {nx : Nat} {w : World} (I : Inv w0 ρ h nx w) {t : TypeId} {x k v : V} {a kv : Value} {ok : Bool} (hl : lookupA P h t x k ok = some v) (hx : VR ρ x a) (hk : VR ρ k kv) :
    ∃ u, (Instr.lookup t a kv ok).run P w = .ok u w ∧ VR ρ v u := by
  unfold lookupA at hl
  cases hu : P.underlying t with
  | none => simp only [und, hu] at hl; cases hl
  | some d =>
    simp only [und, hu] at hl
    cases d <;> first | (cases hl; done) | skip
    rename_i kt elem
    obtain ⟨s, h1, hl⟩ := bd_some.1 hl
    obtain ⟨es, h2, hl⟩ := bd_some.1 hl
    obtain ⟨r, h3, hl⟩ := bd_some.1 hl
    obtain ⟨dk, hdk, hs⟩ := keyType_some h1
    have fin : ∀ (ents : Array MapEntry), ER ρ es ents.toList → (∃ z u, (zeroValue elem).run P w = .ok u w ∧ VR ρ z u ∧ v = (Bool.rec z (.t [z, .b false]) ok) ∧ Instr.findNow dk kv ents.toList 0 = some none) ∨
        ∃ u j y, VR ρ u y ∧ v = (Bool.rec u (.t [u, .b true]) ok) ∧ Instr.findNow dk kv ents.toList 0 = some (some (j, y)) := by
      intro ents he
      rcases findM_ok hs hk es ents.toList 0 r h3 he with ⟨rfl, h5⟩ | ⟨u, j, y, rfl, h5, h6⟩
      · obtain ⟨z, h7, h8⟩ := bd_some.1 hl
        obtain ⟨u, h9, h10, _⟩ := run_zeroValue h7 w ρ
        injection h8 with h8
        exact .inl ⟨z, u, h9, h10, h8.symm, h5⟩
      · injection hl with h8
        exact .inr ⟨u, j, y, h6, h8.symm, h5⟩
    rcases mapOf_ok I h2 hx with ⟨rfl, rfl⟩ | ⟨b, cb, sz, ents, clock, rfl, hr, hb, rfl, hw, he⟩
    · rcases fin #[] ⟨.nil, .nil⟩ with ⟨z, u, h5, h6, rfl, h7⟩ | ⟨u, j, y, h5, rfl, h7⟩
      · cases ok
        · exact ⟨u, by simp [Instr.lookup, run_underlying hu, run_checkKey' hdk hs, Instr.findKey, run_underlying hdk, h5, Instr.findNow], h6⟩
        · exact ⟨.tuple #[u, .bool false], by simp [Instr.lookup, run_underlying hu, run_checkKey' hdk hs, Instr.findKey, run_underlying hdk, h5, Instr.findNow], .t _ _ (.cons _ _ _ _ h6 (.cons _ _ _ _ (.b _) .nil))⟩
      · cases h7
    · rcases fin ents he with ⟨z, u, h5, h6, rfl, h7⟩ | ⟨u, j, y, h5, rfl, h7⟩
      · cases ok
        · exact ⟨u, by simp [Instr.lookup, run_underlying hu, MapKept.run_getObj_map hw, run_checkKey' hdk hs, Instr.findKey, run_underlying hdk, h5, h7], h6⟩
        · exact ⟨.tuple #[u, .bool false], by simp [Instr.lookup, run_underlying hu, MapKept.run_getObj_map hw, run_checkKey' hdk hs, Instr.findKey, run_underlying hdk, h5, h7], .t _ _ (.cons _ _ _ _ h6 (.cons _ _ _ _ (.b _) .nil))⟩
      · cases ok
        · exact ⟨y, by simp [Instr.lookup, run_underlying hu, MapKept.run_getObj_map hw, run_checkKey' hdk hs, Instr.findKey, run_underlying hdk, h7], h5⟩
        · exact ⟨.tuple #[y, .bool true], by simp [Instr.lookup, run_underlying hu, MapKept.run_getObj_map hw, run_checkKey' hdk hs, Instr.findKey, run_underlying hdk, h7], .t _ _ (.cons _ _ _ _ h5 (.cons _ _ _ _ (.b _) .nil))⟩
/-- a key is put -/
theorem putM_ok {ρ : Rho} {s : Bool} {d : TypeDesc} (hd : (s = true ∧ d = .string) ∨ (s = false ∧ ∃ k, d = .int k)) {k v : V} {kv u : Value} (hk : VR ρ k kv) (hv : VR ρ v u) : ∀ (es : List (V × V)) (ents : List MapEntry) (i : Nat) (es' : List (V × V)),
    putM s k v es = some es' → ER ρ es ents →
      (Instr.findNow d kv ents i = some none ∧ ∀ b, ER ρ es' (ents ++ [{ key := kv, val := u, born := b }])) ∨
      ∃ j x, Instr.findNow d kv ents i = some (some (i + j, x.val)) ∧ ents[j]? = some x ∧ x.key = kv ∧ (∀ n, Instr.sameBits n x.key kv = true) ∧ ER ρ es' (ents.modify j fun e => { e with key := kv, val := u })
  | [], ents, i, es', h, he => by
    have := he.nil_inv
    subst this
    injection h with h; subst h
    exact .inl ⟨rfl, fun b => ⟨.cons _ _ _ _ hk .nil, .cons _ _ _ _ hv .nil⟩⟩
  | e :: es, ents, i, es', h, he => by
    obtain ⟨x, xs, rfl, h1, h2, h3⟩ := he.cons_inv
    have h : (bd (eqKey s k e.1) (Bool.rec (bd (putM s k v es) fun l => some (e :: l)) (some ((k, v) :: es))) : R (List (V × V))) = some es' := h
    obtain ⟨b, h4, h5⟩ := bd_some.1 h
    obtain ⟨h6, h7, h8⟩ := eqKey_ok h4 hd hk h1
    cases b with
    | true =>
      injection h5 with h5; subst h5
      exact .inr ⟨0, x, by simp [Instr.findNow, h6], rfl, (h7 rfl).symm, fun n => (h8 n rfl).2, ER.cons hk hv h3⟩
    | false =>
      obtain ⟨l, h9, h10⟩ := bd_some.1 h5
      injection h10 with h10; subst h10
      rcases putM_ok hd hk hv es xs (i + 1) l h9 h3 with ⟨h11, h12⟩ | ⟨j, y, h11, h12, h13, h14, h15⟩
      · exact .inl ⟨by simp [Instr.findNow, h6, h11], fun b => ER.cons h1 h2 (h12 b)⟩
      · exact .inr ⟨j + 1, y, by simp [Instr.findNow, h6, h11]; omega, by simpa using h12, h13, h14, ER.cons h1 h2 h15⟩
theorem mapUpA_ok {ρ : Rho} {h : T AObj} {nx : Nat} {w : World} (I : Inv w0 ρ h nx w) {t : TypeId} {x k v : V} {a kv u : Value} {d : Did} (hl : mapUpA P h t x k v = some d) (hx : VR ρ x a) (hk : VR ρ k kv) (hv : VR ρ v u) :
    ∃ b ob w', d = .set b ob ∧ (Instr.mapUpdate t a kv u).run P w = .ok () w' ∧ Inv w0 ρ (h.set b ob) nx w' := by
  unfold mapUpA at hl
  cases hu : P.underlying t with
  | none => simp only [und, hu] at hl; cases hl
  | some dd =>
    simp only [und, hu] at hl
    cases dd <;> first | (cases hl; done) | skip
    rename_i kt elem
    obtain ⟨s, h1, hl⟩ := bd_some.1 hl
    obtain ⟨dk, hdk, hs⟩ := keyType_some h1
    cases x <;> first | (cases hl; done) | skip
    rename_i b _
    have hl : (match h.get b with | some (.map es) => bd (putM s k v es) fun es => some (Did.set b (.map es)) | _ => none : R Did) = some d := hl
    cases hx with
    | m _ cb sz hr =>
    cases hb : h.get b with
    | none => simp only [hb] at hl; cases hl
    | some ob =>
      simp only [hb] at hl
      cases ob with
      | row c z => cases hl
      | map es =>
        obtain ⟨es', h2, h3⟩ := bd_some.1 hl
        injection h3 with h3; subst h3
        obtain ⟨ents, clock, hw, h4, h5, hn1, hn2⟩ := I.obj b _ cb sz hb hr
        have base : ∀ (ents' : Array MapEntry) (clock' : Nat), (ents'.toList.map (·.born)).Nodup → (∀ b ∈ ents'.toList.map (·.born), b < clock') → ER ρ es' ents'.toList → Inv w0 ρ (h.set b (.map es')) nx { w with heap := w.heap.setIfInBounds cb (.map ents' clock') } := fun ents' clock' q1 q2 he =>
          I.set hb hr (by simp) (fun q hq => (MapKept.heap_set (o' := .map ents' clock') hw).2 q hq) rfl rfl rfl ⟨ents', clock', (MapKept.heap_set (o' := .map ents' clock') hw).1, he.1, he.2, q1, q2⟩
        rcases putM_ok hs hk hv es ents.toList 0 es' h2 ⟨h4, h5⟩ with ⟨h6, h7⟩ | ⟨j, y, h6, h7, h8, h9, h10⟩
        · refine ⟨b, _, _, rfl, ?_, base (ents.push { key := kv, val := u, born := clock }) (clock + 1) (by
            simp only [Array.toList_push, List.map_append, List.map_cons, List.map_nil]
            exact List.nodup_append.2 ⟨hn1, by simp, fun x hx y hy => by
              have := hn2 x hx
              simp only [List.mem_cons, List.not_mem_nil, or_false] at hy
              subst hy
              exact Nat.ne_of_lt this⟩) (by
            intro x hx
            simp only [Array.toList_push, List.map_append, List.map_cons, List.map_nil, List.mem_append, List.mem_cons, List.not_mem_nil, or_false] at hx
            rcases hx with hx | rfl
            · exact Nat.lt_succ_of_lt (hn2 x hx)
            · exact Nat.lt_succ_self _) (by simpa using h7 clock)⟩
          simp [Instr.mapUpdate, run_underlying hu, MapKept.run_getObj_map hw, run_checkKey' hdk hs, Instr.findKey, run_underlying hdk, h6, MapKept.run_setObj_map _ hw]
        · have h7' : ents[j]? = some y := by simpa using h7
          have hm : (ents.modify j fun e => { e with key := kv, val := u }).toList = ents.toList.modify j fun e => { e with key := kv, val := u } := by simp
          have hmb : (ents.toList.modify j fun e => { e with key := kv, val := u }).map (·.born) = ents.toList.map (·.born) := by
            refine List.ext_getElem? fun i => ?_
            rw [List.getElem?_map, List.getElem?_map, List.getElem?_modify]
            cases ents.toList[i]? with
            | none => rfl
            | some e => by_cases q : j = i <;> simp [q]
          refine ⟨b, _, _, rfl, ?_, base (ents.modify j fun e => { e with key := kv, val := u }) clock (by rw [hm, hmb]; exact hn1) (by rw [hm, hmb]; exact hn2) (by rw [hm]; exact h10)⟩
          simp [Instr.mapUpdate, run_underlying hu, MapKept.run_getObj_map hw, run_checkKey' hdk hs, Instr.findKey, run_underlying hdk, h6, MapKept.run_setObj_map _ hw, h7', Instr.keyThatStays, h9]
theorem lenA_ok {ρ : Rho} {h : T AObj} {nx : Nat} {w : World} (I : Inv w0 ρ h nx w) {t ty : TypeId} {ts : Array TypeId} {x v : V} {a : Value} (hl : lenA P h t x = some v) (hx : VR ρ x a) (ht : ts[0]? = some t) :
    ∃ u, (Builtin.len_ ts ty #[a]).run P w = .ok u w ∧ VR ρ v u := by
  have num : ∀ n v, mkI .i64 (Nat.add n off) = some v → VR ρ v (goInt n) := fun n v hm => by
    obtain ⟨rfl, _, _⟩ := mkI_some hm
    refine .i _ _ _ ?_
    show (n : Int) = ((n + 9223372036854775808 : Nat) : Int) - 9223372036854775808
    omega
  unfold lenA at hl
  cases hu : P.underlying t with
  | none => simp only [und, hu] at hl; cases hl
  | some d =>
    simp only [und, hu] at hl
    cases d <;> first | (simp only [reduceCtorEq] at hl; done) | skip
    · cases x <;> first | (simp only [reduceCtorEq] at hl; done) | skip
      cases hx with
      | s s _ _ hl' hn =>
      subst hl'
      exact ⟨_, by simp [Builtin.len_, ht, run_underlying hu], num _ _ hl⟩
    · cases x <;> first | (simp only [reduceCtorEq] at hl; done) | skip
      · cases hx
        injection hl with hl; subst hl
        have e0 : ∀ q : Nat, q = off → VR ρ (.i .i64 q) (goInt 0) := fun q hq => .i _ _ _ (by have : off = 9223372036854775808 := rfl; omega)
        exact ⟨goInt 0, by simp [Builtin.len_, ht, run_underlying hu], e0 _ rfl⟩
      · cases hx with
        | l _ _ _ _ cap o' cb sz hr hc hs ho =>
        exact ⟨_, by simp [Builtin.len_, ht, run_underlying hu], num _ _ hl⟩
    · exact ⟨_, by simp [Builtin.len_, ht, run_underlying hu], num _ _ hl⟩
    · obtain ⟨es, h2, hl2⟩ := bd_some.1 hl
      rcases mapOf_ok I h2 hx with ⟨rfl, rfl⟩ | ⟨b, cb, sz, ents, clock, rfl, hr, hb, rfl, hw, he⟩
      · exact ⟨_, by simp [Builtin.len_, ht, run_underlying hu], num _ _ hl2⟩
      · have := he.1.length
        simp only [List.length_map, Array.length_toList] at this
        rw [this] at hl2
        exact ⟨_, by simp [Builtin.len_, ht, run_underlying hu, MapKept.run_getObj_map hw], num _ _ hl2⟩
end
end Go.Proofs.Ev
/- The operations, sixth part: rows that grow, rows that are made. -/
set_option linter.unusedVariables false
namespace Go.Proofs.Ev
open Go
section
variable {P : Program} {w0 : Base}

theorem run_app_room {ts : Array TypeId} {ty t u e : TypeId} {d : TypeDesc} {i : TypeInfo} (h0 : ts[0]? = some t) (h1 : ts[1]? = some u) (ht : P.underlying t = some (.slice e)) (hu : P.underlying u = some d) (hd : ∀ k, d ≠ .int k) (hi : P.info? e = some i)
    {base : Option Addr} {sLen sCap n : Nat} {x : Value} {news : Array Value} {w w' : World} (hl : (Builtin.lenOf x).run P w = .ok n w) (hf : (Builtin.firstCells i.size n x).run P w = .ok news w) (hroom : sLen + n ≤ sCap)
    (hst : ∀ a, base = some a → (storeCells (a.add (sLen * i.size)) news.toList).run P w = .ok () w') (hb : base = none → w' = w) :
    (Builtin.append_ ts ty #[.slice base sLen sCap, x]).run P w = .ok (.slice base (sLen + n) sCap) w' := by
  have hz : (d matches .int _) = false := by cases d <;> first | rfl | exact absurd rfl (hd _)
  cases base with
  | none =>
    have := hb rfl; subst this
    simp [Builtin.append_, h0, h1, run_underlying ht, run_underlying hu, sizeOf, typeInfo, hi, hl, hroom, hf, hz]
  | some a =>
    have := hst a rfl
    simp [Builtin.append_, h0, h1, run_underlying ht, run_underlying hu, sizeOf, typeInfo, hi, hl, hroom, hf, this, hz]
theorem run_app_grow {ts : Array TypeId} {ty t u e : TypeId} {d : TypeDesc} {i : TypeInfo} {z : Value} (h0 : ts[0]? = some t) (h1 : ts[1]? = some u) (ht : P.underlying t = some (.slice e)) (hu : P.underlying u = some d) (hd : ∀ k, d ≠ .int k) (hi : P.info? e = some i) (hz : i.zero = some z)
    {base : Option Addr} {sLen sCap n : Nat} {x : Value} {olds news : Array Value} {w : World} (hl : (Builtin.lenOf x).run P w = .ok n w) (hf : (Builtin.firstCells i.size n x).run P w.drew = .ok news w.drew) (ho : (Builtin.firstCells i.size sLen (.slice base sLen sCap)).run P w.drew = .ok olds w.drew)
    (hg : sCap < sLen + n) (h63 : ((sLen + n : Nat) : Int) ≤ 9223372036854775807) (hfit : Builtin.nextslicecap (sLen + n) sCap * i.bytes ≤ 281474976710656) :
    (Builtin.append_ ts ty #[.slice base sLen sCap, x]).run P w =
      .ok (.slice (some ⟨w.heap.size, 0, none⟩) (sLen + n) (grownCap w (sLen + n) sCap e)) (w.drew.alloc (.cells (olds ++ news ++ Builtin.zeroCells z.cells (grownCap w (sLen + n) sCap e - (sLen + n))) e)) := by
  have hn : ¬ (sLen + n ≤ sCap) := by omega
  have h63' : ¬ (9223372036854775807 < ((sLen : Int) + (n : Int))) := by omega
  have h48' : ¬ (281474976710656 < Builtin.nextslicecap (sLen + n) sCap * i.bytes) := by omega
  have hzi : (d matches .int _) = false := by cases d <;> first | rfl | exact absurd rfl (hd _)
  simp [hzi, Builtin.append_, h0, h1, run_underlying ht, run_underlying hu, sizeOf, typeInfo, zeroValue, hi, hz, hl, hn, h63', h48', Question.forced, hf, ho, newRow, grownCap]
theorem bytesL_ok (ρ : Rho) : ∀ (bs : List UInt8) (p : Nat), VRs ρ (bytesL bs.length (p * 256 ^ bs.length + encL bs)) (bs.map fun b => Value.int .u8 b.toNat)
  | [], p => .nil
  | b :: bs, p => by
    have hp : 0 < 256 ^ bs.length := Nat.pow_pos (by omega)
    have e : p * 256 ^ (b :: bs).length + encL (b :: bs) = (p * 256 + b.toNat) * 256 ^ bs.length + encL bs := by
      rw [encL_cons, List.length_cons, Nat.pow_succ, Nat.add_mul, Nat.mul_assoc, Nat.mul_comm 256]
      omega
    rw [e]
    refine .cons _ _ _ _ (.i _ _ _ ?_) (bytesL_ok ρ bs _)
    show (b.toNat : Int) = ((off + ((((p * 256 + b.toNat) * 256 ^ bs.length + encL bs) >>> (8 * bs.length)) % 256) : Nat) : Int) - 9223372036854775808
    rw [Nat.shiftRight_eq_div_pow, pow256, Nat.mul_comm, Nat.mul_add_div hp, Nat.div_eq_of_lt (encL_lt bs)]
    have : b.toNat < 256 := b.toNat_lt
    have : off = 9223372036854775808 := rfl
    omega
theorem addedA_ok {ρ : Rho} {h : T AObj} {nx : Nat} {w : World} (I : Inv w0 ρ h nx w) {z : Nat} {x : V} {a : Value} {new : List V} (ha : addedA h z x = some new) (hx : VR ρ x a) :
    new.length = addN z x * z ∧ (Builtin.lenOf a).run P w = .ok (addN z x) w ∧ ∃ us : List Value, VRs ρ new us ∧ ∀ w' : World, w'.heap = w.heap → (Builtin.firstCells z (addN z x) a).run P w' = .ok us.toArray w' := by
  cases x <;> first | (simp only [addedA, reduceCtorEq] at ha; done) | skip
  · rename_i l n
    obtain ⟨h1, h2⟩ := gd_some.1 ha
    have h1 : z = 1 := beq_true.1 h1
    subst h1
    injection h2 with h2; subst h2
    cases hx with
    | s s _ _ hl hn =>
    subst hl; subst hn
    have := bytesL_ok ρ s.data.toList 0
    have hs : s.data.toList.length = s.size := by simp
    rw [hs, Nat.zero_mul, Nat.zero_add] at this
    refine ⟨by rw [this.length]; simp [addN], by simp [Builtin.lenOf, addN], _, this, fun w' _ => ?_⟩
    have e : s.extract 0 s.size = s := by simp
    simp only [Builtin.firstCells, addN, e, Sem.run_pure]
    congr 1
    apply Array.ext'
    simp
  · injection ha with ha; subst ha
    cases hx
    exact ⟨by simp [addN], by simp [Builtin.lenOf, addN], [], .nil, fun w' _ => by simp [Builtin.firstCells]⟩
  · rename_i b o z' n
    obtain ⟨h1, h2⟩ := gd_some.1 ha
    have h1 : z = z' := beq_true.1 h1
    subst h1
    cases hx with
    | l _ _ _ _ cap o' cb sz hr hc hs ho =>
    cases hb : h.get b with
    | none => rw [hb] at h2; cases h2
    | some ob =>
      rw [hb] at h2
      cases ob with
      | map es => cases h2
      | row c size =>
        obtain ⟨h3, h4⟩ := gd_some.1 h2
        have h3 : o + n * z ≤ size := ble_true.1 h3
        obtain ⟨us, h5, h6, h7⟩ := row_cells (I.obj b _ cb sz hb hr) h4 h3
        have hn : us.length = n * z := h5
        refine ⟨by rw [h6.length, h5]; rfl, by simp [Builtin.lenOf, addN], us, h6, fun w' hw' => ?_⟩
        refine run_firstCells_some (P := P) w' z n ⟨cb, o', none⟩ n cap us hn fun j v hj => ?_
        have hj' : j < us.length := (List.getElem?_eq_some_iff.1 hj).1
        have : o' = o := by
          rcases ho with q | q
          · exact q
          · have : n = 0 := by omega
            subst this; simp at hn; rw [hn] at hj'; simp at hj'
        subst this
        rw [Addr.add_lit, ← h7 j v hj]
        simp [World.cell?, hw']
theorem fits_ok {n : Nat} {i : TypeInfo} (h : fits n i = true) : n * i.bytes ≤ 140737488355328 := ble_true.1 h
/-- the cells of a slice's own -/
theorem own_cells {ρ : Rho} {c : T V} {size cb sz : Nat} {w : World} (hob : OR ρ (.row c size) cb sz w) {z len cap o' : Nat} (hs : o' + cap * z ≤ sz) (hc : len ≤ cap) (ho : o' = 0 ∨ cap = 0) :
    ∃ cur e, w.heap[cb]? = some (.cells cur e (0, 0)) ∧ cur.size = sz ∧ ∀ w' : World, w'.heap = w.heap → (Builtin.firstCells z len (.slice (some ⟨cb, o', none⟩) len cap)).run P w' = .ok (cur.toList.take (len * z)).toArray w' := by
  obtain ⟨cur, e, h1, h2, h3, h4⟩ := hob
  refine ⟨cur, e, h1, h2, fun w' hw' => ?_⟩
  have hlc : len * z ≤ cap * z := Nat.mul_le_mul_right z hc
  have hlen : (cur.toList.take (len * z)).length = len * z := by simp; omega
  refine run_firstCells_some (P := P) w' z len ⟨cb, o', none⟩ len cap _ hlen fun j v hj => ?_
  have hj' : j < len * z := by have := (List.getElem?_eq_some_iff.1 hj).1; omega
  have : o' = 0 := by
    rcases ho with q | q
    · exact q
    · have : len = 0 := by omega
      subst this; simp at hj'
  subst this
  rw [List.getElem?_take, if_pos hj'] at hj
  simp only [Addr.add_lit, World.cell?, hw', h1, Nat.zero_add]
  simpa using hj
/-- a row that is made of what was and what is new -/
theorem OR_grown {ρ : Rho} {c : T V} {size cb sz cb' : Nat} {w w' : World} (hob : OR ρ (.row c size) cb sz w) {z len n : Nat} {new : List V} {us : List Value} (hn : VRs ρ new us) (hnl : new.length = n * z) (hsz : len * z ≤ size)
    {cur : Array Value} {e : TypeId} (h1 : w.heap[cb]? = some (.cells cur e (0, 0))) {rest : Array Value} {e' : TypeId} (hw' : w'.heap[cb']? = some (.cells ((cur.toList.take (len * z)).toArray ++ us.toArray ++ rest) e' (0, 0))) :
    OR ρ (.row (setCells new c (len * z)) ((len + n) * z)) cb' (len * z + n * z + rest.size) w' := by
  obtain ⟨cur', e2, h1', h2, h3, h4⟩ := hob
  rw [h1] at h1'
  injection h1' with h1'; injection h1' with hcur _; subst hcur
  have hus := hn.length
  refine ⟨_, e', hw', ?_, by rw [Nat.add_mul]; omega, fun j v hj hv => ?_⟩
  · simp; omega
  · rw [Nat.add_mul] at hj
    rw [get_setCells] at hv
    have hl : (cur.toList.take (len * z)).toArray.size = len * z := by simp; omega
    split at hv
    · rename_i hin
      obtain ⟨u, h5, h6⟩ := hn.get hv
      refine ⟨u, ?_, h6⟩
      rw [Array.append_assoc, Array.getElem?_append_right (by omega), hl, Array.getElem?_append_left (by simp; omega)]
      simpa using h5
    · rename_i hout
      obtain ⟨u, h5, h6⟩ := h4 j v (by omega) hv
      refine ⟨u, ?_, h6⟩
      rw [Array.append_assoc, Array.getElem?_append_left (by omega)]
      simp only [List.getElem?_toArray, List.getElem?_take]
      rw [if_pos (by omega)]
      simpa using h5
theorem appendI_ok {ρ : Rho} {h : T AObj} {nx : Nat} {w : World} (I : Inv w0 ρ h nx w) {ts : Array TypeId} {ty t u e : TypeId} {d : TypeDesc} {i : TypeInfo} (h0 : ts[0]? = some t) (h1 : ts[1]? = some u) (ht : P.underlying t = some (.slice e)) (hu : P.underlying u = some d) (hd : ∀ k, d ≠ .int k)
    (hi : P.info? e = some i) {s x : V} {a b : Value} {dd : Did} (hap : appendI P e nx i h s x = some dd) (hs : VR ρ s a) (hx : VR ρ x b) :
    (∃ v y, dd = .val v ∧ (Builtin.append_ ts ty #[a, b]).run P w = .ok y w ∧ VR ρ v y) ∨
    (∃ v ob y w' c, dd = .new v ob ∧ (Builtin.append_ ts ty #[a, b]).run P w = .ok y w' ∧ Inv w0 (ρ.put nx c) (h.set nx ob) (nx + 1) w' ∧ VR (ρ.put nx c) v y) ∨
    (∃ v q ob y w' c, dd = .app v q ob ∧ (Builtin.append_ ts ty #[a, b]).run P w = .ok y w' ∧ Inv w0 (ρ.put nx c) ((h.del q).set nx ob) (nx + 1) w' ∧ VR (ρ.put nx c) v y) := by
  obtain ⟨zv, hzv, hp1⟩ := bd_some.1 hap
  obtain ⟨hy1, hp2⟩ := gd_some.1 hp1
  obtain ⟨hy2, hp3⟩ := gd_some.1 hp2
  obtain ⟨new, hnew, hp4⟩ := bd_some.1 hp3
  obtain ⟨hflat, hp5⟩ := gd_some.1 hp4
  have hz1 : lenL (cellsV zv) = i.size := beq_true.1 hy1
  have hz2 : 1 ≤ i.size := ble_true.1 hy2
  obtain ⟨zu, _, hzr, i', hi', hzz⟩ := run_zeroValue hzv w ρ
  rw [hi] at hi'; injection hi' with hi'; subst hi'
  have hzs : zu.cells.size = i.size := by rw [← hz1, lenL_eq, hzr.cells.length]; simp
  obtain ⟨hnl, hlen, us, hus, hfc⟩ := addedA_ok (P := P) I hnew hx
  have husl := hus.length
  have hapx : (addN i.size x = 0 ∧ sameSl s = some dd) ∨ (0 < addN i.size x ∧ appendN e i.size (addN i.size x) nx i new h s = some dd) := by
    rw [beqD, brec] at hp5
    split at hp5
    · exact .inl ⟨by assumption, hp5⟩
    · exact .inr ⟨by omega, hp5⟩
  clear hp1 hp2 hp3 hp4 hp5 hap hy1 hy2
  generalize addN i.size x = n at *
  rcases hapx with ⟨hn0, hv⟩ | ⟨hn0, hv⟩
  · -- nothing is appended
    subst hn0
    have hnil : us = [] := by
      have : us.length = 0 := by rw [← husl, hnl]; simp
      exact List.length_eq_zero_iff.1 this
    subst hnil
    left
    cases s <;> first | (simp only [sameSl, reduceCtorEq] at hv; done) | skip
    · injection hv with hv; subst hv
      cases hs
      exact ⟨_, _, rfl, run_app_room h0 h1 ht hu hd hi hlen (hfc w rfl) (Nat.le_refl _) (fun _ q => by cases q) (fun _ => rfl), .l0⟩
    · injection hv with hv; subst hv
      cases hs with
      | l _ _ _ _ cap o' cb sz hr hc hss ho =>
      refine ⟨_, _, rfl, run_app_room h0 h1 ht hu hd hi hlen (hfc w rfl) (by omega) (fun a q => ?_) (fun q => by cases q), .l _ _ _ _ _ _ _ _ hr hc hss ho⟩
      simp [storeCells]
  · cases s <;> first | (simp only [appendN, reduceCtorEq] at hv; done) | skip
    · -- onto nothing
      obtain ⟨hn, hv⟩ := gd_some.1 hv
      obtain ⟨hf, hv⟩ := gd_some.1 hv
      injection hv with hv; subst hv
      have hn : n ≤ 1000000000 := ble_true.1 hn
      have hf := fits_ok hf
      cases hs
      right; left
      have hg := run_app_grow (ty := ty) (olds := #[]) h0 h1 ht hu hd hi hzz hlen (hfc w.drew rfl) (by simp [Builtin.firstCells]) (base := none) (sLen := 0) (sCap := 0) (by omega) (by omega) (growslice_fits (by omega) (by simpa using hf))
      simp only [Nat.zero_add] at hg
      have hge := grownCap_ge w n 0 e
      generalize grownCap w n 0 e = cp at *
      have hzc := size_zeroCells zu.cells (cp - n)
      generalize Builtin.zeroCells zu.cells (cp - n) = rest at *
      have hle : ρ.le (ρ.put nx (w.heap.size, cp * i.size)) := le_put' I _
      refine ⟨_, _, _, _, (w.heap.size, cp * i.size), rfl, hg, ?_, ?_⟩
      · refine I.push (by simp) (fun k hk => (MapKept.heap_alloc w.drew _).2 k hk) rfl rfl rfl ?_
        refine ⟨_, e, (MapKept.heap_alloc w.drew _).1, ?_, Nat.mul_le_mul_right _ hge, fun j v hj hv => ?_⟩
        · have : n * i.size + (cp - n) * i.size = cp * i.size := by rw [← Nat.add_mul]; congr 1; omega
          simp; rw [hzc, hzs]; omega
        · have hj : j < n * i.size := hj
          rw [get_setCells, if_pos (by omega)] at hv
          obtain ⟨u', h5, h6⟩ := hus.get hv
          refine ⟨u', ?_, h6.mono hle⟩
          have h5 : us[j]? = some u' := by simpa using h5
          rw [Array.getElem?_append_left (by simp; omega)]
          simpa using h5
      · exact .l _ _ _ _ _ _ _ _ (put_self ..) hge (by omega) (.inl rfl)
    · rename_i q o z len
      obtain ⟨hzq, hv1⟩ := gd_some.1 hv
      obtain ⟨hoq, hv2⟩ := gd_some.1 hv1
      obtain ⟨hn, hv3⟩ := gd_some.1 hv2
      obtain ⟨hf, hv4⟩ := gd_some.1 hv3
      clear hv hv1 hv2 hv3
      have hzq : i.size = z := beq_true.1 hzq
      have hoq : o = 0 := beq_true.1 hoq
      subst hzq; subst hoq
      have hn : len + n ≤ 1000000000 := ble_true.1 hn
      have hf : (len + n) * i.bytes ≤ 140737488355328 := fits_ok hf
      cases hb : h.get q with
      | none => simp only [hb, reduceCtorEq] at hv4
      | some ob =>
        simp only [hb] at hv4
        cases ob with
        | map es => simp only [reduceCtorEq] at hv4
        | row c size =>
          obtain ⟨hsz, hv5⟩ := gd_some.1 hv4
          injection hv5 with hv5; subst hv5; clear hv4
          have hsz : len * i.size ≤ size := ble_true.1 hsz
          cases hs with
          | l _ _ _ _ cap o' cb sz hr hc hss ho =>
          right; right
          have hob := I.obj q _ cb sz hb hr
          by_cases hroom : len + n ≤ cap
          · -- there is room
            have ho' : o' = 0 := by rcases ho with z | z; exact z; omega
            subst ho'
            have hfit : len * i.size + us.length ≤ sz := by
              have h2 : (len + n) * i.size ≤ cap * i.size := Nat.mul_le_mul_right _ hroom
              rw [Nat.add_mul] at h2
              omega
            obtain ⟨cur, e2, h9, h10, h11⟩ := OR_write hob (o := len * i.size) hus (by omega) (size' := (len + n) * i.size) (by rw [Nat.add_mul]; omega) (fun j hj => by rw [Nat.add_mul] at hj; omega)
            have hst := run_storeCells_at P cb (len * i.size) e2 us 0 cur w h9 (by omega) (hus.flat (allFlat_all hflat))
            simp only [Nat.add_zero] at hst
            have hle : ρ.le (ρ.put nx (cb, sz)) := le_put' I _
            refine ⟨_, _, _, _, _, (cb, sz), rfl, run_app_room h0 h1 ht hu hd hi hlen (hfc w rfl) hroom (w' := w.setRow cb (cur.toList.take (len * i.size) ++ us ++ cur.toList.drop (len * i.size + us.length)).toArray) (fun a qq => ?_) (fun qq => by cases qq), ?_, ?_⟩
            · injection qq with qq; subst qq
              rw [Addr.add_lit, Nat.zero_add]
              exact hst
            · refine I.rename hb hr (setRow_size ..) (fun k hk => setRow_other w cb k _ hk) rfl rfl rfl ?_
              exact (h11 _ (setRow_heap w cb cur _ e2 _ h9)).mono hle rfl
            · exact .l _ _ _ _ _ _ _ _ (put_self ..) hroom hss (.inl rfl)
          · -- a new row
            obtain ⟨cur, e2, h9, h10, h11⟩ := own_cells (P := P) hob hss hc ho
            have hg := run_app_grow (ty := ty) h0 h1 ht hu hd hi hzz hlen (hfc w.drew rfl) (h11 w.drew rfl) (by omega) (by omega) (growslice_fits (by omega) hf)
            have hge := grownCap_ge w (len + n) cap e
            generalize grownCap w (len + n) cap e = cp at *
            have hzc := size_zeroCells zu.cells (cp - (len + n))
            generalize Builtin.zeroCells zu.cells (cp - (len + n)) = rest at *
            have hle : ρ.le (ρ.put nx (w.heap.size, cp * i.size)) := le_put' I _
            have hcp : len * i.size + n * i.size + rest.size = cp * i.size := by
              rw [hzc, hzs, ← Nat.add_mul, ← Nat.add_mul]; congr 1; omega
            refine ⟨_, _, _, _, _, (w.heap.size, cp * i.size), rfl, hg, ?_, ?_⟩
            · refine (I.push (ob := .row (setCells new c (len * i.size)) ((len + n) * i.size)) (by simp) (fun k hk => (MapKept.heap_alloc w.drew _).2 k hk) rfl rfl rfl ?_).less fun b' ob' hb' => ?_
              · have := OR_grown (cb' := w.heap.size) (w' := w.drew.alloc (.cells ((cur.toList.take (len * i.size)).toArray ++ us.toArray ++ rest) e)) hob hus hnl hsz h9 (MapKept.heap_alloc w.drew _).1
                rw [hcp] at this
                exact this.mono hle rfl
              · rw [T.get_set, T.get_del] at hb'
                rw [T.get_set]
                split at hb'
                · rename_i q1; rw [if_pos q1]; exact hb'
                · rename_i q1; rw [if_neg q1]
                  split at hb'
                  · cases hb'
                  · exact hb'
            · exact .l _ _ _ _ _ _ _ _ (put_self ..) hge (by show 0 + cp * i.size ≤ _; omega) (.inl rfl)
end
end Go.Proofs.Ev
/- The operations, seventh part: what is built; calls; all of them. -/
set_option linter.unusedVariables false
namespace Go.Proofs.Ev
open Go
section
variable {P : Program} {w0 : Base}

theorem repL_get (z : List V) (hz : 0 < z.length) : ∀ (n j : Nat), j < n * z.length → (repL n z)[j]? = z[j % z.length]? ∧ (repL n z).length = n * z.length
  | 0, j, h => by simp at h
  | n + 1, j, h => by
    have e : repL (n + 1) z = z ++ repL n z := rfl
    have hl : (repL n z).length = n * z.length := by
      cases n with
      | zero => show ([] : List V).length = _; simp
      | succ n => exact (repL_get z hz (n + 1) 0 (Nat.mul_pos (by omega) hz)).2
    rw [e]
    refine ⟨?_, by rw [List.length_append, hl, Nat.add_mul]; omega⟩
    by_cases hj : j < z.length
    · rw [List.getElem?_append_left hj, Nat.mod_eq_of_lt hj]
    · have hj' : z.length ≤ j := by omega
      rw [List.getElem?_append_right hj', (repL_get z hz n (j - z.length) (by rw [Nat.add_mul] at h; omega)).1]
      rw [← Nat.mod_eq_sub_mod hj']
theorem repL_len (z : List V) : ∀ n, (repL n z).length = n * z.length
  | 0 => by show ([] : List V).length = _; simp
  | n + 1 => by
    have e : repL (n + 1) z = z ++ repL n z := rfl
    rw [e, List.length_append, repL_len z n, Nat.add_mul]; omega
/-- cells of a row, some of them known -/
def CR (ρ : Rho) (c : T V) (size : Nat) (cells : Array Value) : Prop := ∀ o v, o < size → c.get o = some v → ∃ u, cells[o]? = some u ∧ VR ρ v u
theorem zero_row {ρ : Rho} {z : V} {u : Value} (hz : VR ρ z u) {s : Nat} (hs : (cellsV z).length = s) (h1 : 1 ≤ s) (n m : Nat) (hm : n ≤ m) :
    CR ρ (setCells (repL n (cellsV z)) .e 0) (n * s) ((Array.range (m * s)).map (u.cells[· % u.cells.size]!)) := by
  intro o v ho hv
  have hc := hz.cells
  have hus : u.cells.size = s := by rw [← hs, hc.length]; simp
  rw [get_setCells, repL_len, hs, if_pos (by omega), Nat.sub_zero] at hv
  rw [(repL_get _ (by omega) n o (by rw [hs]; exact ho)).1, hs] at hv
  obtain ⟨x, h2, h3⟩ := hc.get hv
  have hnm : n * s ≤ m * s := Nat.mul_le_mul_right s hm
  have h2 : u.cells[o % s]? = some x := by simpa using h2
  refine ⟨x, ?_, h3⟩
  rw [Array.getElem?_map, Array.getElem?_range, if_pos (by omega)]
  simp [hus, getElem!_def, h2]
theorem makeSliceA_ok {ρ : Rho} {h : T AObj} {nx : Nat} {w : World} (I : Inv w0 ρ h nx w) {t : TypeId} {x y : V} {a b : Value} {dd : Did} (hm : makeSliceA P nx t x y = some dd) (hx : VR ρ x a) (hy : VR ρ y b) :
    ∃ v ob z w' c, dd = .new v ob ∧ (Instr.makeSlice t a b).run P w = .ok z w' ∧ Inv w0 (ρ.put nx c) (h.set nx ob) (nx + 1) w' ∧ VR (ρ.put nx c) v z := by
  obtain ⟨k1, m1, n, rfl, hn, hm⟩ := withN_some hm
  obtain ⟨k2, m2, c, rfl, hc, hm⟩ := withN_some hm
  have ha := hx.n_inv hn
  have hb := hy.n_inv hc
  subst ha; subst hb
  cases hu : P.underlying t with
  | none => simp only [und, hu, reduceCtorEq] at hm
  | some d =>
    simp only [und, hu] at hm
    cases d <;> first | (simp only [reduceCtorEq] at hm; done) | skip
    rename_i elem
    have hm : (match P.info? elem with | none => none | some i => makeSliceI P elem nx n c i : R Did) = some dd := hm
    cases hi : P.info? elem with
    | none => simp only [hi, reduceCtorEq] at hm
    | some i =>
      simp only [hi] at hm
      obtain ⟨zv, hzv, hp1⟩ := bd_some.1 hm
      obtain ⟨hy1, hp2⟩ := gd_some.1 hp1
      obtain ⟨hy2, hp3⟩ := gd_some.1 hp2
      obtain ⟨hy3, hp4⟩ := gd_some.1 hp3
      obtain ⟨hy4, hp5⟩ := gd_some.1 hp4
      obtain ⟨hy5, hp6⟩ := gd_some.1 hp5
      injection hp6 with hp6; subst hp6
      have hy1 : lenL (cellsV zv) = i.size := beq_true.1 hy1
      have hy2 : 1 ≤ i.size := ble_true.1 hy2
      have hy3 : n ≤ c := ble_true.1 hy3
      have hy4 : c ≤ 1000000000 := ble_true.1 hy4
      have hy5 := fits_ok hy5
      obtain ⟨zu, hz0, hzr, i', hi', hzz⟩ := run_zeroValue hzv w ρ
      rw [hi] at hi'; injection hi' with hi'; subst hi'
      rw [lenL_eq] at hy1
      have hnc : n * i.size ≤ c * i.size := Nat.mul_le_mul_right _ hy3
      have hwn : IntKind.i64.wrap (n : Int) = n := by simp [IntKind.wrap, IntKind.bits, IntKind.signed]; omega
      have hwc : IntKind.i64.wrap (c : Int) = c := by simp [IntKind.wrap, IntKind.bits, IntKind.signed]; omega
      let cells : Array Value := (Array.range (c * i.size)).map (zu.cells[· % zu.cells.size]!)
      have hrun : (Instr.makeSlice t (.int k1 n) (.int k2 c)).run P w = .ok (.slice (some ⟨w.heap.size, 0, none⟩) n c) (w.alloc (.cells cells elem)) := by
        have h1 : ¬ ((i.bytes : Int) * (c : Int) > 2 ^ 48) := by
          have : ((i.bytes * c : Nat) : Int) ≤ 140737488355328 := by rw [Nat.mul_comm]; omega
          rw [Int.natCast_mul] at this
          omega
        have h2 : ¬ ((c : Int) < 0) := by omega
        have h3 : ¬ ((n : Int) < 0) := by omega
        have h4 : ¬ ((n : Int) > (c : Int)) := by omega
        have hso : (sizeOf elem).run P (w) = .ok i.size w := by simp [sizeOf, typeInfo, hi]
        simp only [Instr.makeSlice, Sem.run_bind, run_underlying hu, Result.andThen_ok, asInt, asIntOf, Sem.run_pure, typeInfo, run_program, hi, hwn, hwc, h1, h2, h3, h4, decide_false, Bool.or_self, Bool.false_eq_true, if_false, run_askRoom, hso, Int.toNat_natCast]
        by_cases h5 : c * i.size = 0
        · have hce : cells = #[] := by simp [cells, h5]
          have hr : ∀ f : Nat → Value, Array.map f (Array.range 0) = #[] := fun f => Array.ext (by simp) (fun i h1 => by simp at h1)
          rw [if_pos h5, hce]
          simp [newRow, h5, hr]
        · rw [if_neg h5]
          simp [newRow, hz0, cells]
      have hle : ρ.le (ρ.put nx (w.heap.size, cells.size)) := le_put' I _
      have hcs : cells.size = c * i.size := by simp [cells]
      refine ⟨_, _, _, _, (w.heap.size, cells.size), rfl, hrun, ?_, ?_⟩
      · refine I.push (by simp) (fun k hk => (MapKept.heap_alloc w _).2 k hk) rfl rfl rfl ?_
        refine ⟨cells, elem, (MapKept.heap_alloc w _).1, rfl, by rw [hcs]; exact hnc, fun o v ho hv => ?_⟩
        obtain ⟨u', h6, h7⟩ := zero_row hzr hy1 hy2 n c hy3 o v ho hv
        exact ⟨u', h6, h7.mono hle⟩
      · exact .l _ _ _ _ _ _ _ _ (put_self ..) hy3 (by rw [hcs]; omega) (.inl rfl)

/-! what is built of parts -/
def PR (ρ : Rho) : List (Nat × V) → List (Nat × Value) → Prop
  | [], [] => True
  | p :: ps, q :: qs => p.1 = q.1 ∧ VR ρ p.2 q.2 ∧ PR ρ ps qs
  | _, _ => False
theorem evalP_sound {ρ : Rho} {tm : T V} {a : Act} (ht : TmR ρ tm a.tmps) : ∀ (l : List (Nat × Operand)) (ps : List (Nat × V)), evalP tm l = some ps → PR ρ ps (l.map fun (i, x) => (i, a.eval x))
  | [], ps, h => by injection h with h; subst h; trivial
  | x :: l, ps, h => by
    have h' : (bd (evalO tm x.2) fun v => bd (evalP tm l) fun vs => some ((x.1, v) :: vs)) = some ps := h
    obtain ⟨v, h1, h'⟩ := bd_some.1 h'
    obtain ⟨vs, h2, h'⟩ := bd_some.1 h'
    injection h' with h'; subst h'
    exact ⟨rfl, evalO_sound ht h1, evalP_sound ht l vs h2⟩
theorem fold_get (off : Nat) : ∀ (l : List Value) (k : Nat) (cells : Array Value) (j : Nat), off + k + l.length ≤ cells.size →
    ((l.zipIdx k).foldl (fun (cs : Array Value) (p : Value × Nat) => cs.setIfInBounds (off + p.2) p.1) cells)[j]? = if off + k ≤ j ∧ j < off + k + l.length then l[j - (off + k)]? else cells[j]?
  | [], k, cells, j, h => by
    rw [if_neg (by simp only [List.length_nil]; omega)]; rfl
  | v :: l, k, cells, j, h => by
    simp only [List.length_cons] at h
    simp only [List.zipIdx_cons, List.foldl_cons, List.length_cons]
    rw [fold_get off l (k + 1) _ j (by simp; omega)]
    by_cases hj : j = off + k
    · subst hj
      rw [if_neg (by omega), if_pos (by omega), Array.getElem?_setIfInBounds_self_of_lt (by omega)]
      simp
    · rw [Array.getElem?_setIfInBounds_ne (Ne.symm hj)]
      by_cases hin : off + (k + 1) ≤ j ∧ j < off + (k + 1) + l.length
      · rw [if_pos hin, if_pos (by omega)]
        have : j - (off + k) = (j - (off + (k + 1))) + 1 := by omega
        rw [this]; simp
      · rw [if_neg hin, if_neg (by omega)]
theorem spl_get (cs : List V) (o : Nat) (l : List V) (j : Nat) (h : o + l.length ≤ cs.length) : (spl cs o l)[j]? = if o ≤ j ∧ j < o + l.length then l[j - o]? else cs[j]? := by
  rw [spl_eq, List.take_of_length_le (by simp; omega), List.append_assoc]
  have hl : (cs.take o).length = o := by simp; omega
  by_cases h1 : j < o
  · rw [List.getElem?_append_left (by omega), if_neg (by omega), List.getElem?_take, if_pos h1]
  · rw [List.getElem?_append_right (by omega), hl]
    by_cases h2 : j < o + l.length
    · rw [List.getElem?_append_left (by omega), if_pos (by omega)]
    · rw [List.getElem?_append_right (by omega), if_neg (by omega), List.getElem?_drop]
      congr 1; omega
theorem spl_len (cs : List V) (o : Nat) (l : List V) (h : o + l.length ≤ cs.length) : (spl cs o l).length = cs.length := by
  rw [spl_eq]; simp; omega
theorem fold_size (off : Nat) : ∀ (l : List (Value × Nat)) (cells : Array Value), (l.foldl (fun (cs : Array Value) (p : Value × Nat) => cs.setIfInBounds (off + p.2) p.1) cells).size = cells.size
  | [], cells => rfl
  | p :: l, cells => by simp only [List.foldl_cons]; rw [fold_size off l]; simp
theorem fillA_ok {ρ : Rho} {place : Nat → R (Nat × Nat)} {place' : Nat → Option (Nat × Nat)} (hp : ∀ i q, place i = some q → place' i = some q) : ∀ (ps : List (Nat × V)) (qs : List (Nat × Value)) (cs cs' : List V) (cells : Array Value),
    PR ρ ps qs → fillA place ps cs = some cs' → VRs ρ cs cells.toList → ∃ cells', Instr.fill place' cells qs = some cells' ∧ VRs ρ cs' cells'.toList
  | [], [], cs, cs', cells, _, h, hc => by injection h with h; subst h; exact ⟨cells, rfl, hc⟩
  | [], _ :: _, _, _, _, hq, _, _ => hq.elim
  | _ :: _, [], _, _, _, hq, _, _ => hq.elim
  | p :: ps, q :: qs, cs, cs', cells, hq, h, hc => by
    obtain ⟨hq1, hq2, hq3⟩ := hq
    obtain ⟨qi, qv⟩ := q
    have h' : (bd (place p.1) fun r => gd (Nat.beq (lenL (cellsV p.2)) r.2) (gd (Nat.ble (Nat.add r.1 r.2) (lenL cs)) (fillA place ps (spl cs r.1 (cellsV p.2))))) = some cs' := h
    obtain ⟨⟨o, s⟩, h1, h'⟩ := bd_some.1 h'
    obtain ⟨h2, h'⟩ := gd_some.1 h'
    obtain ⟨h3, h'⟩ := gd_some.1 h'
    have h2 : lenL (cellsV p.2) = s := beq_true.1 h2
    have h3 : o + s ≤ lenL cs := ble_true.1 h3
    rw [lenL_eq] at h2 h3
    have hv := hq2.cells
    have hvl := hv.length
    have hcl := hc.length
    have hvs : qv.cells.size = s := by rw [← h2, hvl]; simp
    have hcs : cells.size = cs.length := by rw [hcl]; simp
    have hfit : o + (cellsV p.2).length ≤ cs.length := by omega
    have hz : (qv.cells.zipIdx.foldl (fun (cs : Array Value) (x : Value × Nat) => cs.setIfInBounds (o + x.2) x.1) cells) = ((qv.cells.toList.zipIdx 0).foldl (fun (cs : Array Value) (x : Value × Nat) => cs.setIfInBounds (o + x.2) x.1) cells) := by
      rw [← Array.foldl_toList]; simp
    have hrel : VRs ρ (spl cs o (cellsV p.2)) ((qv.cells.toList.zipIdx 0).foldl (fun (cs : Array Value) (x : Value × Nat) => cs.setIfInBounds (o + x.2) x.1) cells).toList := by
      refine VRs.of_get ?_ fun j v hj => ?_
      · have e1 := fold_size o (qv.cells.toList.zipIdx 0) cells
        have e2 := spl_len cs o (cellsV p.2) hfit
        simp only [Array.length_toList]
        omega
      · rw [spl_get _ _ _ _ hfit] at hj
        rw [Array.getElem?_toList, fold_get o _ 0 cells j (by simp; omega)]
        simp only [Nat.add_zero]
        rw [← hvl]
        split at hj
        · rename_i hin; rw [if_pos hin]; exact hv.get hj
        · rename_i hin; rw [if_neg hin]
          obtain ⟨u, h5, h6⟩ := hc.get hj
          exact ⟨u, by simpa using h5, h6⟩
    obtain ⟨cells', h5, h6⟩ := fillA_ok hp ps qs _ cs' _ hq3 h' hrel
    refine ⟨cells', ?_, h6⟩
    have hq1 : p.1 = qi := hq1
    simp only [Instr.fill, ← hq1, hp _ _ h1]
    rw [if_neg (by simp [hvs]; omega)]
    rw [hz]
    exact h5
theorem placesL_ok : ∀ (l : List Field) (pl : List (Nat × Nat)), placesL P l = some pl → l.mapM (fun f => (P.info? f.type).map fun i => (f.offset, i.size)) = some pl
  | [], pl, h => by injection h with h; subst h; simp
  | f :: l, pl, h => by
    have h' : (bd (szOf P f.type) fun n => bd (placesL P l) fun r => some ((f.offset, n) :: r)) = some pl := h
    obtain ⟨n, h1, h'⟩ := bd_some.1 h'
    obtain ⟨r, h2, h'⟩ := bd_some.1 h'
    injection h' with h'; subst h'
    obtain ⟨i, h3, rfl⟩ := szOf_some h1
    simp [List.mapM_cons, h3, placesL_ok l r h2]
theorem buildA_ok {ρ : Rho} {t : TypeId} {ps : List (Nat × V)} {qs : Array (Nat × Value)} {v : V} (h : buildA P t ps = some v) (hp : PR ρ ps qs.toList) (w : World) : ∃ u, (Instr.build t qs).run P w = .ok u w ∧ VR ρ v u := by
  obtain ⟨z, hz, h⟩ := bd_some.1 h
  obtain ⟨zu, _, hzr, i, hi, hzz⟩ := run_zeroValue hz w ρ
  cases hu : P.underlying t with
  | none => simp only [und, hu, reduceCtorEq] at h
  | some d =>
    simp only [und, hu] at h
    cases d <;> first | (simp only [reduceCtorEq] at h; done) | skip
    · rename_i len elem
      obtain ⟨n, h1, h⟩ := bd_some.1 h
      obtain ⟨cs, h2, h⟩ := bd_some.1 h
      injection h with h; subst h
      obtain ⟨ie, h3, rfl⟩ := szOf_some h1
      obtain ⟨cells, h4, h5⟩ := fillA_ok (place' := fun i => some (i * ie.size, ie.size)) (fun _ _ q => q) ps qs.toList _ _ zu.cells hp h2 hzr.cells
      exact ⟨.agg cells, run_build w t qs cells (by simp only [Program.built, hi, hu, hzz, h3]; exact h4), .g _ _ h5⟩
    · rename_i fields
      obtain ⟨pl, h1, h⟩ := bd_some.1 h
      obtain ⟨cs, h2, h⟩ := bd_some.1 h
      injection h with h; subst h
      obtain ⟨cells, h4, h5⟩ := fillA_ok (place' := (pl.toArray[·]?)) (fun i q hq => by simpa using hq) ps qs.toList _ _ zu.cells hp h2 hzr.cells
      exact ⟨.agg cells, run_build w t qs cells (by simp only [Program.built, hi, hu, hzz, placesL_ok _ _ h1]; exact h4), .g _ _ h5⟩
theorem fillT_ok {ρ : Rho} {n size : Nat} : ∀ (ps : List (Nat × V)) (qs : List (Nat × Value)) (c c' : T V) (cells : Array Value), PR ρ ps qs → fillT n size ps c = some c' → CR ρ c size cells → cells.size = size →
    ∃ cells', Instr.fill (fun i => some (i * n, n)) cells qs = some cells' ∧ CR ρ c' size cells' ∧ cells'.size = size
  | [], [], c, c', cells, _, h, hc, hs => by injection h with h; subst h; exact ⟨cells, rfl, hc, hs⟩
  | [], _ :: _, _, _, _, hq, _, _, _ => hq.elim
  | _ :: _, [], _, _, _, hq, _, _, _ => hq.elim
  | p :: ps, q :: qs, c, c', cells, hq, h, hc, hs => by
    obtain ⟨hq1, hq2, hq3⟩ := hq
    obtain ⟨qi, qv⟩ := q
    have h' : (gd (Nat.beq (lenL (cellsV p.2)) n) (gd (Nat.ble (Nat.mul (Nat.succ p.1) n) size) (fillT n size ps (setCells (cellsV p.2) c (Nat.mul p.1 n))))) = some c' := h
    obtain ⟨h2, h'⟩ := gd_some.1 h'
    obtain ⟨h3, h'⟩ := gd_some.1 h'
    have h2 : lenL (cellsV p.2) = n := beq_true.1 h2
    have h3 : (p.1 + 1) * n ≤ size := ble_true.1 h3
    rw [Nat.add_mul, Nat.one_mul] at h3
    rw [lenL_eq] at h2
    have hv := hq2.cells
    have hvl := hv.length
    have hvs : qv.cells.size = n := by rw [← h2, hvl]; simp
    have hz : (qv.cells.zipIdx.foldl (fun (cs : Array Value) (x : Value × Nat) => cs.setIfInBounds (p.1 * n + x.2) x.1) cells) = ((qv.cells.toList.zipIdx 0).foldl (fun (cs : Array Value) (x : Value × Nat) => cs.setIfInBounds (p.1 * n + x.2) x.1) cells) := by
      rw [← Array.foldl_toList]; simp
    have hsz := fold_size (p.1 * n) (qv.cells.toList.zipIdx 0) cells
    have hrel : CR ρ (setCells (cellsV p.2) c (p.1 * n)) size ((qv.cells.toList.zipIdx 0).foldl (fun (cs : Array Value) (x : Value × Nat) => cs.setIfInBounds (p.1 * n + x.2) x.1) cells) := by
      intro j v hj hg
      rw [get_setCells] at hg
      rw [fold_get (p.1 * n) _ 0 cells j (by simp; omega)]
      simp only [Nat.add_zero]
      rw [← hvl]
      split at hg
      · rename_i hin; rw [if_pos hin]; exact hv.get hg
      · rename_i hin; rw [if_neg hin]; exact hc j v hj hg
    obtain ⟨cells', h5, h6, h7⟩ := fillT_ok ps qs _ c' _ hq3 h' hrel (by rw [hsz, hs])
    refine ⟨cells', ?_, h6, h7⟩
    have hq1 : p.1 = qi := hq1
    simp only [Instr.fill, ← hq1]
    rw [if_neg (by simp [hvs]; omega)]
    rw [hz]
    exact h5
theorem buildS_raw {ρ : Rho} {nx : Nat} {t : TypeId} {len : Nat} {ps : List (Nat × V)} {qs : Array (Nat × Value)} {dd : Did} (hm : buildS P nx t len ps = some dd) (hp : PR ρ ps qs.toList) (w : World) :
    ∃ n c cells elem, dd = .new (.l nx 0 n len) (.row c (len * n)) ∧ (Instr.buildSlice t len qs).run P w = .ok (.slice (some ⟨w.heap.size, 0, none⟩) len len) (w.alloc (.cells cells elem)) ∧
      cells.size = len * n ∧ ∀ o v, o < len * n → c.get o = some v → ∃ u, cells[o]? = some u ∧ VR ρ v u := by
  unfold buildS at hm
  cases hu : P.underlying t with
  | none => simp only [und, hu, reduceCtorEq] at hm
  | some d =>
    simp only [und, hu] at hm
    cases d <;> first | (simp only [reduceCtorEq] at hm; done) | skip
    rename_i elem
    obtain ⟨n, h1, hm1⟩ := bd_some.1 hm
    obtain ⟨zv, h2, hm2⟩ := bd_some.1 hm1
    obtain ⟨h3, hm3⟩ := gd_some.1 hm2
    obtain ⟨h4, hm4⟩ := gd_some.1 hm3
    obtain ⟨h5, hm5⟩ := gd_some.1 hm4
    obtain ⟨c, h6, hm6⟩ := bd_some.1 hm5
    injection hm6 with hm6; subst hm6
    have h3 : lenL (cellsV zv) = n := beq_true.1 h3
    have h4 : 1 ≤ n := ble_true.1 h4
    have h5 : len * n ≤ 16777216 := ble_true.1 h5
    have h6 : fillT n (len * n) ps (setCells (repL len (cellsV zv)) .e 0) = some c := h6
    rw [lenL_eq] at h3
    obtain ⟨zu, hz0, hzr, i, hi, hzz⟩ := run_zeroValue h2 w ρ
    obtain ⟨cells, h7, h8, h9⟩ := fillT_ok ps qs.toList _ c ((Array.range (len * n)).map (zu.cells[· % zu.cells.size]!)) hp h6 (zero_row hzr h3 h4 len len (Nat.le_refl _)) (by simp)
    have hrun : (Instr.buildSlice t len qs).run P w = .ok (.slice (some ⟨w.heap.size, 0, none⟩) len len) (w.alloc (.cells cells elem)) := by
      have hb : ¬ (len * n > 2 ^ 24) := by omega
      by_cases h0 : len * n = 0
      · have hr : ∀ f : Nat → Value, Array.map f (Array.range 0) = #[] := fun f => Array.ext (by simp) (fun i h1 => by simp at h1)
        rw [h0, hr] at h7
        simp [Instr.buildSlice, run_underlying hu, run_sizeOf h1, h0, hr, h7, newRow]
      · simp only [Instr.buildSlice, Sem.run_bind, run_underlying hu, Result.andThen_ok, run_sizeOf h1, hb, if_false, h0]
        simp [hz0, h7, newRow]
    exact ⟨n, c, cells, elem, rfl, hrun, h9, h8⟩
theorem buildS_ok {ρ : Rho} {h : T AObj} {nx : Nat} {w : World} (I : Inv w0 ρ h nx w) {t : TypeId} {len : Nat} {ps : List (Nat × V)} {qs : Array (Nat × Value)} {dd : Did} (hm : buildS P nx t len ps = some dd) (hp : PR ρ ps qs.toList) :
    ∃ v ob z w' c, dd = .new v ob ∧ (Instr.buildSlice t len qs).run P w = .ok z w' ∧ Inv w0 (ρ.put nx c) (h.set nx ob) (nx + 1) w' ∧ VR (ρ.put nx c) v z := by
  obtain ⟨n, c, cells, elem, rfl, hrun, h9, h8⟩ := buildS_raw hm hp w
  refine ⟨_, _, _, _, (w.heap.size, len * n), rfl, hrun, ?_, ?_⟩
  · have hle : ρ.le (ρ.put nx (w.heap.size, len * n)) := le_put' I _
    refine I.push (by simp) (fun k hk => (MapKept.heap_alloc w _).2 k hk) rfl rfl rfl ?_
    refine ⟨cells, elem, (MapKept.heap_alloc w _).1, h9, Nat.le_refl _, fun o v ho hv => ?_⟩
    obtain ⟨u', h10, h11⟩ := h8 o v ho hv
    exact ⟨u', h10, h11.mono hle⟩
  · exact .l _ _ _ _ _ _ _ _ (put_self ..) (Nat.le_refl _) (by omega) (.inl rfl)
end
end Go.Proofs.Ev
/- The operations: all of them. -/
set_option linter.unusedVariables false
namespace Go.Proofs.Ev
open Go
section
variable {P : Program} {w0 : Base}

theorem evalOp_sound {ρ : Rho} {tm : T V} {a : Act} (ht : TmR ρ tm a.tmps) {x : Option Operand} {v : Option V} (h : evalOp tm x = some v) : OpR ρ v (x.map a.eval) := by
  cases x with
  | none => injection h with h; subst h; trivial
  | some x =>
    obtain ⟨u, h1, h2⟩ := bd_some.1 h
    injection h2 with h2; subst h2
    exact evalO_sound ht h1
theorem run_val {s : Sem Value} {u : Value} {w w' : World} (h : s.run P w = .ok u w') : (do pure (.value (← s)) : Sem Next).run P w = .ok (.value u) w' := by simp [h]
theorem run_unit {s : Sem Unit} {w w' : World} (h : s.run P w = .ok () w') : (do s; pure .skip : Sem Next).run P w = .ok .skip w' := by simp [h]
/-- no function of the program is the one that the model answers itself -/
def Named (P : Program) : Prop := ∀ (f : FuncId) (fn : Func), P.funcs[f]? = some fn → (fn.name == "runtime.NumGoroutine") = false
theorem hasBody_some {f : FuncId} (h : hasBody P f = true) : ∃ fn, P.funcs[f]? = some fn ∧ fn.body.isSome = true := by
  unfold hasBody fnOf at h
  cases hf : P.funcs.toList[f]? with
  | none => simp [hf] at h
  | some fn => simp only [hf] at h; exact ⟨fn, by simpa using hf, h⟩
theorem run_callFunc (N : Named P) {f : FuncId} (h : hasBody P f = true) (args : Array Value) (w : World) : (callFunc f args).run P w = .ok (.enter f args) w := by
  obtain ⟨fn, h1, h2⟩ := hasBody_some h
  have h3 : fn.name ≠ "runtime.NumGoroutine" := by simpa using N f fn h1
  obtain ⟨b, hb⟩ := Option.isSome_iff_exists.1 h2
  simp [callFunc, h1, h3, hb]
theorem target_ok (N : Named P) {ρ : Rho} {v : V} {u : Value} {args : List V} {xs : Array Value} {f : FuncId} {l : List V} (h : targetA P v args = some (f, l)) (hv : VR ρ v u) (ha : VRs ρ args xs.toList) (w : World) :
    ∃ d ys, (Deferred.ofValue u xs).run P w = .ok d w ∧ (∃ fv cap, d.target = .fn fv cap) ∧ (∀ w, (invoke d.target d.args).run P w = .ok (.enter f ys) w) ∧ VRs ρ l ys.toList := by
  cases v <;> first | (simp only [targetA, reduceCtorEq] at h; done) | skip
  rename_i fn first cap
  have h : targetF P fn ((first ++ args) ++ cap) = some (f, l) := h
  cases fn <;> first | (simp only [targetF, reduceCtorEq] at h; done) | skip
  obtain ⟨h1, h2⟩ := gd_some.1 h
  injection h2 with h2; injection h2 with h2 h3; subst h2; subst h3
  cases hv with
  | f _ _ _ a' c' hf hc =>
  refine ⟨{ target := .fn (.func _) c', args := a' ++ xs }, (a' ++ xs) ++ c', rfl, ⟨_, _, rfl⟩, fun w => run_callFunc N h1 _ w, ?_⟩
  simpa using (hf.append ha).append hc
theorem args_ok {ρ : Rho} {tm : T V} {a : Act} (ht : TmR ρ tm a.tmps) {c : Call} {vs : List V} (h : evalL tm c.args.toList = some vs) : VRs ρ vs (c.args.map a.eval).toList := by
  have := evalL_sound ht _ _ h
  simpa using this
theorem VRs.one {ρ : Rho} {v : V} {xs : Array Value} (h : VRs ρ [v] xs.toList) : ∃ u, xs = #[u] ∧ VR ρ v u := by
  obtain ⟨l⟩ := xs
  cases h with
  | cons _ u _ _ h1 h2 => cases h2; exact ⟨u, rfl, h1⟩
theorem VRs.two {ρ : Rho} {v v' : V} {xs : Array Value} (h : VRs ρ [v, v'] xs.toList) : ∃ u u', xs = #[u, u'] ∧ VR ρ v u ∧ VR ρ v' u' := by
  obtain ⟨l⟩ := xs
  cases h with
  | cons _ u _ _ h1 h2 =>
    cases h2 with
    | cons _ u' _ _ h3 h4 => cases h4; exact ⟨u, u', rfl, h1, h3⟩
theorem appendA_ok {ρ : Rho} {h : T AObj} {nx : Nat} {w : World} (I : Inv w0 ρ h nx w) {ts : Array TypeId} {ty t u : TypeId} (h0 : ts[0]? = some t) (h1 : ts[1]? = some u) {s x : V} {a b : Value} {dd : Did}
    (hap : appendA P h nx t u s x = some dd) (hs : VR ρ s a) (hx : VR ρ x b) : DidOk w0 ρ h nx w ((do pure (.value (← Builtin.append_ ts ty #[a, b])) : Sem Next).run P w) dd := by
  unfold appendA at hap
  cases hu : P.underlying t with
  | none => simp only [und, hu, reduceCtorEq] at hap
  | some d =>
    simp only [und, hu] at hap
    cases d <;> first | (simp only [reduceCtorEq] at hap; done) | skip
    rename_i elem
    obtain ⟨bb, h2, hap⟩ := bd_some.1 hap
    have hd : ∃ d, P.underlying u = some d ∧ ∀ k, d ≠ .int k := by
      unfold notInt at h2
      cases hq : P.underlying u with
      | none => simp only [und, hq, reduceCtorEq] at h2
      | some d => exact ⟨d, rfl, fun k q => by subst q; simp only [und, hq, reduceCtorEq] at h2⟩
    obtain ⟨d, hd1, hd2⟩ := hd
    cases hi : P.info? elem with
    | none => simp only [hi, reduceCtorEq] at hap
    | some i =>
      simp only [hi] at hap
      rcases appendI_ok (ty := ty) I h0 h1 hu hd1 hd2 hi hap hs hx with ⟨v, y, rfl, h3, h4⟩ | ⟨v, ob, y, w', c, rfl, h3, h4, h5⟩ | ⟨v, q, ob, y, w', c, rfl, h3, h4, h5⟩
      · exact ⟨y, run_val h3, h4⟩
      · exact ⟨y, w', c, run_val h3, h4, h5⟩
      · exact ⟨y, w', c, run_val h3, h4, h5⟩
theorem maxA_args {args : List V} {v : V} (h : maxA args = some v) : ∃ k a k' b, args = [.i k a, .i k' b] ∧ gd (Nat.beq (kNo k) (kNo k')) (some (V.i k (Bool.rec a b (Nat.ble (Nat.succ a) b)))) = some v := by
  unfold maxA at h
  split at h
  · exact ⟨_, _, _, _, rfl, h⟩
  · cases h
theorem minA_args {args : List V} {v : V} (h : minA args = some v) : ∃ k a k' b, args = [.i k a, .i k' b] ∧ gd (Nat.beq (kNo k) (kNo k')) (some (V.i k (Bool.rec a b (Nat.ble (Nat.succ b) a)))) = some v := by
  unfold minA at h
  split at h
  · exact ⟨_, _, _, _, rfl, h⟩
  · cases h
theorem builtinA_ok {ρ : Rho} {h : T AObj} {nx : Nat} {w : World} (I : Inv w0 ρ h nx w) {b : Builtin} {ts : Array TypeId} {ty : TypeId} {cs : Array Bool} {args : List V} {xs : Array Value} {dd : Did}
    (hb : builtinA P h nx b ts.toList args = some dd) (ha : VRs ρ args xs.toList) (hne : dd ≠ .recov) : DidOk w0 ρ h nx w ((builtin b ts ty cs xs).run P w) dd := by
  cases b <;> first | (simp only [builtinA, reduceCtorEq] at hb; done) | skip
  case append =>
    have hb : appB P h nx ts.toList args = some dd := hb
    unfold appB at hb
    obtain ⟨tl⟩ := ts
    cases tl with
    | nil => simp only [reduceCtorEq] at hb
    | cons t tl =>
      cases tl with
      | nil => simp only [reduceCtorEq] at hb
      | cons u tl =>
        cases args with
        | nil => simp only [reduceCtorEq] at hb
        | cons s args =>
          cases args with
          | nil => simp only [reduceCtorEq] at hb
          | cons x args =>
            cases args with
            | cons _ _ => simp only [reduceCtorEq] at hb
            | nil =>
              obtain ⟨a, b, rfl, h1, h2⟩ := ha.two
              exact appendA_ok I (by simp) (by simp) hb h1 h2
  case len =>
    have hb : lenB P h ts.toList args = some dd := hb
    unfold lenB at hb
    obtain ⟨tl⟩ := ts
    cases tl with
    | nil => simp only [reduceCtorEq] at hb
    | cons t tl =>
      cases args with
      | nil => simp only [reduceCtorEq] at hb
      | cons s args =>
        cases args with
        | cons _ _ => simp only [reduceCtorEq] at hb
        | nil =>
          obtain ⟨a, rfl, h1⟩ := ha.one
          obtain ⟨v, h2, rfl⟩ := val_some hb
          obtain ⟨u, h3, h4⟩ := lenA_ok (ty := ty) I h2 h1 (ts := (t :: tl).toArray) (by simp)
          exact ⟨u, run_val h3, h4⟩
  case max =>
    obtain ⟨v, h2, rfl⟩ := val_some hb
    obtain ⟨k, m, k', n, rfl, h3⟩ := maxA_args h2
    obtain ⟨a, b, rfl, ha1, ha2⟩ := ha.two
    obtain ⟨h4, h5⟩ := gd_some.1 h3
    have hk := kNo_inj (beq_true.1 h4)
    subst hk
    injection h5 with h5; subst h5
    refine ⟨.int k (if ((n : Int) - 9223372036854775808) > ((m : Int) - 9223372036854775808) then ((n : Int) - 9223372036854775808) else ((m : Int) - 9223372036854775808)), run_val (by rw [ha1.i_inv, ha2.i_inv]; simp [Builtin.max_, Builtin.max2]), .i _ _ _ ?_⟩
    rw [bleD, brec]
    split <;> split <;> omega
  case min =>
    obtain ⟨v, h2, rfl⟩ := val_some hb
    obtain ⟨k, m, k', n, rfl, h3⟩ := minA_args h2
    obtain ⟨a, b, rfl, ha1, ha2⟩ := ha.two
    obtain ⟨h4, h5⟩ := gd_some.1 h3
    have hk := kNo_inj (beq_true.1 h4)
    subst hk
    injection h5 with h5; subst h5
    refine ⟨.int k (if ((n : Int) - 9223372036854775808) < ((m : Int) - 9223372036854775808) then ((n : Int) - 9223372036854775808) else ((m : Int) - 9223372036854775808)), run_val (by rw [ha1.i_inv, ha2.i_inv]; simp [Builtin.min_, Builtin.min2]), .i _ _ _ ?_⟩
    rw [bleD, brec]
    split <;> split <;> omega
  case recover =>
    injection hb with hb
    exact absurd hb.symm hne
theorem panA_ok {ρ : Rho} {x : V} {a : Value} {dd : Did} (h : panA x = some dd) (hx : VR ρ x a) (w : World) : ∃ v, dd = .pan v ∧ ∀ {α : Type} (f : Value → Sem α), ((Instr.panic a) >>= f).run P w = .halt (.panic a) w ∧ VR ρ v a := by
  cases x <;> first | (simp only [panA, reduceCtorEq] at h; done) | skip
  injection h with h; subst h
  cases hx with
  | x t v u hu => exact ⟨_, rfl, fun f => ⟨by simp [Instr.panic], .x _ _ _ hu⟩⟩
/-- the operations, but for those that ask for what panics, or leave calls for later -/
def plainDid : Did → Bool
  | .defer _ _ => false
  | .recov => false
  | _ => true
theorem op_ok (N : Named P) (o : Oper) (ρ : Rho) (tm : T V) (h : T AObj) (nx : Nat) (a : Act) (w : World) (d : Did) (hd : opA P tm h nx o.op = some d) (ht : TmR ρ tm a.tmps) (I : Inv w0 ρ h nx w) (hpl : plainDid d = true) :
    DidOk w0 ρ h nx w ((execOp a.eval o).run P w) d := by
  obtain ⟨dst, op, ty, pos, after, guard⟩ := o
  have ev : ∀ {x v}, evalO tm x = some v → VR ρ v (a.eval x) := fun h => evalO_sound ht h
  cases op <;> first | (simp only [opA, reduceCtorEq] at hd; done) | skip
  case move x =>
    obtain ⟨v, h1, rfl⟩ := val_some hd
    exact ⟨_, rfl, ev h1⟩
  case assign x =>
    obtain ⟨v, h1, rfl⟩ := val_some hd
    exact ⟨_, rfl, ev h1⟩
  case pick c x y =>
    obtain ⟨v, h1, h2⟩ := bd_some.1 hd
    obtain ⟨b, rfl, h3⟩ := withB_some h2
    have hc : a.eval c = .bool b := by
      have := ev h1
      generalize a.eval c = u at this
      cases this; rfl
    cases b
    · obtain ⟨v, h4, rfl⟩ := val_some h3
      exact ⟨_, by simp [execOp, hc, asBool], ev h4⟩
    · obtain ⟨v, h4, rfl⟩ := val_some h3
      exact ⟨_, by simp [execOp, hc, asBool], ev h4⟩
  case alloc elem =>
    obtain ⟨z, h1, h2⟩ := bd_some.1 hd
    injection h2 with h2; subst h2
    obtain ⟨u, h3, h4, _⟩ := run_zeroValue h1 w ρ
    have := alloc_ok I elem h4
    have hr : (execOp a.eval ⟨dst, .alloc elem, ty, pos, after, guard⟩).run P w = .ok (.value (.pointer (some ⟨w.heap.size, 0, none⟩))) (w.alloc (.cells u.cells elem)) := by
      simp [execOp, Instr.alloc, h3, newVar, newRow]
    rw [hr]; exact this
  case box elem x =>
    obtain ⟨z, h1, h2⟩ := bd_some.1 hd
    injection h2 with h2; subst h2
    have := alloc_ok I elem (ev h1)
    have hr : (execOp a.eval ⟨dst, .box elem x, ty, pos, after, guard⟩).run P w = .ok (.value (.pointer (some ⟨w.heap.size, 0, none⟩))) (w.alloc (.cells (a.eval x).cells elem)) := by
      simp [execOp, Instr.box, newVar, newRow]
    rw [hr]; exact this
  case build t ps =>
    obtain ⟨l, h1, h2⟩ := bd_some.1 hd
    obtain ⟨v, h3, rfl⟩ := val_some h2
    obtain ⟨u, h4, h5⟩ := buildA_ok (qs := ps.map fun (i, x) => (i, a.eval x)) h3 (by simpa using evalP_sound ht _ _ h1) w
    exact ⟨u, run_val h4, h5⟩
  case buildSlice t n ps =>
    obtain ⟨l, h1, h2⟩ := bd_some.1 hd
    obtain ⟨v, ob, z, w', c, rfl, h4, h5, h6⟩ := buildS_ok (qs := ps.map fun (i, x) => (i, a.eval x)) I h2 (by simpa using evalP_sound ht _ _ h1)
    exact ⟨z, w', c, run_val h4, h5, h6⟩
  case load t x =>
    obtain ⟨v, h1, h2⟩ := bd_some.1 hd
    obtain ⟨b, o, rfl, h3⟩ := withP_some h2
    obtain ⟨v, h4, rfl⟩ := val_some h3
    obtain ⟨cb, sz, h5, h6⟩ := (ev h1).p_inv
    obtain ⟨u, h7, h8⟩ := loadA_ok I h4 h5
    exact ⟨u, run_val (by rw [h6]; simp [Instr.loadAt, Instr.sureAddr, h7]), h8⟩
  case store t x y =>
    obtain ⟨v, h1, h2⟩ := bd_some.1 hd
    obtain ⟨u, h3, h4⟩ := bd_some.1 h2
    obtain ⟨b, o, rfl, h5⟩ := withP_some h4
    obtain ⟨cb, sz, h6, h7⟩ := (ev h1).p_inv
    obtain ⟨ob, w', rfl, h8, h9⟩ := storeA_ok I h5 h6 (ev h3)
    exact ⟨w', run_unit (by rw [h7]; simp [Instr.storeAt, Instr.sureAddr, h8]), h9⟩
  case nilCheck x =>
    obtain ⟨v, h1, h2⟩ := bd_some.1 hd
    obtain ⟨v', h3, rfl⟩ := val_some h2
    have hx := ev h1
    rcases nilA_ok h3 hx with ⟨rfl, ad, q⟩ | ⟨rfl, t, u, q⟩ | ⟨rfl, g, xs, ys, q⟩
    · exact ⟨a.eval x, by simp [execOp, q], hx⟩
    · exact ⟨a.eval x, by simp [execOp, q], hx⟩
    · exact ⟨a.eval x, by simp [execOp, q], hx⟩
  case binOp op t x y yt =>
    obtain ⟨v, h1, h2⟩ := bd_some.1 hd
    obtain ⟨u, h3, h4⟩ := bd_some.1 h2
    obtain ⟨r, h5, rfl⟩ := val_some h4
    obtain ⟨z, h6, h7⟩ := binA_ok h5 (ev h1) (ev h3) w
    exact ⟨z, run_val h6, h7⟩
  case unOp op t x =>
    obtain ⟨v, h1, h2⟩ := bd_some.1 hd
    obtain ⟨r, h5, rfl⟩ := val_some h2
    obtain ⟨z, h6, h7⟩ := unA_ok (P := P) h5 (ev h1) w
    exact ⟨z, run_val h6, h7⟩
  case convert src t x =>
    obtain ⟨v, h1, h2⟩ := bd_some.1 hd
    obtain ⟨r, h5, rfl⟩ := val_some h2
    obtain ⟨h8, h9⟩ := gd_some.1 h5
    obtain ⟨z, h6, h7⟩ := convA_ok h9 h8 (ev h1) w
    exact ⟨z, run_val h6, h7⟩
  case makeInterface t x =>
    obtain ⟨v, h1, h2⟩ := bd_some.1 hd
    obtain ⟨r, h5, rfl⟩ := val_some h2
    obtain ⟨z, h6, h7⟩ := ifaceA_ok h5 (ev h1) w
    exact ⟨z, run_val h6, h7⟩
  case makeFunc fn first cap =>
    obtain ⟨v, h1, h2⟩ := bd_some.1 hd
    obtain ⟨u, h3, h4⟩ := bd_some.1 h2
    injection h4 with h4; subst h4
    exact ⟨.func fn (first.map a.eval) (cap.map a.eval), run_val (by simp [Instr.makeFunc]), .f _ _ _ _ _ (by simpa using evalL_sound ht _ _ h1) (by simpa using evalL_sound ht _ _ h3)⟩
  case makeMap t r =>
    cases r <;> first | (simp only [opA, reduceCtorEq] at hd; done) | skip
    injection hd with hd; subst hd
    refine ⟨.map (some w.heap.size), w.alloc (.map #[] 0), (w.heap.size, 0), run_val (by simp [Instr.makeMap]), ?_, .m _ _ _ (put_self ..)⟩
    exact I.push (by simp) (fun k hk => (MapKept.heap_alloc w _).2 k hk) rfl rfl rfl ⟨#[], 0, (MapKept.heap_alloc w _).1, .nil, .nil, List.nodup_nil, fun _ h => by simp at h⟩
  case makeSlice t l c =>
    obtain ⟨v, h1, h2⟩ := bd_some.1 hd
    obtain ⟨u, h3, h4⟩ := bd_some.1 h2
    obtain ⟨v, ob, z, w', c, rfl, h5, h6, h7⟩ := makeSliceA_ok I h4 (ev h1) (ev h3)
    exact ⟨z, w', c, run_val h5, h6, h7⟩
  case slice t x lo hi mx =>
    cases mx <;> first | (simp only [opA, reduceCtorEq] at hd; done) | skip
    obtain ⟨v, h1, h2⟩ := bd_some.1 hd
    obtain ⟨l, h3, h4⟩ := bd_some.1 h2
    obtain ⟨r, h5, h6⟩ := bd_some.1 h4
    obtain ⟨y, h7, rfl⟩ := val_some h6
    obtain ⟨z, h8, h9⟩ := sliceA_ok h7 (ev h1) (evalOp_sound ht h3) (evalOp_sound ht h5) w
    exact ⟨z, run_val h8, h9⟩
  case fieldAddr t x f =>
    obtain ⟨v, h1, h2⟩ := bd_some.1 hd
    obtain ⟨r, h5, rfl⟩ := val_some h2
    obtain ⟨z, h6, h7⟩ := fieldAddrA_ok h5 (ev h1) w
    exact ⟨z, run_val h6, h7⟩
  case field t x f =>
    obtain ⟨v, h1, h2⟩ := bd_some.1 hd
    obtain ⟨r, h5, rfl⟩ := val_some h2
    obtain ⟨z, h6, h7⟩ := fieldA_ok h5 (ev h1) w
    exact ⟨z, run_val h6, h7⟩
  case indexAddr t x ix =>
    obtain ⟨v, h1, h2⟩ := bd_some.1 hd
    obtain ⟨u, h3, h4⟩ := bd_some.1 h2
    obtain ⟨r, h5, rfl⟩ := val_some h4
    obtain ⟨z, h6, h7⟩ := indexAddrA_ok h5 (ev h1) (ev h3) w
    exact ⟨z, run_val h6, h7⟩
  case index t x ix =>
    obtain ⟨v, h1, h2⟩ := bd_some.1 hd
    obtain ⟨u, h3, h4⟩ := bd_some.1 h2
    obtain ⟨r, h5, rfl⟩ := val_some h4
    obtain ⟨z, h6, h7⟩ := indexA_ok h5 (ev h1) (ev h3) w
    exact ⟨z, run_val h6, h7⟩
  case lookup t x k ok =>
    obtain ⟨v, h1, h2⟩ := bd_some.1 hd
    obtain ⟨u, h3, h4⟩ := bd_some.1 h2
    obtain ⟨r, h5, rfl⟩ := val_some h4
    obtain ⟨z, h6, h7⟩ := lookupA_ok I h5 (ev h1) (ev h3)
    exact ⟨z, run_val h6, h7⟩
  case mapUpdate t m k x =>
    obtain ⟨v, h1, h2⟩ := bd_some.1 hd
    obtain ⟨u, h3, h4⟩ := bd_some.1 h2
    obtain ⟨y, h5, h6⟩ := bd_some.1 h4
    obtain ⟨b, ob, w', rfl, h7, h8⟩ := mapUpA_ok I h6 (ev h1) (ev h3) (ev h5)
    exact ⟨w', run_unit h7, h8⟩
  case insert t m k x =>
    obtain ⟨v, h1, h2⟩ := bd_some.1 hd
    obtain ⟨u, h3, h4⟩ := bd_some.1 h2
    obtain ⟨y, h5, h6⟩ := bd_some.1 h4
    obtain ⟨b, ob, w', rfl, h7, h8⟩ := mapUpA_ok I h6 (ev h1) (ev h3) (ev h5)
    exact ⟨w', run_unit h7, h8⟩
  case typeAssert x xt t ok =>
    obtain ⟨v, h1, h2⟩ := bd_some.1 hd
    obtain ⟨r, h5, rfl⟩ := val_some h2
    obtain ⟨z, h6, h7⟩ := assertA_ok (xt := xt) h5 (ev h1) w
    exact ⟨z, run_val h6, h7⟩
  case extract x i =>
    obtain ⟨v, h1, h2⟩ := bd_some.1 hd
    obtain ⟨r, h5, rfl⟩ := val_some h2
    obtain ⟨z, h6, h7⟩ := extractA_ok (P := P) h5 (ev h1) w
    exact ⟨z, run_val h6, h7⟩
  case call c =>
    obtain ⟨args, h1, h2⟩ := bd_some.1 hd
    have ha := args_ok ht h1
    obtain ⟨callee, cargs, cts⟩ := c
    cases callee with
    | invoke r m => simp only [reduceCtorEq] at h2
    | builtin b =>
      have e : ∃ cs, execOp a.eval ⟨dst, .call ⟨.builtin b, cargs, cts⟩, ty, pos, after, guard⟩ = builtin b cts ty cs (cargs.map a.eval) := ⟨_, rfl⟩
      obtain ⟨cs, e⟩ := e
      rw [e]
      exact builtinA_ok (ty := ty) (cs := cs) I h2 ha (fun q => by subst q; simp [plainDid] at hpl)
    | value f =>
      obtain ⟨v, h3, h4⟩ := bd_some.1 h2
      obtain ⟨⟨g, l⟩, h5, h6⟩ := bd_some.1 h4
      injection h6 with h6; subst h6
      obtain ⟨dd, ys, h7, _, h8, h9⟩ := target_ok N h5 (ev h3) ha w
      exact ⟨ys, by simp [execOp, resolve, h7, h8], h9⟩
  case defer c =>
    obtain ⟨args, h1, h2⟩ := bd_some.1 hd
    obtain ⟨callee, cargs, cts⟩ := c
    cases callee with
    | invoke r m => simp only [reduceCtorEq] at h2
    | builtin b => simp only [reduceCtorEq] at h2
    | value f =>
      obtain ⟨v, h3, h4⟩ := bd_some.1 h2
      obtain ⟨⟨g, l⟩, h5, h6⟩ := bd_some.1 h4
      injection h6 with h6; subst h6
      simp [plainDid] at hpl
  case panic x =>
    obtain ⟨v, h1, h2⟩ := bd_some.1 hd
    obtain ⟨v', rfl, h3⟩ := panA_ok (P := P) h2 (ev h1) w
    obtain ⟨h4, h5⟩ := h3 (fun v => pure (Next.value v))
    exact ⟨_, h4, h5⟩
end
end Go.Proofs.Ev
