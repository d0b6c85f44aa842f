/- Dictionaries of three kinds side by side: the number of a key, there or not; what turns in one leaves the others. -/
import Derived.Test.YtdhnmgndekncpaaDoorT1
import Derived.Test.YtdhnmgndekncpaaDoorT2
import Derived.Laws.StructEq
import Derived.ChangeKeysEq
namespace Go.Proofs.YtdhnmgndekncpaaDoor
open Go Go.RowKit Go.Maps Go.WideMaps

theorem info3 : ∃ i, Tryd.prog.info? 3 = some i := by
  obtain ⟨i, h, _⟩ := info_parts infoInt3
  exact ⟨i, h⟩
set_option maxRecDepth 100000 in
theorem neq30 (W : World) (a : Int) : (binOp .neq 30 (.agg #[.int .i64 a, .int .i64 7]) (.agg #[.int .i64 a, .int .i64 7])).run Tryd.prog W = .ok (.bool false) W := by
  obtain ⟨i, hi⟩ := info3
  rw [run_neq_struct, run_equalIn_array W 9999 _ _ Tryd.underlying30 hi, cellsOf3]
  have hu3 : Tryd.prog.underlying 3 = some (.int .i64) := by kernel_rfl
  simp only [List.range_succ, List.range_zero, List.nil_append, List.singleton_append, Op.eqItems]
  go_simp

/-- A list with a key, at its end if it was not there. -/
def addK {K : Type} [DecidableEq K] (ks : List K) (k : K) : List K := if k ∈ ks then ks else ks ++ [k]
theorem place_get {K : Type} [DecidableEq K] {ks : List K} {k : K} (h : k ∈ ks) : ks[place ks k]? = some k := by
  have hl : place ks k < ks.length := List.idxOf_lt_length_of_mem h
  rw [List.getElem?_eq_getElem hl]
  exact congrArg some (List.getElem_idxOf hl)
theorem place_new {K : Type} [DecidableEq K] {ks : List K} {k : K} (h : k ∉ ks) : place (ks ++ [k]) k = ks.length := by
  unfold place
  rw [List.idxOf_append, if_neg h]
  simp
theorem addK_mem {K : Type} [DecidableEq K] (ks : List K) (k : K) : k ∈ addK ks k := by
  unfold addK
  split <;> simp_all
theorem place_addK {K : Type} [DecidableEq K] (ks : List K) (k : K) : place (addK ks k) k = if k ∈ ks then place ks k else ks.length := by
  unfold addK
  split
  · rfl
  · rename_i h
    exact place_new h
theorem addK_len {K : Type} [DecidableEq K] (ks : List K) (k : K) : (addK ks k).length ≤ ks.length + 1 := by
  unfold addK
  split <;> simp
theorem place_of_map {K L : Type} [DecidableEq K] [DecidableEq L] {f : K → L} (hf : ∀ a b, f a = f b → a = b) (ks : List K) (k : K) : place (ks.map f) (f k) = place ks k := by
  unfold place
  induction ks with
  | nil => rfl
  | cons a r ih =>
    rw [List.map_cons, List.idxOf_cons, List.idxOf_cons, ih]
    by_cases h : a = k
    · subst h; simp
    · have h' : f a ≠ f k := fun e => h (hf _ _ e)
      rw [show (f a == f k) = false from by simpa using h', show (a == k) = false from by simpa using h]
theorem place_map (ks : List Int) (k : Int) : place (ks.map numS) (numS k) = place ks k := place_of_map (fun _ _ h => numS_inj h) ks k
theorem addK_map (ks : List Int) (k : Int) : addK (ks.map numS) (numS k) = (addK ks k).map numS := by
  unfold addK
  have : numS k ∈ ks.map numS ↔ k ∈ ks := ⟨fun h => by
    obtain ⟨x, hx, e⟩ := List.mem_map.1 h
    rw [← numS_inj e]; exact hx, fun h => List.mem_map.2 ⟨k, h, rfl⟩⟩
  by_cases h : k ∈ ks
  · rw [if_pos h, if_pos (this.2 h)]
  · rw [if_neg h, if_neg (fun h' => h (this.1 h')), List.map_append]; rfl

/-- The number of a key, there or not. -/
def IdIIs (B b m : Nat) (v : Value) (ks : List Int) (k : Int) (w : World) (e : Ending) (w' : World) : Prop :=
  e = .returned (.int .i64 ((place (addK ks k) k : Nat) : Int)) ∧ (∃ v' D', DictI w' B b m v' (addK ks k) D') ∧ Turn (SB b m v) w w'
theorem idDI_any {w : World} {B b m : Nat} {v : Value} {ks : List Int} {D : DataW Unit} (h : DictI w B b m v ks D) (k : Int) (hk : VI k) (hn : ks.length ≤ 100000) : Calls Tryd.prog 11 #[.pointer (some ⟨b, 0, none⟩), .int .i64 k] w (IdIIs B b m v ks k w) := by
  by_cases hin : k ∈ ks
  · refine (idDI_old h k hk hin).mono ?_
    rintro e w' ⟨rfl, rfl⟩
    have e1 : addK ks k = ks := by unfold addK; rw [if_pos hin]
    exact ⟨by rw [e1], ⟨v, D, by rw [e1]; exact h⟩, Turn.refl _ _⟩
  · refine (idDI_new h k hk hin hn).mono ?_
    rintro e w' ⟨rfl, ⟨v', hd, _⟩, ht⟩
    have e1 : addK ks k = ks ++ [k] := by unfold addK; rw [if_neg hin]
    exact ⟨by rw [e1, place_new hin], ⟨v', _, by rw [e1]; exact hd⟩, ht⟩
def IdP2Is (B b m : Nat) (v : Value) (ks : List Int) (k : Int) (w : World) (e : Ending) (w' : World) : Prop :=
  e = .returned (.int .i64 ((place (addK ks k) k : Nat) : Int)) ∧ (∃ v' D', DictP w' B b m v' (addK ks k) D') ∧ Turn (SB b m v) w w'
theorem idDP_any {w : World} {B b m : Nat} {v : Value} {ks : List Int} {D : DataW Unit} (h : DictP w B b m v ks D) (k : Int) (hk : VI k) (hn : ks.length ≤ 100000) : Calls Tryd.prog 12 #[.pointer (some ⟨b, 0, none⟩), .agg #[.int .i64 k, .int .i64 7]] w (IdP2Is B b m v ks k w) := by
  by_cases hin : k ∈ ks
  · refine (idDP_old h k hk hin).mono ?_
    rintro e w' ⟨rfl, hb⟩
    have e1 : addK ks k = ks := by unfold addK; rw [if_pos hin]
    exact ⟨by rw [e1], ⟨v, D, by rw [e1]; exact h.below hb⟩, (Turn.of_below hb).mono (fun i hi hge => absurd hi (by omega))⟩
  · refine (idDP_new h k hk hin hn).mono ?_
    rintro e w' ⟨rfl, ⟨v', hd, _⟩, ht⟩
    have e1 : addK ks k = ks ++ [k] := by unfold addK; rw [if_neg hin]
    exact ⟨by rw [e1, place_new hin], ⟨v', _, by rw [e1]; exact hd⟩, ht⟩
def IdSIs (B b m : Nat) (v : Value) (ks : List ByteArray) (k : ByteArray) (w : World) (e : Ending) (w' : World) : Prop :=
  e = .returned (.int .i64 ((place (addK ks k) k : Nat) : Int)) ∧ (∃ v' D', DictS w' B b m v' (addK ks k) D') ∧ Turn (SB b m v) w w'
theorem idDS_any {w : World} {B b m : Nat} {v : Value} {ks : List ByteArray} {D : DataW Unit} (h : DictS w B b m v ks D) (k : ByteArray) (hk : VS k) (hn : ks.length ≤ 100000) : Calls Tryd.prog 13 #[.pointer (some ⟨b, 0, none⟩), .string k] w (IdSIs B b m v ks k w) := by
  by_cases hin : k ∈ ks
  · refine (idS_old h k hk hin).mono ?_
    rintro e w' ⟨rfl, rfl⟩
    have e1 : addK ks k = ks := by unfold addK; rw [if_pos hin]
    exact ⟨by rw [e1], ⟨v, D, by rw [e1]; exact h⟩, Turn.refl _ _⟩
  · refine (idS_new h k hk hin hn).mono ?_
    rintro e w' ⟨rfl, ⟨v', hd, _⟩, ht⟩
    have e1 : addK ks k = ks ++ [k] := by unfold addK; rw [if_neg hin]
    exact ⟨by rw [e1, place_new hin], ⟨v', _, by rw [e1]; exact hd⟩, ht⟩

section
variable {w w' : World} {C E sz n n' B b m : Nat} {v : Value} {xs : List Value} {Kt : TypeId} {R : Value → Option (DataW Unit × List MemPlace)} {D : DataW Unit} {cs : Array Value}
/-- Of what kinds the blocks of a dictionary are. -/
def Kinds (C E m : Nat) (w : World) (i : Nat) : Prop := (∃ cur e, w.heap[i]? = some (.cells cur e (0, 0)) ∧ (e = C ∨ e = E)) ∨ ((∃ es cl, w.heap[i]? = some (.map es cl)) ∧ i = m)
theorem parts_kinds (blk : w.heap[b]? = some (.cells cs C (0, 0))) (map : w.ownsMap Tryd.prog Kt R m n D) (row : w.ownsRow B E sz v n' xs) : ∀ i, SB b m v i → Kinds C E m w i := by
  rintro i (rfl | rfl | hi)
  · exact .inl ⟨_, C, blk, .inl rfl⟩
  · obtain ⟨es, cl, hb, _⟩ := map
    exact .inr ⟨⟨es, cl, hb⟩, rfl⟩
  · obtain ⟨cur, hc⟩ := own_type row hi.symm
    exact .inl ⟨cur, E, hc, .inr rfl⟩
/-- What turns is of another dictionary. -/
theorem parts_kept (blk : w.heap[b]? = some (.cells cs C (0, 0))) (map : w.ownsMap Tryd.prog Kt R m n D) (row : w.ownsRow B E sz v n' xs) {S : Nat → Prop} {C2 E2 m2 : Nat} (ht : Turn S w w') (hS : ∀ i, S i → Kinds C2 E2 m2 w i)
    (h1 : C2 ≠ C) (h2 : C2 ≠ E) (h3 : E2 ≠ C) (h4 : E2 ≠ E) (h5 : m2 ≠ m) : w'.heap[b]? = some (.cells cs C (0, 0)) ∧ w'.ownsMap Tryd.prog Kt R m n D ∧ w'.ownsRow B E sz v n' xs := by
  refine ⟨(ht.block b (blk_lt blk) (fun h => ?_)).trans blk, ht.map map (fun h => ?_), ht.owns row (fun g hg h => ?_)⟩
  · rcases hS b h with ⟨cur, e, hc, he⟩ | ⟨⟨es, cl, hc⟩, _⟩
    · rw [blk] at hc
      injection hc with hc
      injection hc with _ hc
      rcases he with he | he
      · exact h1 (he ▸ hc.symm)
      · exact h3 (he ▸ hc.symm)
    · rw [blk] at hc; cases hc
  · rcases hS m h with ⟨cur, e, hc, _⟩ | ⟨_, he⟩
    · obtain ⟨es, cl, hb, _⟩ := map
      rw [hb] at hc; cases hc
    · exact h5 he.symm
  · obtain ⟨cur', hrow⟩ := own_type row hg
    rcases hS g h with ⟨cur, e, hc, he⟩ | ⟨⟨es, cl, hc⟩, _⟩
    · rw [hrow] at hc
      injection hc with hc
      injection hc with _ hc
      rcases he with he | he
      · exact h2 (he ▸ hc.symm)
      · exact h4 (he ▸ hc.symm)
    · rw [hrow] at hc; cases hc
end
section
variable {w w' : World} {B b m : Nat} {v : Value} {D : DataW Unit}
theorem DictI.kinds {ks : List Int} (h : DictI w B b m v ks D) : ∀ i, SB b m v i → Kinds 98 3 m w i := parts_kinds h.blk h.map h.row
theorem DictP.kinds {ks : List Int} (h : DictP w B b m v ks D) : ∀ i, SB b m v i → Kinds 102 30 m w i := parts_kinds h.blk h.map h.row
theorem DictS.kinds {ks : List ByteArray} (h : DictS w B b m v ks D) : ∀ i, SB b m v i → Kinds 105 9 m w i := parts_kinds h.blk h.map h.row
theorem DictI.kept {ks : List Int} (h : DictI w B b m v ks D) {S : Nat → Prop} {C2 E2 m2 : Nat} (ht : Turn S w w') (hS : ∀ i, S i → Kinds C2 E2 m2 w i) (h1 : C2 ≠ 98) (h2 : C2 ≠ 3) (h3 : E2 ≠ 98) (h4 : E2 ≠ 3) (h5 : m2 ≠ m) : DictI w' B b m v ks D := by
  obtain ⟨a, c, d⟩ := parts_kept h.blk h.map h.row ht hS h1 h2 h3 h4 h5
  exact ⟨a, c, h.ids, d, h.lob, h.lom⟩
theorem DictP.kept {ks : List Int} (h : DictP w B b m v ks D) {S : Nat → Prop} {C2 E2 m2 : Nat} (ht : Turn S w w') (hS : ∀ i, S i → Kinds C2 E2 m2 w i) (h1 : C2 ≠ 102) (h2 : C2 ≠ 30) (h3 : E2 ≠ 102) (h4 : E2 ≠ 30) (h5 : m2 ≠ m) : DictP w' B b m v ks D := by
  obtain ⟨a, c, d⟩ := parts_kept h.blk h.map h.row ht hS h1 h2 h3 h4 h5
  exact ⟨a, c, h.ids, d, h.lob, h.lom⟩
theorem DictS.kept {ks : List ByteArray} (h : DictS w B b m v ks D) {S : Nat → Prop} {C2 E2 m2 : Nat} (ht : Turn S w w') (hS : ∀ i, S i → Kinds C2 E2 m2 w i) (h1 : C2 ≠ 105) (h2 : C2 ≠ 9) (h3 : E2 ≠ 105) (h4 : E2 ≠ 9) (h5 : m2 ≠ m) : DictS w' B b m v ks D := by
  obtain ⟨a, c, d⟩ := parts_kept h.blk h.map h.row ht hS h1 h2 h3 h4 h5
  exact ⟨a, c, h.ids, d, h.lob, h.lom⟩
end
end Go.Proofs.YtdhnmgndekncpaaDoor
