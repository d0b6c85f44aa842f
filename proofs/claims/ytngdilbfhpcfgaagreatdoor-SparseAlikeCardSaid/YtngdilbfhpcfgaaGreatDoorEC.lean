/- The evaluator and the world: operations on values. -/
import Derived.Test.YtngdilbfhpcfgaaGreatDoorEB
import Derived.Laws.CopyRow
import Derived.Laws.Tables
import Derived.Laws.Strings
import Derived.Laws.Slices
set_option linter.unusedSimpArgs false
set_option linter.unusedVariables false
/- The operations: what the evaluator says of one is what the model does. -/
set_option linter.unusedVariables false
namespace Go.Proofs.Ev
open Go
section
variable {P : Program} {w0 : Base}

theorem val_some {r : R V} {d : Did} (h : val r = some d) : ∃ v, r = some v ∧ d = .val v := by
  obtain ⟨v, h1, h2⟩ := bd_some.1 h
  injection h2 with h2
  exact ⟨v, h1, h2.symm⟩
theorem szOf_some {t : TypeId} {n : Nat} (h : szOf P t = some n) : ∃ i, P.info? t = some i ∧ i.size = n := by
  unfold szOf at h
  cases hi : P.info? t with
  | none => rw [hi] at h; cases h
  | some i => rw [hi] at h; injection h with h; exact ⟨i, rfl, h⟩
theorem run_sizeOf {t : TypeId} {n : Nat} (h : szOf P t = some n) (w : World) : (sizeOf t).run P w = .ok n w := by
  obtain ⟨i, h1, rfl⟩ := szOf_some h
  simp [sizeOf, typeInfo, h1]
theorem run_isAgg {t : TypeId} {b : Bool} (h : isA P t = some b) (w : World) : (isAgg t).run P w = .ok b w := by
  unfold isA at h
  cases hu : P.underlying t with
  | none => rw [hu] at h; cases h
  | some d =>
    rw [hu] at h
    cases d <;> (injection h with h; subst h; simp [isAgg, run_underlying hu])
theorem run_zeroValue {t : TypeId} {z : V} (h : zeroV P t = some z) (w : World) (ρ : Rho) : ∃ u, (zeroValue t).run P w = .ok u w ∧ VR ρ z u ∧ ∃ i, P.info? t = some i ∧ i.zero = some u := by
  unfold zeroV at h
  cases hi : P.info? t with
  | none => rw [hi] at h; cases h
  | some i =>
    simp only [hi] at h
    cases hz : i.zero with
    | none => simp only [hz] at h; cases h
    | some u =>
      simp only [hz] at h
      exact ⟨u, by simp [zeroValue, typeInfo, hi, hz], vOf_ok ρ u h, i, rfl, hz⟩
theorem VR.p_inv {ρ : Rho} {b o : Nat} {u : Value} (h : VR ρ (.p b o) u) : ∃ cb sz, ρ b = some (cb, sz) ∧ u = .pointer (some ⟨cb, o, none⟩) := by
  cases h; exact ⟨_, _, by assumption, rfl⟩
theorem withP_some {β : Type} {v : V} {k : Nat → Nat → R β} {r : β} (h : withP v k = some r) : ∃ b o, v = .p b o ∧ k b o = some r := by
  cases v <;> first | (cases h; done) | exact ⟨_, _, rfl, h⟩
theorem withN_some {β : Type} {v : V} {k : Nat → R β} {r : β} (h : withN v k = some r) : ∃ kk m n, v = .i kk m ∧ m = n + 9223372036854775808 ∧ k n = some r := by
  cases v <;> first | (cases h; done) | skip
  rename_i kk n
  obtain ⟨h1, h2⟩ := gd_some.1 h
  have h1 : 9223372036854775808 ≤ n := ble_true.1 h1
  exact ⟨kk, n, n - 9223372036854775808, rfl, (Nat.sub_add_cancel h1).symm, h2⟩
theorem withG_some {β : Type} {v : V} {k : List V → R β} {r : β} (h : withG v k = some r) : ∃ cs, v = .g cs ∧ k cs = some r := by
  cases v <;> first | (cases h; done) | exact ⟨_, rfl, h⟩
theorem withB_some {β : Type} {v : V} {k : Bool → R β} {r : β} (h : withB v k = some r) : ∃ b, v = .b b ∧ k b = some r := by
  cases v <;> first | (cases h; done) | exact ⟨_, rfl, h⟩
theorem VR.i_inv {ρ : Rho} {k : IntKind} {n : Nat} {u : Value} (h : VR ρ (.i k n) u) : u = .int k ((n : Int) - 9223372036854775808) := by
  cases h with
  | i k n z e => rw [e]
theorem VR.n_inv {ρ : Rho} {k : IntKind} {m n : Nat} {u : Value} (h : VR ρ (.i k m) u) (e : m = n + 9223372036854775808) : u = .int k (n : Int) := by
  rw [h.i_inv]; congr 1; omega

/-! rows -/
theorem OR_mk {ρ : Rho} {cs : List V} {us : Array Value} {cb : Nat} {e : TypeId} {w : World} (h : VRs ρ cs us.toList) (hw : w.heap[cb]? = some (.cells us e (0, 0))) : OR ρ (mkRow cs) cb us.size w := by
  refine ⟨us, e, hw, rfl, ?_, fun o v ho hv => ?_⟩
  · rw [lenL_eq, h.length]; simp
  · rw [get_setCells] at hv
    rw [lenL_eq] at ho
    rw [if_pos (by omega)] at hv
    have := h.get (i := o) (v := v) (by simpa using hv)
    simpa using this
theorem new_row {ρ : Rho} {h : T AObj} {nx : Nat} {w : World} (I : Inv w0 ρ h nx w) {cs : List V} {us : Array Value} (e : TypeId) (hc : VRs ρ cs us.toList) :
    Inv w0 (ρ.put nx (w.heap.size, us.size)) (h.set nx (mkRow cs)) (nx + 1) (w.alloc (.cells us e)) := by
  have hle : ρ.le (ρ.put nx (w.heap.size, us.size)) := le_put' I _
  refine I.push (World.size_alloc ..) (fun k hk => (MapKept.heap_alloc w _).2 k hk) rfl rfl rfl ?_
  exact OR_mk (hc.mono hle) (MapKept.heap_alloc w _).1
theorem put_self (ρ : Rho) (nx : Nat) (c : Nat × Nat) : (ρ.put nx c) nx = some c := by simp [Rho.put]
theorem alloc_ok {ρ : Rho} {h : T AObj} {nx : Nat} {w : World} (I : Inv w0 ρ h nx w) {z : V} {u : Value} (e : TypeId) (hz : VR ρ z u) :
    DidOk w0 ρ h nx w (.ok (.value (.pointer (some ⟨w.heap.size, 0, none⟩))) (w.alloc (.cells u.cells e))) (.new (.p nx 0) (mkRow (cellsV z))) :=
  ⟨_, _, _, rfl, new_row I e hz.cells, .p nx 0 _ _ (put_self ..)⟩

/-! loads and stores -/
theorem row_cells {ρ : Rho} {c : T V} {size cb sz : Nat} {w : World} (h : OR ρ (.row c size) cb sz w) {n o : Nat} {l : List V} (hl : getCells c n o = some l) (ho : o + n ≤ size) :
    ∃ us : List Value, us.length = n ∧ VRs ρ l us ∧ ∀ j u, us[j]? = some u → w.cell? ⟨cb, o + j, none⟩ = some u := by
  obtain ⟨cur, e, h1, h2, h3, h4⟩ := h
  obtain ⟨hlen, hc⟩ := getCells_some c n o l hl
  refine ⟨(cur.toList.drop o).take n, ?_, ?_, ?_⟩
  · simp; omega
  · refine VRs.of_get (by simp; omega) fun i v hv => ?_
    have hi : i < n := by rw [← hlen]; exact (List.getElem?_eq_some_iff.1 hv).1
    obtain ⟨u, h5, h6⟩ := h4 (o + i) v (by omega) (by rw [hc i hi, hv])
    exact ⟨u, by simp [List.getElem?_take, List.getElem?_drop, hi, h5], h6⟩
  · intro j u hu
    simp only [List.getElem?_take, List.getElem?_drop] at hu
    split at hu
    · simp [World.cell?, h1]; simpa using hu
    · cases hu
theorem loadA_ok {ρ : Rho} {h : T AObj} {nx : Nat} {w : World} (I : Inv w0 ρ h nx w) {t : TypeId} {b o cb sz : Nat} {v : V} (hl : loadA P h t b o = some v) (hr : ρ b = some (cb, sz)) :
    ∃ u, (loadVar t ⟨cb, o, none⟩).run P w = .ok u w ∧ VR ρ v u := by
  unfold loadA at hl
  cases hb : h.get b with
  | none => rw [hb] at hl; cases hl
  | some ob =>
    rw [hb] at hl
    cases ob with
    | map es => cases hl
    | row c size =>
      have hob := I.obj b _ cb sz hb hr
      obtain ⟨g, h1, h2⟩ := bd_some.1 hl
      cases g with
      | false =>
        obtain ⟨h3, h4⟩ := gd_some.1 h2
        have h3 := ble_true.1 h3
        obtain ⟨cur, e, h5, h6, h7, h8⟩ := hob
        obtain ⟨u, h9, h10⟩ := h8 o v h3 h4
        refine ⟨u, ?_, h10⟩
        simp [loadVar, run_isAgg h1, World.cell?, h5, h9]
      | true =>
        obtain ⟨n, h3, h4⟩ := bd_some.1 h2
        obtain ⟨h5, h6⟩ := gd_some.1 h4
        have h5 := ble_true.1 h5
        obtain ⟨l, h7, h8⟩ := bd_some.1 h6
        injection h8 with h8
        subst h8
        obtain ⟨us, h9, h10, h11⟩ := row_cells hob h7 h5
        have hld := run_loadCells_list (P := P) w ⟨cb, o, none⟩ us (fun j u hj => by rw [Addr.add_lit]; exact h11 j u hj)
        rw [h9] at hld
        refine ⟨.agg us.toArray, ?_, .g _ _ (by simpa using h10)⟩
        simp [loadVar, run_isAgg h1, run_sizeOf h3, hld]
theorem allFlat_all : ∀ {l : List V}, allFlat l = true → ∀ v ∈ l, flat v = true
  | [], _, v, hv => by cases hv
  | x :: l, h, v, hv => by
    have h' : (Bool.rec false (allFlat l) (flat x) : Bool) = true := h
    cases hx : flat x with
    | false => rw [hx] at h'; cases h'
    | true =>
      rw [hx] at h'
      cases hv with
      | head => exact hx
      | tail _ hv => exact allFlat_all h' v hv
theorem VRs.flat {ρ : Rho} : ∀ {vs : List V} {us : List Value}, VRs ρ vs us → (∀ v ∈ vs, Ev.flat v = true) → ∀ u ∈ us, u.oneCell' = true
  | _, _, .nil, _, u, hu => by cases hu
  | _, _, .cons v x vs us h hs, hf, u, hu => by
    cases hu with
    | head => exact h.flat (hf v (.head _))
    | tail _ hu => exact hs.flat (fun v hv => hf v (.tail _ hv)) u hu
/-- a row, some cells of it written -/
theorem OR_write {ρ : Rho} {c : T V} {size cb sz : Nat} {w : World} (h : OR ρ (.row c size) cb sz w) {o : Nat} {l : List V} {us : List Value} (hl : VRs ρ l us) (ho : o + l.length ≤ sz)
    {size' : Nat} (hs : size' ≤ sz) (hn : ∀ j, j < size' → j < size ∨ (o ≤ j ∧ j < o + l.length)) :
    ∃ cur e, w.heap[cb]? = some (.cells cur e (0, 0)) ∧ cur.size = sz ∧ ∀ w' : World, w'.heap[cb]? = some (.cells (cur.toList.take o ++ us ++ cur.toList.drop (o + us.length)).toArray e (0, 0)) → OR ρ (.row (setCells l c o) size') cb sz w' := by
  obtain ⟨cur, e, h1, h2, h3, h4⟩ := h
  have hlen := hl.length
  refine ⟨cur, e, h1, h2, fun w' hw' => ⟨_, e, hw', ?_, hs, fun j v hj hv => ?_⟩⟩
  · simp; omega
  · rw [get_setCells] at hv
    split at hv
    · rename_i hin
      obtain ⟨u, h5, h6⟩ := hl.get hv
      refine ⟨u, ?_, h6⟩
      simp only [List.getElem?_toArray, List.append_assoc]
      rw [List.getElem?_append_right (by simp; omega), List.getElem?_append_left (by simp; omega)]
      rw [← h5]; congr 1; simp; omega
    · rename_i hout
      have hj' : j < size := by rcases hn j hj with q | q; exact q; exact absurd q hout
      obtain ⟨u, h5, h6⟩ := h4 j v hj' hv
      refine ⟨u, ?_, h6⟩
      simp only [List.getElem?_toArray, List.append_assoc]
      by_cases hjo : j < o
      · rw [List.getElem?_append_left (by simp; omega)]
        simp [List.getElem?_take, hjo, h5]
      · rw [List.getElem?_append_right (by simp; omega), List.getElem?_append_right (by simp; omega)]
        simp only [List.length_take, Array.length_toList, List.getElem?_drop, Array.getElem?_toList]
        rw [← h5]; congr 1; omega
theorem storeA_ok {ρ : Rho} {h : T AObj} {nx : Nat} {w : World} (I : Inv w0 ρ h nx w) {t : TypeId} {b o cb sz : Nat} {v : V} {u : Value} {d : Did} (hl : storeA P h t b o v = some d) (hr : ρ b = some (cb, sz)) (hv : VR ρ v u) :
    ∃ ob w', d = .set b ob ∧ (storeVar t ⟨cb, o, none⟩ u).run P w = .ok () w' ∧ Inv w0 ρ (h.set b ob) nx w' := by
  unfold storeA at hl
  cases hb : h.get b with
  | none => rw [hb] at hl; cases hl
  | some ob =>
    rw [hb] at hl
    cases ob with
    | map es => cases hl
    | row c size =>
      have hob := I.obj b _ cb sz hb hr
      obtain ⟨n, h1, h2⟩ := bd_some.1 hl
      obtain ⟨h3, h4⟩ := gd_some.1 h2
      obtain ⟨h5, h6⟩ := gd_some.1 h4
      obtain ⟨h7, h8⟩ := gd_some.1 h6
      injection h8 with h8
      subst h8
      have h3 := beq_true.1 h3
      have h5 : o + n ≤ size := ble_true.1 h5
      rw [lenL_eq] at h3
      have hc := hv.cells
      have hcl := hc.length
      have hsz : size ≤ sz := by obtain ⟨_, _, _, _, q, _⟩ := hob; exact q
      obtain ⟨cur, e, h9, h10, h11⟩ := OR_write hob (o := o) hc (by omega) hsz (fun j hj => .inl hj)
      have hst := run_storeCells_at P cb o e u.cells.toList 0 cur w h9 (by rw [← hcl]; omega) (hc.flat (allFlat_all h7))
      simp only [Nat.add_zero] at hst
      refine ⟨_, w.setRow cb (cur.toList.take o ++ u.cells.toList ++ cur.toList.drop (o + u.cells.toList.length)).toArray, rfl, ?_, ?_⟩
      · have hn : u.cells.size = n := by rw [← h3, hcl]; simp
        simp only [storeVar, Sem.run_bind, run_sizeOf h1, Result.andThen_ok, hn]; simpa [hn] using hst
      · exact I.set hb hr (setRow_size ..) (fun k hk => setRow_other w cb k _ hk) rfl rfl rfl (h11 _ (setRow_heap w cb cur _ e _ h9))
end
end Go.Proofs.Ev
/- The operations, second part. -/
set_option linter.unusedVariables false
namespace Go.Proofs.Ev
open Go
section
variable {P : Program} {w0 : Base}

/-! parts of structs and arrays -/
theorem partA_ok {ρ : Rho} {cs : List V} {us : Array Value} {t : TypeId} {o : Nat} {v : V} (h : partA P t cs o = some v) (hc : VRs ρ cs us.toList) (w : World) : ∃ u, (part t us o).run P w = .ok u w ∧ VR ρ v u := by
  obtain ⟨g, h1, h2⟩ := bd_some.1 h
  cases g with
  | false =>
    have h2 : nthL o cs = some v := h2
    rw [nthL_eq] at h2
    obtain ⟨u, h3, h4⟩ := hc.get h2
    have h3 : us[o]? = some u := by simpa using h3
    exact ⟨u, by simp [part, run_isAgg h1, h3], h4⟩
  | true =>
    obtain ⟨n, h3, h4⟩ := bd_some.1 h2
    injection h4 with h4
    subst h4
    refine ⟨.agg (us.extract o (o + n)), by simp [part, run_isAgg h1, run_sizeOf h3], .g _ _ ?_⟩
    rw [takeL_eq, dropL_eq]
    have : (us.extract o (o + n)).toList = (us.toList.drop o).take n := by
      simp [Array.toList_extract, List.extract_eq_take_drop]
    rw [this]
    exact (hc.drop o).take n
theorem fieldA_ok {ρ : Rho} {x v : V} {u : Value} {t : TypeId} {f : Nat} (h : fieldA P t x f = some v) (hx : VR ρ x u) (w : World) : ∃ y, (Instr.field t u f).run P w = .ok y w ∧ VR ρ v y := by
  obtain ⟨cs, rfl, h1⟩ := withG_some h
  cases hx with
  | g _ us hc =>
  cases hu : P.underlying t with
  | none => simp only [und, hu] at h1; cases h1
  | some d =>
    simp only [und, hu] at h1
    cases d <;> first | (cases h1; done) | skip
    rename_i fields
    obtain ⟨fd, h2, h3⟩ := bd_some.1 h1
    have h2 : fields[f]? = some fd := by simpa [fieldAt] using h2
    obtain ⟨y, h4, h5⟩ := partA_ok h3 hc w
    exact ⟨y, by simp [Instr.field, run_underlying hu, h2, asAgg, h4], h5⟩
theorem fieldAddrA_ok {ρ : Rho} {x v : V} {u : Value} {t : TypeId} {f : Nat} (h : fieldAddrA P t x f = some v) (hx : VR ρ x u) (w : World) : ∃ y, (Instr.fieldAt t u f).run P w = .ok y w ∧ VR ρ v y := by
  obtain ⟨b, o, rfl, h1⟩ := withP_some h
  obtain ⟨cb, sz, hr, rfl⟩ := hx.p_inv
  cases hu : P.underlying t with
  | none => simp only [und, hu] at h1; cases h1
  | some d =>
    simp only [und, hu] at h1
    cases d <;> first | (cases h1; done) | skip
    rename_i fields
    obtain ⟨fd, h2, h3⟩ := bd_some.1 h1
    obtain ⟨n, h4, h5⟩ := bd_some.1 h3
    obtain ⟨h6, h7⟩ := gd_some.1 h5
    injection h7 with h7
    subst h7
    have h2 : fields[f]? = some fd := by simpa [fieldAt] using h2
    have h6 := ble_true.1 h6
    have hn : n ≠ 0 := by omega
    refine ⟨.pointer (some ⟨cb, o + fd.offset, none⟩), ?_, .p _ _ _ _ hr⟩
    simp [Instr.fieldAt, run_underlying hu, h2, Instr.sureAddr, fieldPlace, run_sizeOf h4, hn, Addr.add_lit]
theorem indexAddrA_ok {ρ : Rho} {x ix v : V} {u iu : Value} {t : TypeId} (h : indexAddrA P t x ix = some v) (hx : VR ρ x u) (hi : VR ρ ix iu) (w : World) : ∃ y, (Instr.indexAt t u iu).run P w = .ok y w ∧ VR ρ v y := by
  obtain ⟨kk, m, i, rfl, hm, h1⟩ := withN_some h
  have := hi.n_inv hm
  subst this
  cases hu : P.underlying t with
  | none => simp only [und, hu] at h1; cases h1
  | some d =>
    simp only [und, hu] at h1
    cases d <;> first | (cases h1; done) | skip
    · rename_i elem
      cases x <;> first | (cases h1; done) | skip
      rename_i b o z len
      obtain ⟨h2, h3⟩ := gd_some.1 h1
      have h2 : i < len := ble_true.1 h2
      obtain ⟨n, h4, h5⟩ := bd_some.1 h3
      injection h5 with h5
      subst h5
      cases hx with
      | l _ _ _ _ cap o' cb sz hr hc hs ho =>
      have ho : o' = o := by rcases ho with q | q; exact q; omega
      subst ho
      refine ⟨.pointer (some ⟨cb, o' + i * n, none⟩), ?_, .p _ _ _ _ hr⟩
      simp [Instr.indexAt, asIntOf, run_underlying hu, run_sizeOf h4, h2, Addr.add_lit]
    · rename_i len elem
      cases x <;> first | (cases h1; done) | skip
      rename_i b o
      obtain ⟨h2, h3⟩ := gd_some.1 h1
      have h2 : i < len := ble_true.1 h2
      obtain ⟨n, h4, h5⟩ := bd_some.1 h3
      injection h5 with h5
      subst h5
      obtain ⟨cb, sz, hr, rfl⟩ := hx.p_inv
      refine ⟨.pointer (some ⟨cb, o + i * n, none⟩), ?_, .p _ _ _ _ hr⟩
      simp [Instr.indexAt, asIntOf, run_underlying hu, run_sizeOf h4, h2, Addr.add_lit, Instr.sureAddr]
theorem bytes_at {s : ByteArray} {i : Nat} (h : i < s.size) : ∃ b, s[i]? = some b ∧ b.toNat = (encL s.data.toList >>> (8 * (s.size - (i + 1)))) % 256 := by
  obtain ⟨⟨l⟩⟩ := s
  have h : i < l.length := h
  refine ⟨l[i], ?_, ?_⟩
  · exact getElem?_pos (ByteArray.mk ⟨l⟩) i h
  · have e : l = l.take i ++ ([l[i]] ++ l.drop (i + 1)) := by simp
    have := encL_mid (l.take i) [l[i]] (l.drop (i + 1))
    rw [← e] at this
    simp only [List.length_drop, List.length_singleton] at this
    have h1 : encL [l[i]] = l[i].toNat := by simp [encL_eq, encG]
    rw [h1] at this
    exact this.symm
theorem indexA_ok {ρ : Rho} {x ix v : V} {u iu : Value} {t : TypeId} (h : indexA P t x ix = some v) (hx : VR ρ x u) (hi : VR ρ ix iu) (w : World) : ∃ y, (Instr.index t u iu).run P w = .ok y w ∧ VR ρ v y := by
  obtain ⟨kk, m, i, rfl, hm, h1⟩ := withN_some h
  have := hi.n_inv hm
  subst this
  cases x <;> first | (cases h1; done) | skip
  · rename_i l n
    cases hu : P.underlying t with
    | none => simp only [und, hu] at h1; cases h1
    | some d =>
      simp only [und, hu] at h1
      cases d <;> first | (cases h1; done) | skip
      obtain ⟨h2, h3⟩ := gd_some.1 h1
      have h2 : i < l := ble_true.1 h2
      injection h3 with h3
      subst h3
      cases hx with
      | s s _ _ hl hn =>
      subst hl
      obtain ⟨b, h4, h5⟩ := bytes_at h2
      refine ⟨.int .u8 b.toNat, ?_, .i _ _ _ ?_⟩
      · simp [Instr.index, asIntOf, run_underlying hu, h4]
      · subst hn
        show _ = ((off + (encL s.data.toList >>> (8 * (s.size - (i + 1)))) % 256 : Nat) : Int) - _
        rw [← h5]
        simp [off]; omega
  · rename_i cs
    cases hu : P.underlying t with
    | none => simp only [und, hu] at h1; cases h1
    | some d =>
      simp only [und, hu] at h1
      cases d <;> first | (cases h1; done) | skip
      rename_i len elem
      obtain ⟨h2, h3⟩ := gd_some.1 h1
      have h2 : i < len := ble_true.1 h2
      obtain ⟨n, h4, h5⟩ := bd_some.1 h3
      cases hx with
      | g _ us hc =>
      obtain ⟨y, h6, h7⟩ := partA_ok h5 hc w
      exact ⟨y, by simp [Instr.index, asIntOf, run_underlying hu, h2, run_sizeOf h4]; exact h6, h7⟩
end
end Go.Proofs.Ev
/- The operations, third part: texts, numbers, slices, comparisons. -/
set_option linter.unusedVariables false
namespace Go.Proofs.Ev
open Go
section
variable {P : Program} {w0 : Base}

theorem kNo_inj {k k' : IntKind} (h : kNo k = kNo k') : k = k' := by cases k <;> cases k' <;> first | rfl | cases h
theorem mkI_some {k : IntKind} {n : Nat} {v : V} (h : mkI k n = some v) : v = .i k n ∧ kLo k ≤ n ∧ n ≤ kHi k := by
  obtain ⟨h1, h2⟩ := gd_some.1 h
  obtain ⟨h3, h4⟩ := gd_some.1 h2
  injection h4 with h4
  exact ⟨h4.symm, ble_true.1 h1, ble_true.1 h3⟩
theorem wrap_in {k : IntKind} {n : Nat} (h1 : kLo k ≤ n) (h2 : n ≤ kHi k) : k.wrap ((n : Int) - 9223372036854775808) = (n : Int) - 9223372036854775808 := by
  cases k <;> simp only [kLo, kHi] at h1 h2 <;> simp [IntKind.wrap, IntKind.bits, IntKind.signed] <;> omega
theorem run_bin (op : BinOp) (hs : op ≠ .shl) (hs' : op ≠ .shr) (t : TypeId) (k : IntKind) (x y : Int) (w : World) : (binOp op t (.int k x) (.int k y)).run P w =
    (match op with
    | .add | .sub | .mul => Op.intArith op k x y
    | .quo | .rem => Op.intDiv op k x y
    | .and | .or | .xor | .andNot => Op.intBits op k x y
    | _ => Op.intCmp op x y).run P w := by
  cases op <;> first | exact absurd rfl hs | exact absurd rfl hs' | simp [binOp]
theorem intOp_ok {op : BinOp} {k : IntKind} {a b : Nat} {v : V} (h : intOp op k a b = some v) (t : TypeId) (w : World) (ρ : Rho) :
    ∃ u, (binOp op t (.int k ((a : Int) - 9223372036854775808)) (.int k ((b : Int) - 9223372036854775808))).run P w = .ok u w ∧ VR ρ v u := by
  cases op <;> first | (cases h; done) | skip
  case add =>
    obtain ⟨h1, h2⟩ := gd_some.1 h
    obtain ⟨rfl, h3, h4⟩ := mkI_some h2
    have h1 : 9223372036854775808 ≤ a + b := ble_true.1 h1
    have h3 : kLo k ≤ a + b - 9223372036854775808 := h3
    have h4 : a + b - 9223372036854775808 ≤ kHi k := h4
    refine ⟨_, by rw [run_bin _ (by simp) (by simp)]; rfl, .i _ _ _ ?_⟩
    have := wrap_in h3 h4
    have e : ((a : Int) - 9223372036854775808) + ((b : Int) - 9223372036854775808) = ((a + b - 9223372036854775808 : Nat) : Int) - 9223372036854775808 := by omega
    rw [e]; exact this
  case sub =>
    obtain ⟨h1, h2⟩ := gd_some.1 h
    obtain ⟨rfl, h3, h4⟩ := mkI_some h2
    have h1 : b ≤ a + 9223372036854775808 := ble_true.1 h1
    have h3 : kLo k ≤ a + 9223372036854775808 - b := h3
    have h4 : a + 9223372036854775808 - b ≤ kHi k := h4
    refine ⟨_, by rw [run_bin _ (by simp) (by simp)]; rfl, .i _ _ _ ?_⟩
    have := wrap_in h3 h4
    have e : ((a : Int) - 9223372036854775808) - ((b : Int) - 9223372036854775808) = ((a + 9223372036854775808 - b : Nat) : Int) - 9223372036854775808 := by omega
    rw [e]; exact this
  case mul =>
    obtain ⟨h0, h1⟩ := gd_some.1 h
    obtain ⟨h6, h5⟩ := gd_some.1 h1
    obtain ⟨rfl, h3, h4⟩ := mkI_some h5
    have h0 : 9223372036854775808 ≤ a := ble_true.1 h0
    have h7 : 9223372036854775808 ≤ b := ble_true.1 h6
    obtain ⟨a', rfl⟩ := Nat.exists_eq_add_of_le h0
    obtain ⟨b', rfl⟩ := Nat.exists_eq_add_of_le h7
    have ea : Nat.sub (9223372036854775808 + a') off = a' := Nat.add_sub_cancel_left _ _
    have eb : Nat.sub (9223372036854775808 + b') off = b' := Nat.add_sub_cancel_left _ _
    rw [ea, eb] at h3 h4 ⊢
    refine ⟨_, by rw [run_bin _ (by simp) (by simp)]; rfl, .i _ _ _ ?_⟩
    have := wrap_in h3 h4
    have e : (((9223372036854775808 + a' : Nat) : Int) - 9223372036854775808) * (((9223372036854775808 + b' : Nat) : Int) - 9223372036854775808) = ((Nat.add off (Nat.mul a' b') : Nat) : Int) - 9223372036854775808 := by
      have e1 : (((9223372036854775808 + a' : Nat) : Int) - 9223372036854775808) = a' := by omega
      have e2 : (((9223372036854775808 + b' : Nat) : Int) - 9223372036854775808) = b' := by omega
      have e3 : ((Nat.add off (Nat.mul a' b') : Nat) : Int) = 9223372036854775808 + (a' : Int) * b' := by
        show ((9223372036854775808 + a' * b' : Nat) : Int) = _
        rw [Int.natCast_add, Int.natCast_mul]; rfl
      rw [e1, e2, e3]; omega
    rw [e]; exact this
  case quo =>
    obtain ⟨h0, h1⟩ := gd_some.1 h
    obtain ⟨h6, h5⟩ := gd_some.1 h1
    obtain ⟨rfl, h3, h4⟩ := mkI_some h5
    have h0 : 9223372036854775808 ≤ a := ble_true.1 h0
    have h7 : 9223372036854775808 + 1 ≤ b := ble_true.1 h6
    obtain ⟨a', rfl⟩ := Nat.exists_eq_add_of_le h0
    obtain ⟨b', rfl⟩ := Nat.exists_eq_add_of_le (Nat.le_of_succ_le h7)
    have ea : Nat.sub (9223372036854775808 + a') off = a' := Nat.add_sub_cancel_left _ _
    have eb : Nat.sub (9223372036854775808 + b') off = b' := Nat.add_sub_cancel_left _ _
    rw [ea, eb] at h3 h4 ⊢
    have e1 : (((9223372036854775808 + a' : Nat) : Int) - 9223372036854775808) = a' := by omega
    have e2 : (((9223372036854775808 + b' : Nat) : Int) - 9223372036854775808) = b' := by omega
    rw [e1, e2]
    have hb : (b' : Int) ≠ 0 := by omega
    refine ⟨_, by rw [run_bin _ (by simp) (by simp)]; simp only [Op.intDiv]; rw [if_neg hb]; rfl, .i _ _ _ ?_⟩
    have := wrap_in h3 h4
    have e : (a' : Int).tdiv b' = ((Nat.add off (Nat.div a' b') : Nat) : Int) - 9223372036854775808 := by
      have e3 : (a' : Int).tdiv b' = ((a' / b' : Nat) : Int) := rfl
      have e4 : ((Nat.add off (Nat.div a' b') : Nat) : Int) = 9223372036854775808 + ((a' / b' : Nat) : Int) := by
        show ((9223372036854775808 + a' / b' : Nat) : Int) = _
        rw [Int.natCast_add]; rfl
      rw [e3, e4]; omega
    rw [e]; exact this
  case rem =>
    obtain ⟨h0, h1⟩ := gd_some.1 h
    obtain ⟨h6, h5⟩ := gd_some.1 h1
    obtain ⟨rfl, h3, h4⟩ := mkI_some h5
    have h0 : 9223372036854775808 ≤ a := ble_true.1 h0
    have h7 : 9223372036854775808 + 1 ≤ b := ble_true.1 h6
    obtain ⟨a', rfl⟩ := Nat.exists_eq_add_of_le h0
    obtain ⟨b', rfl⟩ := Nat.exists_eq_add_of_le (Nat.le_of_succ_le h7)
    have ea : Nat.sub (9223372036854775808 + a') off = a' := Nat.add_sub_cancel_left _ _
    have eb : Nat.sub (9223372036854775808 + b') off = b' := Nat.add_sub_cancel_left _ _
    rw [ea, eb]
    have e1 : (((9223372036854775808 + a' : Nat) : Int) - 9223372036854775808) = a' := by omega
    have e2 : (((9223372036854775808 + b' : Nat) : Int) - 9223372036854775808) = b' := by omega
    rw [e1, e2]
    have hb : (b' : Int) ≠ 0 := by omega
    refine ⟨_, by rw [run_bin _ (by simp) (by simp)]; simp only [Op.intDiv]; rw [if_neg hb]; rfl, .i _ _ _ ?_⟩
    have e3 : (a' : Int).tmod b' = ((a' % b' : Nat) : Int) := rfl
    have e4 : ((Nat.add off (Nat.mod a' b') : Nat) : Int) = 9223372036854775808 + ((a' % b' : Nat) : Int) := by
      show ((9223372036854775808 + a' % b' : Nat) : Int) = _
      rw [Int.natCast_add]; rfl
    rw [e3, e4]; omega
  case eql =>
    injection h with h; subst h
    refine ⟨_, by rw [run_bin _ (by simp) (by simp)]; rfl, ?_⟩
    have e : (((a : Int) - 9223372036854775808) == ((b : Int) - 9223372036854775808)) = Nat.beq a b := by
      rw [beqD]; by_cases q : a = b
      · subst q; simp
      · simp [q]; omega
    rw [e]; exact .b _
  case neq =>
    injection h with h; subst h
    refine ⟨_, by rw [run_bin _ (by simp) (by simp)]; rfl, ?_⟩
    have e : (((a : Int) - 9223372036854775808) != ((b : Int) - 9223372036854775808)) = Bool.not (Nat.beq a b) := by
      rw [beqD]; by_cases q : a = b
      · subst q; simp
      · simp [q]; omega
    rw [e]; exact .b _
  case lss =>
    injection h with h; subst h
    refine ⟨_, by rw [run_bin _ (by simp) (by simp)]; rfl, ?_⟩
    have e : decide (((a : Int) - 9223372036854775808) < ((b : Int) - 9223372036854775808)) = Nat.ble (Nat.succ a) b := by
      rw [bleD]; congr 1; simp only [eq_iff_iff]; omega
    rw [e]; exact .b _
  case leq =>
    injection h with h; subst h
    refine ⟨_, by rw [run_bin _ (by simp) (by simp)]; rfl, ?_⟩
    have e : decide (((a : Int) - 9223372036854775808) ≤ ((b : Int) - 9223372036854775808)) = Nat.ble a b := by
      rw [bleD]; congr 1; simp only [eq_iff_iff]; omega
    rw [e]; exact .b _
  case gtr =>
    injection h with h; subst h
    refine ⟨_, by rw [run_bin _ (by simp) (by simp)]; rfl, ?_⟩
    have e : decide (((a : Int) - 9223372036854775808) > ((b : Int) - 9223372036854775808)) = Nat.ble (Nat.succ b) a := by
      rw [bleD]; congr 1; simp only [eq_iff_iff]; omega
    rw [e]; exact .b _
  case geq =>
    injection h with h; subst h
    refine ⟨_, by rw [run_bin _ (by simp) (by simp)]; rfl, ?_⟩
    have e : decide (((a : Int) - 9223372036854775808) ≥ ((b : Int) - 9223372036854775808)) = Nat.ble b a := by
      rw [bleD]; congr 1; simp only [eq_iff_iff]; omega
    rw [e]; exact .b _

/-! texts -/
theorem bytes_list (s : ByteArray) : s.toList = s.data.toList := ByteArray.toList_eq s
theorem str_eq {a b : ByteArray} : (a.toList == b.toList) = strEq a.size (encL a.data.toList) b.size (encL b.data.toList) := by
  unfold strEq
  rw [beqD a.size, brec]
  split
  · rename_i hl
    rw [beqD]
    by_cases he : encL a.data.toList = encL b.data.toList
    · have : a.data.toList = b.data.toList := encL_inj _ _ (by simpa using hl) he
      simp [bytes_list, this]
    · simp only [he, decide_false]
      rw [Bool.eq_false_iff]
      intro q
      have q : a.toList = b.toList := by simpa using q
      rw [bytes_list, bytes_list] at q
      exact he (by rw [q])
  · rename_i hl
    rw [Bool.eq_false_iff]
    intro q
    have q : a.toList = b.toList := by simpa using q
    rw [bytes_list, bytes_list] at q
    have := congrArg List.length q
    exact hl (by simpa using this)
theorem strOp_ok {op : BinOp} {a b : ByteArray} {v : V} (h : strOp op a.size (encL a.data.toList) b.size (encL b.data.toList) = some v) (t : TypeId) (w : World) (ρ : Rho) :
    ∃ u, (binOp op t (.string a) (.string b)).run P w = .ok u w ∧ VR ρ v u := by
  cases op <;> first | (cases h; done) | skip
  case add =>
    obtain ⟨h1, h2⟩ := gd_some.1 h
    injection h2 with h2; subst h2
    have h1 : a.size + b.size ≤ 1000000 := ble_true.1 h1
    refine ⟨.string (a ++ b), ?_, .s _ _ _ ?_ ?_⟩
    · have : ¬ (((a.size + b.size : Nat) : Int) > IntKind.i64.max) := by
        have : IntKind.i64.max = 9223372036854775807 := rfl
        omega
      simp only [binOp, Op.stringOp]
      rw [if_neg this]
      rfl
    · show a.size + b.size = _
      simp
    · show (encL a.data.toList <<< (8 * b.size)) + encL b.data.toList = _
      rw [Nat.shiftLeft_eq, pow256]
      have : (a ++ b).data.toList = a.data.toList ++ b.data.toList := by simp
      rw [this, encL_append]
      simp
  case eql =>
    injection h with h; subst h
    exact ⟨_, rfl, by rw [str_eq]; exact .b _⟩
  case neq =>
    injection h with h; subst h
    exact ⟨_, rfl, by rw [str_eq]; exact .b _⟩

/-! slices -/
theorem run_bound {v : V} {u : Value} {ρ : Rho} (hv : VR ρ v u) {k : Nat → R V} {r : V} (h : withN v k = some r) : ∃ (n : Nat) (kk : IntKind), u = .int kk (n : Int) ∧ k n = some r := by
  obtain ⟨kk, m, n, rfl, hm, h1⟩ := withN_some h
  exact ⟨n, kk, hv.n_inv hm, h1⟩
/-- an operand that may be left out -/
def OpR (ρ : Rho) : Option V → Option Value → Prop
  | none, none => True
  | some v, some u => VR ρ v u
  | _, _ => False
theorem bound_ok {ρ : Rho} {d : Nat} {k : Nat → R V} {o : Option V} {ou : Option Value} {r : V} (ho : OpR ρ o ou) (h : boundA d k o = some r) :
    ∃ n : Nat, k n = some r ∧ ((ou = none ∧ n = d) ∨ ∃ kk, ou = some (.int kk (n : Int))) := by
  cases o with
  | none =>
    cases ou with
    | none => exact ⟨d, h, .inl ⟨rfl, rfl⟩⟩
    | some u => exact ho.elim
  | some v =>
    cases ou with
    | none => exact ho.elim
    | some u =>
      obtain ⟨n, kk, rfl, h1⟩ := run_bound ho h
      exact ⟨n, h1, .inr ⟨kk, rfl⟩⟩
theorem bounds_ok {lo hi : Option Value} {l h len cap : Nat} {isSlice : Bool} (hl : (lo = none ∧ l = 0) ∨ ∃ kk, lo = some (.int kk (l : Int))) (hh : (hi = none ∧ h = len) ∨ ∃ kk, hi = some (.int kk (h : Int)))
    (h1 : l ≤ h) (h2 : h ≤ len) (h3 : len ≤ cap) (w : World) : (Instr.sliceBounds isSlice len cap lo hi none).run P w = .ok (l, h, cap) w := by
  have a1 : (l : Int) ≤ (h : Int) := by omega
  have a2 : (h : Int) ≤ (cap : Int) := by omega
  have a3 : (h : Int) ≤ (len : Int) := by omega
  have a4 : ¬ cap < h := by omega
  have a5 : h ≤ cap := by omega
  rcases hl with ⟨rfl, rfl⟩ | ⟨kl, rfl⟩ <;> rcases hh with ⟨rfl, rfl⟩ | ⟨kh, rfl⟩ <;> simp [Instr.sliceBounds, Instr.sliceBound, asIntOf, *]
theorem extract_enc {s : ByteArray} {l h : Nat} (h1 : l ≤ h) (h2 : h ≤ s.size) : (s.extract l h).size = h - l ∧ encL (s.extract l h).data.toList = (encL s.data.toList >>> (8 * (s.size - h))) % 2 ^ (8 * (h - l)) := by
  have hs : s.size = s.data.toList.length := by simp
  have e : (s.extract l h).data.toList = (s.data.toList.drop l).take (h - l) := by
    simp [ByteArray.data_extract, Array.toList_extract, List.extract_eq_take_drop]
  constructor
  · simp [ByteArray.size_extract]; omega
  · rw [e]
    have e2 : s.data.toList = s.data.toList.take l ++ ((s.data.toList.drop l).take (h - l) ++ s.data.toList.drop h) := by
      have : s.data.toList.drop h = (s.data.toList.drop l).drop (h - l) := by rw [List.drop_drop]; congr 1; omega
      rw [this, List.take_append_drop, List.take_append_drop]
    have := encL_mid (s.data.toList.take l) ((s.data.toList.drop l).take (h - l)) (s.data.toList.drop h)
    rw [← e2] at this
    have l1 : (s.data.toList.drop h).length = s.size - h := by rw [List.length_drop, ← hs]
    have l2 : ((s.data.toList.drop l).take (h - l)).length = h - l := by rw [List.length_take, List.length_drop, ← hs]; omega
    rw [l1, l2] at this
    exact this.symm
theorem sliceA_ok {ρ : Rho} {x v : V} {u : Value} {t : TypeId} {lo hi : Option V} {lo' hi' : Option Value} (h : sliceA P t x lo hi = some v) (hx : VR ρ x u) (hlo : OpR ρ lo lo') (hhi : OpR ρ hi hi') (w : World) :
    ∃ y, (Instr.sliceAt t u lo' hi' none).run P w = .ok y w ∧ VR ρ v y := by
  cases x <;> first | (cases h; done) | skip
  · rename_i l n
    cases hu : P.underlying t with
    | none => simp only [sliceA, und, hu] at h; cases h
    | some d =>
      simp only [sliceA, und, hu] at h
      cases d <;> first | (cases h; done) | skip
      obtain ⟨b, h1, hb⟩ := bound_ok hhi h
      obtain ⟨h2, h3⟩ := gd_some.1 h1
      obtain ⟨a, h4, ha⟩ := bound_ok hlo h3
      obtain ⟨h5, h6⟩ := gd_some.1 h4
      injection h6 with h6; subst h6
      have h2 : b ≤ l := ble_true.1 h2
      have h5 : a ≤ b := ble_true.1 h5
      cases hx with
      | s s _ _ hl hn =>
      subst hl
      have hbd := bounds_ok (P := P) (isSlice := false) ha hb h5 h2 (Nat.le_refl _) w
      obtain ⟨q1, q2⟩ := extract_enc h5 h2
      refine ⟨.string (s.extract a b), ?_, .s _ _ _ q1.symm ?_⟩
      · simp [Instr.sliceAt, Instr.slice, run_underlying hu, hbd]
      · subst hn; exact q2.symm
  · cases hu : P.underlying t with
    | none => simp only [sliceA, und, hu] at h; cases h
    | some d =>
      simp only [sliceA, und, hu] at h
      cases d <;> first | (cases h; done) | skip
      obtain ⟨n, h0, h⟩ := bd_some.1 h
      obtain ⟨b, h1, hb⟩ := bound_ok hhi h
      obtain ⟨h2, h3⟩ := gd_some.1 h1
      obtain ⟨a, h4, ha⟩ := bound_ok hlo h3
      obtain ⟨h5, h6⟩ := gd_some.1 h4
      injection h6 with h6; subst h6
      have h2 : b = 0 := beq_true.1 h2
      have h5 : a = 0 := beq_true.1 h5
      subst h2; subst h5
      cases hx
      have hbd := bounds_ok (P := P) (isSlice := true) ha hb (Nat.le_refl _) (Nat.le_refl _) (Nat.le_refl _) w
      exact ⟨.slice none 0 0, by simp [Instr.sliceAt, Instr.slice, run_underlying hu, hbd, run_sizeOf h0], .l0⟩
  · rename_i b₀ o z len
    cases hu : P.underlying t with
    | none => simp only [sliceA, und, hu] at h; cases h
    | some d =>
      simp only [sliceA, und, hu] at h
      cases d <;> first | (cases h; done) | skip
      obtain ⟨n, h0, h⟩ := bd_some.1 h
      obtain ⟨h9, h⟩ := gd_some.1 h
      have h9 : n = z := beq_true.1 h9
      subst h9
      obtain ⟨b, h1, hb⟩ := bound_ok hhi h
      obtain ⟨h2, h3⟩ := gd_some.1 h1
      obtain ⟨a, h4, ha⟩ := bound_ok hlo h3
      obtain ⟨h5, h6⟩ := gd_some.1 h4
      injection h6 with h6; subst h6
      have h2 : b ≤ len := ble_true.1 h2
      have h5 : a ≤ b := ble_true.1 h5
      cases hx with
      | l _ _ _ _ cap o' cb sz hr hc hs ho =>
      have hbd := bounds_ok (P := P) (isSlice := true) ha hb h5 h2 hc w
      by_cases hm : cap = a
      · subst hm
        refine ⟨.slice (some ⟨cb, o', none⟩) (b - cap) (cap - cap), ?_, .l _ _ _ _ _ _ _ _ hr (by show b - cap ≤ _; omega) ?_ (.inr (by omega))⟩
        · simp [Instr.sliceAt, Instr.slice, run_underlying hu, hbd, run_sizeOf h0]
        · have : (cap - cap) * n = 0 := by simp
          have := Nat.zero_le (cap * n)
          omega
      · refine ⟨.slice (some ⟨cb, o' + a * n, none⟩) (b - a) (cap - a), ?_, .l _ _ _ _ _ _ _ _ hr (by show b - a ≤ _; omega) ?_ ?_⟩
        · simp [Instr.sliceAt, Instr.slice, run_underlying hu, hbd, run_sizeOf h0, hm, Addr.add_lit]
        · have : a * n + (cap - a) * n = cap * n := by rw [← Nat.add_mul]; congr 1; omega
          omega
        · rcases ho with q | q
          · exact .inl (by subst q; rfl)
          · omega
end
end Go.Proofs.Ev
/- The operations, fourth part: comparisons, maps, interfaces, builtins. -/
set_option linter.unusedVariables false
namespace Go.Proofs.Ev
open Go
section
variable {P : Program} {w0 : Base}

theorem undGet {t : TypeId} {d : TypeDesc} (h : und P t = some d) : P.underlying t = some d := h
theorem equal_at (t : TypeId) (a b : Value) : ∃ d, Op.equal t a b = Op.equalIn (d + 1) t a b := ⟨9999, rfl⟩
theorem eqV_ok {ρ : Rho} {t : TypeId} {c : Bool} {x y : V} {a b : Value} {r : Bool} (h : eqV P t c x y = some r) (hx : VR ρ x a) (hy : VR ρ y b) (w : World) :
    (Op.equal t a b).run P w = .ok r w ∧ (a = .nilIface → b = .nilIface → c = true) ∧ (∀ cs, a ≠ .agg cs) ∧ (∀ k n, a ≠ .int k n) ∧ (∀ s, a ≠ .string s) ∧ (∀ k n, a ≠ .float k n) ∧ (∀ k m n, a ≠ .complex k m n) := by
  unfold eqV at h
  cases hu : P.underlying t with
  | none => simp only [und, hu] at h; cases h
  | some d =>
    simp only [und, hu] at h
    have hr := run_underlying hu w
    cases d <;> cases x <;> first | (cases h; done) | skip
    all_goals (cases y <;> first | (cases h; done) | skip)
    all_goals (cases hx; cases hy)
    all_goals (dsimp only at h)
    all_goals (first | (rw [gd_some] at h; obtain ⟨h1, h⟩ := h) | skip)
    all_goals (injection h with h; subst h)
    all_goals refine ⟨?_, ?_, ?_, ?_, ?_, ?_, ?_⟩
    all_goals first
      | (intro q; cases q; done)
      | (intro q q'; cases q'; done)
      | (intro k n q; cases q; done)
      | (intro k m n q; cases q; done)
      | (intro _ _; exact h1)
      | (obtain ⟨n, hn⟩ := equal_at t _ _; rw [hn]; simp only [Op.equalIn, Sem.run_bind, hr, Result.andThen_ok]; first | rfl | (rename_i p q; cases p <;> cases q <;> rfl))
      | skip
theorem guard_ok (op : BinOp) (t : TypeId) (x y : Operand) (a b : Value) (w : World) (h1 : a = .nilIface → b = .nilIface → Bool.or (isConst x) (isConst y) = true) (h2 : ∀ cs, a ≠ .agg cs) :
    (eqGuard op t x y a b).run P w = .ok () w := by
  unfold eqGuard
  cases op <;> first | rfl | skip
  all_goals
    cases a <;> first | rfl | skip
    · cases b <;> first | rfl | skip
      have := h1 rfl rfl
      cases x <;> cases y <;> first | rfl | (simp [isConst] at this)
    · exact absurd rfl (h2 _)
theorem binA_ok {ρ : Rho} {op : BinOp} {t : TypeId} {x y : Operand} {vx vy v : V} {a b : Value} (h : binA P op t (Bool.or (isConst x) (isConst y)) vx vy = some v) (hx : VR ρ vx a) (hy : VR ρ vy b) (w : World) :
    ∃ u, (do eqGuard op t x y a b; binOp op t a b : Sem Value).run P w = .ok u w ∧ VR ρ v u := by
  have key : (∃ k m k' n, vx = .i k m ∧ vy = .i k' n) ∨ (∃ l m l' n, vx = .s l m ∧ vy = .s l' n) ∨ binV P op t (Bool.or (isConst x) (isConst y)) vx vy = some v := by
    cases vx <;> first | exact .inr (.inr h) | skip
    · cases vy <;> first | (cases h; done) | exact .inl ⟨_, _, _, _, rfl, rfl⟩
    · cases vy <;> first | (cases h; done) | exact .inr (.inl ⟨_, _, _, _, rfl, rfl⟩)
  rcases key with ⟨k, m, k', n, rfl, rfl⟩ | ⟨l, m, l', n, rfl, rfl⟩ | h
  · obtain ⟨h1, h2⟩ := gd_some.1 h
    have hk := kNo_inj (beq_true.1 h1)
    subst hk
    rw [hx.i_inv, hy.i_inv]
    obtain ⟨u, h3, h4⟩ := intOp_ok h2 t w ρ
    refine ⟨u, ?_, h4⟩
    rw [Sem.run_bind, guard_ok op t x y _ _ w (fun q => by cases q) (fun _ q => by cases q)]
    exact h3
  · cases hx with
    | s s _ _ hl hn =>
    cases hy with
    | s s' _ _ hl' hn' =>
    subst hl; subst hn; subst hl'; subst hn'
    obtain ⟨u, h3, h4⟩ := strOp_ok (P := P) h t w ρ
    refine ⟨u, ?_, h4⟩
    rw [Sem.run_bind, guard_ok op t x y _ _ w (fun q => by cases q) (fun _ q => by cases q)]
    exact h3
  · cases op <;> first | (cases h; done) | skip
    · obtain ⟨r, h1, h2⟩ := bd_some.1 h
      injection h2 with h2; subst h2
      obtain ⟨h3, h4, h5, h6, h7, h8, h9⟩ := eqV_ok h1 hx hy w
      refine ⟨.bool r, ?_, .b r⟩
      rw [Sem.run_bind, guard_ok _ t x y _ _ w h4 h5]
      have : binOp .eql t a b = (do pure (.bool (← Op.equal t a b)) : Sem Value) := by
        cases a <;> first | rfl | exact absurd rfl (h6 _ _) | exact absurd rfl (h7 _) | exact absurd rfl (h8 _ _) | exact absurd rfl (h9 _ _ _)
      simp [this, h3]
    · obtain ⟨r, h1, h2⟩ := bd_some.1 h
      injection h2 with h2; subst h2
      obtain ⟨h3, h4, h5, h6, h7, h8, h9⟩ := eqV_ok h1 hx hy w
      refine ⟨.bool (!r), ?_, .b _⟩
      rw [Sem.run_bind, guard_ok _ t x y _ _ w h4 h5]
      have : binOp .neq t a b = (do pure (.bool (!(← Op.equal t a b))) : Sem Value) := by
        cases a <;> first | rfl | exact absurd rfl (h6 _ _) | exact absurd rfl (h7 _) | exact absurd rfl (h8 _ _) | exact absurd rfl (h9 _ _ _)
      simp [this, h3]
theorem unA_ok {ρ : Rho} {op : UnOp} {x v : V} {a : Value} (h : unA op x = some v) (hx : VR ρ x a) (w : World) : ∃ u, (Op.unary op a).run P w = .ok u w ∧ VR ρ v u := by
  cases op <;> cases x <;> first | (cases h; done) | skip
  · rename_i k n
    obtain ⟨h1, h2⟩ := gd_some.1 h
    obtain ⟨rfl, h3, h4⟩ := mkI_some h2
    have h1 : n ≤ 9223372036854775808 + 9223372036854775808 := ble_true.1 h1
    rw [hx.i_inv]
    refine ⟨_, rfl, .i _ _ _ ?_⟩
    have := wrap_in h3 h4
    have e : 0 - ((n : Int) - 9223372036854775808) = ((Nat.sub (Nat.add off off) n : Nat) : Int) - 9223372036854775808 := by
      show _ = ((9223372036854775808 + 9223372036854775808 - n : Nat) : Int) - 9223372036854775808
      omega
    rw [e]; exact this
  · cases hx
    injection h with h; subst h
    exact ⟨_, rfl, .b _⟩
theorem convA_ok {ρ : Rho} {src dst : TypeId} {x v : V} {a : Value} (h : convA P src dst x = some v) (hs : (P.underlying src).isSome = true) (hx : VR ρ x a) (w : World) : ∃ u, (convert src dst a).run P w = .ok u w ∧ VR ρ v u := by
  unfold convA at h
  obtain ⟨d0, hs⟩ := Option.isSome_iff_exists.1 hs
  cases hu : P.underlying dst with
  | none => simp only [und, hu] at h; cases h
  | some d =>
    simp only [und, hu] at h
    cases d <;> first | (cases h; done) | skip
    · cases x <;> first | (cases h; done) | skip
      rename_i k k' n
      obtain ⟨rfl, h3, h4⟩ := mkI_some h
      rw [hx.i_inv]
      refine ⟨.int k (k.wrap ((n : Int) - 9223372036854775808)), ?_, .i _ _ _ (wrap_in h3 h4)⟩
      simp [convert, run_underlying hs, run_underlying hu, Conv.intToInt]
    · cases x <;> first | (cases h; done) | skip
      injection h with h; subst h
      cases hx with
      | s s l n hl hn =>
      refine ⟨.string s, ?_, .s s _ _ hl hn⟩
      simp [convert, run_underlying hs, run_underlying hu]
theorem nilA_ok {ρ : Rho} {x v : V} {a : Value} (h : nilA x = some v) (hx : VR ρ x a) : v = x ∧ (∃ ad, a = .pointer (some ad)) ∨ v = x ∧ (∃ t u, a = .iface t u) ∨ v = x ∧ ∃ g xs ys, a = .func (.func g) xs ys := by
  cases x <;> first | (simp only [nilA, reduceCtorEq] at h; done) | skip
  · injection h with h; subst h; cases hx; exact .inl ⟨rfl, _, rfl⟩
  · rename_i fn _ _
    cases fn <;> first | (simp only [nilA, reduceCtorEq] at h; done) | skip
    injection h with h; subst h; cases hx; exact .inr (.inr ⟨rfl, _, _, _, rfl⟩)
  · injection h with h; subst h; cases hx; exact .inr (.inl ⟨rfl, _, _, rfl⟩)
theorem ifaceA_ok {ρ : Rho} {t : TypeId} {x v : V} {a : Value} (h : ifaceA P t x = some v) (hx : VR ρ x a) (w : World) : ∃ u, (Instr.makeInterface t a).run P w = .ok u w ∧ VR ρ v u := by
  unfold ifaceA at h
  cases hu : P.underlying t with
  | none => simp only [und, hu] at h; cases h
  | some d =>
    simp only [und, hu] at h
    cases d <;> first | (cases h; done) | skip
    all_goals (injection h with h; subst h; exact ⟨.iface t a, by simp [Instr.makeInterface, run_underlying hu], .x _ _ _ hx⟩)
theorem extractA_ok {ρ : Rho} {x v : V} {a : Value} {i : Nat} (h : extractA x i = some v) (hx : VR ρ x a) (w : World) : ∃ u, (Instr.extract a i).run P w = .ok u w ∧ VR ρ v u := by
  cases x <;> first | (cases h; done) | skip
  rename_i vs
  cases hx with
  | t _ us hc =>
  have h : nthL i vs = some v := h
  rw [nthL_eq] at h
  obtain ⟨u, h1, h2⟩ := hc.get h
  have h1 : us[i]? = some u := by simpa using h1
  exact ⟨u, by simp [Instr.extract, h1], h2⟩
theorem assertA_ok {ρ : Rho} {xt t : TypeId} {x v : V} {a : Value} {ok : Bool} (h : assertA P t x ok = some v) (hx : VR ρ x a) (w : World) : ∃ u, (Instr.typeAssert a xt t ok).run P w = .ok u w ∧ VR ρ v u := by
  unfold assertA at h
  cases hu : P.underlying t with
  | none => simp only [und, hu] at h; cases h
  | some d =>
    have hnot : ∀ ms, d ≠ .interface ms := fun ms q => by subst q; simp only [und, hu] at h; cases h
    have h : assertX (zeroV P t) t x ok = some v := by
      simp only [und, hu] at h
      cases d <;> first | exact absurd rfl (hnot _) | exact h
    have fail : ∀ z, zeroV P t = some z → ∃ u, (zeroValue t).run P w = .ok u w ∧ VR ρ (.t [z, .b false]) (.tuple #[u, .bool false]) := fun z hz => by
      obtain ⟨u, h1, h2, _⟩ := run_zeroValue hz w ρ
      exact ⟨u, h1, .t _ _ (.cons _ _ _ _ h2 (.cons _ _ _ _ (.b _) .nil))⟩
    cases x <;> first | (cases h; done) | skip
    · cases hx
      cases ok <;> first | (cases h; done) | skip
      obtain ⟨z, h1, h2⟩ := bd_some.1 h
      injection h2 with h2; subst h2
      obtain ⟨u, h3, h4⟩ := fail z h1
      refine ⟨_, ?_, h4⟩
      simp only [Instr.typeAssert, Sem.run_bind, run_underlying hu, Result.andThen_ok]
      cases d <;> first | exact absurd rfl (hnot _) | simp [h3]
    · rename_i u₀ v₀ _
      cases hx with
      | x _ _ b hb =>
      have h5 : (Bool.rec (Bool.rec none (bd (zeroV P t) fun z => some (.t [z, .b false])) ok) (some (Bool.rec v₀ (.t [v₀, .b true]) ok)) (Nat.beq t u₀) : R V) = some v := h
      rw [beqD, brec] at h5
      split at h5
      · rename_i e; subst e
        injection h5 with h5; subst h5
        cases ok
        · refine ⟨b, ?_, hb⟩
          simp only [Instr.typeAssert, Sem.run_bind, run_underlying hu, Result.andThen_ok]
          cases d <;> first | exact absurd rfl (hnot _) | simp
        · refine ⟨.tuple #[b, .bool true], ?_, .t _ _ (.cons _ _ _ _ hb (.cons _ _ _ _ (.b _) .nil))⟩
          simp only [Instr.typeAssert, Sem.run_bind, run_underlying hu, Result.andThen_ok]
          cases d <;> first | exact absurd rfl (hnot _) | simp
      · rename_i e
        cases ok <;> first | (cases h5; done) | skip
        obtain ⟨z, h1, h2⟩ := bd_some.1 h5
        injection h2 with h2; subst h2
        obtain ⟨u, h3, h4⟩ := fail z h1
        have e' : u₀ ≠ t := fun q => e q.symm
        refine ⟨_, ?_, h4⟩
        simp only [Instr.typeAssert, Sem.run_bind, run_underlying hu, Result.andThen_ok]
        cases d <;> first | exact absurd rfl (hnot _) | simp [h3, e']
end
end Go.Proofs.Ev
