/- slices.SortFunc on a row of one's own: the same elements, sorted. -/
import Derived.Test.YtmhjbicbdahllaaGreatDoorG0
import Derived.Shelf.SlSortCmp.NoneTotal
namespace Go.Proofs.YtmhjbicbdahllaaGreatDoor
open Go Go.RowKit Go.Shelf Go.Lib Go.Sort Go.Proofs

theorem sorted_turn {I : Type} [Inhabited I] {enc : I → List Value} {k : Nat} {w : World} {g n : Nat} {d : Array I} {os : Array Obj} : Turn (fun b => b = g) w (sortWorldK enc k w g 0 n d os) := by
  refine ⟨rfl, rfl, rfl, by unfold sortWorldK; rw [size_grow, size_putRowK]; show w.heap.size ≤ w.heap.size + _; omega, fun i hi hne => ?_⟩
  unfold sortWorldK
  rw [heap_grow_old _ _ (by rw [size_putRowK]; exact hi)]
  unfold putRowK
  have : g ≠ i := fun e => hne e.symm
  simp [putRow, mapBlock, Sort.ahead, Array.getElem?_modify, this]

section
variable {P : Program} {ρ : Ren} {α I : Type} [Inhabited I] {R : Lies α} {w : World} {F : Nat → Prop} {l : List α} {s : Value} {sz : Nat}
set_option maxRecDepth 100000 in
/-- What 'slices.SortFunc' makes of a row of one's own. -/
theorem sort_own (L : SlLaysF0.n6 P ρ) (hR : R.Good) (hsz : 0 < sz) (aE : ∀ w, (isAgg (ρ.t 24)).run P w = .ok true w) (zE : ∀ w, (Go.sizeOf (ρ.t 24)).run P w = .ok sz w) (enc : I → List Value) (val : I → α)
    (hk : ∀ x, (enc x).length = sz) (h1 : ∀ x, ∀ v ∈ enc x, v.oneCell' = true) (hit : ∀ {w : World} {F : Nat → Prop} {x : α} {c : Array Value}, R w F x c → ∃ it, enc it = c.toList ∧ val it = x)
    (cv : α → α → Int) (hO : SWO (ltOf fun x y : I => cv (val x) (val y))) (g : Nat) (eg : ∀ args w, (callFunc g args).run P w = .ok (.enter g args) w)
    (hcl : ∀ (x y : I) (W : World), Calls P g #[.agg (enc x).toArray, .agg (enc y).toArray] W fun e w' => e = .returned (.int .i64 (cv (val x) (val y))) ∧ ∃ q os', w' = grow (W.drewN q) os')
    (h : SOwn (ρ.t 24) sz R w F l s) (hlen : l.length ≤ 100000000) (hF : ∀ b, F b → b < w.heap.size) :
    Calls P (ρ.f 6) #[s, .func (.func g) #[] #[]] w fun e w' => e = .returned (.tuple #[]) ∧ ∃ l' : List α, l'.Perm l ∧ l'.Pairwise (fun a b => ¬ cv b a < 0) ∧ SlR sz R w' F l' s ∧ Turn (fun b => s.ownBlock = some b) w w' := by
  obtain ⟨cs, hrow, h6, hFw, hr⟩ := h
  rcases hrow.2 with ⟨hs, h0⟩ | ⟨b, cap, cur, hs, _, hb, hcap, hcur, hcc, htake⟩
  · subst hs
    have hl0 : l = [] := List.eq_nil_of_length_eq_zero h0
    subst hl0
    refine (AnyF.slices_SortFunc_none L none 0 _ w).mono fun e w' ⟨he, hw⟩ => ⟨he, [], List.Perm.refl _, List.Pairwise.nil, ?_, ?_⟩
    · rw [hw]; exact SlR.nil ..
    · rw [hw]; exact Turn.refl _ _
  · subst hs
    have hblt := blk_lt hb
    have hex : ∀ i, ∃ it : I, ∀ x, l[i]? = some x → enc it = (cs i).toList ∧ val it = x := fun i => by
      cases hx : l[i]? with
      | none => exact ⟨default, fun x h => by cases h⟩
      | some x =>
        obtain ⟨it, e1, e2⟩ := hit (hr i x hx)
        exact ⟨it, fun y hy => by injection hy with hy; subst hy; exact ⟨e1, e2⟩⟩
    obtain ⟨it, hi⟩ : ∃ it : Nat → I, ∀ i x, l[i]? = some x → enc (it i) = (cs i).toList ∧ val (it i) = x := ⟨fun i => (hex i).choose, fun i => (hex i).choose_spec⟩
    clear hex
    obtain ⟨d, hd⟩ : ∃ d : Array I, d = ((List.range l.length).map it).toArray := ⟨_, rfl⟩
    have hds : d.size = l.length := by rw [hd]; simp
    have hda : ∀ i, i < l.length → d[i]! = it i := fun i hi => by rw [getElem!_pos _ i (by rw [hds]; exact hi)]; simp [hd]
    have hH : HoldsK enc sz w b 0 d := by
      intro j hj
      rw [size_flatK, hds] at hj
      have hi1 : j / sz < l.length := Nat.div_lt_of_lt_mul (by rw [Nat.mul_comm]; exact hj)
      have hr1 : j % sz < sz := Nat.mod_lt _ hsz
      have he : j / sz * sz + j % sz = j := by rw [Nat.mul_comm]; exact Nat.div_add_mod j sz
      refine ⟨?_, by simp [World.frozen?, hb]⟩
      rw [get_flatK _ _ _ _ (by rw [hds]; exact hj), hda _ hi1, (hi _ _ (List.getElem?_eq_getElem hi1)).1]
      have h2 := hrow.cellAt j hj
      have h3 := flatC_at h6 hi1 hr1
      rw [he] at h3
      rw [h3] at h2
      rw [show (0 + j) = j by omega, h2]
      rw [getElem!_pos (cs (j / sz)).toList (j % sz) (by rw [Array.length_toList, h6 _ hi1]; exact hr1)]
      simp [h6 _ hi1, hr1]
    have hlen2 : d.size < 4611686018427387904 := by rw [hds]; omega
    have hcon := AnyQ.slices_SortFunc L sz aE zE enc hk h1 (fun x y => cv (val x) (val y)) hO g #[] b 0 cap d w eg (fun m os dk _ x y => by simpa using hcl x y _) hH hblt hlen2
    rw [hds] at hcon
    refine hcon.mono fun e w' ⟨he, d', n, os, hp, hsd, hw⟩ => ⟨he, d'.toList.map val, ?_, ?_, ?_, ?_⟩
    · have hp2 := hp.2.2
      have e1 : (d'.extract 0 l.length).toList = d'.toList := by rw [show l.length = d'.size by rw [hp.1, hds]]; simp
      have e2 : (d.extract 0 l.length).toList = d.toList := by rw [show l.length = d.size by rw [hds]]; simp
      rw [e1, e2] at hp2
      refine (hp2.map val).trans (List.Perm.of_eq ?_)
      rw [hd]
      apply List.ext_getElem?
      intro i
      simp only [List.map_map, List.getElem?_map]
      rcases Nat.lt_or_ge i l.length with h | h
      · rw [List.getElem?_range h, List.getElem?_eq_getElem h]
        simp [(hi i _ (List.getElem?_eq_getElem h)).2]
      · rw [List.getElem?_eq_none (by simpa using h), List.getElem?_eq_none h]; rfl
    · rw [List.pairwise_iff_getElem]
      intro i j hi1 hj1 hij
      simp only [List.length_map, Array.length_toList] at hi1 hj1
      have h2 := hsd i j (Nat.zero_le _) hij (by rw [← hds, ← hp.1]; exact hj1)
      rw [getElem!_pos _ i hi1, getElem!_pos _ j hj1] at h2
      unfold ltOf at h2
      simpa using h2
    · have hds' : d'.size = l.length := by rw [hp.1, hds]
      have hH' : HoldsK enc sz w' b 0 d' := by rw [hw]; exact holdsK_sortWorldK enc sz w b 0 n d d' os hblt hH hp.1
      have ht : Turn (fun i => i = b) w w' := by rw [hw]; exact sorted_turn
      refine ⟨some ⟨b, 0, none⟩, cap, by simp [hds'], by simp [hds']; exact hcap, by simp, fun _ => ⟨_, rfl, hFw b rfl, fun i x hx => ?_⟩⟩
      have hil := idx_lt hx
      rw [List.length_map, Array.length_toList] at hil
      rw [List.getElem?_map] at hx
      have hx' : x = val d'[i]! := by
        rw [List.getElem?_eq_getElem (by simpa using hil)] at hx
        injection hx with hx
        rw [getElem!_pos _ i hil, ← hx]; rfl
      refine ⟨(enc d'[i]!).toArray, by simp [hk], fun j hj => ?_, ?_⟩
      · have h2 := HoldsK.cells hH' hk hil j ((enc d'[i]!)[j]'(by rw [hk]; exact hj)) (List.getElem?_eq_getElem _)
        rw [Addr.add_lit] at h2 ⊢
        rw [show 0 + (i * sz + j) = 0 + i * sz + j by omega, h2]
        simp [hk, hj]
      · have hmem : d'[i]! ∈ d.toList := by
          have hp2 := hp.2.2
          have e1 : (d'.extract 0 l.length).toList = d'.toList := by rw [← hds']; simp
          have e2 : (d.extract 0 l.length).toList = d.toList := by rw [← hds]; simp
          rw [e1, e2] at hp2
          refine hp2.mem_iff.1 ?_
          rw [getElem!_pos _ i hil]
          simp
        rw [hd] at hmem
        simp only [List.mem_map, List.mem_range] at hmem
        obtain ⟨q, hq, hqe⟩ := hmem
        obtain ⟨e1, e2⟩ := hi q _ (List.getElem?_eq_getElem hq)
        have hRq := hr q _ (List.getElem?_eq_getElem hq)
        rw [hx', ← hqe, e1, e2]
        refine hR.mono (hR.keep hRq (w' := w') fun p hp => ht.cell (hF _ hp.1) fun e => hp.2 (by rw [e]; rfl)) fun g hg => hg.1
    · rw [hw]
      exact sorted_turn.mono fun i _ hi => by rw [hi]; rfl
end
end Go.Proofs.YtmhjbicbdahllaaGreatDoor
