/- slices.Clone at texts and at values; 'copied'. -/
import Derived.Test.YtmhjbicbdahllaaGreatDoorG6
import Derived.Test.YtmhjbicbdahllaaGreatDoorV4
namespace Go.Proofs.YtmhjbicbdahllaaGreatDoor
open Go Go.RowKit

section
variable {α : Type} {R : Lies α} {w : World} {F : Nat → Prop} {l : List α} {ad : Addr} {n sz : Nat}
/-- The cells of each element, as one function. -/
theorem SRd.fn (h : SRd sz R w F l (some ad) n) : ∃ cs : Nat → Array Value, ∀ i x, l[i]? = some x → F ad.block ∧ (cs i).size = sz ∧ (∀ j, j < sz → w.cell? (ad.add (i * sz + j)) = (cs i)[j]?) ∧ R w F x (cs i) := by
  classical
  have hex : ∀ i, ∃ c : Array Value, ∀ x, l[i]? = some x → F ad.block ∧ c.size = sz ∧ (∀ j, j < sz → w.cell? (ad.add (i * sz + j)) = c[j]?) ∧ R w F x c := fun i => by
    cases hx : l[i]? with
    | none => exact ⟨#[], fun x h => by cases h⟩
    | some x =>
      obtain ⟨ad', c, e, hF, h1, h2, h3⟩ := h.at_ hx
      injection e with e
      subst e
      exact ⟨c, fun y hy => by injection hy with hy; subst hy; exact ⟨hF, h1, h2, h3⟩⟩
  exact ⟨fun i => (hex i).choose, fun i x hx => (hex i).choose_spec x hx⟩
theorem flat_cells {cs : Nat → Array Value} (h6 : ∀ i, i < n → (cs i).size = sz) (hc : ∀ i, i < n → ∀ j, j < sz → w.cell? (ad.add (i * sz + j)) = (cs i)[j]?) (hsz : 0 < sz) : ∀ j u, (flatC cs n)[j]? = some u → w.cell? (ad.add j) = some u := by
  intro j u hu
  have hl := flatC_length h6
  have hj : j < n * sz := by rw [← hl]; exact (List.getElem?_eq_some_iff.1 hu).1
  have hi : j / sz < n := Nat.div_lt_of_lt_mul (by rw [Nat.mul_comm]; exact hj)
  have hr : j % sz < sz := Nat.mod_lt _ hsz
  have he : j / sz * sz + j % sz = j := by rw [Nat.mul_comm]; exact Nat.div_add_mod j sz
  have h1 := flatC_at h6 hi hr
  rw [he] at h1
  have h2 := hc _ hi _ hr
  rw [he] at h2
  rw [h2, ← h1, hu]
/-- All cells of a clone are cells. -/
theorem flat_one {cs : Nat → Array Value} (h1 : ∀ i, i < n → ∀ u ∈ (cs i).toList, u.oneCell' = true) : ∀ u ∈ flatC cs n, u.oneCell' = true := by
  intro u hu
  unfold flatC at hu
  obtain ⟨i, hi, hu⟩ := List.mem_flatMap.1 hu
  exact h1 i (List.mem_range.1 hi) u hu
end

/-- A clone: the elements in a row of their own; what they lead to is where it was. -/
def CloneIs {α : Type} (E sz : Nat) (R : Lies α) (F : Nat → Prop) (l : List α) (w : World) (e : Ending) (w' : World) : Prop :=
  ∃ s, e = .returned s ∧ Below w.heap.size w w' ∧ SOwn E sz R w' (fun b => F b ∨ (w.heap.size ≤ b ∧ b < w'.heap.size)) l s ∧ (∀ g, s.ownBlock = some g → w.heap.size ≤ g)
/-- How a value lies: LRd is the list of such. -/
def VaR : Lies Val := fun w F x c => VRd w F x (.agg c)
theorem VaR.good : VaR.Good := ⟨fun h hk => h.keep hk, fun h hF => h.mono hF⟩
theorem LRd.srd {w : World} {F : Nat → Prop} {l : List Val} {A : Option Addr} {n : Nat} (h : LRd w F l A n) : SRd 6 VaR w F l A n := h
theorem SRd.lrd {w : World} {F : Nat → Prop} {l : List Val} {A : Option Addr} {n : Nat} (h : SRd 6 VaR w F l A n) : LRd w F l A n := h
theorem VaR.one {w : World} {F : Nat → Prop} {x : Val} {c : Array Value} (h : VaR w F x c) : ∀ u ∈ c.toList, u.oneCell' = true := by
  obtain ⟨A, cap, hu, _⟩ := VRd.inv h
  injection hu with hu
  subst hu
  exact one_val x A _ cap
theorem TxR.one {w : World} {F : Nat → Prop} {x : ByteArray} {c : Array Value} (h : TxR w F x c) : ∀ u ∈ c.toList, u.oneCell' = true := by
  have h : c = #[.string x] := h
  subst h
  exact one_str x

set_option maxRecDepth 100000 in
set_option maxHeartbeats 1000000 in
theorem cloneT_any (l : List ByteArray) (F : Nat → Prop) (A : Option Addr) (n cap : Nat) (hn : n ≤ 10000000) (w : World) (hF : ∀ g, F g → g < w.heap.size) (hl : SRd 1 TxR w F l A n) :
    Calls Tryz.prog 59 #[.slice A n cap] w (CloneIs 9 1 TxR F l w) := by
  have hln := Lib.hid hl.1
  have HF := Lib.hid hF
  have qeq : ∀ (w : World) (a : Option Addr) (n c n' c' : Nat), (binOp .eql 35 (.slice a n c) (.slice none n' c')).run Tryz.prog w = .ok (.bool a.isNone) w := fun w a n c n' c' => Lib.run_eql_slice_nil w _ _ a n c n' c' Tryz.underlying35
  cases A with
  | none =>
    have h0 : l = [] := by
      rcases Nat.eq_zero_or_pos n with h | h
      · exact List.eq_nil_of_length_eq_zero (by rw [← hln.out, h])
      · obtain ⟨ad, e, _⟩ := hl.2 h
        cases e
    have H0 := Lib.hid h0
    clear hl hF h0
    go_enter Tryz.func59, Tryz.ntmps59
    go_wp2_with fail
    go_ret
    rw [H0.out]
    exact ⟨.slice none 0 0, rfl, Below.refl _ _, SOwn.nil _ _ _ _ _, fun g hg => by cases hg⟩
  | some ad =>
    obtain ⟨cs, hcs⟩ := hl.fn
    have at_i : ∀ i, i < n → ∃ x, l[i]? = some x := fun i hi => ⟨l[i]'(by rw [← hln.out]; exact hi), List.getElem?_eq_getElem _⟩
    have h6 := Lib.hid (fun i (hi : i < n) => by obtain ⟨x, hx⟩ := at_i i hi; exact (show (cs i).size = 1 from (hcs i x hx).2.1))
    have h1 := Lib.hid (flat_one (n := n) (cs := cs) fun i hi => by obtain ⟨x, hx⟩ := at_i i hi; exact TxR.one (hcs i x hx).2.2.2)
    have hcell := Lib.hid (fun (o : Obj) => flat_cells (w := w.alloc o) (ad := ad) h6.out (fun i hi j hj => by
      obtain ⟨x, hx⟩ := at_i i hi
      obtain ⟨g1, _, g3, _⟩ := hcs i x hx
      rw [World.cell?_alloc_lt w o _ (by rw [block_of_add]; exact hF _ g1)]
      exact g3 j hj) (by decide))
    have HR := Lib.hid (fun i x hx => (hcs i x hx).2.2.2)
    clear hl hF hcs at_i
    obtain ⟨i0, hi, hz0, hz1, hz2⟩ := info_parts infoString
    go_enter Tryz.func59, Tryz.ntmps59
    go_wp2_with (at_builtin; refine wpList_append_own _ rfl _ _ 35 rfl w.heap.size 9 i0 (.string ⟨#[]⟩) 1 16 Tryz.underlying35 hi hz0 hz1 hz2 rfl (by decide) _ _ _ rfl (World.ownsRow_made w #[] 0 (Nat.le_refl _) (Nat.zero_le _) rfl) ad n cap (flatC cs n) rfl (flatC_length h6.out) (hcell.out _) h1.out (by unfold maxLen; omega) (by omega) (by simp) ?_)
    intro v' w1 hown hgrow hnil
    have HB := Lib.hid (((Below.refl _ w).alloc (Nat.le_refl _) (.cells #[] 9)).grown hgrow (by simp) (by intro k hk; simp [Value.ownBlock] at hk; omega))
    have HO := Lib.hid (show w1.ownsRow w.heap.size 9 1 v' n (flatC cs n) from by simpa using hown)
    clear hown hgrow hnil
    go_wp2_with fail
    go_ret
    refine ⟨v', rfl, HB.out, ⟨cs, by rw [← hln.out]; exact own_base HO.out (Nat.zero_le _), fun i hi => h6.out i (by rw [hln.out]; exact hi), fun g hg => .inr (HO.out.lt g hg), fun i x hx => ?_⟩, fun g hg => (HO.out.lt g hg).1⟩
    refine TxR.good.mono (TxR.good.keep (HR.out i x hx) fun p hp => HB.out.cell (HF.out _ hp)) fun g hg => ⟨.inl hg, fun e => ?_⟩
    have h1 := (HO.out.lt g e).1
    have h2 := HF.out g hg
    omega

set_option maxRecDepth 100000 in
set_option maxHeartbeats 1000000 in
theorem cloneV_any (l : List Val) (F : Nat → Prop) (A : Option Addr) (n cap : Nat) (hn : n ≤ 10000000) (w : World) (hF : ∀ g, F g → g < w.heap.size) (hl : SRd 6 VaR w F l A n) :
    Calls Tryz.prog 70 #[.slice A n cap] w (CloneIs 55 6 VaR F l w) := by
  have hln := Lib.hid hl.1
  have HF := Lib.hid hF
  have qeq : ∀ (w : World) (a : Option Addr) (n c n' c' : Nat), (binOp .eql 43 (.slice a n c) (.slice none n' c')).run Tryz.prog w = .ok (.bool a.isNone) w := fun w a n c n' c' => Lib.run_eql_slice_nil w _ _ a n c n' c' Tryz.underlying43
  cases A with
  | none =>
    have h0 : l = [] := by
      rcases Nat.eq_zero_or_pos n with h | h
      · exact List.eq_nil_of_length_eq_zero (by rw [← hln.out, h])
      · obtain ⟨ad, e, _⟩ := hl.2 h
        cases e
    have H0 := Lib.hid h0
    clear hl hF h0
    go_enter Tryz.func70, Tryz.ntmps70
    go_wp2_with fail
    go_ret
    rw [H0.out]
    exact ⟨.slice none 0 0, rfl, Below.refl _ _, SOwn.nil _ _ _ _ _, fun g hg => by cases hg⟩
  | some ad =>
    obtain ⟨cs, hcs⟩ := hl.fn
    have at_i : ∀ i, i < n → ∃ x, l[i]? = some x := fun i hi => ⟨l[i]'(by rw [← hln.out]; exact hi), List.getElem?_eq_getElem _⟩
    have h6 := Lib.hid (fun i (hi : i < n) => by obtain ⟨x, hx⟩ := at_i i hi; exact (show (cs i).size = 6 from (hcs i x hx).2.1))
    have h1 := Lib.hid (flat_one (n := n) (cs := cs) fun i hi => by obtain ⟨x, hx⟩ := at_i i hi; exact VaR.one (hcs i x hx).2.2.2)
    have hcell := Lib.hid (fun (o : Obj) => flat_cells (w := w.alloc o) (ad := ad) h6.out (fun i hi j hj => by
      obtain ⟨x, hx⟩ := at_i i hi
      obtain ⟨g1, _, g3, _⟩ := hcs i x hx
      rw [World.cell?_alloc_lt w o _ (by rw [block_of_add]; exact hF _ g1)]
      exact g3 j hj) (by decide))
    have HR := Lib.hid (fun i x hx => (hcs i x hx).2.2.2)
    clear hl hF hcs at_i
    obtain ⟨i0, hi, hz0, hz1, hz2⟩ := info_parts infoVal
    go_enter Tryz.func70, Tryz.ntmps70
    go_wp2_with (at_builtin; refine wpList_append_own _ rfl _ _ 43 rfl w.heap.size 55 i0 (.agg #[.int .i64 0, .bool false, .int .i64 0, .string ⟨#[]⟩, .string ⟨#[]⟩, .slice none 0 0]) 6 80 Tryz.underlying43 hi hz0 hz1 hz2 rfl (by decide) _ _ _ rfl (World.ownsRow_made w #[] 0 (Nat.le_refl _) (Nat.zero_le _) rfl) ad n cap (flatC cs n) rfl (flatC_length h6.out) (hcell.out _) h1.out (by unfold maxLen; omega) (by omega) (by simp) ?_)
    intro v' w1 hown hgrow hnil
    have HB := Lib.hid (((Below.refl _ w).alloc (Nat.le_refl _) (.cells #[] 55)).grown hgrow (by simp) (by intro k hk; simp [Value.ownBlock] at hk; omega))
    have HO := Lib.hid (show w1.ownsRow w.heap.size 55 6 v' n (flatC cs n) from by simpa using hown)
    clear hown hgrow hnil
    go_wp2_with fail
    go_ret
    refine ⟨v', rfl, HB.out, ⟨cs, by rw [← hln.out]; exact own_base HO.out (Nat.zero_le _), fun i hi => h6.out i (by rw [hln.out]; exact hi), fun g hg => .inr (HO.out.lt g hg), fun i x hx => ?_⟩, fun g hg => (HO.out.lt g hg).1⟩
    refine VaR.good.mono (VaR.good.keep (HR.out i x hx) fun p hp => HB.out.cell (HF.out _ hp)) fun g hg => ⟨.inl hg, fun e => ?_⟩
    have h1 := (HO.out.lt g e).1
    have h2 := HF.out g hg
    omega
end Go.Proofs.YtmhjbicbdahllaaGreatDoor
