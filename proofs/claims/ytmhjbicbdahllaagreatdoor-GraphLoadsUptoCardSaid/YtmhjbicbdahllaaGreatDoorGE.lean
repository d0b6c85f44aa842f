/- The walk of 'Load': its nodes. -/
import Derived.Test.YtmhjbicbdahllaaGreatDoorGD
namespace Go.Proofs.YtmhjbicbdahllaaGreatDoor
open Go Go.RowKit Go.Maps Go.WideMaps Go.MapKept

theorem infoNode : (Tryz.prog.info? 38).map (fun i => (i.zero, i.size, i.bytes)) = some (some (.agg #[.int .i64 0, .slice none 0 0, .slice none 0 0]), 3, 56) := by kernel_rfl
theorem infoEdge : (Tryz.prog.info? 41).map (fun i => (i.zero, i.size, i.bytes)) = some (some (.agg #[.int .i64 0, .int .i64 0, .int .i64 0, .string ⟨#[]⟩, .slice none 0 0]), 5, 64) := by kernel_rfl
/-- The cells of the i-th node. -/
theorem nodesAt {w : World} {F : Nat → Prop} {l : List NodeD} {A : Option Addr} {n : Nat} (h : SRd 3 NoR w F l A n) {i : Nat} {x : NodeD} (hx : l[i]? = some x) :
    ∃ ad A1 c1 A2 c2, A = some ad ∧ F ad.block ∧ NoR w F x #[.int .i64 x.id, .slice A1 x.labels.length c1, .slice A2 x.props.length c2] ∧ SRd 1 TxR w F x.labels A1 x.labels.length ∧ SRd 7 PaR w F x.props A2 x.props.length ∧ w.cell? (ad.add (i * 3)) = some (.int .i64 x.id) ∧
      w.cell? ⟨(ad.add (i * 3)).block, (ad.add (i * 3)).off + 1, none⟩ = some (.slice A1 x.labels.length c1) ∧ w.cell? ⟨(ad.add (i * 3)).block, (ad.add (i * 3)).off + 2, none⟩ = some (.slice A2 x.props.length c2) := by
  obtain ⟨ad, c, e, hF, _, hc, L, P, rfl, ⟨A1, c1, rfl, h1, h2⟩, A2, c2, rfl, h3, h4⟩ := h.at_ hx
  have d0 := hc 0 (by omega)
  have d1 := hc 1 (by omega)
  have d2 := hc 2 (by omega)
  rw [← add_of_add] at d1 d2
  exact ⟨ad, A1, c1, A2, c2, e, hF, ⟨_, _, rfl, ⟨A1, c1, rfl, h1, h2⟩, A2, c2, rfl, h3, h4⟩, h2, h4, d0, d1, d2⟩
/-- The cells of the i-th edge. -/
theorem edgesAt {w : World} {F : Nat → Prop} {l : List EdgeD} {A : Option Addr} {n : Nat} (h : SRd 5 EdR w F l A n) {i : Nat} {x : EdgeD} (hx : l[i]? = some x) :
    ∃ ad A2 c2, A = some ad ∧ F ad.block ∧ EdR w F x #[.int .i64 x.id, .int .i64 x.src, .int .i64 x.dst, .string x.type, .slice A2 x.props.length c2] ∧ SRd 7 PaR w F x.props A2 x.props.length ∧ w.cell? (ad.add (i * 5)) = some (.int .i64 x.id) ∧
      w.cell? ⟨(ad.add (i * 5)).block, (ad.add (i * 5)).off + 1, none⟩ = some (.int .i64 x.src) ∧ w.cell? ⟨(ad.add (i * 5)).block, (ad.add (i * 5)).off + 2, none⟩ = some (.int .i64 x.dst) ∧
      w.cell? ⟨(ad.add (i * 5)).block, (ad.add (i * 5)).off + 3, none⟩ = some (.string x.type) ∧ w.cell? ⟨(ad.add (i * 5)).block, (ad.add (i * 5)).off + 4, none⟩ = some (.slice A2 x.props.length c2) := by
  obtain ⟨ad, c, e, hF, _, hc, P, rfl, A2, c2, rfl, h3, h4⟩ := h.at_ hx
  have d0 := hc 0 (by omega)
  have d1 := hc 1 (by omega)
  have d2 := hc 2 (by omega)
  have d3 := hc 3 (by omega)
  have d4 := hc 4 (by omega)
  rw [← add_of_add] at d1 d2 d3 d4
  exact ⟨ad, A2, c2, e, hF, ⟨_, rfl, A2, c2, rfl, h3, h4⟩, h4, d0, d1, d2, d3, d4⟩

/-- What 'Load' holds behind k nodes. -/
structure Load1 (w : World) (z : Nat) (NV EV : Value) (l : List NodeD) (ids : List Int) (k : Nat) (ns : List NodeD) (Ns : Value) (wr : World) : Prop where
  below : Below z w wr
  box : wr.heap[z]? = some (.cells #[NV, EV] 25 (0, 0))
  m1 : wr.heap[z + 1]? = some (.map #[] 0)
  m2 : wr.heap[z + 2]? = some (.map #[] 0)
  m3 : wr.heap[z + 3]? = some (.map #[] 0)
  store : wr.heap[z + 4]? = some (.cells #[Ns, .slice none 0 0, .map (some (z + 1)), .map (some (z + 2)), .map (some (z + 3))] 65 (0, 0))
  set : SetAt 2 VI litI wr (z + 5) ids
  own : SOwn 38 3 NoR wr (fun b => z + 6 ≤ b ∧ b < wr.heap.size) ns Ns
  all : All2 SrtN (l.take k) ns
  ok : scanG okN NodeD.id [] (l.take k) = true
theorem Load1.on {w : World} {z : Nat} {NV EV : Value} {l : List NodeD} {ids : List Int} {k : Nat} {ns : List NodeD} {Ns : Value} {wr w2 : World} (h : Load1 w z NV EV l ids k ns Ns wr) (hb : Below wr.heap.size wr w2) : Load1 w z NV EV l ids k ns Ns w2 := by
  have hz : z + 5 < wr.heap.size := h.set.lt
  exact ⟨h.below.trans (hb.mono (by omega)), (hb.block _ (by omega)).trans h.box, (hb.block _ (by omega)).trans h.m1, (hb.block _ (by omega)).trans h.m2, (hb.block _ (by omega)).trans h.m3, (hb.block _ (by omega)).trans h.store, h.set.below hb,
    (h.own.turn NoR.good (Turn.of_below hb) (fun b hb => hb.2) (fun b hb h => by omega)).mono NoR.good (fun b hb2 => ⟨hb2.1, Nat.lt_of_lt_of_le hb2.2 hb.size⟩), h.all, h.ok⟩
theorem Load1.put {w : World} {z : Nat} {NV EV : Value} {l : List NodeD} {ids ids' : List Int} {k : Nat} {ns : List NodeD} {Ns : Value} {wr w2 : World} (h : Load1 w z NV EV l ids k ns Ns wr) (ht : Turn (fun b => b = z + 5) wr w2) (hs : SetAt 2 VI litI w2 (z + 5) ids') : Load1 w z NV EV l ids' k ns Ns w2 := by
  have hz : z + 5 < wr.heap.size := h.set.lt
  exact ⟨h.below.trans (ht.below (B := z) (fun i _ hi => by omega) (by omega)), (ht.block _ (by omega) (by omega)).trans h.box, (ht.block _ (by omega) (by omega)).trans h.m1, (ht.block _ (by omega) (by omega)).trans h.m2, (ht.block _ (by omega) (by omega)).trans h.m3, (ht.block _ (by omega) (by omega)).trans h.store, hs,
    (h.own.turn NoR.good ht (fun b hb => hb.2) (fun b hb h => by omega)).mono NoR.good (fun b hb2 => ⟨hb2.1, Nat.lt_of_lt_of_le hb2.2 ht.size⟩), h.all, h.ok⟩
theorem may_no {g : GraphD} (h : scanG okN NodeD.id [] g.nodes = false) : mayG g = false := by
  unfold mayG
  rw [h]
  simp
theorem scalarB_flat {v : Val} (h : scalarB v = true) : v.list = [] := by
  unfold scalarB at h
  rw [Bool.and_eq_true] at h
  obtain ⟨h1, h2⟩ := h
  obtain ⟨k, b, n, t, x, l⟩ := v
  simp only [Val.kind, Bool.or_eq_true, beq_iff_eq] at h2
  simp only [Val.list]
  have hk : k ≠ 5 := by rcases h2 with h | h | h | h <;> omega
  unfold mayV at h1
  have hc : ∀ {b' : Bool} {n' : Int} {t' x' : ByteArray}, cmpB k b n t x l b' n' t' x' = true → l = [] := fun h => by
    unfold cmpB at h
    simp only [Bool.and_eq_true, Bool.or_eq_true, decide_eq_true_eq] at h
    rcases h.2.2.2.2 with h | h
    · exact List.eq_nil_of_length_eq_zero h
    · exact absurd h hk
  rcases h2 with rfl | rfl | rfl | rfl
  · simp at h1; exact hc h1
  · simp at h1; exact hc h1
  · simp at h1; exact hc h1.2
  · simp at h1; exact hc h1.2
theorem plainB_flat {v : Val} (h : plainB v = true) : ∀ x, x ∈ v.list → x.list = [] := by
  unfold plainB at h
  by_cases h5 : v.kind = 5
  · rw [if_pos h5, Bool.and_eq_true, List.all_eq_true] at h
    exact fun x hx => scalarB_flat (h.2 x hx)
  · rw [if_neg h5] at h
    rw [scalarB_flat h]
    intro x hx; cases hx
theorem propsG_flat {l : List PairD} : ∀ {ks : List ByteArray}, propsG ks l = true → ∀ p, p ∈ l → FlatP p := by
  induction l with
  | nil => intro ks _ p hp; cases hp
  | cons q r ih =>
    intro ks h p hp
    simp only [propsG, Bool.and_eq_true] at h
    rcases List.mem_cons.1 hp with rfl | hp
    · exact plainB_flat h.1.2.2
    · exact ih h.2 p hp
theorem propsB_flat {l : List PairD} (h : propsB l = true) : ∀ p, p ∈ l → FlatP p := by
  unfold propsB at h
  rw [Bool.and_eq_true] at h
  exact propsG_flat h.1
theorem six_new (w : World) (o0 o1 o2 o3 o4 o5 : Obj) : (((((((w.alloc o0).alloc o1).alloc o2).alloc o3).alloc o4).alloc o5).heap = w.heap ++ #[o0, o1, o2, o3, o4, o5]) := by
  simp only [Go.Sort.alloc_eq_grow, Go.Sort.grow_grow]
  rfl
theorem app_at {h : Array Obj} {os : Array Obj} {z i : Nat} {o : Obj} (hz : h.size = z) (ho : os[i]? = some o) : (h ++ os)[z + i]? = some o := by
  subst hz
  rw [Array.getElem?_append_right (Nat.le_add_right _ _), Nat.add_sub_cancel_left]
  exact ho
theorem three_new (w : World) (o0 o1 o2 : Obj) : (((w.alloc o0).alloc o1).alloc o2).heap = w.heap ++ #[o0, o1, o2] := by
  simp only [Go.Sort.alloc_eq_grow, Go.Sort.grow_grow]
  rfl
theorem set_new {K : Type} [DecidableEq K] {kt : TypeId} {V : K → Prop} {lit : K → Lit} {w : World} {m : Nat} (h : w.heap[m]? = some (.map #[] 0)) : SetAt kt V lit w m ([] : List K) :=
  ⟨.map [], ⟨#[], 0, h, ⟨by simp, stamped_empty 0, by simp⟩, Nat.le_refl _, rfl⟩, fun _ _ => rfl⟩
theorem glob_z {w w' : World} {z : Nat} (h : GlobB w) (hz : w.heap.size = z) (hb : Below z w w') : GlobB w' := glob_under h (by rw [hz]; exact hb)
/-- One node more. -/
theorem Load1.more {w : World} {z : Nat} {NV EV : Value} {l : List NodeD} {ids : List Int} {k : Nat} {ns : List NodeD} {A3 : Option Addr} {c3 : Nat} {w5 w6 w7 : World} {cs : Nat → Array Value} {x n' : NodeD} {c : Array Value} {g7 c7 : Nat}
    (h : Load1 w z NV EV l ids k ns (.slice A3 k c3) w5) (hlen : ns.length = k) (hF : ∀ b, (Value.slice A3 k c3).ownBlock = some b → z + 6 ≤ b ∧ b < w5.heap.size) (h3c : ∀ i, i < k → (cs i).size = 3) (hr : ∀ i x, ns[i]? = some x → NoR w5 (fun b => (z + 6 ≤ b ∧ b < w5.heap.size) ∧ (Value.slice A3 k c3).ownBlock ≠ some b) x (cs i))
    (hx : l[k]? = some x) (hb6 : Below w5.heap.size w5 w6) (hsrt : SrtN x n') (hno : NoR w6 (fun b => w5.heap.size ≤ b ∧ b < w6.heap.size) n' c) (hc : c.size = 3) (hg : w6.grownBy w7 (Value.slice A3 k c3).ownBlock) (hl : (Value.slice A3 k c3).ownBlock = some g7 ∨ g7 = w6.heap.size + 1)
    (ho : w7.ownsRow 0 38 3 (.slice (some ⟨g7, 0, none⟩) (k + 1) c7) (k + 1) (flatC cs k ++ c.toList)) (hok : scanG okN NodeD.id [] (l.take (k + 1)) = true) :
    Load1 w z NV EV l ids (k + 1) (ns ++ [n']) (.slice (some ⟨g7, 0, none⟩) (k + 1) c7) (w7.setCell ⟨z + 4, 0, none⟩ (.slice (some ⟨g7, 0, none⟩) (k + 1) c7)) := by
  have hz : z + 5 < w5.heap.size := h.set.lt
  have hs6 : w5.heap.size ≤ w6.heap.size := hb6.size
  have hs7 : w6.heap.size ≤ w7.heap.size := hg.size
  have hg7 : g7 < w7.heap.size := (ho.lt g7 rfl).2
  have h6 := h.on hb6
  have hsn := own_more (w5 := w6) (w6 := w7) (R := NoR) (E := 38) (sz := 3) (F := fun b => z + 6 ≤ b ∧ b < w5.heap.size) (G := fun b => w5.heap.size ≤ b ∧ b < w6.heap.size) (l := ns) (x := n') (s := .slice A3 k c3) (c := c) (g4 := g7) (c4 := c7) (cs := cs) NoR.good
    (fun i hi => h3c i (by omega)) (fun i y hy => NoR.good.keep (hr i y hy) (fun p hp => hb6.cell (by have := hp.1.2; omega))) hno hc (fun b hb e => by have := (hF b e).2; have := hb.1; omega) (fun b hb => by have := hb.2; omega) (fun b hb => hb.2) (by rw [hlen]; exact ho) hg (by rcases hl with e | e; exact .inl e; exact .inr (by omega))
  rw [hlen] at hsn
  have hT : Turn (fun b => some b = (Value.slice A3 k c3).ownBlock ∨ b = z + 4) w6 (w7.setCell ⟨z + 4, 0, none⟩ (.slice (some ⟨g7, 0, none⟩) (k + 1) c7)) :=
    ((Turn.of_grown hg).mono (fun b _ hb => .inl hb)).trans (((Turn.refl (fun b => b = z + 4) w7).setCell (p := ⟨z + 4, 0, none⟩) (.inr rfl) _).mono (fun b _ hb => .inr hb))
  have hkeep : ∀ b, b < z + 6 → b ≠ z + 4 → (w7.setCell ⟨z + 4, 0, none⟩ (.slice (some ⟨g7, 0, none⟩) (k + 1) c7)).heap[b]? = w6.heap[b]? := fun b hb hne => hT.block b (by omega) (fun hx => by
    rcases hx with hx | hx
    · have := (hF b hx.symm).1; omega
    · exact hne hx)
  refine ⟨h6.below.trans (hT.below (B := z) (fun i _ hi => ?_) (by omega)), (hkeep _ (by omega) (by omega)).trans h6.box, (hkeep _ (by omega) (by omega)).trans h6.m1, (hkeep _ (by omega) (by omega)).trans h6.m2, (hkeep _ (by omega) (by omega)).trans h6.m3, ?_, h6.set.turn hT (fun hx => ?_), ?_, ?_, hok⟩
  · rcases hi with hi | hi
    · have := (hF i hi.symm).1; omega
    · omega
  · exact heap_setCell_same w7 (z + 4) 0 _ _ _ ((hg.block (z + 4) (by omega) (fun e => by have := (hF (z + 4) e.symm).1; omega)).trans h6.store)
  · rcases hx with hx | hx
    · have := (hF (z + 5) hx.symm).1; omega
    · omega
  · refine (hsn.turn NoR.good ((Turn.refl (fun b => b = z + 4) w7).setCell (p := ⟨z + 4, 0, none⟩) (.inr rfl) _) (fun b hb => ?_) (fun b hb e => ?_)).mono NoR.good (fun b hb => ?_)
    · rcases hb with hb | hb | hb
      · omega
      · omega
      · omega
    · rcases hb with hb | hb | hb
      · omega
      · omega
      · rcases hl with h1 | h1
        · have := (hF g7 h1).1; omega
        · omega
    · show z + 6 ≤ b ∧ b < (w7.setCell _ _).heap.size
      simp only [World.size_setCell]
      rcases hb with hb | hb | hb
      · omega
      · omega
      · rcases hl with h1 | h1
        · have := (hF g7 h1).1; omega
        · omega
  · rw [take_oneMore hx]
    exact h.all.snoc hsrt
end Go.Proofs.YtmhjbicbdahllaaGreatDoor
