/- The walk of 'Load': its edges. -/
import Derived.Test.YtmhjbicbdahllaaGreatDoorGE
namespace Go.Proofs.YtmhjbicbdahllaaGreatDoor
open Go Go.RowKit Go.Maps Go.WideMaps Go.MapKept

/-- What 'Load' holds behind k edges. -/
structure Load2 (w : World) (z z2 : Nat) (nids : List Int) (NS : List NodeD) (Ns : Value) (l : List EdgeD) (ids : List Int) (k : Nat) (es : List EdgeD) (Es : Value) (wr : World) : Prop where
  below : Below z w wr
  m1 : wr.heap[z + 1]? = some (.map #[] 0)
  m2 : wr.heap[z + 2]? = some (.map #[] 0)
  m3 : wr.heap[z + 3]? = some (.map #[] 0)
  store : wr.heap[z + 4]? = some (.cells #[Ns, Es, .map (some (z + 1)), .map (some (z + 2)), .map (some (z + 3))] 65 (0, 0))
  nset : SetAt 2 VI litI wr (z + 5) nids
  set : SetAt 2 VI litI wr z2 ids
  far : z + 6 ≤ z2
  nodes : SOwn 38 3 NoR wr (fun b => z + 6 ≤ b ∧ b < z2) NS Ns
  own : SOwn 41 5 EdR wr (fun b => z2 + 1 ≤ b ∧ b < wr.heap.size) es Es
  all : All2 SrtE (l.take k) es
  ok : scanG (okE nids) EdgeD.id [] (l.take k) = true
section
variable {w : World} {z z2 : Nat} {nids : List Int} {NS : List NodeD} {Ns : Value} {l : List EdgeD} {ids ids' : List Int} {k : Nat} {es : List EdgeD} {Es : Value} {wr w2 : World}
theorem Load2.on (h : Load2 w z z2 nids NS Ns l ids k es Es wr) (hb : Below wr.heap.size wr w2) : Load2 w z z2 nids NS Ns l ids k es Es w2 := by
  have hz : z2 < wr.heap.size := h.set.lt
  have hf := h.far
  exact ⟨h.below.trans (hb.mono (by omega)), (hb.block _ (by omega)).trans h.m1, (hb.block _ (by omega)).trans h.m2, (hb.block _ (by omega)).trans h.m3, (hb.block _ (by omega)).trans h.store, h.nset.below hb, h.set.below hb, hf,
    h.nodes.turn NoR.good (Turn.of_below hb) (fun b hb => by omega) (fun b hb h => by omega),
    (h.own.turn EdR.good (Turn.of_below hb) (fun b hb => hb.2) (fun b hb h => by omega)).mono EdR.good (fun b hb2 => ⟨hb2.1, Nat.lt_of_lt_of_le hb2.2 hb.size⟩), h.all, h.ok⟩
theorem Load2.put (h : Load2 w z z2 nids NS Ns l ids k es Es wr) (ht : Turn (fun b => b = z2) wr w2) (hs : SetAt 2 VI litI w2 z2 ids') : Load2 w z z2 nids NS Ns l ids' k es Es w2 := by
  have hz : z2 < wr.heap.size := h.set.lt
  have hf := h.far
  exact ⟨h.below.trans (ht.below (B := z) (fun i _ hi => by omega) (by omega)), (ht.block _ (by omega) (by omega)).trans h.m1, (ht.block _ (by omega) (by omega)).trans h.m2, (ht.block _ (by omega) (by omega)).trans h.m3, (ht.block _ (by omega) (by omega)).trans h.store, h.nset.turn ht (by omega), hs, hf,
    h.nodes.turn NoR.good ht (fun b hb => by omega) (fun b hb h => by omega),
    (h.own.turn EdR.good ht (fun b hb => hb.2) (fun b hb h => by omega)).mono EdR.good (fun b hb2 => ⟨hb2.1, Nat.lt_of_lt_of_le hb2.2 ht.size⟩), h.all, h.ok⟩
end
/-- One edge more. -/
theorem Load2.more {w : World} {z z2 : Nat} {nids : List Int} {NS : List NodeD} {Ns : Value} {l : List EdgeD} {ids : List Int} {k : Nat} {es : List EdgeD} {A3 : Option Addr} {c3 : Nat} {w5 w6 w7 : World} {cs : Nat → Array Value} {x n' : EdgeD} {c : Array Value} {g7 c7 : Nat}
    (h : Load2 w z z2 nids NS Ns l ids k es (.slice A3 k c3) w5) (hlen : es.length = k) (hF : ∀ b, (Value.slice A3 k c3).ownBlock = some b → z2 + 1 ≤ b ∧ b < w5.heap.size) (h3c : ∀ i, i < k → (cs i).size = 5) (hr : ∀ i x, es[i]? = some x → EdR w5 (fun b => (z2 + 1 ≤ b ∧ b < w5.heap.size) ∧ (Value.slice A3 k c3).ownBlock ≠ some b) x (cs i))
    (hx : l[k]? = some x) (hb6 : Below w5.heap.size w5 w6) (hsrt : SrtE x n') (hno : EdR w6 (fun b => w5.heap.size ≤ b ∧ b < w6.heap.size) n' c) (hc : c.size = 5) (hg : w6.grownBy w7 (Value.slice A3 k c3).ownBlock) (hl : (Value.slice A3 k c3).ownBlock = some g7 ∨ g7 = w6.heap.size + 1)
    (ho : w7.ownsRow 0 41 5 (.slice (some ⟨g7, 0, none⟩) (k + 1) c7) (k + 1) (flatC cs k ++ c.toList)) (hok : scanG (okE nids) EdgeD.id [] (l.take (k + 1)) = true) :
    Load2 w z z2 nids NS Ns l ids (k + 1) (es ++ [n']) (.slice (some ⟨g7, 0, none⟩) (k + 1) c7) (w7.setCell ⟨z + 4, 1, none⟩ (.slice (some ⟨g7, 0, none⟩) (k + 1) c7)) := by
  have hz : z2 < w5.heap.size := h.set.lt
  have hf := h.far
  have hs6 : w5.heap.size ≤ w6.heap.size := hb6.size
  have hs7 : w6.heap.size ≤ w7.heap.size := hg.size
  have hg7 : g7 < w7.heap.size := (ho.lt g7 rfl).2
  have h6 := h.on hb6
  have hsn := own_more (w5 := w6) (w6 := w7) (R := EdR) (E := 41) (sz := 5) (F := fun b => z2 + 1 ≤ b ∧ b < w5.heap.size) (G := fun b => w5.heap.size ≤ b ∧ b < w6.heap.size) (l := es) (x := n') (s := .slice A3 k c3) (c := c) (g4 := g7) (c4 := c7) (cs := cs) EdR.good
    (fun i hi => h3c i (by omega)) (fun i y hy => EdR.good.keep (hr i y hy) (fun p hp => hb6.cell (by have := hp.1.2; omega))) hno hc (fun b hb e => by have := (hF b e).2; have := hb.1; omega) (fun b hb => by have := hb.2; omega) (fun b hb => hb.2) (by rw [hlen]; exact ho) hg (by rcases hl with e | e; exact .inl e; exact .inr (by omega))
  rw [hlen] at hsn
  have hT : Turn (fun b => some b = (Value.slice A3 k c3).ownBlock ∨ b = z + 4) w6 (w7.setCell ⟨z + 4, 1, none⟩ (.slice (some ⟨g7, 0, none⟩) (k + 1) c7)) :=
    ((Turn.of_grown hg).mono (fun b _ hb => .inl hb)).trans (((Turn.refl (fun b => b = z + 4) w7).setCell (p := ⟨z + 4, 1, none⟩) (.inr rfl) _).mono (fun b _ hb => .inr hb))
  have hnot : ∀ b, b < z2 + 1 → b ≠ z + 4 → ¬ (some b = (Value.slice A3 k c3).ownBlock ∨ b = z + 4) := fun b hb hne hx => by
    rcases hx with hx | hx
    · have := (hF b hx.symm).1; omega
    · exact hne hx
  have hkeep : ∀ b, b < z2 + 1 → b ≠ z + 4 → (w7.setCell ⟨z + 4, 1, none⟩ (.slice (some ⟨g7, 0, none⟩) (k + 1) c7)).heap[b]? = w6.heap[b]? := fun b hb hne => hT.block b (by omega) (hnot b hb hne)
  refine ⟨h6.below.trans (hT.below (B := z) (fun i _ hi => ?_) (by omega)), (hkeep _ (by omega) (by omega)).trans h6.m1, (hkeep _ (by omega) (by omega)).trans h6.m2, (hkeep _ (by omega) (by omega)).trans h6.m3, ?_, h6.nset.turn hT (hnot _ (by omega) (by omega)), h6.set.turn hT (hnot _ (by omega) (by omega)), hf, h6.nodes.turn NoR.good hT (fun b hb => by omega) (fun b hb => hnot b (by omega) (by omega)), ?_, ?_, hok⟩
  · rcases hi with hi | hi
    · have := (hF i hi.symm).1; omega
    · omega
  · exact heap_setCell_same w7 (z + 4) 1 _ _ _ ((hg.block (z + 4) (by omega) (fun e => by have := (hF (z + 4) e.symm).1; omega)).trans h6.store)
  · refine (hsn.turn EdR.good ((Turn.refl (fun b => b = z + 4) w7).setCell (p := ⟨z + 4, 1, none⟩) (.inr rfl) _) (fun b hb => ?_) (fun b hb e => ?_)).mono EdR.good (fun b hb => ?_)
    · rcases hb with hb | hb | hb
      · omega
      · omega
      · omega
    · rcases hb with hb | hb | hb
      · omega
      · omega
      · rcases hl with h1 | h1
        · have := (hF g7 h1).1; omega
        · omega
    · show z2 + 1 ≤ b ∧ b < (w7.setCell _ _).heap.size
      simp only [World.size_setCell]
      rcases hb with hb | hb | hb
      · omega
      · omega
      · rcases hl with h1 | h1
        · have := (hF g7 h1).1; omega
        · omega
  · rw [take_oneMore hx]
    exact h.all.snoc hsrt
theorem may_noE {g : GraphD} (h : scanG (okE (g.nodes.map NodeD.id)) EdgeD.id [] g.edges = false) : mayG g = false := by
  unfold mayG
  rw [h]
  simp
/-- From the nodes to the edges. -/
theorem Load1.next {w : World} {z : Nat} {NV EV : Value} {l : List NodeD} {nids : List Int} {k : Nat} {ns : List NodeD} {Ns : Value} {wr : World} (h : Load1 w z NV EV l nids k ns Ns wr) (le : List EdgeD) :
    Load2 w z wr.heap.size nids ns Ns le [] 0 [] (.slice none 0 0) (wr.alloc (.map #[] 0)) := by
  have hz : z + 5 < wr.heap.size := h.set.lt
  have h2 := h.on ((Below.refl wr.heap.size wr).alloc (Nat.le_refl _) (.map #[] 0))
  exact ⟨h2.below, h2.m1, h2.m2, h2.m3, h2.store, h2.set, SetAt.made _ _ _ _, by omega, h.own.turn NoR.good (Turn.of_below ((Below.refl wr.heap.size wr).alloc (Nat.le_refl _) (.map #[] 0))) (fun b hb => hb.2) (fun b hb h => by omega), SOwn.nil .., All2.nil _, rfl⟩
end Go.Proofs.YtmhjbicbdahllaaGreatDoor
