/- Which properties may be. -/
import Derived.Test.YtmhjbicbdahllaaGreatDoorG3
namespace Go.Proofs.YtmhjbicbdahllaaGreatDoor
open Go Go.RowKit Go.Maps Go.WideMaps

/-- Cells of one block, stored one behind the other. -/
def setAll (w : World) (b : Nat) : Nat → List Value → World
  | _, [] => w
  | o, v :: r => setAll (w.setCell ⟨b, o, none⟩ v) b (o + 1) r
theorem setAll_heap (E : TypeId) : ∀ (vs : List Value) (w : World) (b o : Nat) (c : Array Value), w.heap[b]? = some (.cells c E (0, 0)) → o + vs.length = c.size →
    (setAll w b o vs).heap[b]? = some (.cells (c.toList.take o ++ vs).toArray E (0, 0)) ∧ (setAll w b o vs).heap.size = w.heap.size ∧ Turn (fun i => i = b) w (setAll w b o vs)
  | [], w, b, o, c, h, ho => by
    refine ⟨?_, rfl, Turn.refl _ _⟩
    rw [List.append_nil, List.take_of_length_le (by rw [Array.length_toList]; simp at ho; omega)]
    simpa [setAll] using h
  | v :: r, w, b, o, c, h, ho => by
    have ho' : o < c.size := by simp at ho; omega
    have h1 := heap_setCell_same w b o c E v h
    obtain ⟨g1, g2, g3⟩ := setAll_heap E r (w.setCell ⟨b, o, none⟩ v) b (o + 1) _ h1 (by simp at ho ⊢; omega)
    refine ⟨?_, ?_, Turn.trans ((Turn.refl (fun i => i = b) w).setCell (p := ⟨b, o, none⟩) (.inr rfl) v) g3⟩
    · show (setAll (w.setCell ⟨b, o, none⟩ v) b (o + 1) r).heap[b]? = _
      have e : (c.toList.set o v).take (o + 1) = c.toList.take o ++ [v] := by
        rw [List.take_add_one, List.getElem?_set_self (by rw [Array.length_toList]; exact ho')]
        congr 1
        apply List.ext_getElem?
        intro i
        by_cases hi : i < o
        · rw [List.getElem?_take_of_lt hi, List.getElem?_take_of_lt hi, List.getElem?_set_ne (by omega)]
        · rw [List.getElem?_take, List.getElem?_take, if_neg hi, if_neg hi]
      rw [g1, Array.toList_setIfInBounds, e, List.append_assoc]
      rfl
    · show (setAll (w.setCell ⟨b, o, none⟩ v) b (o + 1) r).heap.size = _
      rw [g2]; simp
/-- A struct that is laid and then filled: its block. -/
theorem box_all (W : World) (E : TypeId) (zs vs : List Value) (h : zs.length = vs.length) :
    Below W.heap.size W (setAll (W.alloc (.cells zs.toArray E)) W.heap.size 0 vs) ∧ (setAll (W.alloc (.cells zs.toArray E)) W.heap.size 0 vs).heap[W.heap.size]? = some (.cells vs.toArray E (0, 0)) ∧
      (setAll (W.alloc (.cells zs.toArray E)) W.heap.size 0 vs).heap.size = W.heap.size + 1 := by
  obtain ⟨h1, h2, h3⟩ := setAll_heap E vs (W.alloc (.cells zs.toArray E)) W.heap.size 0 zs.toArray (heap_alloc_new W _) (by simp [h])
  exact ⟨((Below.refl _ _).alloc (Nat.le_refl _) _).trans (h3.below (fun i _ hi => by omega) (by simp)), by simpa using h1, by rw [h2]; simp⟩

/-- The cells of the i-th pair. -/
theorem pairsAt {w : World} {F : Nat → Prop} {l : List PairD} {A : Option Addr} {n : Nat} (h : SRd 7 PaR w F l A n) {i : Nat} {x : PairD} (hx : l[i]? = some x) :
    ∃ ad s, A = some ad ∧ F ad.block ∧ VRd w F x.v (.agg (cellsV x.v s)) ∧ w.cell? (ad.add (i * 7)) = some (.string x.key) ∧
      w.cell? ⟨(ad.add (i * 7)).block, (ad.add (i * 7)).off + 1, none⟩ = some (.int .i64 x.v.kind) ∧ w.cell? ⟨(ad.add (i * 7)).block, (ad.add (i * 7)).off + 2, none⟩ = some (.bool x.v.truth) ∧ w.cell? ⟨(ad.add (i * 7)).block, (ad.add (i * 7)).off + 3, none⟩ = some (.int .i64 x.v.num) ∧
      w.cell? ⟨(ad.add (i * 7)).block, (ad.add (i * 7)).off + 4, none⟩ = some (.string x.v.text) ∧ w.cell? ⟨(ad.add (i * 7)).block, (ad.add (i * 7)).off + 5, none⟩ = some (.string x.v.extra) ∧ w.cell? ⟨(ad.add (i * 7)).block, (ad.add (i * 7)).off + 6, none⟩ = some s := by
  obtain ⟨ad, c, e, hF, _, hc, s, rfl, hv⟩ := h.at_ hx
  have c0 := hc 0 (by omega)
  have c1 := hc 1 (by omega)
  have c2 := hc 2 (by omega)
  have c3 := hc 3 (by omega)
  have c4 := hc 4 (by omega)
  have c5 := hc 5 (by omega)
  have c6 := hc 6 (by omega)
  rw [← add_of_add] at c1 c2 c3 c4 c5 c6
  exact ⟨ad, s, e, hF, hv, c0, c1, c2, c3, c4, c5, c6⟩

/-- May a value be a property's? -/
def plainB (v : Val) : Bool := if v.kind = 5 then mayV v 0 && v.list.all scalarB else scalarB v
/-- May properties be, behind these keys? -/
def propsG : List ByteArray → List PairD → Bool
  | _, [] => true
  | ks, p :: r => (textB p.key && (!inB ks p.key && plainB p.v)) && propsG (ks ++ [p.key]) r
def propsB (l : List PairD) : Bool := propsG [] l && decide (l.length ≤ 65536)
/-- No key, no value of a pair is too great for the machine. -/
def FitP (p : PairD) : Prop := p.key.size ≤ 2000000 ∧ sizeV p.v ≤ 2000000
theorem propsG_take (l : List PairD) : ∀ (k : Nat) (ks : List ByteArray), propsG ks l = (propsG ks (l.take k) && propsG (ks ++ (l.take k).map PairD.key) (l.drop k)) := by
  induction l with
  | nil => intro k ks; simp [propsG]
  | cons p r ih =>
    intro k ks
    cases k with
    | zero => simp [propsG]
    | succ k =>
      simp only [List.take_succ_cons, List.drop_succ_cons, propsG, List.map_cons]
      rw [ih k (ks ++ [p.key])]
      simp only [Bool.and_assoc, List.append_assoc, List.singleton_append]
theorem propsG_snoc (l : List PairD) (p : PairD) : ∀ ks : List ByteArray, propsG ks (l ++ [p]) = (propsG ks l && (textB p.key && (!inB (ks ++ l.map PairD.key) p.key && plainB p.v))) := by
  induction l with
  | nil => intro ks; simp [propsG]
  | cons q r ih =>
    intro ks
    simp only [List.cons_append, propsG, List.map_cons, ih, Bool.and_assoc, List.append_assoc]
    simp
theorem drop_here {α : Type} {l : List α} {k : Nat} {x : α} (h : l[k]? = some x) : l.drop k = x :: l.drop (k + 1) := by
  obtain ⟨h1, rfl⟩ := List.getElem?_eq_some_iff.1 h
  exact List.drop_eq_getElem_cons h1
/-- What the walk holds behind k pairs. -/
structure PropsM (w : World) (m : Nat) (l : List PairD) (k : Nat) (wr : World) : Prop where
  below : Below w.heap.size w wr
  loc : w.heap.size ≤ m
  set : SetAt 9 VS litS wr m ((l.take k).map PairD.key)
  ok : propsG [] (l.take k) = true
theorem props_no {l : List PairD} {k : Nat} {x : PairD} (hx : l[k]? = some x) (h : (textB x.key && (!inB ((l.take k).map PairD.key) x.key && plainB x.v)) = false) : propsB l = false := by
  unfold propsB
  rw [propsG_take l k [], drop_here hx, propsG, List.nil_append, h]
  simp
theorem props_yes {l : List PairD} {k : Nat} {x : PairD} (hx : l[k]? = some x) (h : (textB x.key && (!inB ((l.take k).map PairD.key) x.key && plainB x.v)) = true) (ho : propsG [] (l.take k) = true) : propsG [] (l.take (k + 1)) = true := by
  rw [take_oneMore hx, propsG_snoc, ho, List.nil_append, h]; rfl
end Go.Proofs.YtmhjbicbdahllaaGreatDoor
