/- Which graphs may be; a store in memory. -/
import Derived.Test.YtmhjbicbdahllaaGreatDoorGC
namespace Go.Proofs.YtmhjbicbdahllaaGreatDoor
open Go Go.RowKit Go.Maps Go.WideMaps

/-- A list whose elements may each be, behind the keys of those before. -/
def scanG {α K : Type} (ok : List K → α → Bool) (key : α → K) : List K → List α → Bool
  | _, [] => true
  | ks, x :: r => ok ks x && scanG ok key (ks ++ [key x]) r
section
variable {α K : Type} {ok : List K → α → Bool} {key : α → K}
theorem scan_take (l : List α) : ∀ (k : Nat) (ks : List K), scanG ok key ks l = (scanG ok key ks (l.take k) && scanG ok key (ks ++ (l.take k).map key) (l.drop k)) := by
  induction l with
  | nil => intro k ks; simp [scanG]
  | cons p r ih =>
    intro k ks
    cases k with
    | zero => simp [scanG]
    | succ k =>
      simp only [List.take_succ_cons, List.drop_succ_cons, scanG, List.map_cons]
      rw [ih k (ks ++ [key p])]
      simp only [Bool.and_assoc, List.append_assoc, List.singleton_append]
theorem scan_snoc (l : List α) (p : α) : ∀ ks : List K, scanG ok key ks (l ++ [p]) = (scanG ok key ks l && ok (ks ++ l.map key) p) := by
  induction l with
  | nil => intro ks; simp [scanG]
  | cons q r ih =>
    intro ks
    simp only [List.cons_append, scanG, List.map_cons, ih, Bool.and_assoc, List.append_assoc]
    simp
theorem scan_no {l : List α} {k : Nat} {x : α} (hx : l[k]? = some x) (h : ok ((l.take k).map key) x = false) : scanG ok key [] l = false := by
  rw [scan_take l k [], drop_here hx, scanG, List.nil_append, h]
  simp
theorem scan_yes {l : List α} {k : Nat} {x : α} (hx : l[k]? = some x) (h : ok ((l.take k).map key) x = true) (ho : scanG ok key [] (l.take k) = true) : scanG ok key [] (l.take (k + 1)) = true := by
  rw [take_oneMore hx, scan_snoc, ho, List.nil_append, h]; rfl
theorem scan_mem {l : List α} (h : scanG ok key [] l = true) {k : Nat} {x : α} (hx : l[k]? = some x) : ok ((l.take k).map key) x = true := by
  cases hok : ok ((l.take k).map key) x with
  | true => rfl
  | false => rw [scan_no hx hok] at h; cases h
end
/-- May a node be, behind these numbers? -/
def okN (ids : List Int) (n : NodeD) : Bool := decide (0 ≤ n.id) && (!inB ids n.id && (lablG [] n.labels && (decide (n.labels.length ≤ 65536) && propsB n.props)))
/-- May an edge be, between these nodes, behind these numbers? -/
def okE (ns : List Int) (ids : List Int) (e : EdgeD) : Bool := decide (0 ≤ e.id) && (!inB ids e.id && (inB ns e.src && (inB ns e.dst && (textB e.type && propsB e.props))))
/-- May a graph be? -/
def mayG (g : GraphD) : Bool := decide (g.nodes.length ≤ 131072 ∧ g.edges.length ≤ 65536) && (scanG okN NodeD.id [] g.nodes && scanG (okE (g.nodes.map NodeD.id)) EdgeD.id [] g.edges)

/-- Two lists, element by element. -/
def All2 {α β : Type} (R : α → β → Prop) (l : List α) (m : List β) : Prop := l.length = m.length ∧ ∀ (i : Nat) (x : α) (y : β), l[i]? = some x → m[i]? = some y → R x y
theorem All2.nil {α β : Type} (R : α → β → Prop) : All2 R ([] : List α) [] := ⟨rfl, fun i x y h => by simp at h⟩
theorem All2.snoc {α β : Type} {R : α → β → Prop} {l : List α} {m : List β} {x : α} {y : β} (h : All2 R l m) (hxy : R x y) : All2 R (l ++ [x]) (m ++ [y]) := by
  refine ⟨by simp [h.1], fun i a b ha hb => ?_⟩
  rcases Nat.lt_or_ge i l.length with hi | hi
  · rw [List.getElem?_append_left hi] at ha
    rw [List.getElem?_append_left (by rw [← h.1]; exact hi)] at hb
    exact h.2 i a b ha hb
  · rw [List.getElem?_append_right hi] at ha
    rw [List.getElem?_append_right (by rw [← h.1]; exact hi), ← h.1] at hb
    have h0 : i - l.length = 0 := by have := idx_lt ha; simp at this; omega
    rw [h0] at ha hb
    simp at ha hb
    subst ha hb
    exact hxy
/-- The same graph, all sorted. -/
def SrtNs (l l' : List NodeD) : Prop := ∃ m, All2 SrtN l m ∧ l'.Perm m ∧ l'.Pairwise (fun a b => ¬ ordI b.id a.id < 0)
def SrtEs (l l' : List EdgeD) : Prop := ∃ m, All2 SrtE l m ∧ l'.Perm m ∧ l'.Pairwise (fun a b => ¬ ordI b.id a.id < 0)
def SrtG (g g' : GraphD) : Prop := SrtNs g.nodes g'.nodes ∧ SrtEs g.edges g'.edges

/-- Does an edge lead from a node in a direction? -/
def hopB (e : EdgeD) (a d : Int) : Bool := (d == 1 && e.src == a) || ((d == -1 && e.dst == a) || (d == 0 && (e.src == a || e.dst == a)))
/-- The places of such edges. -/
def hopsG (es : List EdgeD) (a d : Int) : List Nat := (List.range es.length).filter fun i => (es[i]?.map fun e => hopB e a d).getD false
theorem hops_nil (a d : Int) : hopsG [] a d = [] := rfl
theorem hops_snoc (es : List EdgeD) (e : EdgeD) (a d : Int) : hopsG (es ++ [e]) a d = hopsG es a d ++ (if hopB e a d then [es.length] else []) := by
  unfold hopsG
  rw [List.length_append, List.length_singleton, List.range_succ, List.filter_append]
  congr 1
  · apply List.filter_congr
    intro i hi
    rw [List.getElem?_append_left (List.mem_range.1 hi)]
  · simp [List.filter_cons]

/-- Numbers told by a map: each number's place. -/
def PlaceAt (w : World) (m : Nat) (ids : List Int) : Prop := ∃ D : DataW Unit, w.ownsMap Tryz.prog 2 (plainElem Tryz.prog 3) m ids.length D ∧ IdsOf VI litI D ids
theorem PlaceAt.turn {w w' : World} {m : Nat} {ids : List Int} {S : Nat → Prop} (h : PlaceAt w m ids) (ht : Turn S w w') (hS : ¬ S m) : PlaceAt w' m ids := by
  obtain ⟨D, h1, h2⟩ := h
  exact ⟨D, ht.map h1 hS, h2⟩
theorem PlaceAt.lt {w : World} {m : Nat} {ids : List Int} (h : PlaceAt w m ids) : m < w.heap.size := by
  obtain ⟨D, ⟨es, clock, hb, _⟩, _⟩ := h
  exact blk_lt hb
/-- A store in memory: its struct in block p, all that it leads to from block lo on. -/
structure StoreAt (w : World) (lo p : Nat) (g : GraphD) (Ns Es : Value) (mh mt ma mid n : Nat) : Prop where
  blk : w.heap[p]? = some (.cells #[Ns, Es, .map (some mh), .map (some mt), .map (some ma)] 65 (0, 0))
  nodes : SlR 3 NoR w (fun b => lo ≤ b ∧ b < mid) g.nodes Ns
  edges : SlR 5 EdR w (fun b => lo ≤ b ∧ b < mid) g.edges Es
  types : PlaceAt w mt (g.edges.map EdgeD.id)
  at_ : PlaceAt w ma (g.nodes.map NodeD.id)
  hops : HopsAt w mid mh n (hopsG g.edges)
  loc : lo ≤ p ∧ lo ≤ mh ∧ lo ≤ mt ∧ lo ≤ ma ∧ mid ≤ w.heap.size ∧ mh < mid
  few : n ≤ 1000000
def StoreIs (w : World) (lo p : Nat) (g : GraphD) : Prop := ∃ Ns Es mh mt ma mid n, StoreAt w lo p g Ns Es mh mt ma mid n
theorem StoreAt.turn {w w' : World} {lo p : Nat} {g : GraphD} {Ns Es : Value} {mh mt ma mid n : Nat} {S : Nat → Prop} (h : StoreAt w lo p g Ns Es mh mt ma mid n) (ht : Turn S w w') (hS : ∀ b, lo ≤ b → b < w.heap.size → ¬ S b) : StoreAt w' lo p g Ns Es mh mt ma mid n := by
  have hp := blk_lt h.blk
  obtain ⟨l1, l2, l3, l4, l5, l6⟩ := h.loc
  have hh := h.hops
  refine ⟨(ht.block p hp (hS p l1 hp)).trans h.blk, h.nodes.turn NoR.good ht (fun b hb => by omega) (fun b hb => hS b hb.1 (by omega)), h.edges.turn EdR.good ht (fun b hb => by omega) (fun b hb => hS b hb.1 (by omega)),
    h.types.turn ht (hS mt l3 h.types.lt), h.at_.turn ht (hS ma l4 h.at_.lt), ?_, ⟨l1, l2, l3, l4, Nat.le_trans l5 ht.size, l6⟩, h.few⟩
  have ht2 : Turn (fun b => S b ∧ b < w.heap.size) w w' := ⟨ht.os, ht.tape, ht.output, ht.size, fun i hi hn => ht.block i hi (fun hs => hn ⟨hs, hi⟩)⟩
  exact hh.turn ht2 (fun hx => hS mh l2 hx.2 hx.1) (fun b hb hx => hS b (by omega) hx.2 hx.1)
theorem StoreIs.turn {w w' : World} {lo p : Nat} {g : GraphD} {S : Nat → Prop} (h : StoreIs w lo p g) (ht : Turn S w w') (hS : ∀ b, lo ≤ b → b < w.heap.size → ¬ S b) : StoreIs w' lo p g := by
  obtain ⟨Ns, Es, mh, mt, ma, mid, n, h⟩ := h
  exact ⟨Ns, Es, mh, mt, ma, mid, n, h.turn ht hS⟩
theorem StoreIs.below {w w' : World} {lo p : Nat} {g : GraphD} (h : StoreIs w lo p g) (hb : Below w.heap.size w w') : StoreIs w' lo p g := h.turn (Turn.of_below hb) (fun b _ h1 h2 => by omega)

/-- No part of a graph is too great for the machine. -/
def FitG (g : GraphD) : Prop := g.nodes.length ≤ 2000000 ∧ g.edges.length ≤ 2000000 ∧ (∀ n, n ∈ g.nodes → FitN n ∧ VI n.id) ∧ ∀ e, e ∈ g.edges → FitE e ∧ VI e.id ∧ VI e.src ∧ VI e.dst
/-- What 'Load' makes of a graph. -/
def LoadIs (g : GraphD) (w : World) (e : Ending) (w' : World) : Prop :=
  Below w.heap.size w w' ∧ ((mayG g = false ∧ e = .returned (.tuple #[.pointer none, .int .i64 21])) ∨
    (mayG g = true ∧ ∃ p g', e = .returned (.tuple #[.pointer (some ⟨p, 0, none⟩), .int .i64 0]) ∧ StoreIs w' w.heap.size p g' ∧ SrtG g g'))
end Go.Proofs.YtmhjbicbdahllaaGreatDoor
