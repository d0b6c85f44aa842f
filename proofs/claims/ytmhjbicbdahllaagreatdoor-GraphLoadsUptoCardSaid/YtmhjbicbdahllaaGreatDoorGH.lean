/- The walk of 'Load': nodes and edges sorted; the maps. -/
import Derived.Test.YtmhjbicbdahllaaGreatDoorGG
namespace Go.Proofs.YtmhjbicbdahllaaGreatDoor
open Go Go.RowKit Go.Maps Go.WideMaps Go.MapKept

theorem ordI_lt (a b : Int) : (ordI a b < 0) = (a < b) := by
  unfold ordI
  by_cases h1 : a < b
  · simp [h1]
  · by_cases h2 : b < a <;> simp [h1, h2]
/-- A node with its slices; an edge with its slice. -/
structure ItN where
  n : NodeD
  A : Option Addr
  c : Nat
  B : Option Addr
  d : Nat
instance : Inhabited ItN := ⟨⟨⟨0, [], []⟩, none, 0, none, 0⟩⟩
def encN (x : ItN) : List Value := [.int .i64 x.n.id, .slice x.A x.n.labels.length x.c, .slice x.B x.n.props.length x.d]
structure ItE where
  e : EdgeD
  A : Option Addr
  c : Nat
instance : Inhabited ItE := ⟨⟨⟨0, 0, 0, ⟨#[]⟩, []⟩, none, 0⟩⟩
def encE (x : ItE) : List Value := [.int .i64 x.e.id, .int .i64 x.e.src, .int .i64 x.e.dst, .string x.e.type, .slice x.A x.e.props.length x.c]
set_option maxRecDepth 100000 in
set_option maxHeartbeats 1000000 in
theorem cmpN_any (x y : ItN) (W : World) : Calls Tryz.prog 35 #[.agg (encN x).toArray, .agg (encN y).toArray] W fun e w' => e = .returned (.int .i64 (ordI x.n.id y.n.id)) ∧ ∃ q os', w' = Go.Sort.grow (W.drewN q) os' := by
  have hcon := Lib.hid (fun W' => order_ok x.n.id y.n.id W')
  generalize ordI x.n.id y.n.id = r at hcon ⊢
  unfold encN
  go_enter Tryz.func35, Tryz.ntmps35
  go_wp2_with fail
  refine (hcon.out _).mono ?_
  rintro e w' ⟨rfl, rfl⟩
  go_wp2_with fail
  go_ret
  exact ⟨rfl, 0, _, by rw [Go.Sort.alloc_eq_grow, Go.Sort.alloc_eq_grow, Go.Sort.grow_grow]; rfl⟩
set_option maxRecDepth 100000 in
set_option maxHeartbeats 1000000 in
theorem cmpE_any (x y : ItE) (W : World) : Calls Tryz.prog 38 #[.agg (encE x).toArray, .agg (encE y).toArray] W fun e w' => e = .returned (.int .i64 (ordI x.e.id y.e.id)) ∧ ∃ q os', w' = Go.Sort.grow (W.drewN q) os' := by
  have hcon := Lib.hid (fun W' => order_ok x.e.id y.e.id W')
  generalize ordI x.e.id y.e.id = r at hcon ⊢
  unfold encE
  go_enter Tryz.func38, Tryz.ntmps38
  go_wp2_with fail
  refine (hcon.out _).mono ?_
  rintro e w' ⟨rfl, rfl⟩
  go_wp2_with fail
  go_ret
  exact ⟨rfl, 0, _, by rw [Go.Sort.alloc_eq_grow, Go.Sort.alloc_eq_grow, Go.Sort.grow_grow]; rfl⟩
theorem swoI {I : Type} (κ : I → Int) : Go.Sort.SWO (ltOf fun x y : I => ordI (κ x) (κ y)) where
  irrefl x := by unfold ltOf; rw [decide_eq_false_iff_not, ordI_lt]; omega
  trans x y z h1 h2 := by
    unfold ltOf at *
    rw [decide_eq_true_iff, ordI_lt] at *
    omega
  ntrans x y z h1 h2 := by
    unfold ltOf at *
    rw [decide_eq_false_iff_not, ordI_lt] at *
    omega
theorem itN {w : World} {F : Nat → Prop} {x : NodeD} {c : Array Value} (h : NoR w F x c) : ∃ it, encN it = c.toList ∧ it.n = x := by
  obtain ⟨L, P, rfl, ⟨A, c1, rfl, _⟩, B, c2, rfl, _⟩ := h
  exact ⟨⟨x, A, c1, B, c2⟩, rfl, rfl⟩
theorem itE {w : World} {F : Nat → Prop} {x : EdgeD} {c : Array Value} (h : EdR w F x c) : ∃ it, encE it = c.toList ∧ it.e = x := by
  obtain ⟨P, rfl, A, c1, rfl, _⟩ := h
  exact ⟨⟨x, A, c1⟩, rfl, rfl⟩
/-- A sort's outcome. -/
def SortsTo {α : Type} (sz : Nat) (R : Lies α) (le : α → α → Prop) (F : Nat → Prop) (l : List α) (s : Value) (w : World) (e : Ending) (w' : World) : Prop :=
  e = .returned (.tuple #[]) ∧ ∃ l' : List α, (l'.Perm l ∧ l'.Pairwise le) ∧ SlR sz R w' F l' s ∧ Turn (fun b => s.ownBlock = some b) w w'
def leN (a b : NodeD) : Prop := ¬ ordI b.id a.id < 0
def leE (a b : EdgeD) : Prop := ¬ ordI b.id a.id < 0
set_option maxRecDepth 100000 in
theorem sortN_any {w : World} {F : Nat → Prop} {l : List NodeD} {s : Value} (h : SOwn 38 3 NoR w F l s) (hlen : l.length ≤ 100000000) (hF : ∀ b, F b → b < w.heap.size) :
    Calls Tryz.prog 34 #[s, .func (.func 35) #[] #[]] w (SortsTo 3 NoR leN F l s w) :=
  (sort_own Tryz.sortN NoR.good (by decide) Tryz.isAgg38 Tryz.sizeOf38 encN ItN.n (fun _ => rfl) (fun x v hv => by simp [encN] at hv; rcases hv with rfl | rfl | rfl <;> rfl) itN (fun a b => ordI a.id b.id) (swoI fun x : ItN => x.n.id) 35 (enters_of Tryz.func35 (by kernel_rfl) rfl) cmpN_any h hlen hF).mono fun _ _ ⟨he, l', h1, h2, h3, h4⟩ => ⟨he, l', ⟨h1, h2⟩, h3, h4⟩
set_option maxRecDepth 100000 in
theorem sortE_any {w : World} {F : Nat → Prop} {l : List EdgeD} {s : Value} (h : SOwn 41 5 EdR w F l s) (hlen : l.length ≤ 100000000) (hF : ∀ b, F b → b < w.heap.size) :
    Calls Tryz.prog 37 #[s, .func (.func 38) #[] #[]] w (SortsTo 5 EdR leE F l s w) :=
  (sort_own Tryz.sortE EdR.good (by decide) Tryz.isAgg41 Tryz.sizeOf41 encE ItE.e (fun _ => rfl) (fun x v hv => by simp [encE] at hv; rcases hv with rfl | rfl | rfl | rfl | rfl <;> rfl) itE (fun a b => ordI a.id b.id) (swoI fun x : ItE => x.e.id) 38 (enters_of Tryz.func38 (by kernel_rfl) rfl) cmpE_any h hlen hF).mono fun _ _ ⟨he, l', h1, h2, h3, h4⟩ => ⟨he, l', ⟨h1, h2⟩, h3, h4⟩

/-- Numbers of scanned lists are unlike. -/
theorem scan_nodup {α : Type} {ok : List Int → α → Bool} {key : α → Int} (hok : ∀ ks x, ok ks x = true → key x ∉ ks) {l : List α} : ∀ {ks : List Int}, ks.Nodup → scanG ok key ks l = true → (ks ++ l.map key).Nodup := by
  induction l with
  | nil => intro ks hk _; simpa using hk
  | cons x r ih =>
    intro ks hk h
    simp only [scanG, Bool.and_eq_true] at h
    have hn := hok ks x h.1
    have h2 := ih (ks := ks ++ [key x]) (by
      rw [List.nodup_append]
      refine ⟨hk, by simp, fun a ha b hb e => ?_⟩
      simp at hb
      subst hb
      exact hn (e ▸ ha)) h.2
    simpa using h2
theorem okN_new {ks : List Int} {x : NodeD} (h : okN ks x = true) : x.id ∉ ks := by
  unfold okN at h
  simp only [Bool.and_eq_true, Bool.not_eq_true'] at h
  intro hx
  rw [inB_yes hx] at h
  simp at h
theorem okE_new {ns ks : List Int} {x : EdgeD} (h : okE ns ks x = true) : x.id ∉ ks := by
  unfold okE at h
  simp only [Bool.and_eq_true, Bool.not_eq_true'] at h
  intro hx
  rw [inB_yes hx] at h
  simp at h
theorem all2_map {α β γ : Type} {R : α → β → Prop} {f : α → γ} {g : β → γ} (h : ∀ x y, R x y → g y = f x) {l : List α} {m : List β} (ha : All2 R l m) : m.map g = l.map f := by
  apply List.ext_getElem?
  intro i
  rw [List.getElem?_map, List.getElem?_map]
  cases hx : l[i]? with
  | none =>
    have h2 : m[i]? = none := by
      rw [List.getElem?_eq_none_iff] at hx ⊢
      rw [← ha.1]; exact hx
    rw [h2]; rfl
  | some x =>
    have hi := idx_lt hx
    have hm : i < m.length := by rw [← ha.1]; exact hi
    have h2 := List.getElem?_eq_getElem hm
    rw [h2]
    simp [h x _ (ha.2 i x _ hx h2)]
theorem perm_ids {α : Type} {key : α → Int} {l m : List α} (h : l.Perm m) (hm : (m.map key).Nodup) : (l.map key).Nodup := (h.map key).nodup_iff.2 hm
theorem take_new {α : Type} {key : α → Int} {l : List α} (hn : (l.map key).Nodup) {k : Nat} {x : α} (hx : l[k]? = some x) : key x ∉ (l.take k).map key := by
  intro h
  obtain ⟨y, hy, he⟩ := List.mem_map.1 h
  obtain ⟨i, hi⟩ := List.mem_iff_getElem?.1 hy
  have hik : i < k := by have := idx_lt hi; rw [List.length_take] at this; omega
  rw [List.getElem?_take_of_lt hik] at hi
  obtain ⟨h1, rfl⟩ := List.getElem?_eq_some_iff.1 hi
  obtain ⟨h2, rfl⟩ := List.getElem?_eq_some_iff.1 hx
  unfold List.Nodup at hn
  rw [List.pairwise_iff_getElem] at hn
  have h3 := hn i k (by rw [List.length_map]; exact h1) (by rw [List.length_map]; exact h2) hik
  rw [List.getElem_map, List.getElem_map] at h3
  exact h3 he

theorem All2.mem {α β : Type} {R : α → β → Prop} {l : List α} {m : List β} (h : All2 R l m) {y : β} (hy : y ∈ m) : ∃ x, x ∈ l ∧ R x y := by
  obtain ⟨i, hi⟩ := List.mem_iff_getElem?.1 hy
  have hl : i < l.length := by rw [h.1]; exact idx_lt hi
  have hx := List.getElem?_eq_getElem hl
  exact ⟨_, List.mem_of_getElem? hx, h.2 i _ y hx hi⟩
/-- The sorted nodes' numbers. -/
theorem srt_nodes {g : GraphD} {ns NS : List NodeD} (hfit : FitG g) (hok : scanG okN NodeD.id [] g.nodes = true) (hall : All2 SrtN g.nodes ns) (hp : NS.Perm ns) : (NS.map NodeD.id).Nodup ∧ ∀ x, x ∈ NS → VI x.id := by
  constructor
  · refine perm_ids hp ?_
    rw [all2_map (R := SrtN) (f := NodeD.id) (g := NodeD.id) (fun x y h => h.1) hall]
    exact scan_nodup (fun ks x h => okN_new h) List.nodup_nil hok
  · intro x hx
    obtain ⟨y, hy, hr⟩ := hall.mem (hp.mem_iff.1 hx)
    rw [hr.1]
    exact (hfit.2.2.1 y hy).2
/-- The sorted edges' numbers. -/
theorem srt_edges {g : GraphD} {es ES : List EdgeD} (hfit : FitG g) (hok : scanG (okE (g.nodes.map NodeD.id)) EdgeD.id [] g.edges = true) (hall : All2 SrtE g.edges es) (hp : ES.Perm es) : (ES.map EdgeD.id).Nodup ∧ ∀ x, x ∈ ES → VI x.id ∧ VI x.src ∧ VI x.dst := by
  constructor
  · refine perm_ids hp ?_
    rw [all2_map (R := SrtE) (f := EdgeD.id) (g := EdgeD.id) (fun x y h => h.1) hall]
    exact scan_nodup (fun ks x h => okE_new h) List.nodup_nil hok
  · intro x hx
    obtain ⟨y, hy, hr⟩ := hall.mem (hp.mem_iff.1 hx)
    rw [hr.1, hr.2.1, hr.2.2.1]
    exact (hfit.2.2.2 y hy).2
theorem SlR.rd {α : Type} {R : Lies α} {w : World} {F : Nat → Prop} {l : List α} {sz n c : Nat} {A : Option Addr} (h : SlR sz R w F l (.slice A n c)) : SRd sz R w F l A n := by
  obtain ⟨A', cap, e, _, hr⟩ := h
  injection e with h1 h2 h3
  subst h1 h2
  exact hr
/-- One number's place more. -/
theorem PlaceAt.more {w : World} {m : Nat} {ids : List Int} (h : PlaceAt w m ids) {x : Int} (hx : VI x) (hnew : x ∉ ids) (hn : ids.length ≤ 100000000) :
    ∃ w', (Instr.mapUpdate 63 (.map (some m)) (.int .i64 x) (.int .i64 ((ids.length : Nat) : Int))).run Tryz.prog w = .ok () w' ∧ PlaceAt w' m (ids ++ [x]) ∧ Turn (fun b => b = m) w w' := by
  obtain ⟨D, h1, h2⟩ := h
  have hkey : keyOf Tryz.prog 2 (.int .i64 x) = some (litI x) := keyOf_int_mk Tryz.underlying2 hx
  obtain ⟨w', hrun, hown, hturn⟩ := h1.store lawI Tryz.underlying63 (by unfold maxLen; omega) hkey (plainElem_int (P := Tryz.prog) (e := 3) (q := .i64) Tryz.underlying3 (a := ((ids.length : Nat) : Int)) (by
    simp [Lit.wf, IntKind.min, IntKind.max, IntKind.signed, IntKind.bits]; omega))
  refine ⟨w', hrun, ⟨_, ?_, ids_put litI_inj litI_key h2 hx hnew⟩, (Turn.of_grown hturn.grown).mono (fun i _ h => by injection h)⟩
  rw [List.length_append, List.length_singleton]
  exact hown
theorem PlaceAt.fresh {w : World} {m : Nat} (h : w.heap[m]? = some (.map #[] 0)) : PlaceAt w m [] :=
  ⟨.map [], ⟨#[], 0, h, ⟨by simp, stamped_empty 0, by simp⟩, Nat.le_refl _, rfl⟩, ids_empty⟩
theorem HopsAt.fresh {w : World} {m base : Nat} (h : w.heap[m]? = some (.map #[] 0)) (hb : m < base) : HopsAt w base m 0 (hopsG []) :=
  ⟨.map [], ⟨#[], 0, h, ⟨by simp, stamped_empty 0, by simp⟩, Nat.le_refl _, rfl, hb, by simp, by simp⟩, fun a d _ _ => rfl⟩
/-- What 'Load' holds while it fills its maps. -/
structure Load3 (w : World) (z mid : Nat) (NS : List NodeD) (ES : List EdgeD) (Ns Es : Value) (ids eids : List Int) (n : Nat) (H : Int → Int → List Nat) (wr : World) : Prop where
  below : Below z w wr
  store : wr.heap[z + 4]? = some (.cells #[Ns, Es, .map (some (z + 1)), .map (some (z + 2)), .map (some (z + 3))] 65 (0, 0))
  nodes : SlR 3 NoR wr (fun b => z + 6 ≤ b ∧ b < mid) NS Ns
  edges : SlR 5 EdR wr (fun b => z + 6 ≤ b ∧ b < mid) ES Es
  at_ : PlaceAt wr (z + 3) ids
  types : PlaceAt wr (z + 2) eids
  hops : HopsAt wr mid (z + 1) n H
  loc : z + 6 ≤ mid ∧ mid ≤ wr.heap.size
section
variable {w : World} {z mid : Nat} {NS : List NodeD} {ES : List EdgeD} {Ns Es : Value} {ids eids ids' eids' : List Int} {n n' : Nat} {H H' : Int → Int → List Nat} {wr w2 : World}
theorem Load3.upd (h : Load3 w z mid NS ES Ns Es ids eids n H wr) {S : Nat → Prop} (ht : Turn S wr w2) (hS : ∀ b, S b → (z ≤ b ∧ b < z + 4) ∨ mid ≤ b) (h1 : PlaceAt w2 (z + 3) ids') (h2 : PlaceAt w2 (z + 2) eids') (h3 : HopsAt w2 mid (z + 1) n' H') : Load3 w z mid NS ES Ns Es ids' eids' n' H' w2 := by
  obtain ⟨l1, l2⟩ := h.loc
  have hn : ∀ b, z + 4 ≤ b → b < mid → ¬ S b := fun b h1 h2 hs => by
    rcases hS b hs with h | h <;> omega
  exact ⟨h.below.trans (ht.below (B := z) (fun i _ hi => by rcases hS i hi with h | h <;> omega) (by omega)), (ht.block _ (by omega) (hn _ (by omega) (by omega))).trans h.store, h.nodes.turn NoR.good ht (fun b hb => by omega) (fun b hb => hn b (by omega) hb.2), h.edges.turn EdR.good ht (fun b hb => by omega) (fun b hb => hn b (by omega) hb.2), h1, h2, h3, ⟨l1, Nat.le_trans l2 ht.size⟩⟩
theorem Load3.on (h : Load3 w z mid NS ES Ns Es ids eids n H wr) (hb : Below wr.heap.size wr w2) : Load3 w z mid NS ES Ns Es ids eids n H w2 := by
  have l := h.loc
  have ht : Turn (fun b => wr.heap.size ≤ b) wr w2 := Turn.of_below hb
  have ht2 : Turn (fun _ => False) wr w2 := ⟨ht.os, ht.tape, ht.output, ht.size, fun i hi _ => ht.block i hi (by omega)⟩
  exact h.upd ht (fun b hb => .inr (by omega)) (h.at_.turn ht2 id) (h.types.turn ht2 id) (h.hops.turn ht2 id (fun _ _ => id))
theorem Load3.done (h : Load3 w z mid NS ES Ns Es (NS.map NodeD.id) (ES.map EdgeD.id) n (hopsG ES) wr) (hn : n ≤ 1000000) : StoreIs wr z (z + 4) ⟨NS, ES⟩ := by
  obtain ⟨l1, l2⟩ := h.loc
  exact ⟨Ns, Es, z + 1, z + 2, z + 3, mid, n, h.store, h.nodes.mono NoR.good (fun b hb => ⟨by omega, hb.2⟩), h.edges.mono EdR.good (fun b hb => ⟨by omega, hb.2⟩), h.types, h.at_, h.hops, by omega, hn⟩
theorem not_rowFree {w : World} {b : Nat} {cs : Array Value} {f : Nat × Nat} (h : w.heap[b]? = some (.cells cs 41 f)) : ¬ RowFree w b := fun hr => absurd (hr _ _ _ h) (by decide)
theorem box_keep {w3 w4 : World} {zn q mid : Nat} {cs : Array Value} {f : Nat × Nat} (hK : w3.heap[zn]? = some (.cells cs 41 f)) (hne : zn ≠ q) (ht : Turn (fun b => b = q ∨ (mid ≤ b ∧ RowFree w3 b)) w3 w4) : w4.heap[zn]? = some (.cells cs 41 f) :=
  (ht.block zn (blk_lt hK) (fun hx => by
    rcases hx with hx | hx
    · exact hne hx
    · exact not_rowFree hK hx.2)).trans hK
theorem vi1 : VI 1 := by unfold VI; decide
theorem vi0 : VI 0 := by unfold VI; decide
theorem vim : VI (-1) := by unfold VI; decide
/-- One spoke more. -/
theorem Load3.spoke (h : Load3 w z mid NS ES Ns Es ids eids n H wr) (hh : HopsAt w2 mid (z + 1) n' H') (ht : Turn (fun b => b = z + 1 ∨ (mid ≤ b ∧ RowFree wr b)) wr w2) : Load3 w z mid NS ES Ns Es ids eids n' H' w2 := by
  have l := h.loc
  refine h.upd ht (fun b hb => ?_) (h.at_.turn ht (fun hx => ?_)) (h.types.turn ht (fun hx => ?_)) hh
  · rcases hb with hb | hb
    · exact .inl ⟨by omega, by omega⟩
    · exact .inr hb.1
  · rcases hx with hx | hx
    · omega
    · have := hx.1; omega
  · rcases hx with hx | hx
    · omega
    · have := hx.1; omega
/-- From the edges to the maps: both rows are sorted. -/
theorem Load2.next {z2 : Nat} {nids : List Int} {ns NS : List NodeD} {l es ES : List EdgeD} {ids : List Int} {k : Nat} {w4 w5 : World} (h : Load2 w z z2 nids ns Ns l ids k es Es wr)
    (hN : SlR 3 NoR w4 (fun b => z + 6 ≤ b ∧ b < z2) NS Ns) (ht4 : Turn (fun b => Ns.ownBlock = some b) wr w4) (hE : SlR 5 EdR w5 (fun b => z2 + 1 ≤ b ∧ b < w4.heap.size) ES Es) (ht5 : Turn (fun b => Es.ownBlock = some b) w4 w5) :
    Load3 w z w5.heap.size NS ES Ns Es [] [] 0 (hopsG []) w5 := by
  have hz : z2 < wr.heap.size := h.set.lt
  have hf := h.far
  have h4 : wr.heap.size ≤ w4.heap.size := ht4.size
  have h5 : w4.heap.size ≤ w5.heap.size := ht5.size
  have hno : ∀ b, Ns.ownBlock = some b → z + 6 ≤ b ∧ b < z2 := fun b hb => by obtain ⟨cs, _, _, hFw, _⟩ := h.nodes; exact hFw b hb
  have heo : ∀ b, Es.ownBlock = some b → z2 + 1 ≤ b := fun b hb => by obtain ⟨cs, _, _, hFw, _⟩ := h.own; exact (hFw b hb).1
  have hkeep : ∀ b, b < z + 6 → w5.heap[b]? = wr.heap[b]? := fun b hb => (ht5.block b (by omega) (fun hx => by have := heo b hx; omega)).trans (ht4.block b (by omega) (fun hx => by have := (hno b hx).1; omega))
  refine ⟨(h.below.trans (ht4.below (B := z) (fun i _ hi => by have := (hno i hi).1; omega) (by omega))).trans (ht5.below (B := z) (fun i _ hi => by have := heo i hi; omega) (by omega)), (hkeep _ (by omega)).trans h.store,
    (hN.turn NoR.good ht5 (fun b hb => by omega) (fun b hb hx => by have := heo b hx; omega)).mono NoR.good (fun b hb => ⟨hb.1, by omega⟩), hE.mono EdR.good (fun b hb => ⟨by omega, by omega⟩),
    PlaceAt.fresh ((hkeep _ (by omega)).trans h.m3), PlaceAt.fresh ((hkeep _ (by omega)).trans h.m2), HopsAt.fresh ((hkeep _ (by omega)).trans h.m1) (by omega), by omega, Nat.le_refl _⟩
end
/-- The spokes of one edge. -/
theorem hops_more (es : List EdgeD) (e : EdgeD) : hopsG (es ++ [e]) = (if e.dst = e.src then hopMore (hopMore (hopMore (hopsG es) e.src 1 es.length) e.dst (-1) es.length) e.src 0 es.length else hopMore (hopMore (hopMore (hopMore (hopsG es) e.src 1 es.length) e.dst (-1) es.length) e.src 0 es.length) e.dst 0 es.length) := by
  funext a d
  rw [hops_snoc]
  by_cases hs : e.dst = e.src
  · rw [if_pos hs]
    unfold hopMore hopB
    rw [hs]
    by_cases ha : a = e.src
    · subst ha
      by_cases h1 : d = 1
      · subst h1; simp
      · by_cases h2 : d = -1
        · subst h2; simp
        · by_cases h3 : d = 0
          · subst h3; simp
          · simp [h1, h2, h3]
    · have ha' : e.src ≠ a := fun h => ha h.symm
      simp [ha, ha']
  · rw [if_neg hs]
    unfold hopMore hopB
    by_cases ha : a = e.src
    · subst ha
      have hs' : e.src ≠ e.dst := fun h => hs h.symm
      by_cases h1 : d = 1
      · subst h1; simp [hs']
      · by_cases h2 : d = -1
        · subst h2; simp [hs, hs']
        · by_cases h3 : d = 0
          · subst h3; simp [hs']
          · simp [h1, h2, h3]
    · have ha' : e.src ≠ a := fun h => ha h.symm
      by_cases hb : a = e.dst
      · subst hb
        by_cases h1 : d = 1
        · subst h1; simp [ha, ha']
        · by_cases h2 : d = -1
          · subst h2; simp [ha]
          · by_cases h3 : d = 0
            · subst h3; simp [ha]
            · simp [h1, h2, h3]
      · have hb' : e.dst ≠ a := fun h => hb h.symm
        simp [ha, ha', hb, hb']
end Go.Proofs.YtmhjbicbdahllaaGreatDoor
