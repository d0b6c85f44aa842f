/- The law DictValues: what it holds while it runs. -/
import Derived.Test.YtdhnmgndekncpaaDoorVS
import Derived.Test.YtdhnmgndekncpaaDoorM1
import Derived.Deep.RegionHeld3
namespace Go.Proofs.YtdhnmgndekncpaaDoor
open Go Go.RowKit Go.Maps Go.WideMaps

theorem sameV_any (a b : Val) (hs : sizeV a ≤ 1000000000) (F G : Nat → Prop) (u1 u2 : Value) (w : World) (hF : ∀ g, F g → g < w.heap.size) (hG : ∀ g, G g → g < w.heap.size) (h1 : VRd w F a u1) (h2 : VRd w G b u2) :
    Calls Tryd.prog 50 #[u1, u2] w (ToldB (sameB a b) w) := by
  obtain ⟨A, ca, rfl, _, la⟩ := h1.inv
  obtain ⟨B, cb, rfl, _, lb⟩ := h2.inv
  have hl := sizeL_list a
  exact same_step a b A B ca cb w hF hG la lb (fun w' x1 x2 x3 x4 => row_any (sizeL a.list + 1) a.list b.list (by omega) F G A B _ _ ca cb w' (by omega) x3 x4 x1 x2)
theorem copyV_any (v : Val) (hs : sizeV v ≤ 100000000) (F : Nat → Prop) (u : Value) (w : World) (hF : ∀ g, F g → g < w.heap.size) (hv : VRd w F v u) :
    Calls Tryd.prog 46 #[u] w (CopyVIs v w) := by
  obtain ⟨A, cap, rfl, _, hl⟩ := hv.inv
  have hz := sizeL_list v
  exact copy_step v A cap w hF hl (fun w' h1 h2 => copy_any (sizeL v.list + 1) v.list (by omega) (by omega) F A _ cap w' h2 h1)
theorem DictV.turn {S : Nat → Prop} {w w' : World} {B p b m : Nat} {v : Value} {ks : List ByteArray} {D : DataW Unit} (h : DictV w B p b m v ks D) (ht : Turn S w w') (hp : ¬ S p) (hb : ¬ S b) (hm : ¬ S m) (hv : ∀ g, v.ownBlock = some g → ¬ S g) : DictV w' B p b m v ks D :=
  ⟨(ht.block p (Array.getElem?_eq_some_iff.1 h.blk).1 hp).trans h.blk, h.dict.turn ht hb hm hv, h.lop⟩
theorem DictV.on {w w' : World} {B p b m : Nat} {v : Value} {ks : List ByteArray} {D : DataW Unit} (h : DictV w B p b m v ks D) (hb : Below w.heap.size w w') : DictV w' B p b m v ks D := by
  have hlt := h.dict.lt
  have hp := (Array.getElem?_eq_some_iff.1 h.blk).1
  exact h.turn (Turn.of_below hb) (by omega) (by omega) (by omega) (fun g hg hx => by have := (hlt.2.2 g hg).2; omega)

theorem own_off_map {w : World} {base e size m n' : Nat} {v : Value} {n : Nat} {xs : List Value} {P : Program} {K : TypeId} {R : Value → Option (DataW Unit × List MemPlace)} {D : DataW Unit} (h : w.ownsRow base e size v n xs) (k : w.ownsMap P K R m n' D) : v.ownBlock ≠ some m := fun hg => by
  obtain ⟨cur, h1⟩ := own_type h hg
  obtain ⟨es, clock, hb, _⟩ := k
  rw [hb] at h1
  cases h1
theorem place_at {K : Type} [DecidableEq K] {ks : List K} (hn : ks.Nodup) {m : Nat} (h : m < ks.length) : place ks ks[m] = m := by
  unfold place
  exact List.Nodup.idxOf_getElem hn m h
/-- Values that were seen, in a row of the law's own; their lists lie in F. -/
def AllAt (w : World) (B : Nat) (F : Nat → Prop) (all : List Val) (va : Value) : Prop :=
  ∃ cs : Nat → Array Value, w.ownsRow B 84 6 va all.length (flatV cs all.length) ∧ (∀ i, i < all.length → (cs i).size = 6) ∧ ∀ i x, all[i]? = some x → VRd w F x (.agg (cs i))
/-- What the law holds beside the dictionary. -/
structure LawR (w : World) (z : Nat) (box : Array Value) (all : List Val) (va : Value) (wr : World) : Prop where
  below : Below z w wr
  boxed : wr.heap[z]? = some (.cells box 79 (0, 0))
  row : AllAt wr (z + 1) (fun g => g < z) all va
  good : ∀ x, x ∈ all → mayV x 0 = true ∧ i64V x ∧ sizeV x ≤ 5000
  nodup : all.Nodup
section
variable {w : World} {z : Nat} {box : Array Value} {all : List Val} {va : Value} {wr w2 : World}
theorem LawR.turn (h : LawR w z box all va wr) {S : Nat → Prop} (ht : Turn S wr w2) (hz : ∀ b, b ≤ z → ¬ S b) (hv : ∀ g, va.ownBlock = some g → ¬ S g) : LawR w z box all va w2 := by
  have hzl := (Array.getElem?_eq_some_iff.1 h.boxed).1
  refine ⟨?_, (ht.block z hzl (hz z (Nat.le_refl _))).trans h.boxed, ?_, h.good, h.nodup⟩
  · exact h.below.trans (ht.below (B := z) (fun i _ hi => Classical.byContradiction fun hn => hz i (by omega) hi) (by omega))
  · obtain ⟨cs, hr, h6, hx⟩ := h.row
    exact ⟨cs, ht.owns hr hv, h6, fun i x hi => (hx i x hi).keep (fun p hp => World.cell?_of_block (ht.block p.block (by omega) (hz _ (by omega))))⟩
theorem LawR.own_lt (h : LawR w z box all va wr) : ∀ g, va.ownBlock = some g → z + 1 ≤ g ∧ g < wr.heap.size := by
  obtain ⟨cs, hr, _⟩ := h.row
  exact fun g hg => hr.lt g hg
theorem LawR.on (h : LawR w z box all va wr) (hb : Below wr.heap.size wr w2) : LawR w z box all va w2 := by
  have hzl := (Array.getElem?_eq_some_iff.1 h.boxed).1
  exact h.turn (Turn.of_below hb) (fun b hb2 hx => by omega) (fun g hg hx => by have := (h.own_lt g hg).2; omega)
theorem LawR.form (h : LawR w z box all va wr) : ∃ A cap, va = .slice A all.length cap := by
  obtain ⟨cs, hrow, _⟩ := h.row
  rcases hrow.2 with ⟨rfl, h0⟩ | ⟨g, cp, cur, rfl, _⟩
  · exact ⟨none, 0, by rw [h0]⟩
  · exact ⟨_, cp, rfl⟩
/-- The row of values and a dictionary keep apart. -/
theorem LawR.apart (h : LawR w z box all va wr) {B p b m : Nat} {r : Value} {ks : List ByteArray} {D : DataW Unit} (hd : DictV wr B p b m r ks D) : ∀ g, va.ownBlock = some g → ¬ SB b m r g ∧ g ≠ p := by
  obtain ⟨cs, hr, _⟩ := h.row
  intro g hg
  refine ⟨fun hs => ?_, fun e => ?_⟩
  · rcases hs with e | e | e
    · exact own_ne hr hd.dict.blk (by decide) (by rw [hg, e])
    · exact own_off_map hr hd.dict.map (by rw [hg, e])
    · exact own_apart hr hd.dict.row (by decide) g e.symm hg
  · exact own_ne hr hd.blk (by decide) (by rw [hg, e])
end

/-- Where a value stands among those before place j; -1: nowhere. -/
def FindIs (all : List Val) (x : Val) (j : Nat) (q : Int) : Prop := (q = -1 ∧ x ∉ all.take j) ∨ ∃ m : Nat, q = m ∧ m < j ∧ all[m]? = some x
theorem find_more {all : List Val} {x y : Val} {j : Nat} {q : Int} (h : FindIs all x j q) (hy : all[j]? = some y) (hne : y ≠ x) : FindIs all x (j + 1) q := by
  rcases h with ⟨h1, h2⟩ | ⟨m, h1, h2, h3⟩
  · refine .inl ⟨h1, ?_⟩
    rw [take_oneMore hy]
    intro hx
    rcases List.mem_append.1 hx with hx | hx
    · exact h2 hx
    · exact hne (List.mem_singleton.1 hx).symm
  · exact .inr ⟨m, h1, by omega, h3⟩
theorem find_here {all : List Val} {x : Val} {j : Nat} (hy : all[j]? = some x) : FindIs all x (j + 1) (j : Int) := .inr ⟨j, rfl, by omega, hy⟩
theorem place_map {all : List Val} {x : Val} {m : Nat} (hn : all.Nodup) (hg : ∀ y, y ∈ all → mayV y 0 = true ∧ i64V y ∧ sizeV y ≤ 5000) (hm : all[m]? = some x) : place (ksV (all.map keyV) x) (keyV x) = m ∧ ksV (all.map keyV) x = all.map keyV := by
  have hx := List.mem_of_getElem? hm
  have hin : keyV x ∈ all.map keyV := List.mem_map.2 ⟨x, hx, rfl⟩
  have hks : ksV (all.map keyV) x = all.map keyV := by unfold ksV; exact if_pos hin
  refine ⟨?_, hks⟩
  rw [hks]
  have hml : m < (all.map keyV).length := by rw [List.length_map]; exact (List.getElem?_eq_some_iff.1 hm).1
  have hnd : (all.map keyV).Nodup := by
    exact List.pairwise_map.2 (List.Pairwise.imp_of_mem (fun ha hb hne e => hne (keyV_inj (hg _ ha).1 (hg _ hb).1 (hg _ ha).2.1 (hg _ hb).2.1 e)) hn)
  have hel : (all.map keyV)[m] = keyV x := by
    have := (List.getElem?_eq_some_iff.1 hm).2
    rw [List.getElem_map, this]
  rw [← hel]
  exact place_at hnd hml
theorem place_out {all : List Val} {x : Val} (hg : ∀ y, y ∈ all → mayV y 0 = true ∧ i64V y ∧ sizeV y ≤ 5000) (hx : mayV x 0 = true) (h64 : i64V x) (hout : x ∉ all) : place (ksV (all.map keyV) x) (keyV x) = all.length ∧ ksV (all.map keyV) x = (all ++ [x]).map keyV := by
  have hin : keyV x ∉ all.map keyV := fun h => by
    obtain ⟨y, hy, e⟩ := List.mem_map.1 h
    have := keyV_inj (hg y hy).1 hx (hg y hy).2.1 h64 e
    exact hout (by rw [← this]; exact hy)
  have hks : ksV (all.map keyV) x = all.map keyV ++ [keyV x] := by unfold ksV; exact if_neg hin
  rw [hks, place_new hin]
  simp
/-- Behind k values: the dictionary and the list hold the same ones. -/
structure LoopV (w : World) (z p b m n : Nat) (box : Array Value) (k : Nat) (all : List Val) (va r : Value) (D : DataW Unit) (wr : World) : Prop where
  kn : k ≤ n
  k60 : k ≤ 60
  len : all.length ≤ k
  law : LawR w z box all va wr
  dict : DictV wr (z + 1) p b m r (all.map keyV) D
theorem LoopV.on {w : World} {z p b m n : Nat} {box : Array Value} {k : Nat} {all : List Val} {va r : Value} {D : DataW Unit} {wr w2 : World} (h : LoopV w z p b m n box k all va r D wr) (hb : Below wr.heap.size wr w2) : LoopV w z p b m n box k all va r D w2 :=
  ⟨h.kn, h.k60, h.len, h.law.on hb, h.dict.on hb⟩
end Go.Proofs.YtdhnmgndekncpaaDoor
