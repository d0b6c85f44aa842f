/- A value as a plain tree, and how it lies in memory. -/
import Derived.Test.YtmhjbicbdahllaaGreatDoorR0
namespace Go.Proofs.YtmhjbicbdahllaaGreatDoor
open Go Go.RowKit

/-- A value: its kind, its truth, its number, its text, its other text, its list. -/
inductive Val where
  | mk (kind : Int) (truth : Bool) (num : Int) (text extra : ByteArray) (list : List Val) : Val
namespace Val
def kind : Val → Int | mk k _ _ _ _ _ => k
def truth : Val → Bool | mk _ b _ _ _ _ => b
def num : Val → Int | mk _ _ n _ _ _ => n
def text : Val → ByteArray | mk _ _ _ t _ _ => t
def extra : Val → ByteArray | mk _ _ _ _ x _ => x
def list : Val → List Val | mk _ _ _ _ _ l => l
end Val

mutual
/-- How great a value is. -/
def sizeV : Val → Nat
  | .mk _ _ _ t x l => 1 + t.size / 64 + x.size / 64 + sizeL l
def sizeL : List Val → Nat
  | [] => 0
  | v :: r => sizeV v + sizeL r
end
theorem sizeL_list (v : Val) : sizeL v.list < sizeV v := by
  cases v
  simp only [sizeV, Val.list]
  omega
theorem sizeV_mem {l : List Val} {v : Val} (h : v ∈ l) : sizeV v ≤ sizeL l := by
  induction l with
  | nil => cases h
  | cons a r ih =>
    simp only [sizeL]
    rcases List.mem_cons.1 h with rfl | h
    · omega
    · have := ih h; omega
theorem sizeL_append (a b : List Val) : sizeL (a ++ b) = sizeL a + sizeL b := by
  induction a with
  | nil => simp [sizeL]
  | cons v r ih => simp only [List.cons_append, sizeL, ih]; omega
theorem sizeL_take (l : List Val) (k : Nat) : sizeL (l.take k) ≤ sizeL l := by
  have := sizeL_append (l.take k) (l.drop k)
  rw [List.take_append_drop] at this
  omega

/-- A value's six cells, its list's slice given. -/
def cellsV (v : Val) (s : Value) : Array Value := #[.int .i64 v.kind, .bool v.truth, .int .i64 v.num, .string v.text, .string v.extra, s]

/-- The value v lies in memory as the value u; its lists lie in blocks of F. -/
inductive VRd (w : World) (F : Nat → Prop) : Val → Value → Prop where
  | mk (v : Val) (A : Option Addr) (cap : Nat) (ad : Addr) (cs : Nat → Array Value) (hcap : v.list.length ≤ cap) (hA : 0 < v.list.length → A = some ad ∧ F ad.block)
      (hc : ∀ i, i < v.list.length → (cs i).size = 6 ∧ ∀ j, j < 6 → w.cell? (ad.add (i * 6 + j)) = (cs i)[j]?)
      (hr : ∀ i x, v.list[i]? = some x → VRd w F x (.agg (cs i))) : VRd w F v (.agg (cellsV v (.slice A v.list.length cap)))
/-- A list of values lies where a slice leads. -/
def LRd (w : World) (F : Nat → Prop) (l : List Val) (A : Option Addr) (n : Nat) : Prop :=
  n = l.length ∧ (0 < n → ∃ ad, A = some ad ∧ F ad.block ∧ ∀ i x, l[i]? = some x → ∃ c : Array Value, c.size = 6 ∧ (∀ j, j < 6 → w.cell? (ad.add (i * 6 + j)) = c[j]?) ∧ VRd w F x (.agg c))

section
variable {w w' : World} {F F' : Nat → Prop} {v : Val} {u : Value}
theorem VRd.inv (h : VRd w F v u) : ∃ A cap, u = .agg (cellsV v (.slice A v.list.length cap)) ∧ v.list.length ≤ cap ∧ LRd w F v.list A v.list.length := by
  cases h with
  | mk _ A cap ad cs hcap hA hc hr =>
    refine ⟨A, cap, rfl, hcap, rfl, fun hn => ⟨ad, (hA hn).1, (hA hn).2, fun i x hx => ?_⟩⟩
    have hi : i < v.list.length := by
      rcases Nat.lt_or_ge i v.list.length with h | h
      · exact h
      · rw [List.getElem?_eq_none h] at hx; cases hx
    exact ⟨cs i, (hc i hi).1, (hc i hi).2, hr i x hx⟩
theorem VRd.of_list {A : Option Addr} {cap : Nat} (hcap : v.list.length ≤ cap) (h : LRd w F v.list A v.list.length) : VRd w F v (.agg (cellsV v (.slice A v.list.length cap))) := by
  by_cases hn : 0 < v.list.length
  · obtain ⟨ad, hA, hF, hc⟩ := h.2 hn
    have hex : ∀ i, ∃ c : Array Value, i < v.list.length → c.size = 6 ∧ (∀ j, j < 6 → w.cell? (ad.add (i * 6 + j)) = c[j]?) ∧ ∀ x, v.list[i]? = some x → VRd w F x (.agg c) := fun i => by
      by_cases hi : i < v.list.length
      · obtain ⟨c, h1, h2, h3⟩ := hc i _ (List.getElem?_eq_getElem hi)
        exact ⟨c, fun _ => ⟨h1, h2, fun x hx => by
          rw [List.getElem?_eq_getElem hi] at hx
          injection hx with hx
          subst hx
          exact h3⟩⟩
      · exact ⟨#[], fun h => absurd h hi⟩
    refine .mk v A cap ad (fun i => (hex i).choose) hcap (fun _ => ⟨hA, hF⟩) (fun i hi => ⟨((hex i).choose_spec hi).1, ((hex i).choose_spec hi).2.1⟩) (fun i x hx => ?_)
    have hi : i < v.list.length := by
      rcases Nat.lt_or_ge i v.list.length with h | h
      · exact h
      · rw [List.getElem?_eq_none h] at hx; cases hx
    exact ((hex i).choose_spec hi).2.2 x hx
  · exact .mk v A cap ⟨0, 0, none⟩ (fun _ => #[]) hcap (fun h => absurd h hn) (fun i hi => absurd hi (by omega)) (fun i x hx => by
      rw [List.getElem?_eq_none (by omega)] at hx; cases hx)
theorem VRd.keep (h : VRd w F v u) (hk : ∀ p : Addr, F p.block → w'.cell? p = w.cell? p) : VRd w' F v u := by
  induction h with
  | mk v A cap ad cs hcap hA hc hr ih =>
    exact .mk v A cap ad cs hcap hA (fun i hi => ⟨(hc i hi).1, fun j hj => (hk _ (by rw [block_of_add]; exact (hA (by omega)).2)).trans ((hc i hi).2 j hj)⟩) ih
theorem VRd.mono (h : VRd w F v u) (hF : ∀ g, F g → F' g) : VRd w F' v u := by
  induction h with
  | mk v A cap ad cs hcap hA hc hr ih => exact .mk v A cap ad cs hcap (fun h => ⟨(hA h).1, hF _ (hA h).2⟩) hc ih
variable {l : List Val} {A : Option Addr} {n : Nat}
theorem LRd.keep (h : LRd w F l A n) (hk : ∀ p : Addr, F p.block → w'.cell? p = w.cell? p) : LRd w' F l A n :=
  ⟨h.1, fun hn => by
    obtain ⟨ad, e, hF, hc⟩ := h.2 hn
    refine ⟨ad, e, hF, fun i x hx => ?_⟩
    obtain ⟨c, h1, h2, h3⟩ := hc i x hx
    exact ⟨c, h1, fun j hj => (hk _ (by rw [block_of_add]; exact hF)).trans (h2 j hj), h3.keep hk⟩⟩
theorem LRd.mono (h : LRd w F l A n) (hF : ∀ g, F g → F' g) : LRd w F' l A n :=
  ⟨h.1, fun hn => by
    obtain ⟨ad, e, hf, hc⟩ := h.2 hn
    refine ⟨ad, e, hF _ hf, fun i x hx => ?_⟩
    obtain ⟨c, h1, h2, h3⟩ := hc i x hx
    exact ⟨c, h1, h2, h3.mono hF⟩⟩
theorem LRd.nil (cap : Nat) (hc : cap = 0) : LRd w F [] none cap := ⟨by simpa using hc, fun h => absurd h (by omega)⟩
theorem LRd.drewN (h : LRd w F l A n) (m : Nat) : LRd (w.drewN m) F l A n := h.keep fun _ _ => rfl
theorem VRd.drewN (h : VRd w F v u) (m : Nat) : VRd (w.drewN m) F v u := h.keep fun _ _ => rfl
theorem LRd.under {B : Nat} (h : LRd w F l A n) (hb : Below B w w') (hF : ∀ g, F g → g < B) : LRd w' F l A n := h.keep fun _ hp => hb.cell (hF _ hp)
theorem VRd.under {B : Nat} (h : VRd w F v u) (hb : Below B w w') (hF : ∀ g, F g → g < B) : VRd w' F v u := h.keep fun _ hp => hb.cell (hF _ hp)
/-- The i-th value of a list: its six cells. -/
theorem LRd.at_ (h : LRd w F l A n) {i : Nat} {x : Val} (hx : l[i]? = some x) : ∃ ad s, A = some ad ∧ F ad.block ∧ (∃ B cap, s = .slice B x.list.length cap ∧ x.list.length ≤ cap ∧ LRd w F x.list B x.list.length) ∧ (∀ j, j < 6 → w.cell? (ad.add (i * 6 + j)) = (cellsV x s)[j]?) ∧ VRd w F x (.agg (cellsV x s)) := by
  have hi : i < l.length := by
    rcases Nat.lt_or_ge i l.length with h | h
    · exact h
    · rw [List.getElem?_eq_none h] at hx; cases hx
  obtain ⟨ad, e, hF, hc⟩ := h.2 (by rw [h.1]; omega)
  obtain ⟨c, _, h2, h3⟩ := hc i x hx
  obtain ⟨B, cap, hu, hcap, hl⟩ := h3.inv
  injection hu with hu
  subst hu
  exact ⟨ad, _, e, hF, ⟨B, cap, rfl, hcap, hl⟩, h2, h3⟩
end
end Go.Proofs.YtmhjbicbdahllaaGreatDoor
