/- The reference's decimals: what a text is parsed as. -/
import Derived.Test.YtijciakkfpjjbaaGreatDoorR0
import Derived.Test.YtijciakkfpjjbaaGreatDoorProg
import Derived.WalkKit
import Derived.WalkSpells
import Derived.Lib.Hide
import Derived.Deep.QuietTactic
import Derived.BigQuiet
import Derived.IntWalk
import Derived.Outline
import Derived.StillTailTactics
import Derived.Deep.DeepCutAuto
import Derived.Test.YtijciakkfpjjbaaGreatDoorL0
import Derived.WalkLawsBesides
import Derived.OwnWalk
import Derived.Deep.AppendLies
import Derived.Maps.OwnSet
import Derived.Laws.IdiomStrings
import Derived.Lib.BufferRead
import Derived.Deep.RegionLaw
namespace Go.Proofs.YtijciakkfpjjbaaGreatDoor
open Go Go.RowKit

/-- A value: its kind, its truth, its number, its text, its other text, its list. -/
inductive Val where
 | mk (kind : Int) (truth : Bool) (num : Int) (text extra : ByteArray) (list : List Val) : Val
namespace Val
def kind : Val → Int | mk k _ _ _ _ _ => k
def truth : Val → Bool | mk _ b _ _ _ _ => b
def num : Val → Int | mk _ _ n _ _ _ => n
def text : Val → ByteArray | mk _ _ _ t _ _ => t
def extra : Val → ByteArray | mk _ _ _ _ x _ => x
def list : Val → List Val | mk _ _ _ _ _ l => l
end Val

mutual
/-- How great a value is. -/
def sizeV : Val → Nat
 | .mk _ _ _ t x l => 1 + t.size / 64 + x.size / 64 + sizeL l
def sizeL : List Val → Nat
 | [] => 0
 | v :: r => sizeV v + sizeL r
end
theorem sizeL_list (v : Val) : sizeL v.list < sizeV v := by
 cases v
 simp only [sizeV, Val.list]
 omega
theorem sizeV_mem {l : List Val} {v : Val} (h : v ∈ l) : sizeV v ≤ sizeL l := by
 induction l with
 | nil => cases h
 | cons a r ih =>
  simp only [sizeL]
  rcases List.mem_cons.1 h with rfl | h
  ·omega
  ·have := ih h; omega
/-- A value's six cells, its list's slice given. -/
def cellsV (v : Val) (s : Value) : Array Value := #[.int .i64 v.kind, .bool v.truth, .int .i64 v.num, .string v.text, .string v.extra, s]

/-- The value v lies in memory as the value u; its lists lie in blocks of F. -/
inductive VRd (w : World) (F : Nat → Prop) : Val → Value → Prop where
 | mk (v : Val) (A : Option Addr) (cap : Nat) (ad : Addr) (cs : Nat → Array Value) (hcap : v.list.length ≤ cap) (hA : 0 < v.list.length → A = some ad ∧ F ad.block)
     (hc : ∀ i, i < v.list.length → (cs i).size = 6 ∧ ∀ j, j < 6 → w.cell? (ad.add (i * 6 + j)) = (cs i)[j]?)
     (hr : ∀ i x, v.list[i]? = some x → VRd w F x (.agg (cs i))) : VRd w F v (.agg (cellsV v (.slice A v.list.length cap)))
/-- A list of values lies where a slice leads. -/
def LRd (w : World) (F : Nat → Prop) (l : List Val) (A : Option Addr) (n : Nat) : Prop :=
 n = l.length ∧ (0 < n → ∃ ad, A = some ad ∧ F ad.block ∧ ∀ i x, l[i]? = some x → ∃ c : Array Value, c.size = 6 ∧ (∀ j, j < 6 → w.cell? (ad.add (i * 6 + j)) = c[j]?) ∧ VRd w F x (.agg c))

section
variable {w w' : World} {F F' : Nat → Prop} {v : Val} {u : Value}
theorem VRd.inv (h : VRd w F v u) : ∃ A cap, u = .agg (cellsV v (.slice A v.list.length cap)) ∧ v.list.length ≤ cap ∧ LRd w F v.list A v.list.length := by
 cases h with
 | mk _ A cap ad cs hcap hA hc hr =>
  refine ⟨A, cap, rfl, hcap, rfl, fun hn => ⟨ad, (hA hn).1, (hA hn).2, fun i x hx => ?_⟩⟩
  have hi : i < v.list.length := by
   rcases Nat.lt_or_ge i v.list.length with h | h
   ·exact h
   ·rw [List.getElem?_eq_none h] at hx; cases hx
  exact ⟨cs i, (hc i hi).1, (hc i hi).2, hr i x hx⟩
theorem VRd.of_list {A : Option Addr} {cap : Nat} (hcap : v.list.length ≤ cap) (h : LRd w F v.list A v.list.length) : VRd w F v (.agg (cellsV v (.slice A v.list.length cap))) := by
 by_cases hn : 0 < v.list.length
 ·obtain ⟨ad, hA, hF, hc⟩ := h.2 hn
  have hex : ∀ i, ∃ c : Array Value, i < v.list.length → c.size = 6 ∧ (∀ j, j < 6 → w.cell? (ad.add (i * 6 + j)) = c[j]?) ∧ ∀ x, v.list[i]? = some x → VRd w F x (.agg c) := fun i => by
   by_cases hi : i < v.list.length
   ·obtain ⟨c, h1, h2, h3⟩ := hc i _ (List.getElem?_eq_getElem hi)
    exact ⟨c, fun _ => ⟨h1, h2, fun x hx => by
     rw [List.getElem?_eq_getElem hi] at hx
     injection hx with hx
     subst hx
     exact h3⟩⟩
   ·exact ⟨#[], fun h => absurd h hi⟩
  refine .mk v A cap ad (fun i => (hex i).choose) hcap (fun _ => ⟨hA, hF⟩) (fun i hi => ⟨((hex i).choose_spec hi).1, ((hex i).choose_spec hi).2.1⟩) (fun i x hx => ?_)
  have hi : i < v.list.length := by
   rcases Nat.lt_or_ge i v.list.length with h | h
   ·exact h
   ·rw [List.getElem?_eq_none h] at hx; cases hx
  exact ((hex i).choose_spec hi).2.2 x hx
 ·exact .mk v A cap ⟨0, 0, none⟩ (fun _ => #[]) hcap (fun h => absurd h hn) (fun i hi => absurd hi (by omega)) (fun i x hx => by
    rw [List.getElem?_eq_none (by omega)] at hx; cases hx)
theorem VRd.keep (h : VRd w F v u) (hk : ∀ p : Addr, F p.block → w'.cell? p = w.cell? p) : VRd w' F v u := by
 induction h with
 | mk v A cap ad cs hcap hA hc hr ih =>
  exact .mk v A cap ad cs hcap hA (fun i hi => ⟨(hc i hi).1, fun j hj => (hk _ (by rw [block_of_add]; exact (hA (by omega)).2)).trans ((hc i hi).2 j hj)⟩) ih
theorem VRd.mono (h : VRd w F v u) (hF : ∀ g, F g → F' g) : VRd w F' v u := by
 induction h with
 | mk v A cap ad cs hcap hA hc hr ih => exact .mk v A cap ad cs hcap (fun h => ⟨(hA h).1, hF _ (hA h).2⟩) hc ih
variable {l : List Val} {A : Option Addr} {n : Nat}
theorem LRd.keep (h : LRd w F l A n) (hk : ∀ p : Addr, F p.block → w'.cell? p = w.cell? p) : LRd w' F l A n :=
 ⟨h.1, fun hn => by
  obtain ⟨ad, e, hF, hc⟩ := h.2 hn
  refine ⟨ad, e, hF, fun i x hx => ?_⟩
  obtain ⟨c, h1, h2, h3⟩ := hc i x hx
  exact ⟨c, h1, fun j hj => (hk _ (by rw [block_of_add]; exact hF)).trans (h2 j hj), h3.keep hk⟩⟩
theorem LRd.mono (h : LRd w F l A n) (hF : ∀ g, F g → F' g) : LRd w F' l A n :=
 ⟨h.1, fun hn => by
  obtain ⟨ad, e, hf, hc⟩ := h.2 hn
  refine ⟨ad, e, hF _ hf, fun i x hx => ?_⟩
  obtain ⟨c, h1, h2, h3⟩ := hc i x hx
  exact ⟨c, h1, h2, h3.mono hF⟩⟩
theorem LRd.nil (cap : Nat) (hc : cap = 0) : LRd w F [] none cap := ⟨by simpa using hc, fun h => absurd h (by omega)⟩
theorem LRd.drewN (h : LRd w F l A n) (m : Nat) : LRd (w.drewN m) F l A n := h.keep fun _ _ => rfl
theorem VRd.drewN (h : VRd w F v u) (m : Nat) : VRd (w.drewN m) F v u := h.keep fun _ _ => rfl
theorem LRd.under {B : Nat} (h : LRd w F l A n) (hb : Below B w w') (hF : ∀ g, F g → g < B) : LRd w' F l A n := h.keep fun _ hp => hb.cell (hF _ hp)
theorem VRd.under {B : Nat} (h : VRd w F v u) (hb : Below B w w') (hF : ∀ g, F g → g < B) : VRd w' F v u := h.keep fun _ hp => hb.cell (hF _ hp)
/-- The i-th value of a list: its six cells. -/
theorem LRd.at_ (h : LRd w F l A n) {i : Nat} {x : Val} (hx : l[i]? = some x) : ∃ ad s, A = some ad ∧ F ad.block ∧ (∃ B cap, s = .slice B x.list.length cap ∧ x.list.length ≤ cap ∧ LRd w F x.list B x.list.length) ∧ (∀ j, j < 6 → w.cell? (ad.add (i * 6 + j)) = (cellsV x s)[j]?) ∧ VRd w F x (.agg (cellsV x s)) := by
 have hi : i < l.length := by
  rcases Nat.lt_or_ge i l.length with h | h
  ·exact h
  ·rw [List.getElem?_eq_none h] at hx; cases hx
 obtain ⟨ad, e, hF, hc⟩ := h.2 (by rw [h.1]; omega)
 obtain ⟨c, _, h2, h3⟩ := hc i x hx
 obtain ⟨B, cap, hu, hcap, hl⟩ := h3.inv
 injection hu with hu
 subst hu
 exact ⟨ad, _, e, hF, ⟨B, cap, rfl, hcap, hl⟩, h2, h3⟩
end
end Go.Proofs.YtijciakkfpjjbaaGreatDoor
namespace Go.Proofs.YtijciakkfpjjbaaGreatDoor
open Go Go.RowKit

theorem name_itV {α : Type} (a : α) : ∃ x, Hid (a = x) := ⟨a, Lib.hid rfl⟩
theorem take_oneMore {α : Type} {l : List α} {k : Nat} {y : α} (h : l[k]? = some y) : l.take (k + 1) = l.take k ++ [y] := by
 rw [List.take_add_one, h]; rfl
/-- A row of values at a place, as the walk asks for its cells. -/
theorem LRd.cellsAt {w : World} {F : Nat → Prop} {l : List Val} {A : Option Addr} {n : Nat} (h : LRd w F l A n) {i : Nat} {x : Val} (hx : l[i]? = some x) :
    ∃ ad s, A = some ad ∧ F ad.block ∧ (∃ B cap, s = .slice B x.list.length cap ∧ x.list.length ≤ cap ∧ LRd w F x.list B x.list.length) ∧ VRd w F x (.agg (cellsV x s)) ∧
     w.cell? (ad.add (i * 6)) = some (.int .i64 x.kind) ∧ w.cell? ⟨(ad.add (i * 6)).block, (ad.add (i * 6)).off + 1, none⟩ = some (.bool x.truth) ∧ w.cell? ⟨(ad.add (i * 6)).block, (ad.add (i * 6)).off + 2, none⟩ = some (.int .i64 x.num) ∧
     w.cell? ⟨(ad.add (i * 6)).block, (ad.add (i * 6)).off + 3, none⟩ = some (.string x.text) ∧ w.cell? ⟨(ad.add (i * 6)).block, (ad.add (i * 6)).off + 4, none⟩ = some (.string x.extra) ∧ w.cell? ⟨(ad.add (i * 6)).block, (ad.add (i * 6)).off + 5, none⟩ = some s := by
 obtain ⟨ad, s, e, hF, hs, hc, hv⟩ := h.at_ hx
 have c0 := hc 0 (by omega)
 have c1 := hc 1 (by omega)
 have c2 := hc 2 (by omega)
 have c3 := hc 3 (by omega)
 have c4 := hc 4 (by omega)
 have c5 := hc 5 (by omega)
 rw [← add_of_add] at c1 c2 c3 c4 c5
 exact ⟨ad, s, e, hF, hs, hv, c0, c1, c2, c3, c4, c5⟩

theorem len_le_size (l : List Val) : l.length ≤ sizeL l := by
 induction l with
 | nil => simp
 | cons v r ih =>
  simp only [sizeL, List.length_cons]
  have : 1 ≤ sizeV v := by cases v; simp only [sizeV]; omega
  omega
/-- A number is told; the world but for draws as it was. -/
def ToldN (n : Nat) (w : World) (e : Ending) (w' : World) : Prop := e = .returned (.int .i64 (n : Int)) ∧ ∃ m, w' = w.drewN m

end Go.Proofs.YtijciakkfpjjbaaGreatDoor
namespace Go.Proofs.YtijciakkfpjjbaaGreatDoor
open Go Go.RowKit

open Classical in
/-- Are two values the same? -/
noncomputable def sameB (a b : Val) : Bool := decide (a = b)
open Classical in
noncomputable def sameL (a b : List Val) : Bool := decide (a = b)
theorem sameB_refl (a : Val) : sameB a a = true := by unfold sameB; simp
theorem sameB_no {a b : Val} (h : a ≠ b) : sameB a b = false := by unfold sameB; simp [h]
theorem sameL_no {a b : List Val} (h : a ≠ b) : sameL a b = false := by unfold sameL; simp [h]
theorem sameL_refl (a : List Val) : sameL a a = true := by unfold sameL; simp
theorem strV_ne {a b : ByteArray} (h : a ≠ b) : (a.toList == b.toList) = false := by
 rw [ByteArray.toList_eq, ByteArray.toList_eq]
 exact beq_eq_false_iff_ne.2 (fun e => h (ByteArray.ext (Array.toList_inj.1 e)))

/-- A truth is told; memory that was there as it was. -/
def ToldB (b : Bool) (w : World) (e : Ending) (w' : World) : Prop := e = .returned (.bool b) ∧ Below w.heap.size w w'
theorem told_bool {a b : Bool} {w w' : World} (h : a = b) (hb : Below w.heap.size w w') : ToldB b w (.returned (.bool a)) w' := ⟨by rw [h], hb⟩
theorem two_new (w : World) (a b : Obj) : Below w.heap.size w ((w.alloc a).alloc b) := (((Below.refl _ _).alloc (Nat.le_refl _) _).alloc (by simp) _)

set_option maxRecDepth 100000 in
set_option maxHeartbeats 4000000 in
theorem same_step (a b : Val) {F G : Nat → Prop} (A B : Option Addr) (ca cb : Nat) (w : World) (hF : ∀ g, F g → g < w.heap.size) (hG : ∀ g, G g → g < w.heap.size)
    (hA : LRd w F a.list A a.list.length) (hB : LRd w G b.list B b.list.length)
    (hrow : ∀ w', LRd w' F a.list A a.list.length → LRd w' G b.list B b.list.length → (∀ g, F g → g < w'.heap.size) → (∀ g, G g → g < w'.heap.size) → Calls Tryz.prog 65 #[.slice A a.list.length ca, .slice B b.list.length cb] w' (ToldB (sameL a.list b.list) w')) :
    Calls Tryz.prog 28 #[.agg (cellsV a (.slice A a.list.length ca)), .agg (cellsV b (.slice B b.list.length cb))] w (ToldB (sameB a b) w) := by
 have HROW := Lib.hid hrow
 have HAA := Lib.hid hA
 have HBB := Lib.hid hB
 have HF := Lib.hid hF
 have HG := Lib.hid hG
 clear hrow hA hB hF hG
 obtain ⟨k, t, n, s, x, l⟩ := a
 obtain ⟨k', t', n', s', x', l'⟩ := b
 unfold cellsV
 simp only [Val.kind, Val.truth, Val.num, Val.text, Val.extra, Val.list] at HROW HAA HBB ⊢
 obtain ⟨p, HP⟩ := name_itV l.length
 obtain ⟨q, HQ⟩ := name_itV l'.length
 rw [HP.out] at HROW HAA ⊢
 rw [HQ.out] at HROW HBB ⊢
 have HN := Lib.hid (two_new w (.cells #[.int .i64 k, .bool t, .int .i64 n, .string s, .string x, .slice A p ca] 34) (.cells #[.int .i64 k', .bool t', .int .i64 n', .string s', .string x', .slice B q cb] 34))
 by_cases h1 : k = k'
 ·subst h1
  by_cases h2 : t = t'
  ·subst h2
   by_cases h3 : n = n'
   ·subst h3
    by_cases h4 : s = s'
    ·subst h4
     by_cases h5 : x = x'
     ·subst h5
      have hb : sameL l l' = sameB (.mk k t n s x l) (.mk k t n s x l') := by
       unfold sameL sameB
       simp
      have HB2 := Lib.hid hb
      have HC := Lib.hid (HROW.out _ (HAA.out.under HN.out HF.out) (HBB.out.under HN.out HG.out) (fun g hg => by have := HF.out g hg; have := HN.out.size; omega) (fun g hg => by have := HG.out g hg; have := HN.out.size; omega))
      clear hb
      go_enter Tryz.func28, Tryz.ntmps28
      go_wp2_with fail
      refine HC.out.mono ?_
      rintro e w5 ⟨rfl, hb5⟩
      rw [HB2.out]
      go_wp2_with fail
      go_ret
      exact told_bool rfl (HN.out.trans (hb5.mono HN.out.size))
     ·have t5 := strV_ne h5
      have hne := sameB_no (a := .mk k t n s x l) (b := .mk k t n s x' l') (by simp [h5])
      have HNE := Lib.hid hne
      clear hne h5
      go_enter Tryz.func28, Tryz.ntmps28
      go_wp2_with fail
      go_ret
      exact told_bool HNE.out.symm HN.out
    ·have t4 := strV_ne h4
     have hne := sameB_no (a := .mk k t n s x l) (b := .mk k t n s' x' l') (by simp [h4])
     have HNE := Lib.hid hne
     clear hne h4
     go_enter Tryz.func28, Tryz.ntmps28
     go_wp2_with fail
     go_ret
     exact told_bool HNE.out.symm HN.out
   ·have t3 : (n == n') = false := by simpa using h3
    have hne := sameB_no (a := .mk k t n s x l) (b := .mk k t n' s' x' l') (by simp [h3])
    have HNE := Lib.hid hne
    clear hne h3
    go_enter Tryz.func28, Tryz.ntmps28
    go_wp2_with fail
    go_ret
    exact told_bool HNE.out.symm HN.out
  ·have t2 : (t == t') = false := by simpa using h2
   have hne := sameB_no (a := .mk k t n s x l) (b := .mk k t' n' s' x' l') (by simp [h2])
   have HNE := Lib.hid hne
   clear hne h2
   go_enter Tryz.func28, Tryz.ntmps28
   go_wp2_with fail
   go_ret
   exact told_bool HNE.out.symm HN.out
 ·have t1 : (k == k') = false := by simpa using h1
  have hne := sameB_no (a := .mk k t n s x l) (b := .mk k' t' n' s' x' l') (by simp [h1])
  have HNE := Lib.hid hne
  clear hne h1
  go_enter Tryz.func28, Tryz.ntmps28
  go_wp2_with fail
  go_ret
  exact told_bool HNE.out.symm HN.out

theorem take_eq_all {α : Type} {l m : List α} {k : Nat} (h : l.take k = m.take k) (h1 : l.length ≤ k) (h2 : m.length ≤ k) : l = m := by
 rw [List.take_of_length_le h1, List.take_of_length_le h2] at h; exact h

set_option maxRecDepth 100000 in
set_option maxHeartbeats 4000000 in
theorem row_any (N : Nat) : ∀ (l m : List Val) (_ : sizeL l < N) (F G : Nat → Prop) (A B : Option Addr) (n1 n2 ca cb : Nat) (w : World) (_ : sizeL l ≤ 1000000000000) (_ : ∀ g, F g → g < w.heap.size) (_ : ∀ g, G g → g < w.heap.size) (_ : LRd w F l A n1) (_ : LRd w G m B n2),
    Calls Tryz.prog 65 #[.slice A n1 ca, .slice B n2 cb] w (ToldB (sameL l m) w) := by
 induction N with
 | zero => exact fun _ _ h => absurd h (Nat.not_lt_zero _)
 | succ N ih =>
  intro l m hN F G A B n1 n2 ca cb w hs hF hG hl hm
  have HL := Lib.hid hl
  have HM := Lib.hid hm
  have HF := Lib.hid hF
  have HG := Lib.hid hG
  have IH := Lib.hid ih
  have hl1 : n1 = l.length := hl.1
  have hn1 : n1 ≤ 1000000000000 := by have := len_le_size l; omega
  have hm1 : n2 = m.length := hm.1
  have HL1 := Lib.hid hl1
  have HM1 := Lib.hid hm1
  clear hl hm hF hG ih
  by_cases hne : n1 = n2
  ·subst hne
   clear hl1 hm1
   go_enter Tryz.func65, Tryz.ntmps65
   go_wp2_with fail
   go_loopw [5] (fun s5 wr => ∃ k : Nat, k ≤ n1 ∧ s5 = .int .i64 (k : Nat) ∧ Hid (l.take k = m.take k) ∧ Below w.heap.size w wr) (fun s5 _ => n1 - (intOf s5).toNat)
   case atStart => exact ⟨0, by omega, rfl, Lib.hid (by simp), Below.refl _ _⟩
   case round =>
    obtain ⟨k, hk, rfl, htk, hbz⟩ := hrel
    have HBZ := Lib.hid hbz
    have HL2 := Lib.hid (HL.out.under hbz HF.out)
    have HM2 := Lib.hid (HM.out.under hbz HG.out)
    have hws : w.heap.size ≤ wr.heap.size := hbz.size
    clear hbz
    by_cases hlt : k < n1
    ·obtain ⟨x, hx⟩ : ∃ x, l[k]? = some x := ⟨l[k]'(by have := HL1.out; omega), List.getElem?_eq_getElem _⟩
     obtain ⟨y, hy⟩ : ∃ y, m[k]? = some y := ⟨m[k]'(by have := HM1.out; omega), List.getElem?_eq_getElem _⟩
     have hxm := sizeV_mem (List.mem_of_getElem? hx)
     have hxl := sizeL_list x
     obtain ⟨ad, sx, rfl, _, ⟨Bx, cx, rfl, _, hlx⟩, _, c0, c1, c2, c3, c4, c5⟩ := HL2.out.cellsAt hx
     obtain ⟨ae, sy, rfl, _, ⟨By, cy, rfl, _, hly⟩, _, d0, d1, d2, d3, d4, d5⟩ := HM2.out.cellsAt hy
     have HSAME := Lib.hid (same_step x y Bx By cx cy wr.drew (F := F) (G := G) (fun g hg => Nat.lt_of_lt_of_le (HF.out g hg) hws) (fun g hg => Nat.lt_of_lt_of_le (HG.out g hg) hws) (hlx.keep fun _ _ => rfl) (hly.keep fun _ _ => rfl)
      (fun w' h1 h2 h3 h4 => IH.out x.list y.list (by omega) F G Bx By _ _ cx cy w' (by omega) h3 h4 h1 h2))
     have HX := Lib.hid hx
     have HY := Lib.hid hy
     have e1 : (0 : Int) ≤ k := by omega
     have e2 : (k : Int) < n1 := by omega
     clear hx hy hxm hxl hlx hly
     unfold cellsV at HSAME
     obtain ⟨lx, HLX⟩ := name_itV x.list.length
     obtain ⟨ly, HLY⟩ := name_itV y.list.length
     rw [HLX.out] at c5 HSAME
     rw [HLY.out] at d5 HSAME
     by_cases hxy : x = y
     ·have hs := sameB_refl x
      subst hxy
      rw [hs] at HSAME
      clear hs
      go_wp2_with fail
      go_still_tail 8, (by kernel_rfl)
      change wpList _ _ _ _ _ (World.drew _)
      go_wp2_with fail
      refine HSAME.out.mono ?_
      rintro e w5 ⟨rfl, hb5⟩
      go_wp2_with fail
      go_roundw
      case rel => exact ⟨k + 1, by omega, by go_num, Lib.hid (by rw [take_oneMore HX.out, take_oneMore HY.out, htk.out]), HBZ.out.drew.trans (hb5.mono hws)⟩
      case measure => simp [intOf]; omega
     ·have hs := sameB_no hxy
      have hlm : sameL l m = false := sameL_no (fun e => hxy (by
       have h1 := HX.out
       rw [e, HY.out] at h1
       exact (Option.some.inj h1).symm))
      have HLM := Lib.hid hlm
      rw [hs] at HSAME
      clear hs hlm
      go_wp2_with fail
      go_still_tail 8, (by kernel_rfl)
      change wpList _ _ _ _ _ (World.drew _)
      go_wp2_with fail
      refine HSAME.out.mono ?_
      rintro e w5 ⟨rfl, hb5⟩
      go_wp2_with fail
      go_ret
      exact told_bool HLM.out.symm (HBZ.out.drew.trans (hb5.mono hws))
    ·have hke : k = n1 := by omega
     subst hke
     have hlm : l = m := take_eq_all htk.out (by have := HL1.out; omega) (by have := HM1.out; omega)
     have hsm : sameL l m = true := by rw [hlm]; exact sameL_refl m
     have HSM := Lib.hid hsm
     clear hlm hsm
     go_wp2_with fail
     go_ret
     exact told_bool HSM.out.symm HBZ.out
  ·have hsl : sameL l m = false := sameL_no (fun e => hne (by rw [hl1, hm1, e]))
   have HSL := Lib.hid hsl
   have t1 : ((n1 : Int) != n2) = true := by simp; omega
   clear hsl hl1 hm1
   go_enter Tryz.func65, Tryz.ntmps65
   go_wp2_with fail
   go_ret
   exact told_bool HSL.out.symm (Below.refl _ _)
end Go.Proofs.YtijciakkfpjjbaaGreatDoor
namespace Go.Proofs.YtijciakkfpjjbaaGreatDoor
open Go Go.RowKit

/-- A byte that no IRI has. -/
def badI (c : UInt8) : Bool := decide (c.toNat ≤ 32 ∨ c.toNat = 60 ∨ c.toNat = 62)
/-- May a text be an IRI's? -/
def iriB (s : ByteArray) : Bool := decide (1 ≤ s.size ∧ s.size ≤ 1048576) && s.data.toList.all fun c => !badI c
theorem data_len (s : ByteArray) : s.data.toList.length = s.size := Array.length_toList
theorem data_at (s : ByteArray) (k : Nat) (h : k < s.size) : s.data.toList[k]? = some s[k] := by
 rw [List.getElem?_eq_getElem (by rw [data_len]; exact h)]; rfl
theorem all_more {p : UInt8 → Bool} {l : List UInt8} {k : Nat} {c : UInt8} (h : l[k]? = some c) (ha : (l.take k).all p = true) (hc : p c = true) : (l.take (k + 1)).all p = true := by
 rw [take_oneMore h, List.all_append, ha]; simp [hc]
theorem all_no {p : UInt8 → Bool} {l : List UInt8} {k : Nat} {c : UInt8} (h : l[k]? = some c) (hc : p c = false) : l.all p = false := by
 rw [List.all_eq_false]
 exact ⟨c, List.mem_of_getElem? h, by simp [hc]⟩
theorem ret_b {a b : Bool} (h : a = b) : Ending.returned (.bool a) = .returned (.bool b) := by rw [h]

set_option maxRecDepth 100000 in
set_option maxHeartbeats 1000000 in
theorem iri_any (s : ByteArray) (hs : s.size ≤ 9223372036854775807) (w : World) : Calls Tryz.prog 131 #[.string s] w fun e w' => e = .returned (.bool (iriB s)) ∧ w' = w := by
 go_enter Tryz.func131, Tryz.ntmps131
 go_wp2_with fail
 go_loop [6] (fun i => ∃ k : Nat, k ≤ s.size ∧ i = .int .i64 (k : Nat) ∧ Hid ((s.data.toList.take k).all (fun c => !badI c) = true)) (fun i => s.size - (intOf i).toNat)
 case atStart => exact ⟨0, by omega, rfl, Lib.hid (by simp)⟩
 case round =>
  obtain ⟨k, hk, rfl, hall⟩ := hrel
  by_cases hlt : k < s.size
  ·have hc := Lib.hid (data_at s k hlt)
   obtain ⟨x, hx⟩ : ∃ x : Nat, s[k].toNat = x := ⟨_, rfl⟩
   have HX := Lib.hid hx
   have hxb : x < 256 := by rw [← hx]; exact s[k].toNat_lt
   by_cases b1 : x ≤ 32
   ·have hno := Lib.hid (all_no (p := fun c => !badI c) hc.out (by simp [badI, HX.out, b1]))
    have b1' : (x : Int) ≤ 32 := by omega
    go_wp2_with fail
    go_ret
    exact ⟨ret_b (by unfold iriB; rw [hno.out]; simp), rfl⟩
   ·have b1' : decide ((x : Int) ≤ 32) = false := decide_eq_false (by omega)
    by_cases b2 : x = 60
    ·have hno := Lib.hid (all_no (p := fun c => !badI c) hc.out (by simp [badI, HX.out, b2]))
     have b2' : ((x : Int) == 60) = true := by simp; omega
     go_wp2_with fail
     go_ret
     exact ⟨ret_b (by unfold iriB; rw [hno.out]; simp), rfl⟩
    ·have b2' : ((x : Int) == 60) = false := by simp; omega
     by_cases b3 : x = 62
     ·have hno := Lib.hid (all_no (p := fun c => !badI c) hc.out (by simp [badI, HX.out, b3]))
      have b3' : ((x : Int) == 62) = true := by simp; omega
      go_wp2_with fail
      go_ret
      exact ⟨ret_b (by unfold iriB; rw [hno.out]; simp), rfl⟩
     ·have b3' : ((x : Int) == 62) = false := by simp; omega
      have hyes := Lib.hid (all_more hc.out hall.out (by simp [badI, HX.out]; omega))
      go_wp2_with fail
      go_round
      case rel => exact ⟨k + 1, by omega, by go_num, Lib.hid hyes.out⟩
      case measure => simp [intOf]; omega
  ·have hke : k = s.size := by omega
   have hall2 := hall.out
   rw [List.take_of_length_le (by rw [data_len]; omega)] at hall2
   have HALL := Lib.hid hall2
   clear hall hall2
   subst hke
   by_cases h0 : 1 ≤ s.size
   ·have h1 : decide ((1 : Int) ≤ s.size) = true := decide_eq_true (by omega)
    by_cases h2 : s.size ≤ 1048576
    ·have h3 : decide ((s.size : Int) ≤ 1048576) = true := decide_eq_true (by omega)
     go_wp2_with fail
     go_ret
     exact ⟨ret_b (by unfold iriB; rw [HALL.out]; simp; omega), rfl⟩
    ·have h3 : decide ((s.size : Int) ≤ 1048576) = false := decide_eq_false (by omega)
     go_wp2_with fail
     go_ret
     exact ⟨ret_b (by unfold iriB; rw [HALL.out]; simp; omega), rfl⟩
   ·have h1 : decide ((1 : Int) ≤ s.size) = false := decide_eq_false (by omega)
    go_wp2_with fail
    go_ret
    exact ⟨ret_b (by unfold iriB; rw [HALL.out]; simp; omega), rfl⟩
end Go.Proofs.YtijciakkfpjjbaaGreatDoor
namespace Go.Proofs.YtijciakkfpjjbaaGreatDoor
open Go Go.RowKit

def letN (x : Nat) : Bool := decide ((97 ≤ x ∧ x ≤ 122) ∨ (65 ≤ x ∧ x ≤ 90) ∨ x = 95)
def digN (x : Nat) : Bool := decide (48 ≤ x ∧ x ≤ 57)
def nameC (c : UInt8) : Bool := letN c.toNat || digN c.toNat
/-- May a text be a name? -/
def nameB (s : ByteArray) : Bool := decide (1 ≤ s.size ∧ s.size ≤ 64) && ((s.data.toList.head?.map fun c => !digN c.toNat).getD false && s.data.toList.all nameC)
theorem head_data {s : ByteArray} (h : 0 < s.size) : s.data.toList.head? = some (s[0]'h) := by
 have := data_at s 0 h
 rw [List.head?_eq_getElem?]
 exact this
theorem name_size {s : ByteArray} (h : ¬ (1 ≤ s.size ∧ s.size ≤ 64)) : nameB s = false := by unfold nameB; simp only [decide_eq_false h]; rfl
theorem name_no {s : ByteArray} {k : Nat} {c : UInt8} (h : s.data.toList[k]? = some c) (hc : nameC c = false) : nameB s = false := by
 unfold nameB; rw [all_no h hc]; simp
theorem name_dig {s : ByteArray} {c : UInt8} (h : s.data.toList[0]? = some c) (hc : digN c.toNat = true) : nameB s = false := by
 unfold nameB
 rw [List.head?_eq_getElem?, h]
 simp [hc]
theorem name_yes {s : ByteArray} (h1 : 1 ≤ s.size) (h2 : s.size ≤ 64) (h0 : ∀ c, s.data.toList[0]? = some c → digN c.toNat = false) (ha : s.data.toList.all nameC = true) : nameB s = true := by
 unfold nameB
 rw [ha, head_data (by omega)]
 have := h0 _ (data_at s 0 (by omega))
 simp [h1, h2, this]

set_option maxRecDepth 100000 in
set_option maxHeartbeats 2000000 in
theorem name_any (s : ByteArray) (hs : s.size ≤ 9223372036854775807) (w : World) : Calls Tryz.prog 132 #[.string s] w fun e w' => e = .returned (.bool (nameB s)) ∧ w' = w := by
 go_enter Tryz.func132, Tryz.ntmps132
 go_wp2_with fail
 go_loop [8] (fun i => ∃ k : Nat, k ≤ s.size ∧ i = .int .i64 (k : Nat) ∧ Hid ((s.data.toList.take k).all nameC = true ∧ ∀ c, 0 < k → s.data.toList[0]? = some c → digN c.toNat = false)) (fun i => s.size - (intOf i).toNat)
 case atStart => exact ⟨0, by omega, rfl, Lib.hid ⟨by simp, fun c h => absurd h (by omega)⟩⟩
 case round =>
  obtain ⟨k, hk, rfl, hall⟩ := hrel
  by_cases hlt : k < s.size
  ·have hc := Lib.hid (data_at s k hlt)
   obtain ⟨x, hx⟩ : ∃ x : Nat, s[k].toNat = x := ⟨_, rfl⟩
   have HX := Lib.hid hx
   have hxb : x < 256 := by rw [← hx]; exact s[k].toNat_lt
   go_upto_region 5 with fail
   go_cut [5] (fun s5 wx => s5 = .bool (letN x) ∧ wx = w)
   case first =>
    by_cases a1 : 97 ≤ x
    ·by_cases a2 : x ≤ 122
     ·have e1 : decide ((97 : Int) ≤ x) = true := decide_eq_true (by omega)
      have e2 : decide ((x : Int) ≤ 122) = true := decide_eq_true (by omega)
      have hl : letN x = true := decide_eq_true (.inl ⟨a1, a2⟩)
      go_wp2_with fail
      go_meet
      exact ⟨by rw [hl], rfl⟩
     ·have e1 : decide ((97 : Int) ≤ x) = true := decide_eq_true (by omega)
      have e2 : decide ((x : Int) ≤ 122) = false := decide_eq_false (by omega)
      have e3 : decide ((65 : Int) ≤ x) = true := decide_eq_true (by omega)
      have e4 : decide ((x : Int) ≤ 90) = false := decide_eq_false (by omega)
      have e5 : ((x : Int) == 95) = false := by simp; omega
      have hl : letN x = false := decide_eq_false (by omega)
      go_wp2_with fail
      go_meet
      exact ⟨by rw [hl], rfl⟩
    ·have e1 : decide ((97 : Int) ≤ x) = false := decide_eq_false (by omega)
     by_cases b1 : 65 ≤ x
     ·have e3 : decide ((65 : Int) ≤ x) = true := decide_eq_true (by omega)
      by_cases b2 : x ≤ 90
      ·have e4 : decide ((x : Int) ≤ 90) = true := decide_eq_true (by omega)
       have hl : letN x = true := decide_eq_true (.inr (.inl ⟨b1, b2⟩))
       go_wp2_with fail
       go_meet
       exact ⟨by rw [hl], rfl⟩
      ·have e4 : decide ((x : Int) ≤ 90) = false := decide_eq_false (by omega)
       by_cases c1 : x = 95
       ·have e5 : ((x : Int) == 95) = true := by simp; omega
        have hl : letN x = true := decide_eq_true (.inr (.inr c1))
        clear c1
        go_wp2_with fail
        go_meet
        exact ⟨by rw [hl], rfl⟩
       ·have e5 : ((x : Int) == 95) = false := by simp; omega
        have hl : letN x = false := decide_eq_false (by omega)
        go_wp2_with fail
        go_meet
        exact ⟨by rw [hl], rfl⟩
     ·have e3 : decide ((65 : Int) ≤ x) = false := decide_eq_false (by omega)
      have e5 : ((x : Int) == 95) = false := by simp; omega
      have hl : letN x = false := decide_eq_false (by omega)
      go_wp2_with fail
      go_meet
      exact ⟨by rw [hl], rfl⟩
   case rest =>
    obtain ⟨h5, rfl⟩ := hcut
    by_cases hl : letN x = true
    ·rw [hl] at h5
     subst h5
     have hn : nameC s[k] = true := by unfold nameC; rw [HX.out, hl]; rfl
     have hd0 : digN x = false := by
      unfold letN at hl
      have := of_decide_eq_true hl
      exact decide_eq_false (by omega)
     have hyes := Lib.hid (all_more hc.out hall.out.1 hn)
     have hd := Lib.hid (show ∀ c, 0 < k + 1 → s.data.toList[0]? = some c → digN c.toNat = false from fun c _ h0 => by
      by_cases hk0 : k = 0
      ·have h1 := hc.out
       subst hk0
       rw [h0] at h1
       rw [Option.some.inj h1, HX.out]
       exact hd0
      ·exact hall.out.2 c (by omega) h0)
     clear hn hl hd0
     go_wp2_with fail
     go_round
     case rel => exact ⟨k + 1, by omega, by go_num, Lib.hid ⟨hyes.out, hd.out⟩⟩
     case measure => simp [intOf]; omega
    ·have hl : letN x = false := by simpa using hl
     rw [hl] at h5
     subst h5
     have HL := Lib.hid hl
     clear hl
     by_cases hd : 48 ≤ x ∧ x ≤ 57
     ·have e1 : decide ((x : Int) < 48) = false := decide_eq_false (by omega)
      have e2 : decide ((57 : Int) < x) = false := decide_eq_false (by omega)
      have hdg : digN x = true := decide_eq_true hd
      by_cases hk0 : k = 0
      ·have hno := Lib.hid (show nameB s = false from name_dig (c := s[k]) (by have h1 := hc.out; subst hk0; exact h1) (by rw [HX.out]; exact hdg))
       have e3 : ((k : Int) == 0) = true := by simp; omega
       clear hdg hk0
       go_wp2_with fail
       go_ret
       exact ⟨ret_b hno.out.symm, rfl⟩
      ·have hn : nameC s[k] = true := by unfold nameC; rw [HX.out, hdg]; simp
       have hyes := Lib.hid (all_more hc.out hall.out.1 hn)
       have hd2 := Lib.hid (show ∀ c, 0 < k + 1 → s.data.toList[0]? = some c → digN c.toNat = false from fun c _ h0 => hall.out.2 c (by omega) h0)
       have e3 : ((k : Int) == 0) = false := by simp; omega
       clear hdg hn
       go_wp2_with fail
       go_round
       case rel => exact ⟨k + 1, by omega, by go_num, Lib.hid ⟨hyes.out, hd2.out⟩⟩
       case measure => simp [intOf]; omega
     ·have hdg : digN x = false := decide_eq_false hd
      have hn : nameC s[k] = false := by unfold nameC; rw [HX.out, hdg, HL.out]; rfl
      have hno := Lib.hid (name_no hc.out hn)
      clear hdg hn
      by_cases hk0 : k = 0
      ·have e3 : ((k : Int) == 0) = true := by simp; omega
       clear hk0
       go_wp2_with fail
       go_ret
       exact ⟨ret_b hno.out.symm, rfl⟩
      ·have e3 : ((k : Int) == 0) = false := by simp; omega
       by_cases h48 : x < 48
       ·have e1 : decide ((x : Int) < 48) = true := decide_eq_true (by omega)
        go_wp2_with fail
        go_ret
        exact ⟨ret_b hno.out.symm, rfl⟩
       ·have e1 : decide ((x : Int) < 48) = false := decide_eq_false (by omega)
        have e2 : decide ((57 : Int) < x) = true := decide_eq_true (by omega)
        go_wp2_with fail
        go_ret
        exact ⟨ret_b hno.out.symm, rfl⟩
  ·have hke : k = s.size := by omega
   have hall2 := hall.out
   rw [List.take_of_length_le (by rw [data_len]; omega)] at hall2
   have HALL := Lib.hid hall2
   clear hall hall2
   subst hke
   by_cases h0 : 1 ≤ s.size
   ·have h1 : decide ((1 : Int) ≤ s.size) = true := decide_eq_true (by omega)
    by_cases h2 : s.size ≤ 64
    ·have h3 : decide ((s.size : Int) ≤ 64) = true := decide_eq_true (by omega)
     have hy := Lib.hid (name_yes h0 h2 (fun c hc => HALL.out.2 c (by omega) hc) HALL.out.1)
     go_wp2_with fail
     go_ret
     exact ⟨ret_b hy.out.symm, rfl⟩
    ·have h3 : decide ((s.size : Int) ≤ 64) = false := decide_eq_false (by omega)
     have hy := Lib.hid (name_size (s := s) (by omega))
     go_wp2_with fail
     go_ret
     exact ⟨ret_b hy.out.symm, rfl⟩
   ·have h1 : decide ((1 : Int) ≤ s.size) = false := decide_eq_false (by omega)
    have hy := Lib.hid (name_size (s := s) (by omega))
    go_wp2_with fail
    go_ret
    exact ⟨ret_b hy.out.symm, rfl⟩

end Go.Proofs.YtijciakkfpjjbaaGreatDoor
namespace Go.Proofs.YtijciakkfpjjbaaGreatDoor
open Go Go.RowKit

set_option maxRecDepth 100000 in
set_option maxHeartbeats 1000000 in
theorem digit_any (x : Nat) (hx : x < 256) (w : World) : Calls Tryz.prog 155 #[.int .u8 (x : Int)] w fun e w' => e = .returned (.bool (digN x)) ∧ w' = w := by
 go_enter Tryz.func155, Tryz.ntmps155
 by_cases h1 : x < 48
 ·have e1 : decide ((48 : Int) ≤ x) = false := decide_eq_false (by omega)
  have hd : digN x = false := decide_eq_false (by omega)
  go_wp2_with fail
  go_ret
  exact ⟨ret_b hd.symm, rfl⟩
 ·have e1 : decide ((48 : Int) ≤ x) = true := decide_eq_true (by omega)
  by_cases h2 : x ≤ 57
  ·have e2 : decide ((x : Int) ≤ 57) = true := decide_eq_true (by omega)
   have hd : digN x = true := decide_eq_true (by omega)
   go_wp2_with fail
   go_ret
   exact ⟨ret_b hd.symm, rfl⟩
  ·have e2 : decide ((x : Int) ≤ 57) = false := decide_eq_false (by omega)
   have hd : digN x = false := decide_eq_false (by omega)
   go_wp2_with fail
   go_ret
   exact ⟨ret_b hd.symm, rfl⟩

/-- A row of whole numbers in memory, as the walk asks for it. -/
def IntsAt (w : World) (A : Option Addr) (D : List Nat) : Prop := ∀ (i : Nat) (x : Nat), D[i]? = some x → ∃ ad, A = some ad ∧ (ad.add i).block < w.heap.size ∧ w.cell? (ad.add i) = some (.int .i64 (x : Int))
theorem IntsAt.under {w w' : World} {A : Option Addr} {D : List Nat} (h : IntsAt w A D) (hb : Below w.heap.size w w') : IntsAt w' A D := fun i x hx => by
 obtain ⟨ad, hA, hl, hc⟩ := h i x hx
 exact ⟨ad, hA, Nat.lt_of_lt_of_le hl hb.size, (hb.cell (p := ad.add i) hl).trans hc⟩
/-- A place of a row; 0 beyond it. -/
def atD (D : List Nat) (i : Nat) : Nat := (D[i]?).getD 0

set_option maxRecDepth 100000 in
set_option maxHeartbeats 1000000 in
theorem at_any (D : List Nat) (A : Option Addr) (cap : Nat) (i : Nat) (hi : i ≤ 4000000000000) (w : World) (h : IntsAt w A D) :
    Calls Tryz.prog 156 #[.slice A D.length cap, .int .i64 (i : Int)] w (ToldN (atD D i) w) := by
 have HH := Lib.hid h
 clear h
 obtain ⟨n, HN⟩ := name_itV D.length
 rw [HN.out]
 go_enter Tryz.func156, Tryz.ntmps156
 have e0 : decide ((i : Int) < 0) = false := decide_eq_false (by omega)
 by_cases hlt : i < n
 ·have hil : i < D.length := by rw [HN.out]; exact hlt
  obtain ⟨ad, rfl, _, hc⟩ := HH.out i _ (List.getElem?_eq_getElem hil)
  have ha : atD D i = D[i] := by unfold atD; rw [List.getElem?_eq_getElem hil]; rfl
  rw [ha]
  obtain ⟨x, HX⟩ := name_itV D[i]
  rw [HX.out] at hc ⊢
  have e1 : decide ((n : Int) ≤ i) = false := decide_eq_false (by omega)
  have e2 : (0 : Int) ≤ i := by omega
  have e3 : (i : Int) < n := by omega
  clear ha
  go_wp2_with fail
  go_ret
  exact ⟨rfl, 0, rfl⟩
 ·have ha : atD D i = 0 := by unfold atD; rw [List.getElem?_eq_none (by rw [HN.out]; omega)]; rfl
  rw [ha]
  have e1 : decide ((n : Int) ≤ i) = true := decide_eq_true (by omega)
  clear ha
  go_wp2_with fail
  go_ret
  exact ⟨rfl, 0, rfl⟩

/-- A truth is told; the world but for draws as it was. -/
def ToldBd (b : Bool) (w : World) (e : Ending) (w' : World) : Prop := e = .returned (.bool b) ∧ ∃ m, w' = w.drewN m
theorem all_moreN {p : Nat → Bool} {l : List Nat} {k : Nat} {c : Nat} (h : l[k]? = some c) (ha : (l.take k).all p = true) (hc : p c = true) : (l.take (k + 1)).all p = true := by
 rw [take_oneMore h]; simp [ha, hc]
theorem all_noN {p : Nat → Bool} {l : List Nat} {k : Nat} {c : Nat} (h : l[k]? = some c) (hc : p c = false) : l.all p = false := by
 rw [List.all_eq_false]; exact ⟨c, List.mem_of_getElem? h, by simp [hc]⟩
/-- Are all noughts? -/
def zeroD (D : List Nat) : Bool := D.all (· == 0)

set_option maxRecDepth 100000 in
set_option maxHeartbeats 1000000 in
theorem zero_any (D : List Nat) (hD : D.length ≤ 4000000000000) (A : Option Addr) (cap : Nat) (w : World) (h : IntsAt w A D) :
    Calls Tryz.prog 81 #[.slice A D.length cap] w (ToldBd (zeroD D) w) := by
 have HH := Lib.hid h
 clear h
 obtain ⟨n, HN⟩ := name_itV D.length
 rw [HN.out] at hD ⊢
 go_enter Tryz.func81, Tryz.ntmps81
 go_wp2_with fail
 go_loopw [3] (fun s3 wr => ∃ k m : Nat, k ≤ n ∧ s3 = .int .i64 (k : Nat) ∧ Hid ((D.take k).all (· == 0) = true) ∧ wr = w.drewN m) (fun s3 _ => n - (intOf s3).toNat)
 case atStart => exact ⟨0, 0, by omega, rfl, Lib.hid (by simp), rfl⟩
 case round =>
  obtain ⟨k, m, hk, rfl, hall, hw⟩ := hrel
  have HW := Lib.hid hw
  have HR := Lib.hid (show IntsAt wr A D from by rw [hw]; exact HH.out)
  clear hw
  by_cases hlt : k < n
  ·have hil : k < D.length := by rw [HN.out]; exact hlt
   obtain ⟨ad, rfl, _, hc⟩ := HR.out k _ (List.getElem?_eq_getElem hil)
   have hx := Lib.hid (show D[k]? = some D[k] from List.getElem?_eq_getElem hil)
   obtain ⟨x, HX⟩ := name_itV D[k]
   rw [HX.out] at hc hx
   clear HX hil
   have e2 : (0 : Int) ≤ k := by omega
   have e3 : (k : Int) < n := by omega
   by_cases hx0 : x = 0
   ·subst hx0
    have hyes := Lib.hid (show (D.take (k + 1)).all (· == 0) = true from all_moreN hx.out hall.out rfl)
    go_wp2_with fail
    go_roundw
    case rel => exact ⟨k + 1, m, by omega, by go_num, hyes, HW.out⟩
    case measure => simp [intOf]; omega
   ·have hno := Lib.hid (show zeroD D = false from all_noN hx.out (by simpa using hx0))
    have e4 : ((x : Int) == 0) = false := by simp; omega
    clear hx0
    go_wp2_with fail
    go_ret
    exact ⟨ret_b hno.out.symm, m, HW.out⟩
  ·have hke : k = n := by omega
   subst hke
   have hz := Lib.hid (show zeroD D = true from by have := hall.out; rwa [List.take_of_length_le (by rw [HN.out]; omega)] at this)
   go_wp2_with fail
   go_ret
   exact ⟨ret_b hz.out.symm, m, HW.out⟩
end Go.Proofs.YtijciakkfpjjbaaGreatDoor
namespace Go.Proofs.YtijciakkfpjjbaaGreatDoor
open Go Go.RowKit Go.Maps Go.WideMaps

theorem grown_after {w w' : World} {o : Obj} {row : Option Nat} (h : (w.alloc o).grownBy w' row) : w.grownBy w' row :=
 ⟨h.os, h.tape, h.output, Nat.le_trans (by simp) h.size, fun k hk hne => (h.block k (by simp; omega) hne).trans (Below.heap_alloc w o k hk)⟩
/-- 'append(v, ..)': what is appended has just been laid into a block of its own; the new slice lies where the old one lay, or in a block that is new. -/
theorem app_new {P : Program} {wr : World} {ops : Array Oper} {rest : List Oper} {o : Oper} {a : Act} {Q : Exit → Act → World → Prop} (hgd : o.guard = none) (s x : Operand) (t : TypeId)
    (ho : o.op = .call { callee := .builtin .append, args := #[s, x], argTypes := #[t, t] })
    (base : Nat) (e : TypeId) (z : Value) (size bytes : Nat) (ht : P.underlying t = some (.slice e)) (hinfo : (P.info? e).map (fun i => (i.zero, i.size, i.bytes)) = some (some z, size, bytes))
    (hzs : z.cells.size = size) (hsz : 0 < size)
    (v : Value) (n : Nat) (xs : List Value) (hs : a.eval s = v) (hown : wr.ownsRow base e size v n xs) (hbase : base ≤ wr.heap.size)
    (cs : Array Value) (m c : Nat) (hx : a.eval x = .slice (some ⟨wr.heap.size, 0, none⟩) m c) (hl : cs.size = m * size) (h1 : ∀ u ∈ cs.toList, u.oneCell' = true)
    (hm0 : 0 < m) (hm : n + m ≤ 100000000) (hb : bytes ≤ 1000)
    (h : ∀ g cap w', w'.ownsRow base e size (.slice (some ⟨g, 0, none⟩) (n + m) cap) (n + m) (xs ++ cs.toList) → wr.grownBy w' v.ownBlock → (v.ownBlock = some g ∨ wr.heap.size ≤ g) → wpList P ops Q rest (a.put o.dst (.slice (some ⟨g, 0, none⟩) (n + m) cap)) w') : wpList P ops Q (o :: rest) a (wr.alloc (.cells cs e)) := by
 obtain ⟨i0, hi, hz0, hz1, hz2⟩ := info_parts hinfo
 refine wpList_append_lies _ hgd s x t ho base e i0 z size bytes ht hi hz0 hz1 hz2 hzs hsz v n xs hs (hown.alloc _) ⟨wr.heap.size, 0, none⟩ m c cs.toList hx (by simpa using hl)
  (World.news_of_block (heap_alloc_new wr _)) h1 hm0 (by unfold maxLen; omega) (Nat.le_trans (Nat.mul_le_mul hm hb) (by decide)) (by simp; omega) _ rfl
  (fun g cap w' h1 h2 h3 _ => h g cap w' h1 (grown_after h2) (h3.imp id (fun e => by rw [e]; simp)))

theorem infoByte : (Tryz.prog.info? 5).map (fun i => (i.zero, i.size, i.bytes)) = some (some (.int .u8 0), 1, 1) := by kernel_rfl
theorem one_u8 (x : Int) : ∀ u ∈ (#[Value.int .u8 x] : Array Value).toList, u.oneCell' = true := by
 intro u hu; simp at hu; subst hu; rfl

theorem own_base {w : World} {B B' : Nat} {e : TypeId} {size : Nat} {v : Value} {n : Nat} {xs : List Value} (h : w.ownsRow B e size v n xs) (hB : B' ≤ B) : w.ownsRow B' e size v n xs := by
 refine ⟨h.1, ?_⟩
 rcases h.2 with h0 | ⟨g, cap, cur, rfl, hb, rest⟩
 ·exact .inl h0
 ·exact .inr ⟨g, cap, cur, rfl, Nat.le_trans hB hb, rest⟩

def strK (l : List UInt8) : ByteArray := ⟨l.toArray⟩
theorem conv_row {w : World} {base : Nat} {v : Value} {l : List UInt8} (h : w.ownsRow base 5 1 v l.length (Lib.byteCells l)) : (convert 153 9 v).run Tryz.prog w = .ok (.string (strK l)) w := by
 have he : Tryz.prog.underlying 5 = some (.int .u8) := by kernel_rfl
 have hd : Tryz.prog.underlying 9 = some .string := by kernel_rfl
 rcases h.2 with ⟨rfl, h0⟩ | ⟨g, cap, cur, rfl, _, hg, _, _, _, htake⟩
 ·obtain rfl : l = [] := List.eq_nil_of_length_eq_zero h0
  exact Lib.run_convert_nil_bytes w 153 9 5 0 Tryz.underlying153 he hd
 ·exact run_convert_bytes_back w 153 9 5 ⟨g, 0, none⟩ cap l Tryz.underlying153 he hd (Lib.bytes_of_row hg (by simpa using htake))
/-- What a column's slice is now: where it lay, or new. -/
def Fresh (w : World) (v v' : Value) : Prop := v'.ownBlock = v.ownBlock ∨ ∀ g, v'.ownBlock = some g → w.heap.size ≤ g
theorem Fresh.refl (w : World) (v : Value) : Fresh w v v := .inl rfl

theorem own_type {w : World} {base e size g : Nat} {v : Value} {n : Nat} {xs : List Value} (h : w.ownsRow base e size v n xs) (hg : v.ownBlock = some g) : ∃ cur, w.heap[g]? = some (.cells cur e (0, 0)) := by
 rcases h.2 with ⟨h0, _⟩ | ⟨g', cap, cur, h0, _, hg', _⟩
 ·rw [h0] at hg; cases hg
 ·rw [h0] at hg
  injection hg with hg
  subst hg
  exact ⟨_, hg'⟩
theorem own_ne {w : World} {base e size c C : Nat} {v : Value} {n : Nat} {xs : List Value} (h : w.ownsRow base e size v n xs) {cs : Array Value} (hc : w.heap[c]? = some (.cells cs C (0, 0))) (hne : e ≠ C) : v.ownBlock ≠ some c := fun hg => by
 obtain ⟨cur, h1⟩ := own_type h hg
 rw [hc] at h1
 injection h1 with h1
 injection h1 with _ h1
 exact hne h1.symm
theorem own_apart {w : World} {base base' e e' size size' : Nat} {v u : Value} {n m : Nat} {xs ys : List Value} (h : w.ownsRow base e size v n xs) (k : w.ownsRow base' e' size' u m ys) (hne : e ≠ e') : ∀ g, u.ownBlock = some g → v.ownBlock ≠ some g := fun g hg hv => by
 obtain ⟨cur, h1⟩ := own_type h hv
 obtain ⟨cur', h2⟩ := own_type k hg
 rw [h1] at h2
 injection h2 with h2
 injection h2 with _ h2
 exact hne h2
theorem blk_lt {w : World} {c : Nat} {o : Obj} (h : w.heap[c]? = some o) : c < w.heap.size := by
 rcases Nat.lt_or_ge c w.heap.size with h' | h'
 ·exact h'
 ·rw [Array.getElem?_eq_none h'] at h; cases h
theorem slice_form {w : World} {base e size : Nat} {v : Value} {n : Nat} {xs : List Value} (h : w.ownsRow base e size v n xs) : ∃ A cp, v = .slice A n cp := by
 rcases h.2 with ⟨rfl, h0⟩ | ⟨g, cp, cur, rfl, _⟩
 ·exact ⟨none, 0, by rw [h0]⟩
 ·exact ⟨_, cp, rfl⟩

theorem own_drew {w : World} {base e size : Nat} {v : Value} {n : Nat} {xs : List Value} (h : w.ownsRow base e size v n xs) : w.drew.ownsRow base e size v n xs := h

theorem one_int (k : IntKind) (x : Int) : ∀ u ∈ (#[Value.int k x] : Array Value).toList, u.oneCell' = true := by
 intro u hu; simp at hu; subst hu; rfl
end Go.Proofs.YtijciakkfpjjbaaGreatDoor
namespace Go.Proofs.YtijciakkfpjjbaaGreatDoor
open Go Go.RowKit Go.Maps Go.WideMaps

/-- Is a text's first byte a minus? -/
def sgnB (s : ByteArray) : Bool := s.data.toList.head? == some 45
/-- Has a text a sign? -/
def sgnY (s : ByteArray) : Bool := s.data.toList.head? == some 45 || s.data.toList.head? == some 43
/-- A text without its sign. -/
def sgnT (s : ByteArray) : ByteArray := cond (sgnY s) (s.extract 1 s.size) s
/-- The point's place; none where another byte is no digit. -/
def pointF : List UInt8 → Nat → Option Nat → Option (Option Nat)
 | [], _, p => some p
 | c :: l, i, p => cond (c == 46 && p.isNone) (pointF l (i + 1) (some i)) (cond (digN c.toNat) (pointF l (i + 1) p) none)
/-- The digits, the lowest first. -/
def digsD : List UInt8 → List Nat
 | [] => []
 | c :: l => digsD l ++ cond (c == 46) [] [c.toNat - 48]
theorem drop_at {l : List UInt8} {k : Nat} {c : UInt8} (h : l[k]? = some c) : l.drop k = c :: l.drop (k + 1) := by
 obtain ⟨hk, rfl⟩ := List.getElem?_eq_some_iff.1 h
 exact List.drop_eq_getElem_cons hk
theorem pf_pt {l : List UInt8} {k : Nat} (h : l[k]? = some 46) : pointF (l.drop k) k none = pointF (l.drop (k + 1)) (k + 1) (some k) := by
 rw [drop_at h]; rfl
theorem pf_dig {l : List UInt8} {k : Nat} {c : UInt8} {p : Option Nat} (h : l[k]? = some c) (hc : digN c.toNat = true) : pointF (l.drop k) k p = pointF (l.drop (k + 1)) (k + 1) p := by
 rw [drop_at h]
 have h46 : (c == 46) = false := by
  refine beq_eq_false_iff_ne.2 fun e => ?_
  rw [e] at hc; cases hc
 simp [pointF, h46, hc]
theorem pf_no {l : List UInt8} {k : Nat} {c : UInt8} {p : Option Nat} (h : l[k]? = some c) (hc : digN c.toNat = false) (hp : c ≠ 46 ∨ ∃ i, p = some i) : pointF (l.drop k) k p = none := by
 rw [drop_at h]
 have h46 : (c == 46 && p.isNone) = false := by
  rcases hp with hp | ⟨i, rfl⟩
  ·rw [beq_eq_false_iff_ne.2 hp]; rfl
  ·simp
 simp [pointF, h46, hc]
theorem pf_end {l : List UInt8} {k : Nat} {p : Option Nat} (h : l.length ≤ k) : pointF (l.drop k) k p = some p := by
 rw [List.drop_of_length_le h]; rfl
def ptI : Option Nat → Int
 | none => -1
 | some i => i
/-- How many digits stand behind the point. -/
def scaleP (n : Nat) : Option Nat → Nat
 | none => 0
 | some i => n - 1 - i
/-- What a text is parsed as: its sign, its digits, how many of them stand behind the point. -/
def parseT (s : ByteArray) : Option (Bool × List Nat × Nat) :=
 match pointF (sgnT s).data.toList 0 none with
 | none => none
 | some p => cond (decide ((sgnT s).size = 0) || (p == some 0) || (p == some ((sgnT s).size - 1))) none
     (some (sgnB s, digsD (sgnT s).data.toList, scaleP (sgnT s).size p))
theorem parse_none {s : ByteArray} (h : pointF (sgnT s).data.toList 0 none = none) : parseT s = none := by unfold parseT; rw [h]
theorem infoInt : (Tryz.prog.info? 3).map (fun i => (i.zero, i.size, i.bytes)) = some (some (.int .i64 0), 1, 8) := by kernel_rfl
theorem sgn_min {s : ByteArray} (h : 0 < s.size) (h1 : s[0].toNat = 45) : sgnB s = true ∧ sgnY s = true ∧ sgnT s = s.extract 1 s.size := by
 have h2 : s[0] = 45 := UInt8.toNat_inj.1 h1
 have h3 := head_data h
 unfold sgnT sgnY sgnB
 rw [h3, h2]
 exact ⟨rfl, rfl, rfl⟩
theorem sgn_plus {s : ByteArray} (h : 0 < s.size) (h1 : s[0].toNat = 43) : sgnB s = false ∧ sgnY s = true ∧ sgnT s = s.extract 1 s.size := by
 have h2 : s[0] = 43 := UInt8.toNat_inj.1 h1
 have h3 := head_data h
 unfold sgnT sgnY sgnB
 rw [h3, h2]
 exact ⟨rfl, rfl, rfl⟩
theorem sgn_none {s : ByteArray} (h : 0 < s.size) (h1 : s[0].toNat ≠ 45) (h2 : s[0].toNat ≠ 43) : sgnB s = false ∧ sgnY s = false ∧ sgnT s = s := by
 have a1 : s[0] ≠ 45 := fun e => h1 (by rw [e]; rfl)
 have a2 : s[0] ≠ 43 := fun e => h2 (by rw [e]; rfl)
 have h3 := head_data h
 unfold sgnT sgnY sgnB
 rw [h3]
 have b1 : (some s[0] == some (45 : UInt8)) = false := by simpa using a1
 have b2 : (some s[0] == some (43 : UInt8)) = false := by simpa using a2
 rw [b1, b2]
 exact ⟨rfl, rfl, rfl⟩
theorem sgn_empty {s : ByteArray} (h : ¬ 0 < s.size) : sgnB s = false ∧ sgnY s = false ∧ sgnT s = s := by
 have h3 : s.data.toList = [] := List.eq_nil_of_length_eq_zero (by rw [data_len]; omega)
 unfold sgnT sgnY sgnB
 rw [h3]
 exact ⟨rfl, rfl, rfl⟩
theorem sgn_size (s : ByteArray) : (sgnT s).size ≤ s.size := by
 unfold sgnT
 cases sgnY s
 ·exact Nat.le_refl _
 ·simp
/-- The world behind the sign. -/
def signW (s : ByteArray) (w : World) : World := (w.alloc (.cells #[.bool false, .slice none 0 0, .int .i64 0] 117)).alloc (.cells #[.bool (sgnB s), .slice none 0 0, .int .i64 0] 117)
def ParsedIs (s : ByteArray) (w : World) (e : Ending) (w' : World) : Prop := Below w.heap.size w w' ∧
 match parseT s with
 | none => e = .returned (.tuple #[.agg #[.bool false, .slice none 0 0, .int .i64 0], .bool false])
 | some (neg, D, S) => ∃ A cap, e = .returned (.tuple #[.agg #[.bool neg, .slice A D.length cap, .int .i64 (S : Int)], .bool true]) ∧ IntsAt w' A D

/-- The answer being made: its struct in block b + 1, its digits in the slice v. -/
structure MidN (w : World) (b : Nat) (sg : Bool) (D : List Nat) (v : Value) (S : Nat) (wr : World) : Prop where
 below : Below w.heap.size w wr
 res : wr.heap[b]? = some (.cells #[.bool false, .slice none 0 0, .int .i64 0] 117 (0, 0))
 num : wr.heap[b + 1]? = some (.cells #[.bool sg, v, .int .i64 (S : Int)] 117 (0, 0))
 row : wr.ownsRow (b + 2) 3 1 v D.length (D.map fun (x : Nat) => Value.int .i64 (x : Int))
 size : b + 2 ≤ wr.heap.size
theorem ints_own {w : World} {base : Nat} {D : List Nat} {A : Option Addr} {cp : Nat} (h : w.ownsRow base 3 1 (.slice A D.length cp) D.length (D.map fun (x : Nat) => Value.int .i64 (x : Int))) : IntsAt w A D := by
 intro i x hx
 have h2 := h
 rcases h.2 with ⟨h0, _⟩ | ⟨g, cap, cur, h0, _⟩
 ·injection h0 with _ hn _
  have hl := (List.getElem?_eq_some_iff.1 hx).1
  rw [hn] at hl
  exact absurd hl (Nat.not_lt_zero _)
 ·have hA : A = some ⟨g, 0, none⟩ := by injection h0
  exact ⟨_, hA, by have := (h2.lt g (by rw [h0]; rfl)).2; unfold Addr.add; split <;> exact this, h2.cells (g := g) (by rw [h0]; rfl) i _ (by rw [List.getElem?_map, hx]; rfl)⟩
theorem pf_all {l : List UInt8} : ∀ {i : Nat} {p q : Option Nat}, pointF l i p = some q → ∀ c ∈ l, c = 46 ∨ digN c.toNat = true := by
 induction l with
 | nil => intro i p q _ c hc; cases hc
 | cons d l ih =>
  intro i p q h c hc
  unfold pointF at h
  cases h1 : (d == 46 && p.isNone) with
  | true =>
   rw [h1] at h
   rcases List.mem_cons.1 hc with rfl | hc
   ·exact .inl (beq_iff_eq.1 (Bool.and_eq_true_iff.1 h1).1)
   ·exact ih h c hc
  | false =>
   rw [h1] at h
   cases h2 : digN d.toNat with
   | true =>
    rw [h2] at h
    rcases List.mem_cons.1 hc with rfl | hc
    ·exact .inr h2
    ·exact ih h c hc
   | false => rw [h2] at h; cases h
theorem digs_pt {l : List UInt8} {k : Nat} (h : l[k]? = some 46) : digsD (l.drop k) = digsD (l.drop (k + 1)) := by
 rw [drop_at h]; simp [digsD]
theorem digs_dig {l : List UInt8} {k : Nat} {c : UInt8} (h : l[k]? = some c) (hc : c ≠ 46) : digsD (l.drop k) = digsD (l.drop (k + 1)) ++ [c.toNat - 48] := by
 rw [drop_at h]; simp [digsD, beq_eq_false_iff_ne.2 hc]
theorem digs_length (l : List UInt8) : (digsD l).length ≤ l.length := by
 induction l with
 | nil => simp [digsD]
 | cons c l ih =>
  unfold digsD
  cases h : c == 46 <;> simp <;> omega
theorem three_set {w : World} {b C : Nat} {c0 c1 c2 : Value} (v0 v1 v2 : Value) (h : w.heap[b]? = some (.cells #[c0, c1, c2] C (0, 0))) : (((w.setCell ⟨b, 0, none⟩ v0).setCell ⟨b, 1, none⟩ v1).setCell ⟨b, 2, none⟩ v2).heap[b]? = some (.cells #[v0, v1, v2] C (0, 0)) :=
 heap_setCell_same _ b 2 _ C _ (heap_setCell_same _ b 1 _ C _ (heap_setCell_same w b 0 _ C _ h))
theorem three_below {w0 w : World} {k b : Nat} (v0 v1 v2 : Value) (h : Below k w0 w) (hb : k ≤ b) : Below k w0 (((w.setCell ⟨b, 0, none⟩ v0).setCell ⟨b, 1, none⟩ v1).setCell ⟨b, 2, none⟩ v2) :=
 ((h.setCell (p := ⟨b, 0, none⟩) hb _).setCell (p := ⟨b, 1, none⟩) hb _).setCell (p := ⟨b, 2, none⟩) hb _

set_option maxRecDepth 100000 in
set_option maxHeartbeats 1000000 in
theorem parsed_any (s : ByteArray) (hs : s.size ≤ 4000000000000) (w : World) : Calls Tryz.prog 114 #[.string s] w (ParsedIs s w) := by
 go_enter Tryz.func114, Tryz.ntmps114
 go_upto_region 2 with fail
 go_cut [20] (fun s20 wx => s20 = .bool (sgnY s) ∧ wx = (w.alloc (.cells #[.bool false, .slice none 0 0, .int .i64 0] 117)).alloc (.cells #[.bool false, .slice none 0 0, .int .i64 0] 117))
 case first =>
  by_cases h0 : 0 < s.size
  ·by_cases h1 : s[0].toNat = 45
   ·have hh := Lib.hid (sgn_min h0 h1)
    have e1 : ((s[0].toNat : Int) == 45) = true := by simp; omega
    clear h1
    go_wp2_with fail
    go_meet
    exact ⟨by rw [hh.out.2.1], rfl⟩
   ·have e1 : ((s[0].toNat : Int) == 45) = false := by simp; omega
    by_cases h2 : s[0].toNat = 43
    ·have hh := Lib.hid (sgn_plus h0 h2)
     have e2 : ((s[0].toNat : Int) == 43) = true := by simp; omega
     clear h1 h2
     go_wp2_with fail
     go_meet
     exact ⟨by rw [hh.out.2.1], rfl⟩
    ·have hh := Lib.hid (sgn_none h0 h1 h2)
     have e2 : ((s[0].toNat : Int) == 43) = false := by simp; omega
     clear h1 h2
     go_wp2_with fail
     go_meet
     exact ⟨by rw [hh.out.2.1], rfl⟩
  ·have hh := Lib.hid (sgn_empty h0)
   go_wp2_with fail
   go_meet
   exact ⟨by rw [hh.out.2.1], rfl⟩
 case rest =>
  obtain ⟨h20, rfl⟩ := hcut
  have HT := Lib.hid (show (sgnT s).size ≤ 4000000000000 from Nat.le_trans (sgn_size s) hs)
  go_upto_if 20 with fail
  go_cut [0] (fun s0 wx => s0 = .string (sgnT s) ∧ wx = signW s w)
  case first =>
   by_cases hy : sgnY s = true
   ·have h0 : 0 < s.size := by
      refine Classical.byContradiction fun h => ?_
      rw [(sgn_empty h).2.1] at hy; cases hy
    rw [hy] at h20
    subst h20
    have hm := Lib.hid (show Value.bool ((s[0].toNat : Int) == 45) = .bool (sgnB s) from by
     by_cases h1 : s[0].toNat = 45
     ·rw [(sgn_min h0 h1).1, h1]; rfl
     ·by_cases h2 : s[0].toNat = 43
      ·rw [(sgn_plus h0 h2).1, h2]; rfl
      ·rw [(sgn_none h0 h1 h2).2.1] at hy; cases hy)
    have ht := Lib.hid (show sgnT s = s.extract 1 s.size from by unfold sgnT; rw [hy]; rfl)
    clear hy
    go_wp2_with fail
    go_meet
    exact ⟨by rw [ht.out], by unfold signW; rw [← hm.out]⟩
   ·have hy : sgnY s = false := by simpa using hy
    have ht := Lib.hid (show sgnT s = s from by unfold sgnT; rw [hy]; rfl)
    have hb := Lib.hid (show sgnB s = false from by
     unfold sgnY at hy
     unfold sgnB
     exact (Bool.or_eq_false_iff.1 hy).1)
    rw [hy] at h20
    subst h20
    clear hy
    go_wp2_with fail
    go_meet
    exact ⟨by rw [ht.out], by unfold signW; rw [hb.out]⟩
  case rest =>
   obtain ⟨h0, hw⟩ := hcut
   subst h0
   have HW := Lib.hid hw
   clear hw h20
   have HS := Lib.hid (show wc.heap.size = w.heap.size + 2 by rw [HW.out]; simp [signW])
   have HB := Lib.hid (show Below w.heap.size w wc by
    rw [HW.out]
    exact ((Below.refl w.heap.size w).alloc (Nat.le_refl _) _).alloc (by simp) _)
   have HBa := Lib.hid (show wc.heap[w.heap.size]? = some (.cells #[.bool false, .slice none 0 0, .int .i64 0] 117 (0, 0)) by
    rw [HW.out]
    unfold signW
    rw [Below.heap_alloc _ _ _ (by simp)]
    exact heap_alloc_new w _)
   have HBb := Lib.hid (show wc.heap[w.heap.size + 1]? = some (.cells #[.bool (sgnB s), .slice none 0 0, .int .i64 0] 117 (0, 0)) by
    rw [HW.out]
    unfold signW
    have := heap_alloc_new (w.alloc (.cells #[.bool false, .slice none 0 0, .int .i64 0] 117)) (.cells #[.bool (sgnB s), .slice none 0 0, .int .i64 0] 117)
    rw [show (w.alloc (.cells #[.bool false, .slice none 0 0, .int .i64 0] 117)).heap.size = w.heap.size + 1 by simp] at this
    exact this)
   have f2 : wc.frozen? ⟨w.heap.size, 0, none⟩ = false := Lib.frozen_of_heap HBa.out 0
   have f21 : wc.frozen? ⟨w.heap.size, 1, none⟩ = false := Lib.frozen_of_heap HBa.out 1
   have f22 : wc.frozen? ⟨w.heap.size, 2, none⟩ = false := Lib.frozen_of_heap HBa.out 2
   have c20 : wc.cell? ⟨w.heap.size, 0, none⟩ = some (.bool false) := Lib.cell_of_heap HBa.out 0
   have c21 : wc.cell? ⟨w.heap.size, 1, none⟩ = some (.slice none 0 0) := Lib.cell_of_heap HBa.out 1
   have c22 : wc.cell? ⟨w.heap.size, 2, none⟩ = some (.int .i64 0) := Lib.cell_of_heap HBa.out 2
   obtain ⟨b, HBn⟩ := name_itV w.heap.size
   obtain ⟨t, HTn⟩ := name_itV (sgnT s)
   have hts := HT.out
   rw [HTn.out] at hts
   rw [HTn.out]
   rw [HBn.out] at HS HBa HBb f2 f21 f22 c20 c21 c22
   rw [HBn.out]
   clear hs
   go_wp2_with fail
   go_loop [5, 6] (fun s5 s6 => ∃ (k : Nat) (p : Option Nat), k ≤ t.size ∧ s5 = .int .i64 (ptI p) ∧ s6 = .int .i64 (k : Nat) ∧ Hid (pointF t.data.toList 0 none = pointF (t.data.toList.drop k) k p ∧ ∀ i, p = some i → i < k)) (fun _ s6 => t.size - (intOf s6).toNat)
   case atStart => exact ⟨0, none, by omega, rfl, rfl, Lib.hid ⟨rfl, fun i h => by cases h⟩⟩
   case round =>
    obtain ⟨k, p, hk, rfl, rfl, hall⟩ := hrel
    by_cases hlt : k < t.size
    ·have hc := Lib.hid (data_at t k hlt)
     obtain ⟨x, hx⟩ : ∃ x : Nat, t[k].toNat = x := ⟨_, rfl⟩
     have HX := Lib.hid hx
     have hxb : x < 256 := by rw [← hx]; exact t[k].toNat_lt
     by_cases hd : digN x = true
     ·have h48 : 48 ≤ x ∧ x ≤ 57 := by unfold digN at hd; exact of_decide_eq_true hd
      have e1 : ((x : Int) == 46) = false := by simp; omega
      have HD := Lib.hid hd
      have hyes := Lib.hid (show pointF t.data.toList 0 none = pointF (t.data.toList.drop (k + 1)) (k + 1) p from by rw [hall.out.1]; exact pf_dig hc.out (by rw [HX.out]; exact HD.out))
      have hlt2 := Lib.hid (show ∀ i, p = some i → i < k + 1 from fun i h => Nat.lt_succ_of_lt (hall.out.2 i h))
      clear hd
      go_wp2_with fail; refine (digit_any _ (by omega) _).mono ?_; rintro e w' ⟨rfl, rfl⟩
      rw [HD.out]
      go_wp2_with fail
      go_round
      case rel => exact ⟨k + 1, p, by omega, rfl, by go_num, Lib.hid ⟨hyes.out, hlt2.out⟩⟩
      case measure => simp [intOf]; omega
     ·have hd : digN x = false := by simpa using hd
      have HD := Lib.hid hd
      clear hd
      obtain ⟨q, HQ⟩ := name_itV (ptI p)
      rw [HQ.out]
      by_cases hp : x = 46 ∧ p = none
      ·obtain ⟨rfl, rfl⟩ := hp
       have hq : q < 0 := by rw [← HQ.out]; decide
       have e2 : decide (q < 0) = true := decide_eq_true hq
       have hc46 : t[k] = 46 := UInt8.toNat_inj.1 HX.out
       have hyes := Lib.hid (show pointF t.data.toList 0 none = pointF (t.data.toList.drop (k + 1)) (k + 1) (some k) from by rw [hall.out.1]; exact pf_pt (by rw [hc.out, hc46]))
       clear hq hc46
       go_wp2_with fail
       go_round
       case rel => exact ⟨k + 1, some k, by omega, rfl, by go_num, Lib.hid ⟨hyes.out, fun i h => by injection h with h; omega⟩⟩
       case measure => simp [intOf]; omega
      ·have hno := Lib.hid (show parseT s = none from parse_none (by
         rw [HTn.out, hall.out.1]
         refine pf_no hc.out (by rw [HX.out]; exact HD.out) ?_
         cases p with
         | none => exact .inl fun e => hp ⟨by rw [← HX.out, e]; rfl, rfl⟩
         | some i => exact .inr ⟨i, rfl⟩))
       have HP := Lib.hid hp
       clear hp
       by_cases h46 : x = 46
       ·have hq : ¬ q < 0 := by
          rw [← HQ.out]
          cases p with
          | none => exact absurd ⟨h46, rfl⟩ HP.out
          | some i => simp [ptI]
        have e2 : decide (q < 0) = false := decide_eq_false hq
        subst h46
        clear hq
        go_wp2_with fail; refine (digit_any _ (by omega) _).mono ?_; rintro e w' ⟨rfl, rfl⟩
        rw [HD.out]
        go_wp2_with fail
        have h3 := three_set (.bool false) (.slice none 0 0) (.int .i64 0) HBa.out
        have h4 := Lib.hid (three_below (b := b) (.bool false) (.slice none 0 0) (.int .i64 0) HB.out (by rw [HBn.out]; exact Nat.le_refl b))
        obtain ⟨W9, HW9⟩ := name_itV (((w'.setCell ⟨b, 0, none⟩ (.bool false)).setCell ⟨b, 1, none⟩ (.slice none 0 0)).setCell ⟨b, 2, none⟩ (.int .i64 0))
        rw [HW9.out] at h3 h4 ⊢
        have r0 : W9.cell? ⟨b, 0, none⟩ = some (.bool false) := Lib.cell_of_heap h3 0
        have r1 : W9.cell? ⟨b, 1, none⟩ = some (.slice none 0 0) := Lib.cell_of_heap h3 1
        have r2 : W9.cell? ⟨b, 2, none⟩ = some (.int .i64 0) := Lib.cell_of_heap h3 2
        exact bodyPost_ret (v := .tuple #[.agg #[.bool false, .slice none 0 0, .int .i64 0], .bool false]) (by simp [results, Tryz.results114, go_sem, r0, r1, r2]) rfl ⟨h4.out, by rw [hno.out]⟩
       ·have e1 : ((x : Int) == 46) = false := by simp; omega
        clear h46
        go_wp2_with fail; refine (digit_any _ (by omega) _).mono ?_; rintro e w' ⟨rfl, rfl⟩
        rw [HD.out]
        go_wp2_with fail
        have h3 := three_set (.bool false) (.slice none 0 0) (.int .i64 0) HBa.out
        have h4 := Lib.hid (three_below (b := b) (.bool false) (.slice none 0 0) (.int .i64 0) HB.out (by rw [HBn.out]; exact Nat.le_refl b))
        obtain ⟨W9, HW9⟩ := name_itV (((w'.setCell ⟨b, 0, none⟩ (.bool false)).setCell ⟨b, 1, none⟩ (.slice none 0 0)).setCell ⟨b, 2, none⟩ (.int .i64 0))
        rw [HW9.out] at h3 h4 ⊢
        have r0 : W9.cell? ⟨b, 0, none⟩ = some (.bool false) := Lib.cell_of_heap h3 0
        have r1 : W9.cell? ⟨b, 1, none⟩ = some (.slice none 0 0) := Lib.cell_of_heap h3 1
        have r2 : W9.cell? ⟨b, 2, none⟩ = some (.int .i64 0) := Lib.cell_of_heap h3 2
        exact bodyPost_ret (v := .tuple #[.agg #[.bool false, .slice none 0 0, .int .i64 0], .bool false]) (by simp [results, Tryz.results114, go_sem, r0, r1, r2]) rfl ⟨h4.out, by rw [hno.out]⟩
    ·have hkn : k = t.size := by omega
     have hp := Lib.hid (show pointF (sgnT s).data.toList 0 none = some p from by rw [HTn.out, hall.out.1]; exact pf_end (by rw [data_len]; omega))
     have hpk := Lib.hid (show ∀ i, p = some i → i < t.size from by rw [← hkn]; exact hall.out.2)
     subst hkn
     clear hall
     obtain ⟨q, HQ⟩ := name_itV (ptI p)
     rw [HQ.out]
     obtain ⟨cB, HC⟩ := name_itV (decide (t.size = 0) || (p == some 0) || (p == some (t.size - 1)))
     go_upto_region 13 with fail
     go_cut [61] (fun s61 wx => s61 = .bool cB ∧ wx = wc)
     case first =>
      by_cases a0 : t.size = 0
      ·have e1 : ((t.size : Int) == 0) = true := beq_iff_eq.2 (by omega)
       have hc := Lib.hid (show cB = true from by rw [← HC.out, decide_eq_true a0]; rfl)
       clear a0
       go_wp2_with fail
       go_meet
       exact ⟨by rw [hc.out], rfl⟩
      ·have e1 : ((t.size : Int) == 0) = false := beq_eq_false_iff_ne.2 (by omega)
       by_cases a1 : p = some 0
       ·have e2 : (q == 0) = true := by rw [← HQ.out, a1]; rfl
        have hc := Lib.hid (show cB = true from by rw [← HC.out, a1]; simp)
        clear a1
        go_wp2_with fail
        go_meet
        exact ⟨by rw [hc.out], rfl⟩
       ·have e2 : (q == 0) = false := by
          rw [← HQ.out]
          cases p with
          | none => rfl
          | some i =>
           have : i ≠ 0 := fun h => a1 (by rw [h])
           exact beq_eq_false_iff_ne.2 (by show (i : Int) ≠ 0; omega)
        have w1 : IntKind.i64.wrap ((t.size : Int) - 1) = t.size - 1 := IntWalk.i64_in _ (by omega)
        have hc := Lib.hid (show (q == (t.size : Int) - 1) = cB from by
         rw [← HC.out, ← HQ.out, decide_eq_false a0]
         cases p with
         | none => exact beq_eq_false_iff_ne.2 (by show (-1 : Int) ≠ (t.size : Int) - 1; omega)
         | some i =>
          have h1 : (some i == some 0) = false := by simpa using fun h : i = 0 => a1 (by rw [h])
          rw [h1]
          by_cases h2 : i = t.size - 1
          ·subst h2
           simp [ptI]; omega
          ·have h3 : (some i == some (t.size - 1)) = false := by simpa using h2
           rw [h3]
           simp [ptI]; omega)
        clear a1 a0
        go_wp2_with fail
        go_meet
        exact ⟨by rw [hc.out], rfl⟩
     case rest =>
      obtain ⟨h61, rfl⟩ := hcut
      cases cB with
      | true =>
       subst h61
       have hno := Lib.hid (show parseT s = none from by unfold parseT; rw [hp.out, HTn.out]; simp only; rw [HC.out]; rfl)
       go_wp2_with fail
       have h3 := three_set (.bool false) (.slice none 0 0) (.int .i64 0) HBa.out
       have h4 := Lib.hid (three_below (b := b) (.bool false) (.slice none 0 0) (.int .i64 0) HB.out (by rw [HBn.out]; exact Nat.le_refl b))
       obtain ⟨W9, HW9⟩ := name_itV (((wc.setCell ⟨b, 0, none⟩ (.bool false)).setCell ⟨b, 1, none⟩ (.slice none 0 0)).setCell ⟨b, 2, none⟩ (.int .i64 0))
       rw [HW9.out] at h3 h4 ⊢
       have r0 : W9.cell? ⟨b, 0, none⟩ = some (.bool false) := Lib.cell_of_heap h3 0
       have r1 : W9.cell? ⟨b, 1, none⟩ = some (.slice none 0 0) := Lib.cell_of_heap h3 1
       have r2 : W9.cell? ⟨b, 2, none⟩ = some (.int .i64 0) := Lib.cell_of_heap h3 2
       exact bodyPost_ret (v := .tuple #[.agg #[.bool false, .slice none 0 0, .int .i64 0], .bool false]) (by simp [results, Tryz.results114, go_sem, r0, r1, r2]) rfl ⟨h4.out, by rw [hno.out]⟩
      | false =>
       subst h61
       have hyes := Lib.hid (show parseT s = some (sgnB s, digsD t.data.toList, scaleP t.size p) from by
        unfold parseT; rw [hp.out, HTn.out]; simp only; rw [HC.out]; rfl)
       have hn0 : 0 < t.size := by
        rcases Nat.eq_zero_or_pos t.size with h | h
        ·have := HC.out
         rw [decide_eq_true h] at this
         cases this
        ·exact h
       have hall := Lib.hid (pf_all hp.out)
       rw [HTn.out] at hall
       have w1 : IntKind.i64.wrap ((t.size : Int) - 1) = t.size - 1 := IntWalk.i64_in _ (by omega)
       go_wp2_with fail
       go_loopw [7] (fun s7 wr => ∃ (i : Nat) (v : Value), i ≤ t.size ∧ s7 = .int .i64 ((i : Int) - 1) ∧ Hid (MidN w b (sgnB s) (digsD (t.data.toList.drop i)) v 0 wr)) (fun s7 _ => (intOf s7 + 1).toNat)
       case atStart =>
        refine ⟨t.size, .slice none 0 0, Nat.le_refl _, rfl, Lib.hid ⟨HB.out, HBa.out, HBb.out, ?_, by rw [HS.out]; exact Nat.le_refl _⟩⟩
        rw [List.drop_of_length_le (by rw [data_len]; exact Nat.le_refl _)]
        exact World.ownsRow_nil wc (b + 2) 3 1
       case round =>
        obtain ⟨i, v, hi, rfl, hm⟩ := hrel
        have hwb := hm.out.size
        by_cases hi0 : i = 0
        ·subst hi0
         have hd0 := Lib.hid (show digsD (t.data.toList.drop 0) = digsD t.data.toList from by rw [List.drop_zero])
         obtain ⟨D, HDD⟩ := name_itV (digsD t.data.toList)
         obtain ⟨S, HSS⟩ := name_itV (scaleP t.size p)
         rw [hd0.out, HDD.out] at hm
         rw [HDD.out, HSS.out] at hyes
         have hbw := Lib.hid (show w.heap.size ≤ b by rw [HBn.out]; exact Nat.le_refl b)
         clear f2 f21 f22 c20 c21 c22
         go_upto_if 85 with fail
         go_cut [7] (fun _ wx => MidN w b (sgnB s) D v S wx)
         case first =>
          cases p with
          | none =>
           have hq : q = -1 := HQ.out.symm
           subst hq
           have hS := Lib.hid (show S = 0 from HSS.out.symm)
           go_wp2_with fail
           go_meet
           rw [hS.out]
           exact hm.out
          | some i =>
           have hq : q = (i : Int) := HQ.out.symm
           subst hq
           have hil := hpk.out i rfl
           have e2 : decide (0 ≤ (i : Int)) = true := decide_eq_true (by omega)
           have hS := Lib.hid (show t.size - 1 - i = S from HSS.out)
           have w5 : IntKind.i64.wrap ((t.size : Int) - 1 - i) = (S : Int) := by rw [IntWalk.i64_in _ (by omega)]; have := hS.out; omega
           have d2 : wr.cell? ⟨b + 1, 2, none⟩ = some (.int .i64 0) := Lib.cell_of_heap hm.out.num 2
           have f9 : wr.frozen? ⟨b + 1, 2, none⟩ = false := Lib.frozen_of_heap hm.out.num 2
           go_wp2_with fail
           go_meet
           exact ⟨hm.out.below.setCell (p := ⟨b + 1, 2, none⟩) (by show w.heap.size ≤ b + 1; have := hbw.out; omega) _, by rw [heap_setCell_other _ _ _ _ (by show b ≠ b + 1; omega)]; exact hm.out.res, heap_setCell_same wr (b + 1) 2 _ 117 _ hm.out.num, ownsRow_setCell_other hm.out.row (a := ⟨b + 1, 2, none⟩) (own_ne hm.out.row hm.out.num (by decide)) _, by have := hm.out.size; simp; omega⟩
         case rest =>
          obtain ⟨A, cp, rfl⟩ := slice_form hcut.row
          obtain ⟨n, HN⟩ := name_itV D.length
          have HM := Lib.hid hcut
          rw [HN.out] at HM
          have d0 : wc.cell? ⟨b + 1, 0, none⟩ = some (.bool (sgnB s)) := Lib.cell_of_heap HM.out.num 0
          have d1 : wc.cell? ⟨b + 1, 1, none⟩ = some (.slice A n cp) := Lib.cell_of_heap HM.out.num 1
          have d2 : wc.cell? ⟨b + 1, 2, none⟩ = some (.int .i64 (S : Int)) := Lib.cell_of_heap HM.out.num 2
          have f2 : wc.frozen? ⟨b, 0, none⟩ = false := Lib.frozen_of_heap HM.out.res 0
          have f21 : wc.frozen? ⟨b, 1, none⟩ = false := Lib.frozen_of_heap HM.out.res 1
          have f22 : wc.frozen? ⟨b, 2, none⟩ = false := Lib.frozen_of_heap HM.out.res 2
          have c20 : wc.cell? ⟨b, 0, none⟩ = some (.bool false) := Lib.cell_of_heap HM.out.res 0
          have c21 : wc.cell? ⟨b, 1, none⟩ = some (.slice none 0 0) := Lib.cell_of_heap HM.out.res 1
          have c22 : wc.cell? ⟨b, 2, none⟩ = some (.int .i64 0) := Lib.cell_of_heap HM.out.res 2
          clear hcut
          go_wp2_with fail
          have h3 := three_set (.bool (sgnB s)) (.slice A n cp) (.int .i64 (S : Int)) HM.out.res
          have h4 := Lib.hid (three_below (b := b) (.bool (sgnB s)) (.slice A n cp) (.int .i64 (S : Int)) HM.out.below hbw.out)
          have h5 := Lib.hid (show (((wc.setCell ⟨b, 0, none⟩ (.bool (sgnB s))).setCell ⟨b, 1, none⟩ (.slice A n cp)).setCell ⟨b, 2, none⟩ (.int .i64 (S : Int))).ownsRow (b + 2) 3 1 (.slice A n cp) D.length (D.map fun (x : Nat) => Value.int .i64 (x : Int)) from by
           have hn : (Value.slice A n cp).ownBlock ≠ some b := own_ne HM.out.row HM.out.res (by decide)
           exact ownsRow_setCell_other (ownsRow_setCell_other (ownsRow_setCell_other HM.out.row (a := ⟨b, 0, none⟩) hn _) (a := ⟨b, 1, none⟩) hn _) (a := ⟨b, 2, none⟩) hn _)
          obtain ⟨W9, HW9⟩ := name_itV (((wc.setCell ⟨b, 0, none⟩ (.bool (sgnB s))).setCell ⟨b, 1, none⟩ (.slice A n cp)).setCell ⟨b, 2, none⟩ (.int .i64 (S : Int)))
          rw [HW9.out] at h3 h4 h5 ⊢
          have r0 : W9.cell? ⟨b, 0, none⟩ = some (.bool (sgnB s)) := Lib.cell_of_heap h3 0
          have r1 : W9.cell? ⟨b, 1, none⟩ = some (.slice A n cp) := Lib.cell_of_heap h3 1
          have r2 : W9.cell? ⟨b, 2, none⟩ = some (.int .i64 (S : Int)) := Lib.cell_of_heap h3 2
          refine bodyPost_ret (v := .tuple #[.agg #[.bool (sgnB s), .slice A n cp, .int .i64 (S : Int)], .bool true]) (by simp [results, Tryz.results114, go_sem, r0, r1, r2]) rfl ⟨h4.out, ?_⟩
          rw [hyes.out]
          have h6 := h5.out
          rw [← HN.out] at h6 ⊢
          exact ⟨A, cp, rfl, ints_own h6⟩
        ·obtain ⟨k, rfl⟩ : ∃ k, i = k + 1 := ⟨i - 1, by omega⟩
         have hk1 : ((k + 1 : Nat) : Int) - 1 = (k : Int) := by push_cast; omega
         rw [hk1]
         have hc := Lib.hid (data_at t k (by omega))
         obtain ⟨x, hx⟩ : ∃ x : Nat, t[k].toNat = x := ⟨_, rfl⟩
         have HX := Lib.hid hx
         have hxb : x < 256 := by rw [← hx]; exact t[k].toNat_lt
         have e1 : (0 : Int) ≤ k := by omega
         have w2 : IntKind.i64.wrap ((k : Int) - 1) = k - 1 := IntWalk.i64_in _ (by omega)
         by_cases h46 : x = 46
         ·subst h46
          have hd := Lib.hid (show digsD (t.data.toList.drop k) = digsD (t.data.toList.drop (k + 1)) from digs_pt (by rw [hc.out, UInt8.toNat_inj.1 (show t[k].toNat = (46 : UInt8).toNat from HX.out)]))
          go_wp2_with fail
          go_roundw
          case rel => exact ⟨k, v, by omega, rfl, Lib.hid (by rw [hd.out]; exact hm.out)⟩
          case measure => simp [intOf]
         ·have hd := Lib.hid (show digsD (t.data.toList.drop k) = digsD (t.data.toList.drop (k + 1)) ++ [x - 48] from by rw [← HX.out]; exact digs_dig hc.out (fun e => h46 (by rw [← HX.out, e]; rfl)))
          have h48 : 48 ≤ x := by
           rcases hall.out _ (List.mem_of_getElem? hc.out) with e | e
           ·exact absurd (by rw [← HX.out, e]; rfl) h46
           ·rw [HX.out] at e; unfold digN at e; have := of_decide_eq_true e; omega
          have e2 : ((x : Int) == 46) = false := beq_eq_false_iff_ne.2 (by omega)
          obtain ⟨y, HY⟩ := name_itV (x - 48)
          have hy : x - 48 = y := HY.out
          rw [HY.out] at hd
          have w3 : IntKind.u8.wrap ((x : Int) - 48) = (y : Int) := by rw [IntWalk.u8_in _ (by omega)]; omega
          have w4 : IntKind.i64.wrap (y : Int) = (y : Int) := IntWalk.i64_in _ (by omega)
          obtain ⟨D, HDD⟩ := name_itV (digsD (t.data.toList.drop (k + 1)))
          have hdl := Lib.hid (digs_length (t.data.toList.drop (k + 1)))
          rw [HDD.out] at hm hd hdl
          obtain ⟨n, HN⟩ := name_itV D.length
          have hrow := Lib.hid hm.out.row
          obtain ⟨A, cp, hv⟩ := slice_form hm.out.row
          subst hv
          rw [HN.out] at hdl hrow
          have hnl : n ≤ 4000000000000 := by have := hdl.out; rw [List.length_drop, data_len] at this; omega
          have d1 : wr.cell? ⟨b + 1, 1, none⟩ = some (.slice A n cp) := by rw [← HN.out]; exact Lib.cell_of_heap hm.out.num 1
          obtain ⟨i0, hi9, hz0, hz1, hz2⟩ := info_parts infoInt
          have NB := Lib.hid (heap_alloc_new wr (.cells #[.int .i64 (y : Int)] 3))
          have HS3 := Lib.hid (show (wr.alloc (.cells #[.int .i64 (y : Int)] 3)).heap.size = wr.heap.size + 1 by simp)
          have hbl := blk_lt hm.out.num
          have hkt : k < t.size := by omega
          clear hy
          go_wp2_with fail
          go_region_law ((refine step_append_lies _ rfl _ _ 71 rfl (b + 2) 3 i0 (.int .i64 0) 1 8 Tryz.underlying71 hi9 hz0 hz1 hz2 rfl (by decide) (.slice A n cp) n (D.map fun (x : Nat) => Value.int .i64 (x : Int)) rfl (by first | exact own_drew (hrow.out.alloc _) | exact (own_drew hrow.out).alloc _) ⟨wr.heap.size, 0, none⟩ 1 1 [.int .i64 (y : Int)] rfl rfl (World.news_of_block (cs := #[.int .i64 (y : Int)]) (by exact NB.out)) (one_int _ _) (by omega) (by unfold maxLen; omega) (by omega) (by show b + 2 ≤ (wr.alloc (.cells #[.int .i64 (y : Int)] 3)).heap.size; rw [HS3.out]; omega) (wr.heap.size + 1) (by exact HS3.out) (fun g4 cp4 w4 ho4 hg4 hl4 _ => ?_); have HO4 := Lib.hid ho4; have HG4 := Lib.hid (show wr.grownBy w4 (Value.slice A n cp).ownBlock from grown_after (w := wr) (o := .cells #[.int .i64 (y : Int)] 3) ⟨hg4.os, hg4.tape, hg4.output, hg4.size, hg4.block⟩); have HL4 := Lib.hid (show (Value.slice A n cp).ownBlock = some g4 ∨ g4 = wr.heap.size + 1 from hl4); have HC4 := Lib.hid ((HG4.out.block (b + 1) hbl (fun e => own_ne hrow.out hm.out.num (by decide) e.symm)).trans hm.out.num); have f4 : w4.frozen? ⟨b + 1, 1, none⟩ = false := Lib.frozen_of_heap HC4.out 1; have d4 : w4.cell? ⟨b + 1, 1, none⟩ = some (.slice A D.length cp) := Lib.cell_of_heap HC4.out 1; clear ho4 hg4 hl4))
          all_goals
           go_wp2_with fail
           go_roundw
           case rel =>
            have hgb : g4 ≠ b + 1 := by
             rcases HL4.out with h0 | h0
             ·exact fun e => own_ne hrow.out hm.out.num (by decide) (by rw [h0, e])
             ·omega
            have hbw : w.heap.size ≤ b := by rw [HBn.out]; exact Nat.le_refl b
            have hob : (Value.slice A n cp).ownBlock ≠ some b := own_ne hrow.out hm.out.res (by decide)
            refine ⟨k, .slice (some ⟨g4, 0, none⟩) (n + 1) cp4, by omega, rfl, Lib.hid ⟨?_, ?_, heap_setCell_same w4 (b + 1) 1 _ 117 _ HC4.out, ?_, ?_⟩⟩
            ·refine (hm.out.below.grown HG4.out (by omega) ?_).setCell (p := ⟨b + 1, 1, none⟩) (by show w.heap.size ≤ b + 1; omega) _
             intro j hj
             rcases hrow.out.2 with ⟨h0, _⟩ | ⟨g, cap, cur, h0, hg, _⟩
             ·rw [h0] at hj; cases hj
             ·rw [h0] at hj; injection hj with hj; have hj : g = j := hj; omega
            ·rw [heap_setCell_other _ _ _ _ (by show b ≠ b + 1; omega)]
             exact (HG4.out.block b (by omega) (fun e => hob e.symm)).trans hm.out.res
            ·rw [hd.out, List.length_append, List.map_append, HN.out]
             exact ownsRow_setCell_other HO4.out (a := ⟨b + 1, 1, none⟩) (fun e => hgb (by injection e)) _
            ·have := HG4.out.size
             simp; omega
           case measure => simp [intOf]
end Go.Proofs.YtijciakkfpjjbaaGreatDoor
