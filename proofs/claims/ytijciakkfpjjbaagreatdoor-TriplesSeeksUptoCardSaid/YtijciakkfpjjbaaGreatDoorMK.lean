/- Small words for the walks of the laws. -/
import Derived.Test.YtijciakkfpjjbaaGreatDoorMI
import Derived.Test.YtijciakkfpjjbaaGreatDoorMG
namespace Go.Proofs.YtijciakkfpjjbaaGreatDoor
open Go Go.RowKit Go.Maps

/-- How one thing asked of a cursor lies. -/
def OpR : Lies (Int × Val) := fun w F o c => ∃ s, c = #[.int .i64 o.1] ++ cellsV o.2 s ∧ VRd w F o.2 (.agg (cellsV o.2 s))
theorem OpR.good : OpR.Good := ⟨fun ⟨s, e, h⟩ hk => ⟨s, e, h.keep hk⟩, fun ⟨s, e, h⟩ hF => ⟨s, e, h.mono hF⟩⟩
/-- The k-th thing asked. -/
theorem OpR.cells {w : World} {F : Nat → Prop} {L : List (Int × Val)} {A : Option Addr} {n : Nat} (h : SRd 7 OpR w F L A n) {k : Nat} {o : Int × Val} (ho : L[k]? = some o) :
    ∃ ad s, A = some ad ∧ F ad.block ∧ w.cell? (ad.add (k * 7)) = some (.int .i64 o.1) ∧ (∀ j, j < (cellsV o.2 s).size → w.cell? (((ad.add (k * 7)).add 1).add j) = (cellsV o.2 s)[j]?) ∧ VRd w F o.2 (.agg (cellsV o.2 s)) := by
 obtain ⟨ad, c, e, hF, hs, hc, s, rfl, hr⟩ := h.at_ ho
 refine ⟨ad, s, e, hF, ?_, fun j hj => ?_, hr⟩
 ·have := hc 0 (by omega)
  rw [Nat.add_zero] at this
  rw [this]
  rfl
 ·have hj : j < 6 := hj
  have := hc (1 + j) (by omega)
  rw [add_of_add, add_of_add, this, Array.getElem?_append_right (by show 1 ≤ 1 + j; omega)]
  congr 1
  show 1 + j - 1 = j
  omega
/-- Two cursors of one store. -/
structure Two (F : Nat → Prop) (w0 : World) (q1 q2 j : Nat) (T : List Trip) (c d : CurA) (wx : World) : Prop where
 b : Below w0.heap.size w0 wx
 c1 : CurRd F wx q1 j T c
 c2 : CurRd F wx q2 j T d
 ne : q1 ≠ q2
 l1 : w0.heap.size ≤ q1
 l2 : w0.heap.size ≤ q2
section
variable {F : Nat → Prop} {w0 w w' : World} {q1 q2 j : Nat} {T : List Trip} {c d : CurA}
theorem CurRd.turn {q : Nat} (h : CurRd F w q j T c) {S : Nat → Prop} (ht : Turn S w w') (h1 : ∀ b, F b → ¬ S b) (h2 : ¬ S q) : CurRd F w' q j T c := by
 obtain ⟨cc, ix, cs, S, s, at_, en, hw, hn⟩ := h
 exact ⟨cc, ix, cs, S, s, at_, en, hw.turn ht h1 h2, hn⟩
theorem CurRd.fq {q : Nat} (h : CurRd F w q j T c) : ¬ F q := by
 obtain ⟨cc, ix, cs, S, s, at_, en, hw, hn⟩ := h
 exact hw.fq
theorem CurRd.lt {q : Nat} (h : CurRd F w q j T c) : q < w.heap.size := by
 obtain ⟨cc, ix, cs, S, s, at_, en, hw, hn⟩ := h
 exact blk_lt hw.cur
theorem Two.on (h : Two F w0 q1 q2 j T c d w) (hb : Below w.heap.size w w') : Two F w0 q1 q2 j T c d w' :=
 ⟨h.b.trans (hb.mono h.b.size), h.c1.on hb, h.c2.on hb, h.ne, h.l1, h.l2⟩
theorem Two.do1 (h : Two F w0 q1 q2 j T c d w) {c' : CurA} (hc : CurRd F w' q1 j T c') (ht : Turn (fun b => b = q1) w w') : Two F w0 q1 q2 j T c' d w' :=
 ⟨below_turn h.b ht (fun b hb => by have hb : b = q1 := hb; rw [hb]; exact h.l1), hc, h.c2.turn ht (fun b hb e => h.c1.fq (by have e : b = q1 := e; rw [← e]; exact hb)) (fun e => h.ne (Eq.symm e)), h.ne, h.l1, h.l2⟩
theorem Two.do2 (h : Two F w0 q1 q2 j T c d w) {d' : CurA} (hc : CurRd F w' q2 j T d') (ht : Turn (fun b => b = q2) w w') : Two F w0 q1 q2 j T c d' w' :=
 ⟨below_turn h.b ht (fun b hb => by have hb : b = q2 := hb; rw [hb]; exact h.l2), h.c1.turn ht (fun b hb e => h.c2.fq (by have e : b = q2 := e; rw [← e]; exact hb)) (fun e => h.ne e), hc, h.ne, h.l1, h.l2⟩
end
theorem scal_rd (w : World) (F : Nat → Prop) {v : Val} (h : v.list = []) (A : Option Addr) (cap : Nat) : VRd w F v (.agg (cellsV v (.slice A 0 cap))) := by
 have := VRd.mk (w := w) (F := F) v A cap ⟨0, 0, none⟩ (fun _ => #[]) (by rw [h]; exact Nat.zero_le _) (by rw [h]; intro h; cases h) (by rw [h]; intro i h; cases h) (by rw [h]; intro i x h; simp at h)
 rw [h] at this
 exact this
theorem sameW_any (a b : Val) (hs : sizeL a.list ≤ 999999999) (F G : Nat → Prop) (u1 u2 : Value) (w : World) (hF : ∀ g, F g → g < w.heap.size) (hG : ∀ g, G g → g < w.heap.size) (h1 : VRd w F a u1) (h2 : VRd w G b u2) :
    Calls Tryz.prog 28 #[u1, u2] w (ToldB (sameB a b) w) := by
 obtain ⟨A, ca, rfl, _, la⟩ := h1.inv
 obtain ⟨B, cb, rfl, _, lb⟩ := h2.inv
 exact same_step a b A B ca cb w hF hG la lb (fun w' x1 x2 x3 x4 => row_any (sizeL a.list + 1) a.list b.list (by omega) F G A B _ _ ca cb w' (by omega) x3 x4 x1 x2)
/-- A value that a cursor tells. -/
structure KeyV (v : Val) : Prop where
 list : v.list = []
 fit : FitV v
 k5 : v.kind ≠ 5
theorem sameK_any {a b : Val} (ha : KeyV a) (hb : KeyV b) (A B : Option Addr) (ca cb : Nat) (w : World) :
    Calls Tryz.prog 28 #[.agg (cellsV a (.slice A 0 ca)), .agg (cellsV b (.slice B 0 cb))] w (ToldB (sameB a b) w) :=
 sameW_any a b (by rw [ha.list]; decide) (fun _ => False) (fun _ => False) _ _ w (fun _ h => h.elim) (fun _ h => h.elim) (scal_rd w _ ha.list A ca) (scal_rd w _ hb.list B cb)
theorem keyV_of {w : Way} {T : List Trip} (hT : ∀ t, t ∈ T → ScalT t) (hf : ∀ t, t ∈ T → ∀ n, FitV (t.get n)) {pre : List Val} {v : Val} (h : v ∈ keysA T w pre) : KeyV v := by
 obtain ⟨t, ht, _, rfl⟩ := ((keysA_is hT pre).2 v).1 h
 have hs := (hT t ht).get (w.get pre.length)
 have := hs.2.1
 exact ⟨scal_list hs, hf t ht _, by omega⟩
theorem keyV_Z : KeyV valZ := ⟨rfl, ⟨by decide, by decide, by decide⟩, by decide⟩
end Go.Proofs.YtijciakkfpjjbaaGreatDoor
namespace Go.Proofs.YtijciakkfpjjbaaGreatDoor
open Go Go.RowKit Go.Maps

theorem bs_orders (W : World) : (Instr.buildSlice 28 6 #[(0, .string ⟨#[115, 112, 111]⟩), (1, .string ⟨#[115, 111, 112]⟩), (2, .string ⟨#[112, 115, 111]⟩), (3, .string ⟨#[112, 111, 115]⟩), (4, .string ⟨#[111, 115, 112]⟩), (5, .string ⟨#[111, 112, 115]⟩)]).run Tryz.prog W = .ok (.slice (some ⟨W.heap.size, 0, none⟩) 6 6) (W.alloc (.cells #[.string (wayT 0), .string (wayT 1), .string (wayT 2), .string (wayT 3), .string (wayT 4), .string (wayT 5)] 9)) := by kernel_rfl
theorem order_at {W : World} {g : Nat} {fr : Nat × Nat} {T : TypeId} (h : W.heap[g]? = some (.cells #[.string (wayT 0), .string (wayT 1), .string (wayT 2), .string (wayT 3), .string (wayT 4), .string (wayT 5)] T fr)) {r : Nat} (hr : r < 6) : W.cell? ⟨g, r, none⟩ = some (.string (wayT r)) := by
 rcases (show r = 0 ∨ r = 1 ∨ r = 2 ∨ r = 3 ∨ r = 4 ∨ r = 5 by omega) with rfl | rfl | rfl | rfl | rfl | rfl <;> exact Lib.cell_of_heap h _
section
variable {P : Program} {ops : Array Oper} {rest : List Oper} {op : Oper} {a : Act} {w : World} {Q : Exit → Act → World → Prop}
/-- A struct is loaded from wherever it lies, where the guard lets it. -/
theorem ld_armG (hgd : Region.wanted op (yielded ops a.tmps) = true) (ty : TypeId) (x : Operand) (ho : op.op = .load ty x) {p : Addr} (hx : a.eval x = .pointer (some p)) (c : Array Value) (d : TypeDesc) (hc : ∀ j, j < c.size → w.cell? (p.add j) = c[j]?)
    (hu : P.underlying ty = some d) (hd : d.isRow = true) (hi : (P.info? ty).map (·.size) = some c.size) (h : wpList P ops Q rest (a.put op.dst (.agg c)) w) : wpList P ops Q (op :: rest) a w :=
 wpList_step fun K hK => by
  rw [if_pos hgd]
  unfold Oper.wp execOp
  simp only [ho, hx, Instr.loadAt, Instr.sureAddr, Sem.run_bind, Sem.run_pure, Result.andThen_ok, run_loadVar_at w p ty c d hc hu hd hi]
  exact hK _ _ h
end
theorem row_at {w : World} {g : Nat} {c : Array Value} {T : TypeId} {fr : Nat × Nat} (h : w.heap[g]? = some (.cells c T fr)) (j : Nat) (_ : j < c.size) : w.cell? ((⟨g, 0, none⟩ : Addr).add j) = c[j]? := by
 rw [Addr.add_mid, Nat.zero_add]
 exact cell_of_row w g j c T fr h
theorem add_blk (a : Addr) (j : Nat) : (a.add j).block = a.block := by
 unfold Addr.add
 split <;> rfl
end Go.Proofs.YtijciakkfpjjbaaGreatDoor
