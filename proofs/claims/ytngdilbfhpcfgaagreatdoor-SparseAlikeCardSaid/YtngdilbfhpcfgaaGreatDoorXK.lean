/- The walk of levels. -/
import Derived.Test.YtngdilbfhpcfgaaGreatDoorProg
import Derived.Test.YtngdilbfhpcfgaaGreatDoorEF
import Derived.WalkKit
import Derived.WalkSpells
import Derived.WalkLawsBesides
import Derived.LoopTactic
import Derived.LoopN
import Derived.Laws.IdiomRangeMap
import Derived.Maps.RangeRun
import Derived.Test.YtngdilbfhpcfgaaGreatDoorXJ
import Derived.Lib.Hide
set_option linter.unusedSimpArgs false
set_option linter.unusedVariables false
/- sparse.levels: the table of operators, told by the evaluator; the walk of levels over it, whatever order its maps are ranged over in. -/
namespace Go.Proofs.YtngdilbfhpcfgaaGreatDoor
set_option maxRecDepth 100000
open Go Go.RowKit Go.Proofs.Ev
open Go.ChangeMaps (setBlock)

noncomputable section
/-- the evaluator alone -/
def cfg0 : Cfg := ⟨Tryz.prog, fun _ => none⟩
def opL : List (Nat × Nat × Nat × Nat) := [(7, 0, 2, 31868), (6, 1, 2, 9766), (9, 2, 1, 61), (10, 2, 2, 8509), (11, 2, 1, 60), (12, 2, 2, 15421), (13, 2, 1, 62), (14, 2, 2, 15933), (17, 3, 1, 43), (18, 3, 1, 45), (19, 4, 1, 42), (20, 4, 1, 47)]
def isEnt (lv : Nat) (e : V × V) (q : Nat × Nat × Nat × Nat) : Bool :=
  match e.1, e.2 with
  | .s l n, .i .i64 z => Bool.and (Nat.beq z (Nat.add q.1 off)) (Bool.and (Nat.beq lv (Nat.add q.2.1 off)) (Bool.and (Nat.beq l q.2.2.1) (Nat.beq n q.2.2.2)))
  | _, _ => false
def outerOk (h : T AObj) (e : V × V) : Bool :=
  match e.1, e.2 with
  | .i .i64 lv, .m b => (match h.get b with | some (.map es) => es.all fun y => opL.any (isEnt lv y) | _ => false)
  | _, _ => false
def bears (h : T AObj) (e : V × V) (q : Nat × Nat × Nat × Nat) : Bool :=
  match e.1, e.2 with
  | .i .i64 lv, .m b => (match h.get b with | some (.map es) => es.any fun y => isEnt lv y q | _ => false)
  | _, _ => false
def tabOk (r : R Res) : Bool :=
  match r with
  | some (.got (.m b) h _) => (match h.get b with | some (.map es) => Bool.and (es.all (outerOk h)) (opL.all fun q => es.any fun e => bears h e q) | _ => false)
  | _ => false
end
theorem tab_ev : tabOk (ev cfg0 20000 (.call 157 [] .e 0)) = true := by kernel_rfl

/-- A map in the world. -/
def MapAt (w : World) (b : Nat) (es : Array MapEntry) (ck : Nat) : Prop := w.heap[b]? = some (.map es ck) ∧ (∀ x ∈ es.toList, x.born < ck) ∧ (es.toList.map (·.born)).Nodup
/-- An operator's entry. -/
def EntIs (lv : Int) (y : MapEntry) (q : Nat × Nat × Nat × Nat) : Prop := ∃ s : ByteArray, y.key = .string s ∧ y.val = .int .i64 (q.1 : Int) ∧ lv = (q.2.1 : Int) ∧ s.size = q.2.2.1 ∧ encL s.data.toList = q.2.2.2
structure Tab (w : World) (b : Nat) (es : Array MapEntry) (ck : Nat) : Prop where
  at_ : MapAt w b es ck
  inner : ∀ x ∈ es.toList, ∃ (lv : Int) (b' : Nat) (es' : Array MapEntry) (ck' : Nat), x.key = .int .i64 lv ∧ x.val = .map (some b') ∧ MapAt w b' es' ck' ∧ ∀ y ∈ es'.toList, ∃ q ∈ opL, EntIs lv y q
  all : ∀ q ∈ opL, ∃ x ∈ es.toList, ∃ (b' : Nat) (es' : Array MapEntry) (ck' : Nat), x.val = .map (some b') ∧ w.heap[b']? = some (.map es' ck') ∧ ∃ y ∈ es'.toList, y.val = .int .i64 (q.1 : Int)
theorem vrs_mem {ρ : Rho} {es : List (V × V)} {xs : List MapEntry} (h1 : VRs ρ (es.map (·.1)) (xs.map (·.key))) (h2 : VRs ρ (es.map (·.2)) (xs.map (·.val))) :
    (∀ x ∈ xs, ∃ e ∈ es, VR ρ e.1 x.key ∧ VR ρ e.2 x.val) ∧ ∀ e ∈ es, ∃ x ∈ xs, VR ρ e.1 x.key ∧ VR ρ e.2 x.val := by
  induction es generalizing xs with
  | nil => cases xs with
    | nil => simp
    | cons x xs => cases h1
  | cons e es ih => cases xs with
    | nil => cases h1
    | cons x xs =>
      cases h1 with
      | cons _ _ _ _ a1 b1 => cases h2 with
        | cons _ _ _ _ a2 b2 =>
          obtain ⟨h3, h4⟩ := ih b1 b2
          refine ⟨fun y hy => ?_, fun f hf => ?_⟩
          · rcases List.mem_cons.1 hy with rfl | hy
            · exact ⟨e, .head _, a1, a2⟩
            · obtain ⟨f, p1, p2⟩ := h3 y hy; exact ⟨f, .tail _ p1, p2⟩
          · rcases List.mem_cons.1 hf with rfl | hf
            · exact ⟨x, .head _, a1, a2⟩
            · obtain ⟨y, p1, p2⟩ := h4 f hf; exact ⟨y, .tail _ p1, p2⟩
theorem isEnt_ok {ρ : Rho} {lv : Nat} {e : V × V} {q : Nat × Nat × Nat × Nat} (h : isEnt lv e q = true) {y : MapEntry} (h1 : VR ρ e.1 y.key) (h2 : VR ρ e.2 y.val) : EntIs ((lv : Int) - 9223372036854775808) y q := by
  obtain ⟨k, v⟩ := e
  unfold isEnt at h
  cases k <;> first | (simp only [Bool.false_eq_true] at h; done) | skip
  rename_i l n
  cases v <;> first | (simp only [Bool.false_eq_true] at h; done) | skip
  rename_i kk z
  cases kk <;> first | (simp only [Bool.false_eq_true] at h; done) | skip
  simp only [Bool.and_eq_true] at h
  obtain ⟨h3, h4, h5, h6⟩ := h
  have h3 : z = q.1 + off := beq_true.1 h3
  have h4 : lv = q.2.1 + off := beq_true.1 h4
  have h5 := beq_true.1 h5
  have h6 := beq_true.1 h6
  have ho : off = 9223372036854775808 := rfl
  obtain ⟨s, e1, e2, e3⟩ := VR.str_inv h1
  have e4 := VR.int_inv h2
  refine ⟨s, e1, ?_, by omega, by omega, by omega⟩
  rw [e4]
  congr 1
  omega
theorem tab_of {w w' : World} {ρ : Rho} {b nx : Nat} {h : T AObj} {u : Value} (hr : tabOk (some (.got (.m b) h nx)) = true) (I : Inv ⟨w, fun _ => False⟩ ρ h nx w') (hu : VR ρ (.m b) u) : ∃ cb es ck, u = .map (some cb) ∧ Tab w' cb es ck := by
  unfold tabOk at hr
  cases hu with
  | m _ cb sz hρ =>
  cases hb : h.get b with
  | none => simp only [hb, Bool.false_eq_true] at hr
  | some ob =>
    simp only [hb] at hr
    cases ob with
    | row c n => simp only [Bool.false_eq_true] at hr
    | map es =>
      simp only [Bool.and_eq_true] at hr
      obtain ⟨hr1, hr2⟩ := hr
      obtain ⟨ents, ck, e1, e2, e3, e4, e5⟩ := I.obj b _ cb sz hb hρ
      obtain ⟨m1, m2⟩ := vrs_mem e2 e3
      have hat : MapAt w' cb ents ck := ⟨e1, fun x hx => e5 _ (List.mem_map.2 ⟨x, hx, rfl⟩), e4⟩
      have open_ : ∀ (k v : V) (x : MapEntry), outerOk h (k, v) = true → VR ρ k x.key → VR ρ v x.val →
          ∃ (lv b' : Nat) (es' : List (V × V)) (cb' : Nat) (ents' : Array MapEntry) (ck' : Nat), k = .i .i64 lv ∧ v = .m b' ∧ h.get b' = some (.map es') ∧ (∀ y ∈ es', opL.any (isEnt lv y) = true) ∧ x.key = .int .i64 ((lv : Int) - 9223372036854775808) ∧ x.val = .map (some cb') ∧ MapAt w' cb' ents' ck' ∧
            (∀ y ∈ ents'.toList, ∃ f ∈ es', VR ρ f.1 y.key ∧ VR ρ f.2 y.val) ∧ ∀ f ∈ es', ∃ y ∈ ents'.toList, VR ρ f.1 y.key ∧ VR ρ f.2 y.val := by
        intro k v x ho hk hv
        unfold outerOk at ho
        cases k <;> first | (simp only [Bool.false_eq_true] at ho; done) | skip
        rename_i kk lv
        cases kk <;> first | (simp only [Bool.false_eq_true] at ho; done) | skip
        cases v <;> first | (simp only [Bool.false_eq_true] at ho; done) | skip
        rename_i b'
        obtain ⟨cb', sz', hρ', hxv⟩ : ∃ cb' sz', ρ b' = some (cb', sz') ∧ x.val = .map (some cb') := by
          generalize x.val = xv at hv
          cases hv with
          | m _ cb' sz' hρ' => exact ⟨cb', sz', hρ', rfl⟩
        cases hb' : h.get b' with
        | none => simp only [hb', Bool.false_eq_true] at ho
        | some ob' =>
          simp only [hb'] at ho
          cases ob' with
          | row c n => simp only [Bool.false_eq_true] at ho
          | map es' =>
            obtain ⟨ents', ck', f1, f2, f3, f4, f5⟩ := I.obj b' _ cb' sz' hb' hρ'
            obtain ⟨n1, n2⟩ := vrs_mem f2 f3
            exact ⟨lv, b', es', cb', ents', ck', rfl, rfl, hb', fun y hy => List.all_eq_true.1 ho y hy, VR.int_inv hk, hxv, ⟨f1, fun x hx => f5 _ (List.mem_map.2 ⟨x, hx, rfl⟩), f4⟩, n1, n2⟩
      refine ⟨cb, ents, ck, rfl, hat, fun x hx => ?_, fun q hq => ?_⟩
      · obtain ⟨⟨k, v⟩, p1, p2, p3⟩ := m1 x hx
        obtain ⟨lv, b', es', cb', ents', ck', _, _, _, q4, q5, q6, q7, q8, _⟩ := open_ k v x (List.all_eq_true.1 hr1 _ p1) p2 p3
        refine ⟨_, cb', ents', ck', q5, q6, q7, fun y hy => ?_⟩
        obtain ⟨f, f1, f2, f3⟩ := q8 y hy
        obtain ⟨q, g1, g2⟩ := List.any_eq_true.1 (q4 f f1)
        exact ⟨q, g1, isEnt_ok g2 f2 f3⟩
      · obtain ⟨⟨k, v⟩, p1, p2⟩ := List.any_eq_true.1 (List.all_eq_true.1 hr2 q hq)
        obtain ⟨x, hx, p3, p4⟩ := m2 _ p1
        obtain ⟨lv, b', es', cb', ents', ck', rfl, rfl, q3, q4, q5, q6, q7, _, q9⟩ := open_ k v x (List.all_eq_true.1 hr1 _ p1) p3 p4
        unfold bears at p2
        simp only [q3] at p2
        obtain ⟨f, f1, f2⟩ := List.any_eq_true.1 p2
        obtain ⟨y, y1, y2, y3⟩ := q9 f f1
        obtain ⟨s, _, z2, _⟩ := isEnt_ok f2 y2 y3
        exact ⟨x, hx, cb', ents', ck', q6, q7.1, y, y1, z2⟩
end Go.Proofs.YtngdilbfhpcfgaaGreatDoor
/- The walk of sparse.levels. -/
namespace Go.Proofs.YtngdilbfhpcfgaaGreatDoor
set_option maxRecDepth 100000
open Go Go.RowKit Go.Proofs.Ev
open Go.ChangeMaps (setBlock)

theorem named : Named Tryz.prog := by
  have h : (Tryz.prog.funcs.toList.all fun fn => !(fn.name == "runtime.NumGoroutine")) = true := by kernel_rfl
  intro f fn hf
  have := List.all_eq_true.1 h fn (Array.mem_toList_iff.2 (Array.mem_of_getElem? hf))
  simpa using this
theorem mixed : Tryz.prog.follows .mixedOrders = true := by kernel_rfl
theorem good0 (n : Nat) (w0 : Base) : Go.Proofs.Ev.Good Tryz.prog w0 (ev cfg0 n) := ev_sound (c := cfg0) named mixed rfl (fun _ f e h => by cases h) n w0
theorem start_inv (w : World) : Inv ⟨w, fun _ => False⟩ (fun _ => none) .e 0 w :=
  { size := Nat.le_refl _
    old := fun _ _ => rfl
    os := rfl
    output := rfl
    tape := rfl
    own := fun _ _ _ q => by cases q
    inj := fun x _ _ _ _ q => by rw [T.get_e] at q; exact absurd rfl q
    new := fun b _ => ⟨rfl, T.get_e b⟩
    obj := fun b ob _ _ q => by rw [T.get_e] at q; cases q
    gone := fun _ q => q.elim }
theorem ops_any (w : World) : Calls Tryz.prog 157 #[] w fun e w' => ∃ cb es ck, e = .returned (.map (some cb)) ∧ Tab w' cb es ck ∧ Below w.heap.size w w' := by
  have ht := tab_ev
  cases hr : ev cfg0 20000 (.call 157 [] .e 0) with
  | none => rw [hr] at ht; cases ht
  | some r =>
    rw [hr] at ht
    refine Calls.mono (good0 _ _ _ _ hr (fun _ => none) #[] w (start_inv w) .nil) fun e w' he => ?_
    cases e with
    | returned u =>
      obtain ⟨ρ, v, h, nx, rfl, _, I, hv⟩ := he
      cases v <;> first | (cases ht; done) | skip
      obtain ⟨cb, es, ck, rfl, hT⟩ := tab_of ht I hv
      exact ⟨cb, es, ck, rfl, hT, ⟨I.os, I.tape, I.output, I.size, fun k hk => I.old k hk⟩⟩
    | panicked chain => obtain ⟨ρ, v, h, nx, x, rfl, _⟩ := he; cases ht
    | outgrown => exact he.elim

theorem seen_at {w : World} {r : Nat} {a : Option Nat} {b c : Nat} {sn : Array Nat} (h : w.heap[r]? = some (.mapIter a b sn c)) : w.iterSeen r = sn := by
  unfold World.iterSeen
  rw [h]
def NoHit (w1 : World) (k : Nat) (x : MapEntry) : Prop := ∀ b' es' ck', x.val = .map (some b') → w1.heap[b']? = some (.map es' ck') → ∀ y ∈ es'.toList, y.val ≠ .int .i64 (k : Int)
theorem setB_at {w : World} {r : Nat} {o o' : Obj} (h : w.heap[r]? = some o) : (setBlock w r o').heap[r]? = some o' := by
  have := (Array.getElem?_eq_some_iff.1 h).1
  unfold setBlock
  simp [this]
theorem setB_other {w : World} {r k : Nat} {o' : Obj} (h : k ≠ r) : (setBlock w r o').heap[k]? = w.heap[k]? := by
  unfold setBlock
  exact Array.getElem?_setIfInBounds_ne (Ne.symm h)
theorem setB_below {B : Nat} {w0 w w' : World} {r : Nat} {o o' : Obj} (hb : Below B w0 w) (hw : w' = w ∨ w' = w.drew) (hr : w.heap[r]? = some o) (hB : B ≤ r) : Below B w0 (setBlock w' r o') := by
  have e1 : w'.os = w.os ∧ w'.tape = w.tape ∧ w'.output = w.output ∧ w'.heap = w.heap := by rcases hw with rfl | rfl <;> exact ⟨rfl, rfl, rfl, rfl⟩
  obtain ⟨a, b, c, d⟩ := e1
  refine ⟨a.trans hb.os, b.trans hb.tape, c.trans hb.output, ?_, fun k hk => ?_⟩
  · have := hb.size
    show _ ≤ ((setBlock w' r o').heap).size
    unfold setBlock
    simp only [Array.size_setIfInBounds, d]
    exact this
  · rw [setB_other (by omega), d]
    exact hb.block k hk
theorem lev_hit {q : Nat × Nat × Nat × Nat} (h : q ∈ opL) : levelVS q.1 = lvl q.2.1 q.2.2.1 q.2.2.2 := by
  simp only [opL, List.mem_cons, List.not_mem_nil, or_false] at h
  rcases h with rfl | rfl | rfl | rfl | rfl | rfl | rfl | rfl | rfl | rfl | rfl | rfl <;> rfl
theorem lev_none {k : Nat} (h : ∀ q ∈ opL, q.1 ≠ k) (h5 : k ≠ 5) (h22 : k ≠ 22) : levelVS k = lvl 6 0 0 := by
  have e : ∀ n ∈ [7, 6, 9, 10, 11, 12, 13, 14, 17, 18, 19, 20], n ≠ k := by
    intro n hn
    have : [7, 6, 9, 10, 11, 12, 13, 14, 17, 18, 19, 20] = opL.map (·.1) := rfl
    rw [this] at hn
    obtain ⟨q, hq, rfl⟩ := List.mem_map.1 hn
    exact h q hq
  simp only [List.mem_cons, List.not_mem_nil, or_false, forall_eq_or_imp, forall_eq] at e
  unfold levelVS
  split <;> first | rfl | (exfalso; omega)
theorem lvl_ok (ρ : Rho) {a l n : Nat} {s : ByteArray} (h1 : s.size = l) (h2 : encL s.data.toList = n) : VR ρ (lvl a l n) (.tuple #[.int .i64 (a : Int), .string s]) :=
  .t _ _ (.cons _ _ _ _ (VR.nat ρ _ _ _ rfl) (.cons _ _ _ _ (.s _ _ _ h1.symm h2.symm) .nil))
theorem nm_it {α : Type} (x : α) : ∃ y, Hid (x = y) := ⟨x, Lib.hid rfl⟩
set_option maxHeartbeats 1000000 in
theorem levels_any (cs : Array Value) (k : Nat) (hk : cs[0]? = some (.int .i64 (k : Int))) (w : World) :
    Calls Tryz.prog 163 #[.agg cs] w fun e w' => ∃ u, e = .returned u ∧ Below w.heap.size w w' ∧ ∀ ρ, VR ρ (levelVS k) u := by
  go_enter Tryz.func163, Tryz.ntmps163
  go_wp2_with fail
  refine (ops_any _).mono ?_
  rintro ee w1 ⟨cb, es, ck, rfl, hT, hb1⟩
  have hrg := run_range_map (P := Tryz.prog) w1 246 _ _ cb es ck Tryz.underlying246 hT.at_.1
  have hb0 : Below w.heap.size w w1 := (((Below.refl _ _).alloc (Nat.le_refl _) _).trans (hb1.mono (by simp)))
  have hc1 : w1.cell? ⟨w.heap.size, 0, none⟩ = some (.int .i64 (k : Int)) := by
    have h0 : (w.alloc (.cells cs 56)).heap[w.heap.size]? = some (.cells cs 56 (0, 0)) := heap_alloc_new w _
    have h1 := hb1.block w.heap.size (by simp)
    simp only [World.cell?, h1, h0]
    exact hk
  have hlt1 : w.heap.size < w1.heap.size := by have := hb1.size; simp at this; omega
  have HT := Lib.hid hT
  have HC := Lib.hid hc1
  have HB0 := Lib.hid hb0
  clear hT hb1 hc1 hb0
  go_wp2
  clear hrg
  obtain ⟨r, HR⟩ := nm_it w1.heap.size
  have hr0 : (w1.alloc (.mapIter (some cb) ck #[] ck)).heap[r]? = some (.mapIter (some cb) ck #[] ck) := by rw [← HR.out]; exact heap_alloc_new w1 _
  have hbw0 : Below r w1 (w1.alloc (.mapIter (some cb) ck #[] ck)) := (Below.refl _ _).alloc (Nat.le_of_eq HR.out.symm) _
  obtain ⟨W0, HW0⟩ := nm_it (w1.alloc (.mapIter (some cb) ck #[] ck))
  rw [HW0.out] at hr0 hbw0
  rw [HR.out, HW0.out]
  go_loopw [] (fun wr => ∃ seen, wr.heap[r]? = some (.mapIter (some cb) ck seen ck) ∧ Below r w1 wr ∧ ∀ x ∈ es.toList, seen.contains x.born = true → NoHit w1 k x) (fun wr => (leftOf es (wr.iterSeen r)).size)
  case atStart => exact ⟨#[], hr0, hbw0, fun x _ h => by simp at h⟩
  case round =>
    obtain ⟨seen, hri, hbw, hno⟩ := hrel
    have hT := HT.out
    have hmb : wr.heap[cb]? = some (.map es ck) := by
      have hl : cb < w1.heap.size := (Array.getElem?_eq_some_iff.1 hT.at_.1).1
      rw [HR.out] at hl
      rw [hbw.block cb hl]; exact hT.at_.1
    have hcw : wr.cell? ⟨w.heap.size, 0, none⟩ = some (.int .i64 (k : Int)) := by
      rw [HR.out] at hlt1
      exact (hbw.cell (p := ⟨w.heap.size, 0, none⟩) hlt1).trans HC.out
    have law := run_next_at (P := Tryz.prog) wr 0 r cb ck ck seen es ck hri hmb hT.at_.2.1 (Nat.le_refl _)
    rcases law with ⟨h0, hrun⟩ | ⟨x, hx, w2, hw2, hrun⟩
    · -- nothing is left
      have hnx : ∀ ty, (Instr.next (.pointer (some ⟨r, 0, none⟩)) false ty).run Tryz.prog wr = _ := fun _ => hrun
      have HN := Lib.hid (show ∀ q ∈ opL, q.1 ≠ k from fun q hq e => by
        obtain ⟨x, x1, b', es', ck', x2, x3, y, y1, y2⟩ := hT.all q hq
        exact hno x x1 (all_seen es seen h0 x x1) b' es' ck' x2 x3 y y1 (by rw [y2, e]))
      have HBW := Lib.hid (HB0.out.trans (hbw.mono (by rw [← HR.out]; exact HB0.out.size)))
      clear hrun hno hbw hri hmb hT h0
      by_cases h5 : k = 5
      · subst h5
        go_wp2
        go_ret2
        exact ⟨_, rfl, HBW.out, fun ρ => lvl_ok ρ rfl rfl⟩
      · have H5 := Lib.hid h5
        have t5 : ((k : Int) == 5) = false := by simp; omega
        clear h5
        by_cases h22 : k = 22
        · subst h22
          go_wp2
          go_ret2
          exact ⟨_, rfl, HBW.out, fun ρ => lvl_ok ρ rfl rfl⟩
        · have H22 := Lib.hid h22
          have t22 : ((k : Int) == 22) = false := by simp; omega
          clear h22
          go_wp2
          go_ret2
          exact ⟨_, rfl, HBW.out, fun ρ => by rw [lev_none HN.out H5.out H22.out]; exact lvl_ok ρ rfl rfl⟩
    · -- one comes
      have hxm := (mem_left hx).1
      obtain ⟨lv, b', es', ck', hxk, hxv, hM, hE⟩ := hT.inner x hxm
      rw [hxk, hxv] at hrun
      have hnx : ∀ ty, (Instr.next (.pointer (some ⟨r, 0, none⟩)) false ty).run Tryz.prog wr = _ := fun _ => hrun
      obtain ⟨W2, HW2⟩ := nm_it (setBlock w2 r (.mapIter (some cb) ck (seen.push x.born) ck))
      have hr2 : W2.heap[r]? = some (.mapIter (some cb) ck (seen.push x.born) ck) := by
        rw [← HW2.out]
        exact setB_at (o := .mapIter (some cb) ck seen ck) (by rcases hw2 with rfl | rfl <;> exact hri)
      have hbW2 : Below r w1 W2 := by rw [← HW2.out]; exact setB_below hbw hw2 hri (Nat.le_refl _)
      have hmb2 : W2.heap[cb]? = some (.map es ck) := by
        have hl : cb < w1.heap.size := (Array.getElem?_eq_some_iff.1 hT.at_.1).1
        rw [HR.out] at hl
        rw [hbW2.block cb hl]; exact hT.at_.1
      have hlb : b' < r := by
        have := (Array.getElem?_eq_some_iff.1 hM.1).1
        rw [HR.out] at this; exact this
      have hmi2 : W2.heap[b']? = some (.map es' ck') := by rw [hbW2.block b' hlb]; exact hM.1
      have hen := run_entry_at (P := Tryz.prog) W2 r cb ck seen es ck x hr2 hmb2 hxm hT.at_.2.2
      have hrg := run_range_map (P := Tryz.prog) W2 298 _ _ b' es' ck' Tryz.underlying298 hmi2
      rw [hxk, hxv] at hen
      rw [HW2.out] at hnx
      have HHH := Lib.hid (show _ ∧ _ ∧ _ ∧ _ from ⟨hno, hM, hE, hr2⟩)
      have HBW2 := Lib.hid hbW2
      have HS := Lib.hid (seen_at hri)
      have HX := Lib.hid (show _ ∧ _ ∧ _ from ⟨hx, hxm, hxv⟩)
      clear hrun hno hM hE hr2 hbW2 hbw hri hmb hcw hmb2 hmi2 hT hx hxm hxv hxk hw2 hlb
      go_wp2
      clear hrg hen hnx
      obtain ⟨r2, HR2⟩ := nm_it W2.heap.size
      have hrr : r < r2 := by
        rw [← HR2.out]
        exact (Array.getElem?_eq_some_iff.1 HHH.out.2.2.2).1
      have hr3 : (W2.alloc (.mapIter (some b') ck' #[] ck')).heap[r2]? = some (.mapIter (some b') ck' #[] ck') := by rw [← HR2.out]; exact heap_alloc_new W2 _
      have hbw3 : Below r2 W2 (W2.alloc (.mapIter (some b') ck' #[] ck')) := (Below.refl _ _).alloc (Nat.le_of_eq HR2.out.symm) _
      obtain ⟨W3, HW3⟩ := nm_it (W2.alloc (.mapIter (some b') ck' #[] ck'))
      rw [HW3.out] at hr3 hbw3
      rw [HR2.out, HW3.out]
      go_loopw [] (fun wq => ∃ sn, wq.heap[r2]? = some (.mapIter (some b') ck' sn ck') ∧ Below r2 W2 wq ∧ ∀ y ∈ es'.toList, sn.contains y.born = true → y.val ≠ .int .i64 (k : Int)) (fun wq => (leftOf es' (wq.iterSeen r2)).size)
      case atStart => exact ⟨#[], hr3, hbw3, fun x _ h => by simp at h⟩
      case round =>
        rename World => wq
        obtain ⟨sn, hri, hbq, hnq⟩ := hrel
        obtain ⟨hno, hM, hE, hr2⟩ := HHH.out
        have hlb : b' < r2 := by
          have := (Array.getElem?_eq_some_iff.1 hM.1).1
          rw [HR.out] at this; omega
        have hlc : w.heap.size < r2 := by
          rw [HR.out] at hlt1; omega
        have hmi2 : W2.heap[b']? = some (.map es' ck') := by
          have := (Array.getElem?_eq_some_iff.1 hM.1).1
          rw [HR.out] at this
          rw [HBW2.out.block b' this]; exact hM.1
        have hmq : wq.heap[b']? = some (.map es' ck') := by rw [hbq.block b' hlb]; exact hmi2
        have hcq : wq.cell? ⟨w.heap.size, 0, none⟩ = some (.int .i64 (k : Int)) := by
          rw [HR.out] at hlt1
          exact (hbq.cell (p := ⟨w.heap.size, 0, none⟩) hlc).trans ((HBW2.out.cell (p := ⟨w.heap.size, 0, none⟩) hlt1).trans HC.out)
        have law := run_next_at (P := Tryz.prog) wq 0 r2 b' ck' ck' sn es' ck' hri hmq hM.2.1 (Nat.le_refl _)
        rcases law with ⟨h0, hrun⟩ | ⟨y, hy, w4, hw4, hrun⟩
        · have hnx : ∀ ty, (Instr.next (.pointer (some ⟨r2, 0, none⟩)) false ty).run Tryz.prog wq = _ := fun _ => hrun
          have HEND := Lib.hid (show wq.heap[r]? = some (.mapIter (some cb) ck (seen.push x.born) ck) ∧ Below r w1 wq ∧ ∀ z ∈ es.toList, (seen.push x.born).contains z.born = true → NoHit w1 k z from by
            refine ⟨by rw [hbq.block r hrr]; exact hr2, HBW2.out.trans (hbq.mono (Nat.le_of_lt hrr)), fun z hz hc => ?_⟩
            rw [contains_push] at hc
            rcases Bool.or_eq_true _ _ ▸ hc with h1 | h1
            · exact hno z hz h1
            · have : z = x := born_inj HT.out.at_.2.2 hz HX.out.2.1 (beq_iff_eq.1 h1)
              subst this
              intro b1 e1 c1 p1 p2 y hy
              rw [HX.out.2.2] at p1
              injection p1 with p1; injection p1 with p1
              subst p1
              rw [hM.1] at p2
              injection p2 with p2; injection p2 with p2 p3
              subst p2
              exact hnq y hy (all_seen es' sn h0 y hy))
          have hms : (leftOf es (seen.push x.born)).size < (leftOf es seen).size := left_shrinks es seen x HX.out.1
          clear hrun hno hM hE hr2 hri hbq hnq hmi2 hmq hcq h0 hlb
          have HMS := Lib.hid hms
          clear hms
          go_wp2
          go_roundw
          case rel => exact ⟨_, HEND.out.1, HEND.out.2.1, HEND.out.2.2⟩
          case measure =>
            rw [seen_at HEND.out.1, HS.out]
            exact HMS.out
        · have hym := (mem_left hy).1
          obtain ⟨q, hq, s, hyk, hyv, hlv, hsz, henc⟩ := hE y hym
          rw [hyk, hyv] at hrun
          have hnx : ∀ ty, (Instr.next (.pointer (some ⟨r2, 0, none⟩)) false ty).run Tryz.prog wq = _ := fun _ => hrun
          obtain ⟨W5, HW5⟩ := nm_it (setBlock w4 r2 (.mapIter (some b') ck' (sn.push y.born) ck'))
          have hr5 : W5.heap[r2]? = some (.mapIter (some b') ck' (sn.push y.born) ck') := by
            rw [← HW5.out]
            exact setB_at (o := .mapIter (some b') ck' sn ck') (by rcases hw4 with rfl | rfl <;> exact hri)
          have hbW5 : Below r2 W2 W5 := by rw [← HW5.out]; exact setB_below hbq hw4 hri (Nat.le_refl _)
          have hm5 : W5.heap[b']? = some (.map es' ck') := by rw [hbW5.block b' hlb]; exact hmi2
          have hc5 : W5.cell? ⟨w.heap.size, 0, none⟩ = some (.int .i64 (k : Int)) := by
            rw [HR.out] at hlt1
            exact (hbW5.cell (p := ⟨w.heap.size, 0, none⟩) hlc).trans ((HBW2.out.cell (p := ⟨w.heap.size, 0, none⟩) hlt1).trans HC.out)
          have hen := run_entry_at (P := Tryz.prog) W5 r2 b' ck' sn es' ck' y hr5 hm5 hym hM.2.2
          rw [hyk, hyv] at hen
          rw [HW5.out] at hnx
          have HB5 := Lib.hid hbW5
          have HW5B := Lib.hid (show Below w.heap.size w W5 from HB0.out.trans ((HBW2.out.trans (hbW5.mono (Nat.le_of_lt hrr))).mono (by rw [← HR.out]; exact HB0.out.size)))
          have HMS := Lib.hid (show (leftOf es' (sn.push y.born)).size < (leftOf es' (wq.iterSeen r2)).size from by rw [seen_at hri]; exact left_shrinks es' sn y hy)
          have HNQ := Lib.hid hnq
          have HR5 := Lib.hid hr5
          have HY := Lib.hid (show _ ∧ _ ∧ _ from ⟨hym, hyv, hM.2.2⟩)
          have HQ := Lib.hid (show _ ∧ _ ∧ _ from ⟨hq, hsz, henc⟩)
          by_cases hqk : q.1 = k
          · have t1 : ((q.1 : Int) == (k : Int)) = true := by simp [hqk]
            clear hrun hno hM hE hr2 hri hbq hnq hmi2 hmq hcq hlb hr5 hbW5 hm5 hym hyk hyv hsz henc hq hy hw4
            have HQK := Lib.hid hqk
            clear hqk
            subst hlv
            go_wp2
            go_ret2
            refine ⟨_, rfl, HW5B.out, fun ρ => ?_⟩
            rw [← HQK.out, lev_hit HQ.out.1]
            exact lvl_ok ρ HQ.out.2.1 HQ.out.2.2
          · have t1 : ((q.1 : Int) == (k : Int)) = false := by simp; omega
            clear hrun hno hM hE hr2 hri hbq hnq hmi2 hmq hcq hlb hr5 hbW5 hm5 hym hyk hyv hsz henc hq hy hw4
            have HQK := Lib.hid hqk
            clear hqk
            go_wp2
            go_roundw
            case rel =>
              refine ⟨_, HR5.out, HB5.out, fun z hz hc => ?_⟩
              rw [contains_push] at hc
              rcases Bool.or_eq_true _ _ ▸ hc with h1 | h1
              · exact HNQ.out z hz h1
              · have : z = y := born_inj HY.out.2.2 hz HY.out.1 (beq_iff_eq.1 h1)
                subst this
                rw [HY.out.2.1]
                intro e
                injection e with _ e
                exact HQK.out (by omega)
            case measure =>
              rw [seen_at HR5.out]
              exact HMS.out
end Go.Proofs.YtngdilbfhpcfgaaGreatDoor
