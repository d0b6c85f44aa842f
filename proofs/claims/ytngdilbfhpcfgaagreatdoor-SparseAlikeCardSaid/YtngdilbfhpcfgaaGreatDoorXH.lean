/- Walk of the iterator. -/
import Derived.Test.YtngdilbfhpcfgaaGreatDoorXF
import Derived.Test.YtngdilbfhpcfgaaGreatDoorXG
import Derived.Deep.RegionHeld3
import Derived.Deep.DeepCutAuto
import Derived.RangeFuncIn
import Derived.RangeFuncSeq
import Derived.RangeFuncOwn
set_option linter.unusedSimpArgs false
set_option linter.unusedVariables false
/- Words for the lexer in memory, and the steps that its iterator takes. -/
namespace Go.Proofs.YtngdilbfhpcfgaaGreatDoor
set_option maxRecDepth 100000
open Go.RowKit

/-- A block that is known whole: just these cells, none frozen. -/
def Blk (w : World) (g : Nat) (t : TypeId) (cs : Array Value) : Prop := w.heap[g]? = some (.cells cs t (0, 0))
section
variable {w w' : World} {g : Nat} {t : TypeId} {cs : Array Value}
theorem Blk.lt (h : Blk w g t cs) : g < w.heap.size := by
  rcases Nat.lt_or_ge g w.heap.size with hlt | hge
  · exact hlt
  · unfold Blk at h; rw [Array.getElem?_eq_none hge] at h; cases h
theorem Blk.cell (h : Blk w g t cs) (i : Nat) : w.cell? ⟨g, i, none⟩ = cs[i]? := Lib.cell_of_heap h i
theorem Blk.frozen (h : Blk w g t cs) (i : Nat) : w.frozen? ⟨g, i, none⟩ = false := Lib.frozen_of_heap h i
theorem Blk.new (w : World) (t : TypeId) (cs : Array Value) : Blk (w.alloc (.cells cs t)) w.heap.size t cs := heap_alloc_new w _
theorem Blk.drewN (h : Blk w g t cs) (n : Nat) : Blk (w.drewN n) g t cs := h
theorem Blk.alloc (h : Blk w g t cs) (o : Obj) : Blk (w.alloc o) g t cs := (Below.heap_alloc w o g h.lt).trans h
theorem Blk.set_ (h : Blk w g t cs) (i : Nat) (u : Value) : Blk (w.setCell ⟨g, i, none⟩ u) g t (cs.setIfInBounds i u) := by
  unfold Blk at h ⊢
  simp [World.setCell, Array.getElem?_modify, h]
theorem Blk.far (h : Blk w g t cs) {p : Addr} (hp : g ≠ p.block) (u : Value) : Blk (w.setCell p u) g t cs := (Below.heap_setCell w p u g hp).trans h
theorem Blk.below {B : Nat} (h : Blk w g t cs) (hb : Below B w w') (hg : g < B) : Blk w' g t cs := (hb.block g hg).trans h
theorem Blk.grown {row : Option Nat} (h : Blk w g t cs) (hb : w.grownBy w' row) (hg : some g ≠ row) : Blk w' g t cs := (hb.block g h.lt hg).trans h
theorem Blk.ne_ {g' : Nat} {t' : TypeId} {cs' : Array Value} (h : Blk w g t cs) (h' : Blk w g' t' cs') (hne : t ≠ t') : g ≠ g' := by
  rintro rfl
  unfold Blk at h h'
  rw [h] at h'
  injection h' with h'
  injection h' with _ ht
  exact hne ht
end

/-- The lexer: its text, its language, its place, whether it has met a fault. -/
def XB (w : World) (b : Nat) (s : ByteArray) (lang : Int) (q : Nat) (bad : Bool) : Prop := Blk w b 114 #[.string s, .int .i64 lang, .int .i64 q, .bool bad]
theorem XB.at_ {w : World} {b : Nat} {s : ByteArray} {lang : Int} {q : Nat} {bad : Bool} (h : XB w b s lang q bad) : LexAt w b s q := ⟨Blk.cell h 0, Blk.cell h 2⟩
theorem XB.moved {w w' : World} {b : Nat} {s : ByteArray} {lang : Int} {q r : Nat} {bad : Bool} (h : XB w b s lang q bad) (hm : Moved b w w' r) : XB w' b s lang r bad := by
  obtain ⟨j, rfl⟩ := hm
  exact Blk.set_ (Blk.drewN h j) 2 _
theorem moved_grown {w w' : World} {b r : Nat} (hm : Moved b w w' r) : w.grownBy w' (some b) := by
  obtain ⟨j, rfl⟩ := hm
  exact ⟨rfl, rfl, rfl, by simp [World.setCell], fun k hk hne => (Below.heap_setCell _ _ _ k (fun e => hne (by rw [e])))⟩
theorem below_grown {w w' : World} (h : Below w.heap.size w w') (row : Option Nat) : w.grownBy w' row := ⟨h.os, h.tape, h.output, h.size, fun i hi _ => h.block i hi⟩
theorem set_grown (w : World) (b i : Nat) (v : Value) : w.grownBy (w.setCell ⟨b, i, none⟩ v) (some b) :=
  ⟨rfl, rfl, rfl, by simp [World.setCell], fun k hk hne => (Below.heap_setCell _ _ _ k (fun e => hne (by rw [e])))⟩
theorem drewN_grown {w w' : World} {row : Option Nat} (h : w.grownBy w' row) (n : Nat) : w.grownBy (w'.drewN n) row := ⟨h.os, h.tape, h.output, h.size, h.block⟩
theorem grown_trans_ {a b c : World} {row : Option Nat} (h : a.grownBy b row) (k : b.grownBy c row) : a.grownBy c row :=
  ⟨k.os.trans h.os, k.tape.trans h.tape, k.output.trans h.output, Nat.le_trans h.size k.size, fun i hi hne => (k.block i (Nat.lt_of_lt_of_le hi h.size) hne).trans (h.block i hi hne)⟩

end Go.Proofs.YtngdilbfhpcfgaaGreatDoor
/- Walk of the iterator that package lex's all hands back. -/
namespace Go.Proofs.YtngdilbfhpcfgaaGreatDoor
set_option maxRecDepth 100000
open Go.RowKit

def tokCells (t : Tok) : Array Value := lxCells t.x t.at_ t.end_

/-- What a step of the iterator holds of the world, from w1 on. -/
structure St (b c0 : Nat) (s : ByteArray) (lang : Int) (m : Nat) (w1 w' : World) : Prop where
  box : w'.cell? ⟨c0, 0, none⟩ = some (.pointer (some ⟨b, 0, none⟩))
  x1 : w'.cell? ⟨b, 1, none⟩ = some (.int .i64 lang)
  x2 : w'.cell? ⟨b, 2, none⟩ = some (.int .i64 m)
  lex : LexAt w' b s m
  lt : b < w'.heap.size
  below : Below w1.heap.size w1 w'
theorem St.more {b c0 : Nat} {s : ByteArray} {lang : Int} {m : Nat} {w1 w' w'' : World} (h : St b c0 s lang m w1 w') (hb : b < w1.heap.size) (hc : c0 < w1.heap.size) (hw : Below w1.heap.size w' w'') : St b c0 s lang m w1 w'' :=
  ⟨(hw.cell (p := ⟨c0, 0, none⟩) hc).trans h.box, (hw.cell (p := ⟨b, 1, none⟩) hb).trans h.x1, (hw.cell (p := ⟨b, 2, none⟩) hb).trans h.x2, ⟨(hw.cell (p := ⟨b, 0, none⟩) hb).trans h.lex.1, (hw.cell (p := ⟨b, 2, none⟩) hb).trans h.lex.2⟩, Nat.lt_of_lt_of_le h.lt hw.size, h.below.trans hw⟩

theorem St.all {b c0 : Nat} {s : ByteArray} {lang : Int} {m : Nat} {w1 w' : World} (h : St b c0 s lang m w1 w') :
    w'.cell? ⟨c0, 0, none⟩ = some (.pointer (some ⟨b, 0, none⟩)) ∧ w'.cell? ⟨b, 2, none⟩ = some (.int .i64 m) ∧ St b c0 s lang m w1 w' := ⟨h.box, h.x2, h⟩
theorem St.callee {b c0 : Nat} {s : ByteArray} {lang : Int} {m : Nat} {w1 w' w'' : World} (h : w'.cell? ⟨c0, 0, none⟩ = some (.pointer (some ⟨b, 0, none⟩)) ∧ w'.cell? ⟨b, 2, none⟩ = some (.int .i64 m) ∧ St b c0 s lang m w1 w')
    (hb : b < w1.heap.size) (hc : c0 < w1.heap.size) (hw : Below w'.heap.size w' w'') :
    w''.cell? ⟨c0, 0, none⟩ = some (.pointer (some ⟨b, 0, none⟩)) ∧ w''.cell? ⟨b, 2, none⟩ = some (.int .i64 m) ∧ St b c0 s lang m w1 w'' := (h.2.2.more hb hc (hw.mono h.2.2.below.size)).all
theorem St.alloc {b c0 : Nat} {s : ByteArray} {lang : Int} {m : Nat} {w1 w' : World} (h : w'.cell? ⟨c0, 0, none⟩ = some (.pointer (some ⟨b, 0, none⟩)) ∧ w'.cell? ⟨b, 2, none⟩ = some (.int .i64 m) ∧ St b c0 s lang m w1 w')
    (hb : b < w1.heap.size) (hc : c0 < w1.heap.size) (o : Obj) :
    (w'.alloc o).cell? ⟨c0, 0, none⟩ = some (.pointer (some ⟨b, 0, none⟩)) ∧ (w'.alloc o).cell? ⟨b, 2, none⟩ = some (.int .i64 m) ∧ St b c0 s lang m w1 (w'.alloc o) :=
  (h.2.2.more hb hc ((Below.refl _ _).alloc h.2.2.below.size _)).all

theorem St.set5 {b c0 : Nat} {s : ByteArray} {lang : Int} {m g : Nat} {w1 w' : World} {a0 a1 a2 a3 a4 : Value} (h : w'.cell? ⟨c0, 0, none⟩ = some (.pointer (some ⟨b, 0, none⟩)) ∧ w'.cell? ⟨b, 2, none⟩ = some (.int .i64 m) ∧ St b c0 s lang m w1 w')
    (hb : b < w1.heap.size) (hc : c0 < w1.heap.size) (hg : w1.heap.size ≤ g) :
    (((((w'.setCell ⟨g, 0, none⟩ a0).setCell ⟨g, 1, none⟩ a1).setCell ⟨g, 2, none⟩ a2).setCell ⟨g, 3, none⟩ a3).setCell ⟨g, 4, none⟩ a4).cell? ⟨c0, 0, none⟩ = some (.pointer (some ⟨b, 0, none⟩)) ∧
    (((((w'.setCell ⟨g, 0, none⟩ a0).setCell ⟨g, 1, none⟩ a1).setCell ⟨g, 2, none⟩ a2).setCell ⟨g, 3, none⟩ a3).setCell ⟨g, 4, none⟩ a4).cell? ⟨b, 2, none⟩ = some (.int .i64 m) ∧
    St b c0 s lang m w1 (((((w'.setCell ⟨g, 0, none⟩ a0).setCell ⟨g, 1, none⟩ a1).setCell ⟨g, 2, none⟩ a2).setCell ⟨g, 3, none⟩ a3).setCell ⟨g, 4, none⟩ a4) :=
  (h.2.2.more hb hc (below_set5 (Below.refl _ _) hg)).all

theorem below_res5 {w w2 : World} {n : Nat} {a0 a1 a2 a3 a4 : Value} (hb : Below ((w.drewN n).alloc (.cells #[a0, a1, a2, a3, a4] 76)).heap.size ((w.drewN n).alloc (.cells #[a0, a1, a2, a3, a4] 76)) w2) : Res5 w2 w.heap.size a0 a1 a2 a3 a4 :=
  Res5.below (Res5.new (w.drewN n) a0 a1 a2 a3 a4) (by simp) hb

theorem below_blk5 {w w2 : World} {n : Nat} {a0 a1 a2 a3 a4 : Value} (hb : Below ((w.drewN n).alloc (.cells #[a0, a1, a2, a3, a4] 76)).heap.size ((w.drewN n).alloc (.cells #[a0, a1, a2, a3, a4] 76)) w2) : Blk w2 w.heap.size 76 #[a0, a1, a2, a3, a4] :=
  (Blk.new (w.drewN n) 76 #[a0, a1, a2, a3, a4]).below hb (by simp)
theorem Blk.set5 {w : World} {g : Nat} {a0 a1 a2 a3 a4 : Value} (h : Blk w g 76 #[a0, a1, a2, a3, a4]) (x0 x1 x2 x3 x4 : Value) :
    Blk (((((w.setCell ⟨g, 0, none⟩ x0).setCell ⟨g, 1, none⟩ x1).setCell ⟨g, 2, none⟩ x2).setCell ⟨g, 3, none⟩ x3).setCell ⟨g, 4, none⟩ x4) g 76 #[x0, x1, x2, x3, x4] :=
  ((((h.set_ 0 x0).set_ 1 x1).set_ 2 x2).set_ 3 x3).set_ 4 x4

theorem grown_new {a w : World} {row : Option Nat} (h : a.grownBy w row) {p : Addr} (hp : a.heap.size ≤ p.block) (v : Value) : a.grownBy (w.setCell p v) row :=
  ⟨h.os, h.tape, h.output, by simpa [World.setCell] using h.size, fun k hk hne => (Below.heap_setCell _ _ _ k (fun e => by omega)).trans (h.block k hk hne)⟩
theorem grown_drew {a w : World} {row : Option Nat} (h : a.grownBy w row) : a.grownBy w.drew row := ⟨h.os, h.tape, h.output, h.size, h.block⟩

set_option maxRecDepth 100000 in
set_option maxHeartbeats 1000000 in
theorem all1_any (b c0 l : Nat) (s : ByteArray) (lang : Int) (hs : s.size ≤ 100000) (J : List Tok → World → Prop)
    (hJ : ∀ pre W W', J pre W → W.grownBy W' (some b) → J pre W')
    (hY : ∀ (pre : List Tok) (t : Tok) (W : World), pre.length ≤ s.size → J pre W → YieldAt Fence.wide 4 Tryz.prog l #[.agg (tokCells t)] W fun e W' => e = .returned (.bool true) ∧ J (pre ++ [t]) W' ∧ W'.heap[b]? = W.heap[b]? ∧ W'.heap[c0]? = W.heap[c0]?)
    (w : World) (hX : XB w b s lang 0 false) (hc0 : Blk w c0 112 #[.pointer (some ⟨b, 0, none⟩)]) (hne : b ≠ c0) (h0 : J [] w) :
    Calls Tryz.prog 83 #[.func (.yield l) #[] #[], .pointer (some ⟨c0, 0, none⟩)] w fun e w' => (∃ v, e = .returned v) ∧
      J (lexAll lang s.data.toList).1 w' ∧ ∃ q, XB w' b s lang q (lexAll lang s.data.toList).2.isSome ∧ ∀ r, (lexAll lang s.data.toList).2 = some r → q = r := by
  go_enter Tryz.func83, Tryz.ntmps83
  go_wp2
  go_loopw [3] (fun ev wr => ∃ (pre : List Tok) (q : Nat) (e : Int) (f : Nat), ev = .int .i64 e ∧ pre.length ≤ q ∧ q ≤ s.size ∧ s.size - q < f ∧
      Hid (lexAll lang s.data.toList = (pre ++ (toks lang f q e (s.data.toList.drop q)).1, (toks lang f q e (s.data.toList.drop q)).2)) ∧
      J pre wr ∧ XB wr b s lang q false ∧ Blk wr c0 112 #[.pointer (some ⟨b, 0, none⟩)]) (fun _ wr => s.size - curAt b wr)
  case atStart => exact ⟨[], 0, -1, s.size + 1, rfl, Nat.le_refl _, Nat.zero_le _, by omega, Lib.hid (by simp [lexAll]), h0, hX, hc0⟩
  case round =>
    obtain ⟨pre, q, e, f, rfl, hpq, hq, hf, HT, hj, hx, hc⟩ := hrel
    have c00 : wr.cell? ⟨c0, 0, none⟩ = some (.pointer (some ⟨b, 0, none⟩)) := hc.cell 0
    go_wp2_with fail
    refine (blank_any b s q wr hs hq hx.at_ (Blk.frozen hx 2)).mono ?_
    rintro ee w1 ⟨rfl, hm⟩
    have hx1 := hx.moved hm
    have hg1 := moved_grown hm
    have hc1 := hc.grown hg1 (by simp; omega)
    have d00 : w1.cell? ⟨c0, 0, none⟩ = some (.pointer (some ⟨b, 0, none⟩)) := hc1.cell 0
    have hsk := skip_le (s.data.toList.drop q) false
    have hlen : (s.data.toList.drop q).length = s.size - q := by simp
    obtain ⟨m, HM⟩ := name_it (q + skip false (s.data.toList.drop q))
    have hqm : q ≤ m ∧ m ≤ s.size := by rw [← HM.out]; omega
    obtain ⟨hqm, hms⟩ := hqm
    rw [HM.out] at hx1
    clear hsk hlen
    have x0 : w1.cell? ⟨b, 0, none⟩ = some (.string s) := Blk.cell hx1 0
    have x1 : w1.cell? ⟨b, 1, none⟩ = some (.int .i64 lang) := Blk.cell hx1 1
    have x2 : w1.cell? ⟨b, 2, none⟩ = some (.int .i64 m) := Blk.cell hx1 2
    have hb1 : b < w1.heap.size := Blk.lt hx1
    by_cases hend : m = s.size
    · have hd : decide (s.size ≤ m) = true := by simp; omega
      have HE := Lib.hid hend
      clear hend
      go_wp2
      go_quiet (fail)
      go_wp2
      refine bodyPost_ret (results_none rfl _ _ _) rfl ⟨⟨_, rfl⟩, ?_⟩
      have hT := HT.out
      rw [toks_end (by rw [HM.out, HE.out]; simp)] at hT
      rw [hT]
      exact ⟨by rw [List.append_nil]; exact hJ _ _ _ hj (drewN_grown hg1 _), m, hx1.drewN _, fun r hr => by cases hr⟩
    · have hd : decide (s.size ≤ m) = false := by simp; omega
      have hlt : m < s.size := by omega
      clear hend
      go_wp2
      go_quiet (fail)
      go_upto_region 3 with fail
      obtain ⟨x, HXx⟩ := name_it (nextLx lang (decide (e = (m : Int))) (s.data.toList.drop m))
      obtain ⟨T, HTt⟩ := name_it (strB x.text)
      obtain ⟨E, HEe⟩ := name_it (strB x.extra)
      go_cut [4, 5] (fun s4 s5 wx => ∃ g : Nat, s4 = .pointer (some ⟨g, 0, none⟩) ∧ s5 = .int .i64 x.len ∧ w1.heap.size ≤ g ∧ Below w1.heap.size w1 wx ∧ Blk wx g 76 #[.int .i64 x.kind, .string T, .string E, .int .i64 0, .int .i64 0])
      case first =>
        have hst : St b c0 s lang m w1 w1 := ⟨d00, x1, x2, hx1.at_, hb1, Below.refl _ _⟩
        have hst0 : ∀ n, St b c0 s lang m w1 (w1.drewN n).drew := fun n => hst.more hb1 hc1.lt ⟨rfl, rfl, rfl, Nat.le_refl _, fun _ _ => rfl⟩
        have hstN : ∀ n, St b c0 s lang m w1 (w1.drewN n) := fun n => hst.more hb1 hc1.lt ⟨rfl, rfl, rfl, Nat.le_refl _, fun _ _ => rfl⟩
        go_region_held3 (fun w' => w'.cell? ⟨c0, 0, none⟩ = some (.pointer (some ⟨b, 0, none⟩)) ∧ w'.cell? ⟨b, 2, none⟩ = some (.int .i64 m) ∧ St b c0 s lang m w1 w') (((try dsimp only); first | (with_reducible exact (hst0 _).all) | (with_reducible exact hst2.all) | (with_reducible exact St.alloc hst2.all hb1 hc1.lt _) | (with_reducible exact St.alloc (hstN _).all hb1 hc1.lt _) | (with_reducible exact (hstN _).all) | ((with_reducible refine St.set5 hst2.all hb1 hc1.lt ?_); (simp; done))))
          (first | (go_at_call 85; refine (next_any b s m lang (decide (e = (m : Int))) _ hs hms (‹_ ∧ _ ∧ St b c0 s lang m w1 _›).2.2.lt (‹_ ∧ _ ∧ St b c0 s lang m w1 _›).2.2.lex (‹_ ∧ _ ∧ St b c0 s lang m w1 _›).2.2.x1).mono ?_; rintro ee w2 ⟨rfl, hb2⟩; have hst2 : St b c0 s lang m w1 w2 := (St.callee (by assumption) hb1 hc1.lt hb2).2.2; (first | (have r5 := below_res5 hb2; obtain ⟨⟨r0, r1, r2, r3, r4⟩, f0, f1, f2, f3, f4⟩ := r5; have k5 := below_blk5 hb2) | skip); rw [lxVal_some (k := x.kind) (n := x.len) (t := x.text) (e := x.extra) (by rw [HXx.out]) HTt.out HEe.out]))
        · go_wp2_with fail
          go_meet
          exact ⟨w2.heap.size, rfl, rfl, hst2.below.size, hst2.below.trans ((Below.refl _ _).alloc hst2.below.size _), Blk.new w2 76 _⟩
        · go_wp2_with fail
          go_meet
          exact ⟨w1.heap.size, rfl, rfl, Nat.le_refl _, hst2.below.trans (below_set5 (Below.refl _ _) (Nat.le_refl _)), k5.set5 _ _ _ _ _⟩
      case rest =>
        obtain ⟨g, rfl, rfl, hg, hbx, hblk⟩ := hcut
        have hc2 := hc1.below hbx hc1.lt
        have hx2 : XB wc b s lang m false := Blk.below hx1 hbx hb1
        have z0 : wc.cell? ⟨c0, 0, none⟩ = some (.pointer (some ⟨b, 0, none⟩)) := hc2.cell 0
        have z1 : wc.cell? ⟨b, 1, none⟩ = some (.int .i64 lang) := Blk.cell hx2 1
        have z2 : wc.cell? ⟨b, 2, none⟩ = some (.int .i64 m) := Blk.cell hx2 2
        have z3 : wc.cell? ⟨b, 3, none⟩ = some (.bool false) := Blk.cell hx2 3
        have zf2 : wc.frozen? ⟨b, 2, none⟩ = false := Blk.frozen hx2 2
        have zf3 : wc.frozen? ⟨b, 3, none⟩ = false := Blk.frozen hx2 3
        have hgr : wr.grownBy wc (some b) := grown_trans_ hg1 (below_grown hbx _)
        by_cases hn0 : x.len = 0
        · have HN := Lib.hid hn0
          rw [hn0]
          clear hn0
          go_wp2
          refine bodyPost_ret (results_none rfl _ _ _) rfl ⟨⟨_, rfl⟩, ?_⟩
          have hT := HT.out
          rw [toks_bad (by omega) HM.out (by simpa using hlt) (by rw [HXx.out, HN.out])] at hT
          rw [hT]
          refine ⟨by rw [List.append_nil]; exact hJ _ _ _ hj (grown_trans_ hgr (set_grown _ _ _ _)), m, Blk.set_ hx2 3 _, fun r hr => by injection hr⟩
        · have hle := nextLx_le (lang := lang) (blank := decide (e = (m : Int))) (r := s.data.toList.drop m) (by simp; omega)
          rw [HXx.out] at hle
          have hlen : (s.data.toList.drop m).length = s.size - m := by simp
          rw [hlen] at hle
          clear hlen
          have t0 : ((x.len : Int) == 0) = false := by simpa using hn0
          have HN := Lib.hid hn0
          clear hn0
          have y3 : wc.cell? ⟨g, 3, none⟩ = some (.int .i64 0) := hblk.cell 3
          have y4 : wc.cell? ⟨g, 4, none⟩ = some (.int .i64 0) := hblk.cell 4
          have yf3 : wc.frozen? ⟨g, 3, none⟩ = false := hblk.frozen 3
          have yf4 : wc.frozen? ⟨g, 4, none⟩ = false := hblk.frozen 4
          have hgb : ¬ g = b := by omega
          have hbg : ¬ b = g := by omega
          have hgc : ¬ g = c0 := by have := hc1.lt; omega
          have hcg : ¬ c0 = g := by have := hc1.lt; omega
          have y0 : wc.cell? ⟨g, 0, none⟩ = some (.int .i64 x.kind) := hblk.cell 0
          have y1 : wc.cell? ⟨g, 1, none⟩ = some (.string T) := hblk.cell 1
          have y2 : wc.cell? ⟨g, 2, none⟩ = some (.string E) := hblk.cell 2
          have hT0 := hc1.lt
          have hsz1 := hg1.size
          obtain ⟨WY, HWY⟩ := name_it (((wc.setCell ⟨g, 3, none⟩ (.int .i64 m)).setCell ⟨g, 4, none⟩ (.int .i64 (m + x.len))).setCell ⟨b, 2, none⟩ (.int .i64 (m + x.len))).drew
          have hgY : wr.grownBy WY (some b) := by
            rw [← HWY.out]
            exact grown_drew (grown_trans_ (grown_new (grown_new hgr (by simp; omega) _) (by simp; omega) _) (set_grown _ _ _ _))
          have hxY : XB WY b s lang (m + x.len) false := by
            rw [← HWY.out]
            exact Blk.set_ (Blk.far (Blk.far hx2 (by simpa using hbg) _) (by simpa using hbg) _) 2 _
          have hcY := hc.grown hgY (by simp; omega)
          obtain ⟨fn, tmps, assign, body, hy, hR⟩ := hY pre ⟨x, m, m + x.len⟩ WY (by omega) (hJ _ _ _ hj hgY)
          have e5 : tokCells ⟨x, m, m + x.len⟩ = #[.int .i64 x.kind, .string T, .string E, .int .i64 m, .int .i64 (m + x.len)] := by
            simp [tokCells, lxCells, HTt.out, HEe.out]
          rw [e5, ← HWY.out] at hy
          clear e5
          have hf1 : Hid (f = f - 1 + 1) := Lib.hid (by omega)
          have hn1 : 1 ≤ x.len := by have := HN.out; omega
          by_cases ck : x.kind = 7
          · have k7 : (x.kind : Int) = 7 := by omega
            rw [k7] at hy y0
            by_cases cl : lang = 1
            · by_cases ct : x.text = [95, 58]
              · have HC := Lib.hid (show endOf lang x (m + x.len) = (m + x.len : Nat) by unfold endOf; rw [if_pos ⟨ck, ct, cl⟩])
                have hTT : T = ⟨#[95, 58]⟩ := by rw [← HTt.out, ct]; rfl
                have t2 : T.toList = [95, 58] := by rw [hTT, ByteArray.toList_eq]
                clear ck ct k7 hTT
                subst cl
                go_wp2
                go_region
                go_upto_region 11 with fail
                refine (wpIn_wide (n := 5)).1 ?_
                gi_wp2
                rw [HWY.out]
                refine hR.mono ?_
                rintro ee W3 ⟨rfl, hJ3, hkb, hkc⟩
                gi_wp2
                go_wp2
                go_roundw
                case rel =>
                  refine ⟨pre ++ [⟨x, m, m + x.len⟩], m + x.len, (m + x.len : Nat), f - 1, by go_num, by simp; omega, by omega, by omega, Lib.hid ?_, hJ3, hkb.trans hxY, hkc.trans hcY⟩
                  have hT := HT.out
                  rw [hf1.out, toks_go HM.out (by simpa using hlt) HXx.out HN.out] at hT
                  rw [hT, HC.out, List.append_assoc]
                  rfl
                case measure =>
                  rw [curAt_at (Blk.cell (hkb.trans hxY) 2), curAt_at (Blk.cell hx 2)]
                  omega
              · have HC := Lib.hid (show endOf lang x (m + x.len) = -1 by unfold endOf; rw [if_neg (fun h => ct h.2.1)])
                have t2 : ¬ T.toList = [95, 58] := by
                  rw [← HTt.out]
                  intro h
                  apply ct
                  rw [ByteArray.toList_eq] at h
                  exact h
                clear ck ct k7
                subst cl
                go_wp2
                go_region
                go_upto_region 11 with fail
                refine (wpIn_wide (n := 5)).1 ?_
                gi_wp2
                rw [HWY.out]
                refine hR.mono ?_
                rintro ee W3 ⟨rfl, hJ3, hkb, hkc⟩
                gi_wp2
                go_wp2
                go_roundw
                case rel =>
                  refine ⟨pre ++ [⟨x, m, m + x.len⟩], m + x.len, -1, f - 1, rfl, by simp; omega, by omega, by omega, Lib.hid ?_, hJ3, hkb.trans hxY, hkc.trans hcY⟩
                  have hT := HT.out
                  rw [hf1.out, toks_go HM.out (by simpa using hlt) HXx.out HN.out] at hT
                  rw [hT, HC.out, List.append_assoc]
                  rfl
                case measure =>
                  rw [curAt_at (Blk.cell (hkb.trans hxY) 2), curAt_at (Blk.cell hx 2)]
                  omega
            · have t3 : (lang == 1) = false := by simpa using cl
              have HC := Lib.hid (show endOf lang x (m + x.len) = -1 by unfold endOf; rw [if_neg (fun h => cl h.2.2)])
              clear ck cl k7
              by_cases t2 : T.toList = [95, 58]
              · go_wp2
                go_region
                go_upto_region 11 with fail
                refine (wpIn_wide (n := 5)).1 ?_
                gi_wp2
                rw [HWY.out]
                refine hR.mono ?_
                rintro ee W3 ⟨rfl, hJ3, hkb, hkc⟩
                gi_wp2
                go_wp2
                go_roundw
                case rel =>
                  refine ⟨pre ++ [⟨x, m, m + x.len⟩], m + x.len, -1, f - 1, rfl, by simp; omega, by omega, by omega, Lib.hid ?_, hJ3, hkb.trans hxY, hkc.trans hcY⟩
                  have hT := HT.out
                  rw [hf1.out, toks_go HM.out (by simpa using hlt) HXx.out HN.out] at hT
                  rw [hT, HC.out, List.append_assoc]
                  rfl
                case measure =>
                  rw [curAt_at (Blk.cell (hkb.trans hxY) 2), curAt_at (Blk.cell hx 2)]
                  omega
              · go_wp2
                go_region
                go_upto_region 11 with fail
                refine (wpIn_wide (n := 5)).1 ?_
                gi_wp2
                rw [HWY.out]
                refine hR.mono ?_
                rintro ee W3 ⟨rfl, hJ3, hkb, hkc⟩
                gi_wp2
                go_wp2
                go_roundw
                case rel =>
                  refine ⟨pre ++ [⟨x, m, m + x.len⟩], m + x.len, -1, f - 1, rfl, by simp; omega, by omega, by omega, Lib.hid ?_, hJ3, hkb.trans hxY, hkc.trans hcY⟩
                  have hT := HT.out
                  rw [hf1.out, toks_go HM.out (by simpa using hlt) HXx.out HN.out] at hT
                  rw [hT, HC.out, List.append_assoc]
                  rfl
                case measure =>
                  rw [curAt_at (Blk.cell (hkb.trans hxY) 2), curAt_at (Blk.cell hx 2)]
                  omega
          · have t1 : ((x.kind : Int) == 7) = false := by
              apply beq_eq_false_iff_ne.2
              omega
            have HC := Lib.hid (show endOf lang x (m + x.len) = -1 by unfold endOf; rw [if_neg (fun h => ck h.1)])
            clear ck
            go_wp2
            go_region
            go_upto_region 11 with fail
            refine (wpIn_wide (n := 5)).1 ?_
            gi_wp2
            rw [HWY.out]
            refine hR.mono ?_
            rintro ee W3 ⟨rfl, hJ3, hkb, hkc⟩
            gi_wp2
            go_wp2
            go_roundw
            case rel =>
              refine ⟨pre ++ [⟨x, m, m + x.len⟩], m + x.len, -1, f - 1, rfl, by simp; omega, by omega, by omega, Lib.hid ?_, hJ3, hkb.trans hxY, hkc.trans hcY⟩
              have hT := HT.out
              rw [hf1.out, toks_go HM.out (by simpa using hlt) HXx.out HN.out] at hT
              rw [hT, HC.out, List.append_assoc]
              rfl
            case measure =>
              rw [curAt_at (Blk.cell (hkb.trans hxY) 2), curAt_at (Blk.cell hx 2)]
              omega

end Go.Proofs.YtngdilbfhpcfgaaGreatDoor
