/- Walk of Long, and what the evaluator takes it to tell. -/
import Derived.Test.YtngdilbfhpcfgaaGreatDoorXH
import Derived.RangeFuncWrites
import Derived.RangeFuncLeaves
import Derived.RangeFuncRecord
import Derived.RangeFuncCalls
import Derived.OwnWalkIn
import Derived.Maps.AppendAt
import Derived.RangeFuncBox
import Derived.Deep.Onto
import Derived.Test.YtngdilbfhpcfgaaGreatDoorXA
import Derived.Test.YtngdilbfhpcfgaaGreatDoorEA
import Derived.Test.YtngdilbfhpcfgaaGreatDoorEF
set_option linter.unusedSimpArgs false
set_option linter.unusedVariables false
/- Walks of all, Long and Lex of package lex. -/
namespace Go.Proofs.YtngdilbfhpcfgaaGreatDoor
set_option maxRecDepth 100000
open Go.RowKit
attribute [local go_sem] Oper.semAt_some

theorem all_any (b : Nat) (w : World) :
    Calls Tryz.prog 39 #[.pointer (some ⟨b, 0, none⟩)] w fun e w' => e = .returned (.func (.func 83) #[] #[.pointer (some ⟨w.heap.size, 0, none⟩)]) ∧ w' = w.alloc (.cells #[.pointer (some ⟨b, 0, none⟩)] 112) := by
  go_enter Tryz.func39, Tryz.ntmps39
  go_wp2
  go_ret
  exact ⟨rfl, rfl⟩

/-- The cells of a list of lexemes. -/
def flat (l : List Tok) : List Value := l.flatMap fun t => (tokCells t).toList

theorem flat_snoc (l : List Tok) (t : Tok) : flat (l ++ [t]) = flat l ++ (tokCells t).toList := by simp [flat]

theorem enters39 : ∀ args w, (callFunc 83 args).run Tryz.prog w = .ok (.enter 83 args) w := enters_of Tryz.func83 (by kernel_rfl) rfl

/-- What the loop over a text's lexemes holds of the world, from B on: the record, the block for deferred calls, the slice. -/
def JL (w : World) (rec : Loop) (pre : List Tok) (W : World) : Prop :=
  W.heap[w.heap.size + 3]? = some (.deferred (some [])) ∧ W.heap[w.heap.size + 4]? = some (.loop rec) ∧ Below w.heap.size w W ∧
    ∃ v, Blk W (w.heap.size + 1) 37 #[v] ∧ W.ownsRow (w.heap.size + 5) 76 5 v pre.length (flat pre)

theorem JL.grown {w : World} {rec : Loop} {pre : List Tok} {W W' : World} (h : JL w rec pre W) (hg : W.grownBy W' (some w.heap.size)) : JL w rec pre W' := by
  obtain ⟨h1, h2, h3, v, h4, h5⟩ := h
  have l1 : w.heap.size + 3 < W.heap.size := (Array.getElem?_eq_some_iff.1 h1).1
  have l2 : w.heap.size + 4 < W.heap.size := (Array.getElem?_eq_some_iff.1 h2).1
  refine ⟨(hg.block _ l1 (by simp)).trans h1, (hg.block _ l2 (by simp)).trans h2, h3.grown hg h3.size (fun k hk => by cases hk; exact Nat.le_refl _), v, h4.grown hg (by simp), h5.kept hg ?_⟩
  rcases hv : v.ownBlock with _ | k
  · exact .inl rfl
  · refine .inr ?_
    have := (h5.lt k hv).1
    intro e
    injection e with e
    omega

theorem info36 : (Tryz.prog.info? 76).map (fun i => (i.zero, i.size, i.bytes)) = some (some (.agg #[.int .i64 0, .string ⟨#[]⟩, .string ⟨#[]⟩, .int .i64 0, .int .i64 0]), 5, 56) := by kernel_rfl

/-- A range over a function that no round leaves, at the outermost: the iterator's contract is enough. -/
theorem wp_rangeFunc_outer {P : Program} {g : Operand} {ps : Array Tmp} {assign body : Code} {Q : Exit → Act → World → Prop} {a : Act} {w : World} {gf : Nat} {lb : Array Value}
    (hg : a.eval g = .func (.func gf) #[] lb) (eg : ∀ args w, (callFunc gf args).run P w = .ok (.enter gf args) w)
    (h : ∀ (fn : FuncId) (rec : Loop), rec = { state := .ready, pending := none, fn, tmps := a.tmps, params := ps, assign, body, defers := w.heap.size } →
      Calls P gf (#[.func (.yield (w.heap.size + 1)) #[] #[]] ++ lb) ((w.alloc (.deferred (some []))).alloc (.loop rec)) fun e w₃ =>
        (∃ v, e = .returned v) ∧ w₃.heap[w.heap.size + 1]? = some (.loop rec) ∧
          Q .normal { a with defers := { target := .collected w.heap.size, args := #[] } :: a.defers } (w₃.putObj (w.heap.size + 1) (.loop { rec with state := .exhausted }))) :
    (Code.rangeFunc g ps assign body).wp P Q a w := by
  refine (wpIn_wide (n := 6)).1 (wpIn_rangeFunc (fun fn _ => ?_))
  obtain ⟨rec, hrec⟩ : ∃ rec : Loop, rec = { state := .ready, pending := none, fn, tmps := a.tmps, params := ps, assign, body, defers := w.heap.size } := ⟨_, rfl⟩
  refine ⟨w.heap.size + 1, [{ target := .collected w.heap.size, args := #[] }], (w.alloc (.deferred (some []))).alloc (.loop rec),
    { target := .fn (.func gf) lb, args := #[.func (.yield (w.heap.size + 1)) #[] #[]] }, (w.alloc (.deferred (some []))).alloc (.loop rec), gf,
    #[.func (.yield (w.heap.size + 1)) #[] #[]] ++ lb, (w.alloc (.deferred (some []))).alloc (.loop rec), ?_, ?_, fun _ _ => trivial, ?_, fun _ => by omega, ?_⟩
  · rw [hrec]; exact run_enterLoop_outer _ _ _ _ _
  · simp only [resolve, hg]
    simp [go_sem]
  · simp [invoke, go_sem, eg]
  · refine callsIn_wide.2 ((h fn rec hrec).mono ?_)
    rintro e w₃ ⟨⟨v, rfl⟩, hl, hq⟩
    refine ⟨none, _, ?_, hq⟩
    have := run_endLoop (P := P) hl (by rw [hrec]; simp)
    rw [this, hrec]

/-- One round, out of its assignments and its body. -/
theorem yield_round {P : Program} {l : Nat} {rec : Loop} {args : Array Value} {W : World} {R : Ending → World → Prop} (hl : W.heap[l]? = some (.loop rec)) (hs : args.size = rec.params.size)
    (h : rec.assign.wpIn (Fence.wide.inRound l) 4 P (Exit.then (fun a₁ w₁ => ∃ w₂, (Instr.beginRound l).run P w₁ = .ok () w₂ ∧ rec.body.wpIn (Fence.wide.inRound l) 4 P (roundPost P l R) a₁ w₂) (fun _ _ _ => False))
      { tmps := (rec.params.zip args).foldl (fun tmps (t, a) => tmps.setIfInBounds t a) rec.tmps, defers := [] } W) : YieldAt Fence.wide 4 P l args W R :=
  ⟨_, _, _, _, run_yield hl hs, roundIn_of_wpIn trivial h⟩

theorem own_far {w w' : World} {base : Nat} {e : TypeId} {size : Nat} {v : Value} {n : Nat} {xs : List Value} {l : Nat} (h : w.ownsRow base e size v n xs) (hg : w.grownBy w' (some l)) (hl : l < base) : w'.ownsRow base e size v n xs := by
  refine h.kept hg ?_
  rcases hv : v.ownBlock with _ | k
  · exact .inl rfl
  · refine .inr ?_
    have := (h.lt k hv).1
    intro e
    injection e with e
    omega

theorem Blk.putObj {w : World} {g l : Nat} {t : TypeId} {cs : Array Value} (h : Blk w g t cs) (hne : g ≠ l) (o : Obj) : Blk (w.putObj l o) g t cs := (World.putObj_heap_other hne).trans h
theorem below_putObj {B : Nat} {a w : World} (h : Below B a w) {l : Nat} (hl : B ≤ l) (hB : B ≤ w.heap.size) (o : Obj) : Below B a (w.putObj l o) := h.grown (grownBy_putObj' w l o) hB (fun k e => by cases e; exact hl)

theorem cells_new (w : World) (cs : Array Value) (t : TypeId) : ∀ j u, cs.toList[j]? = some u → (w.alloc (.cells cs t)).cell? ((⟨w.heap.size, 0, none⟩ : Addr).add j) = some u := by
  intro j u hu
  have h := (Blk.new w t cs).cell j
  have e : (⟨w.heap.size, 0, none⟩ : Addr).add j = ⟨w.heap.size, j, none⟩ := by
    unfold Addr.add
    split
    · rename_i h0; rw [h0]
    · simp
  rw [e, h, ← hu]
  simp

/-- What lexing a text hands back: its lexemes, or the place of the fault. -/
def LexRes (s : ByteArray) (lang : Int) (w : World) (e : Ending) (w' : World) : Prop :=
  Below w.heap.size w w' ∧
  match lexAll lang s.data.toList with
  | (_, some r) => e = .returned (.tuple #[.slice none 0 0, .int .i64 r, .int .i64 10])
  | (ts, none) => ∃ v, e = .returned (.tuple #[v, .int .i64 0, .int .i64 0]) ∧ w'.ownsRow w.heap.size 76 5 v ts.length (flat ts)

set_option maxRecDepth 100000 in
set_option maxHeartbeats 1000000 in
theorem long_any (s : ByteArray) (lang : Int) (hs : s.size ≤ 100000) (w : World) :
    Calls Tryz.prog 24 #[.int .i64 lang, .string s] w (LexRes s lang w) := by
  refine callsIn_wide.1 (callsIn_of_wp_marks (F := Fence.wide) (n := 6) Tryz.func24 rfl trivial (wpIn_wide.2 ?_) rfl)
  simp only [Tryz.ntmps24, List.size_toArray, List.length_cons, List.length_nil, Nat.reduceAdd, Nat.reduceSub, Array.replicate_succ, Array.replicate_zero, List.push_toArray, List.append_toArray, List.nil_append, List.cons_append]
  go_wp2_with fail
  refine (all_any _ _).mono ?_
  rintro ee w1 ⟨rfl, rfl⟩
  go_wp2
  refine wp_rangeFunc_outer rfl enters39 (fun fn rec hrec => ?_)
  obtain ⟨W0, HW0⟩ := name_it (((w.alloc (.cells #[.string s, .int .i64 lang, .int .i64 0, .bool false] 114)).alloc (.cells #[.slice none 0 0] 37)).alloc (.cells #[.pointer (some ⟨w.heap.size, 0, none⟩)] 112))
  have hW0s : W0.heap.size = w.heap.size + 3 := by rw [← HW0.out]; simp
  have HR := Lib.hid hrec
  clear hrec
  rw [HW0.out, hW0s]
  have hx0 : XB W0 w.heap.size s lang 0 false := by
    rw [← HW0.out]
    exact ((Blk.new w 114 _).alloc _).alloc _
  have hv0 : Blk W0 (w.heap.size + 1) 37 #[.slice none 0 0] := by
    rw [← HW0.out]
    have := (Blk.new (w.alloc (.cells #[.string s, .int .i64 lang, .int .i64 0, .bool false] 114)) 37 #[.slice none 0 0]).alloc (.cells #[.pointer (some ⟨w.heap.size, 0, none⟩)] 112)
    simpa using this
  have hc0 : Blk W0 (w.heap.size + 2) 112 #[.pointer (some ⟨w.heap.size, 0, none⟩)] := by
    rw [← HW0.out]
    have := (Blk.new ((w.alloc (.cells #[.string s, .int .i64 lang, .int .i64 0, .bool false] 114)).alloc (.cells #[.slice none 0 0] 37)) 112 #[.pointer (some ⟨w.heap.size, 0, none⟩)])
    simpa using this
  have hb0 : Below w.heap.size w W0 := by
    rw [← HW0.out]
    exact (((Below.refl _ _).alloc (Nat.le_refl _) _).alloc (by simp) _).alloc (by simp; omega) _
  have hsz1 : ((W0.alloc (.deferred (some []))).alloc (.loop rec)).heap.size = w.heap.size + 5 := by simp [hW0s]
  have hd1 : ((W0.alloc (.deferred (some []))).alloc (.loop rec)).heap[w.heap.size + 3]? = some (.deferred (some [])) := by
    rw [← hW0s]
    exact (Below.heap_alloc _ _ _ (by simp)).trans (World.alloc_heap_new W0 _)
  have hl1 : ((W0.alloc (.deferred (some []))).alloc (.loop rec)).heap[w.heap.size + 4]? = some (.loop rec) := by
    have := World.alloc_heap_new (W0.alloc (.deferred (some []))) (.loop rec)
    rw [World.size_alloc, hW0s] at this
    exact this
  refine (all1_any w.heap.size (w.heap.size + 2) (w.heap.size + 4) s lang hs (JL w rec) (fun pre W W' h hg => h.grown hg) ?yld _ ((hx0.alloc _).alloc _) ((hc0.alloc _).alloc _) (by omega) ?ini).mono ?_
  case ini =>
    exact ⟨hd1, hl1, (hb0.alloc (by omega) _).alloc (by simp; omega) _, .slice none 0 0, (hv0.alloc _).alloc _, World.ownsRow_nil _ _ _ _⟩
  case yld =>
    rintro pre t W hlen ⟨j1, j2, j3, v, j4, j5⟩
    refine yield_round j2 (by rw [HR.out]; rfl) ?_
    have ha := congrArg Loop.assign HR.out
    have hbd := congrArg Loop.body HR.out
    have ht := congrArg Loop.tmps HR.out
    have hp := congrArg Loop.params HR.out
    dsimp only at ha hbd ht hp
    obtain ⟨T, HTt⟩ := name_it (strB t.x.text)
    obtain ⟨E, HEe⟩ := name_it (strB t.x.extra)
    have htc : tokCells t = #[.int .i64 t.x.kind, .string T, .string E, .int .i64 t.at_, .int .i64 t.end_] := by simp [tokCells, lxCells, HTt.out, HEe.out]
    have HTC := Lib.hid htc
    rw [ha, hbd, ht, hp, htc]
    clear ha hbd ht hp htc
    have k1 : w.heap.size + 3 < W.heap.size := (Array.getElem?_eq_some_iff.1 j1).1
    have k2 : w.heap.size + 4 < W.heap.size := (Array.getElem?_eq_some_iff.1 j2).1
    gi_wp2
    have hla : (W.alloc (.cells #[.int .i64 t.x.kind, .string T, .string E, .int .i64 t.at_, .int .i64 t.end_] 76)).heap[w.heap.size + 4]? = some (.loop rec) := (Below.heap_alloc _ _ _ k2).trans j2
    refine ⟨_, run_beginRound hla (by rw [HR.out]), ?_⟩
    obtain ⟨Wb, HWb⟩ := name_it ((W.alloc (.cells #[.int .i64 t.x.kind, .string T, .string E, .int .i64 t.at_, .int .i64 t.end_] 76)).putObj (w.heap.size + 4) (.loop { rec with state := .busy }))
    rw [HWb.out]
    have hbs : Wb.heap.size = W.heap.size + 1 := by rw [← HWb.out]; simp
    have hbv : Blk Wb (w.heap.size + 1) 37 #[v] := by rw [← HWb.out]; exact (j4.alloc _).putObj (by omega) _
    have hby : Blk Wb W.heap.size 76 #[.int .i64 t.x.kind, .string T, .string E, .int .i64 t.at_, .int .i64 t.end_] := by rw [← HWb.out]; exact (Blk.new W 76 _).putObj (by omega) _
    have hbo : Wb.ownsRow (w.heap.size + 5) 76 5 v pre.length (flat pre) := by rw [← HWb.out]; exact own_far (j5.alloc _) (grownBy_putObj' _ _ _) (by omega)
    have hbl : Wb.heap[w.heap.size + 4]? = some (.loop { rec with state := .busy }) := by rw [← HWb.out]; exact World.putObj_heap_same (by simp; omega)
    have hbd : Wb.heap[w.heap.size + 3]? = some (.deferred (some [])) := by rw [← HWb.out]; exact (World.putObj_heap_other (by omega)).trans ((Below.heap_alloc _ _ _ k1).trans j1)
    have hbb : Below w.heap.size w Wb := by rw [← HWb.out]; exact below_putObj (j3.alloc (by omega) _) (by omega) (by simp; omega) _
    have hbx : Wb.heap[w.heap.size]? = W.heap[w.heap.size]? := by rw [← HWb.out]; exact (World.putObj_heap_other (by omega)).trans (Below.heap_alloc _ _ _ (by omega))
    have hbc : Wb.heap[w.heap.size + 2]? = W.heap[w.heap.size + 2]? := by rw [← HWb.out]; exact (World.putObj_heap_other (by omega)).trans (Below.heap_alloc _ _ _ (by omega))
    have v0 : Wb.cell? ⟨w.heap.size + 1, 0, none⟩ = some v := hbv.cell 0
    have y0 : Wb.cell? ⟨W.heap.size, 0, none⟩ = some (.int .i64 t.x.kind) := hby.cell 0
    have y1 : Wb.cell? ⟨W.heap.size, 1, none⟩ = some (.string T) := hby.cell 1
    have y2 : Wb.cell? ⟨W.heap.size, 2, none⟩ = some (.string E) := hby.cell 2
    have y3 : Wb.cell? ⟨W.heap.size, 3, none⟩ = some (.int .i64 t.at_) := hby.cell 3
    have y4 : Wb.cell? ⟨W.heap.size, 4, none⟩ = some (.int .i64 t.end_) := hby.cell 4
    obtain ⟨i0, hi, hz0, hz1, hz2⟩ := info_parts info36
    have HBS := Lib.hid hbs
    clear hbs
    gi_wp2_with (gi_at_builtin; refine wpListIn_append_own _ rfl _ _ 37 rfl (w.heap.size + 5) 76 i0 _ 5 56 Tryz.underlying37 hi hz0 hz1 hz2 rfl (by decide) _ _ _ rfl (hbo.alloc _) ⟨Wb.heap.size, 0, none⟩ 1 1 [.int .i64 t.x.kind, .string T, .string E, .int .i64 t.at_, .int .i64 t.end_] rfl rfl ?c1 ?c2 ?c3 ?c4 ?c5 ?_)
    case c1 => exact cells_new Wb _ 76
    case c2 => intro u hu; simp at hu; rcases hu with rfl | rfl | rfl | rfl | rfl <;> rfl
    case c3 => unfold maxLen; omega
    case c4 => omega
    case c5 => have := HBS.out; simp; omega
    intro v' w2 hown' hgrow _
    obtain ⟨g', cap', rfl⟩ := ownsRow_succ hown'
    have hbs2 := HBS.out
    have hown : ∀ k : Nat, k < w.heap.size + 5 → some k ≠ v.ownBlock := by
      intro k hk e
      have := (hbo.lt k e.symm).1
      omega
    have gv : Blk w2 (w.heap.size + 1) 37 #[v] := (hbv.alloc _).grown hgrow (hown _ (by omega))
    have gd : w2.heap[w.heap.size + 3]? = some (.deferred (some [])) := (hgrow.block _ (by simp; omega) (hown _ (by omega))).trans ((Below.heap_alloc _ _ _ (by omega)).trans hbd)
    have gl : w2.heap[w.heap.size + 4]? = some (.loop { rec with state := .busy }) := (hgrow.block _ (by simp; omega) (hown _ (by omega))).trans ((Below.heap_alloc _ _ _ (by omega)).trans hbl)
    have gx : w2.heap[w.heap.size]? = W.heap[w.heap.size]? := (hgrow.block _ (by simp; omega) (hown _ (by omega))).trans ((Below.heap_alloc _ _ _ (by omega)).trans hbx)
    have gc : w2.heap[w.heap.size + 2]? = W.heap[w.heap.size + 2]? := (hgrow.block _ (by simp; omega) (hown _ (by omega))).trans ((Below.heap_alloc _ _ _ (by omega)).trans hbc)
    have gb : Below w.heap.size w w2 := (hbb.alloc (by omega) _).grown hgrow (by simp; omega) (fun k hk => by have := (hbo.lt k hk).1; omega)
    have gs : w.heap.size + 5 ≤ w2.heap.size := by have := hgrow.size; simp at this; omega
    have g0 : w2.cell? ⟨w.heap.size + 1, 0, none⟩ = some v := gv.cell 0
    have gf : w2.frozen? ⟨w.heap.size + 1, 0, none⟩ = false := gv.frozen 0
    clear hbs2 hown
    gi_wp2
    have hl3 : (w2.setCell ⟨w.heap.size + 1, 0, none⟩ (.slice (some ⟨g', 0, none⟩) (pre.length + 1) cap')).heap[w.heap.size + 4]? = some (.loop { rec with state := .busy }) := (Below.heap_setCell _ _ _ _ (by simp)).trans gl
    have hrec4 : ({ ({ rec with state := .busy } : Loop) with state := if (none : Option Code).isNone then .ready else .done, pending := none } : Loop) = rec := by rw [HR.out]; rfl
    refine ⟨_, _, run_endRound none hl3, rfl, ?_, ?_, ?_⟩
    · rw [hrec4]
      refine ⟨(World.putObj_heap_other (by omega)).trans ((Below.heap_setCell _ _ _ _ (by simp)).trans gd), World.putObj_heap_same (by simp [World.setCell]; omega), below_putObj (gb.setCell (p := ⟨w.heap.size + 1, 0, none⟩) (by simp) _) (by omega) (by simp [World.setCell]; omega) _, _, (gv.set_ 0 _).putObj (by omega) _, ?_⟩
      rw [List.length_append, flat_snoc, HTC.out]
      exact own_far (own_far hown' (set_grown _ _ _ _) (by omega)) (grownBy_putObj' _ _ _) (by omega)
    · exact (World.putObj_heap_other (by omega)).trans ((Below.heap_setCell _ _ _ _ (by simp)).trans gx)
    · exact (World.putObj_heap_other (by omega)).trans ((Below.heap_setCell _ _ _ _ (by simp)).trans gc)
  rintro e W ⟨⟨v, rfl⟩, hj, q, hx, hq⟩
  refine ⟨⟨_, rfl⟩, hj.2.1, ?_⟩
  obtain ⟨We, HWe⟩ := name_it (W.putObj (w.heap.size + 3 + 1) (.loop { rec with state := .exhausted }))
  rw [HWe.out]
  obtain ⟨j1, j2, j3, v, j4, j5⟩ := hj
  have k1 : w.heap.size + 3 < W.heap.size := (Array.getElem?_eq_some_iff.1 j1).1
  have e1 : We.heap[w.heap.size + 3]? = some (.deferred (some [])) := by rw [← HWe.out]; exact (World.putObj_heap_other (by omega)).trans j1
  have e3 : Below w.heap.size w We := by rw [← HWe.out]; exact below_putObj j3 (by omega) (by omega) _
  have e4 : Blk We (w.heap.size + 1) 37 #[v] := by rw [← HWe.out]; exact j4.putObj (by omega) _
  have e5 : We.ownsRow (w.heap.size + 5) 76 5 v (lexAll lang s.data.toList).1.length (flat (lexAll lang s.data.toList).1) := by rw [← HWe.out]; exact own_far j5 (grownBy_putObj' _ _ _) (by omega)
  have e6 : XB We w.heap.size s lang q (lexAll lang s.data.toList).2.isSome := by rw [← HWe.out]; exact Blk.putObj hx (by omega) _
  rcases hL : lexAll lang s.data.toList with ⟨ts, _ | r⟩
  · rw [hL] at e5 e6
    have x3 : We.cell? ⟨w.heap.size, 3, none⟩ = some (.bool false) := Blk.cell e6 3
    have x4 : We.cell? ⟨w.heap.size + 1, 0, none⟩ = some v := e4.cell 0
    have HL := Lib.hid hL
    clear hL
    go_wp2
    refine ⟨by simp, .inl ⟨_, _, rfl, run_takeDeferred e1, ?_⟩⟩
    refine ⟨.tuple #[v, .int .i64 0, .int .i64 0], by simp [results, Tryz.results24, go_sem], ?_⟩
    unfold LexRes
    rw [HL.out]
    exact ⟨below_putObj e3 (by omega) (by have := e3.size; omega) _, v, rfl, (own_far e5 (grownBy_putObj' _ _ _) (by omega)).mono (by omega)⟩
  · rw [hL] at e6 hq
    have hq' := hq r rfl
    subst hq'
    have x3 : We.cell? ⟨w.heap.size, 3, none⟩ = some (.bool true) := Blk.cell e6 3
    have x2 : We.cell? ⟨w.heap.size, 2, none⟩ = some (.int .i64 q) := Blk.cell e6 2
    have HL := Lib.hid hL
    clear hL
    go_wp2
    go_quiet (fail)
    go_wp2
    refine ⟨by simp, .inl ⟨_, _, rfl, run_takeDeferred (show (We.drewN _).heap[w.heap.size + 3]? = _ from e1), ?_⟩⟩
    refine ⟨.tuple #[.slice none 0 0, .int .i64 q, .int .i64 10], by simp [results, Tryz.results24, go_sem], ?_⟩
    unfold LexRes
    rw [HL.out]
    exact ⟨below_putObj (below_drewN e3 _) (by omega) (by have := e3.size; simp; omega) _, rfl⟩

end Go.Proofs.YtngdilbfhpcfgaaGreatDoor
/- What the evaluator takes lex.Long to tell: by the plain function lexAll. -/
namespace Go.Proofs.YtngdilbfhpcfgaaGreatDoor
open Go.Proofs.Ev

noncomputable section
def tokV (t : Tok) : List V := [.i .i64 (Nat.add t.x.kind off), .s t.x.text.length (encL t.x.text), .s t.x.extra.length (encL t.x.extra), .i .i64 (Nat.add t.at_ off), .i .i64 (Nat.add t.end_ off)]
def toksV (l : List Tok) : List V := List.rec [] (fun t _ ih => tokV t ++ ih) l
def lexedE (h : T AObj) (nx : Nat) (r : List Tok × Option Nat) : R (V × T AObj × Nat) :=
  match r with
  | (_, some r) => some (.t [.l0, .i .i64 (Nat.add r off), .i .i64 (Nat.add 10 off)], h, nx)
  | ([], none) => none
  | (t :: ts, none) => some (.t [.l nx 0 5 (Nat.succ ts.length), .i .i64 (Nat.add 0 off), .i .i64 (Nat.add 0 off)], h.set nx (mkRow (toksV (t :: ts))), Nat.succ nx)
def longE (args : List V) (h : T AObj) (nx : Nat) : R (V × T AObj × Nat) :=
  match args with
  | [.i .i64 z, .s l n] => gd (Nat.ble l 100000) (gd (Nat.ble off z) (lexedE h nx (lexAll (Int.ofNat (Nat.sub z off)) (bytesU l n))))
  | _ => none
end
end Go.Proofs.YtngdilbfhpcfgaaGreatDoor
/- What the evaluator takes lex.Long to tell: by the plain function lexAll. -/
namespace Go.Proofs.YtngdilbfhpcfgaaGreatDoor
open Go.RowKit Go.Proofs.Ev

theorem tokV_ok (ρ : Rho) (t : Tok) : VRs ρ (tokV t) (tokCells t).toList := by
  refine .cons _ _ _ _ (VR.nat ρ _ _ _ rfl) (.cons _ _ _ _ (VR.str ρ _) (.cons _ _ _ _ (VR.str ρ _) (.cons _ _ _ _ (VR.nat ρ _ _ _ rfl) (.cons _ _ _ _ (VR.nat ρ _ _ _ rfl) .nil))))
theorem toksV_ok (ρ : Rho) : ∀ l : List Tok, VRs ρ (toksV l) (flat l)
  | [] => .nil
  | t :: l => by
    have : flat (t :: l) = (tokCells t).toList ++ flat l := rfl
    rw [this]
    exact (tokV_ok ρ t).append (toksV_ok ρ l)
theorem long_ext (w0 : Base) {args : List V} {h : T AObj} {nx : Nat} {r : V × T AObj × Nat} (he : longE args h nx = some r) : GoodJ Tryz.prog w0 (.call 24 args h nx) (.got r.1 r.2.1 r.2.2) := by
  intro ρ xs w I hv
  unfold longE at he
  split at he
  · rename_i z l n
    obtain ⟨h1, he⟩ := gd_some.1 he
    obtain ⟨h2, he⟩ := gd_some.1 he
    have h1 := ble_true.1 h1
    have h2 : off ≤ z := ble_true.1 h2
    obtain ⟨x, y, hx, hvx, hvy⟩ := hv.li2
    obtain rfl : xs = #[x, y] := Array.toList_inj.1 hx
    obtain ⟨s, rfl, rfl, rfl⟩ := hvy.str_inv
    have hz := hvx.int_inv
    have hz' : ((z : Int) - 9223372036854775808) = ((z - off : Nat) : Int) := by have : off = 9223372036854775808 := rfl; omega
    rw [hz'] at hz
    subst hz
    rw [bytesU_of rfl rfl] at he
    refine Calls.mono (long_any s ((z - off : Nat) : Int) h1 w) fun e w' hq => ?_
    obtain ⟨hb, hq⟩ := hq
    have he : lexedE h nx (lexAll ((z - off : Nat) : Int) s.data.toList) = some r := he
    rcases hL : lexAll ((z - off : Nat) : Int) s.data.toList with ⟨ts, _ | k⟩
    · rw [hL] at hq he
      obtain ⟨v, rfl, ho⟩ := hq
      cases ts with
      | nil => cases he
      | cons t ts =>
        injection he with he
        subst he
        obtain ⟨c, h3, h4⟩ := adopt_row I hb ho (toksV_ok ρ _)
        refine ⟨ρ.put nx c, _, _, _, rfl, le_put' I c, h3, .t _ _ (.cons _ _ _ _ ?_ (.cons _ _ _ _ (VR.nat _ _ _ _ rfl) (.cons _ _ _ _ (VR.nat _ _ _ _ rfl) .nil)))⟩
        exact h4
    · rw [hL] at hq he
      injection he with he
      subst he
      subst hq
      exact ⟨ρ, _, _, _, rfl, Rho.le_refl ρ, I.below hb, .t _ _ (.cons _ _ _ _ .l0 (.cons _ _ _ _ (VR.nat _ _ _ _ rfl) (.cons _ _ _ _ (VR.nat _ _ _ _ rfl) .nil)))⟩
  · cases he

end Go.Proofs.YtngdilbfhpcfgaaGreatDoor
