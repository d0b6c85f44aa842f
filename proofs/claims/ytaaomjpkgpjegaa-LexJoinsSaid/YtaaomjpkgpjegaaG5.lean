/- Plain facts for the law LexJoins: a row of lexemes that is moved one by one; append as a step that a guard lets by. -/
import Derived.Test.YtaaomjpkgpjegaaG2
import Derived.Test.YtaaomjpkgpjegaaG4
import Derived.BigFrame
import Derived.OwnWalk
namespace Go.Proofs.Ytaaomjpkgpjegaa
open Go Go.RowKit

/-- The first k lexemes are moved, the others stand. -/
def movedTo (d k : Nat) (ts : List Tok) : List Tok := (ts.take k).map (shift d) ++ ts.drop k

theorem movedTo_len (d k : Nat) (ts : List Tok) : (movedTo d k ts).length = ts.length := by
  unfold movedTo
  rw [List.length_append, List.length_map, List.length_take, List.length_drop]
  omega
theorem movedTo_zero (d : Nat) (ts : List Tok) : movedTo d 0 ts = ts := rfl
theorem movedTo_all (d : Nat) (ts : List Tok) : movedTo d ts.length ts = ts.map (shift d) := by
  unfold movedTo
  rw [List.take_length, List.drop_length, List.append_nil]
theorem movedTo_at (d k : Nat) (ts : List Tok) (h : k < ts.length) : (movedTo d k ts)[k]'(by rw [movedTo_len]; exact h) = ts[k] := by
  have h1 : ((ts.take k).map (shift d)).length = k := by rw [List.length_map, List.length_take]; omega
  unfold movedTo
  rw [List.getElem_append_right (by omega)]
  simp only [h1, Nat.sub_self, List.getElem_drop, Nat.add_zero]
theorem movedTo_succ (d k : Nat) (ts : List Tok) (h : k < ts.length) : (movedTo d k ts).set k (shift d ts[k]) = movedTo d (k + 1) ts := by
  have h1 : ((ts.take k).map (shift d)).length = k := by rw [List.length_map, List.length_take]; omega
  unfold movedTo
  rw [List.set_append_right _ _ (by omega), h1, Nat.sub_self, List.drop_eq_getElem_cons h, List.set_cons_zero, List.take_succ_eq_append_getElem h, List.map_append, List.append_assoc]
  rfl

theorem flat_set (k a e : Nat) : ∀ (l : List Tok) (h : k < l.length), ((flat l).set (k * 5 + 3) (.int .i64 a)).set (k * 5 + 4) (.int .i64 e) = flat (l.set k ⟨l[k].x, a, e⟩) := by
  induction k with
  | zero =>
    intro l h
    match l, h with
    | t :: l, _ => rfl
  | succ k ih =>
    intro l h
    match l, h with
    | t :: l, h =>
      have h5 : (tokCells t).toList.length = 5 := by simp [tokCells, lxCells]
      have hf : ∀ q, flat (t :: q) = (tokCells t).toList ++ flat q := fun q => rfl
      have e1 : (k + 1) * 5 + 3 - 5 = k * 5 + 3 := by omega
      have e2 : (k + 1) * 5 + 4 - 5 = k * 5 + 4 := by omega
      rw [List.set_cons_succ, hf, hf, List.set_append_right _ _ (by omega), List.set_append_right _ _ (by omega), h5, e1, e2, ih l (by simpa using h)]
      rfl
theorem flat_moved {d k : Nat} {ts : List Tok} (h : k < ts.length) :
    ((flat (movedTo d k ts)).set (k * 5 + 3) (.int .i64 ((ts[k].at_ + d : Nat) : Int))).set (k * 5 + 4) (.int .i64 ((ts[k].end_ + d : Nat) : Int)) = flat (movedTo d (k + 1) ts) := by
  rw [flat_set k _ _ _ (by rw [movedTo_len]; exact h), movedTo_at d k ts h, ← movedTo_succ d k ts h]
  rfl
theorem flat_app (a b : List Tok) : flat (a ++ b) = flat a ++ flat b := by simp [flat]
theorem flat_one (l : List Tok) : ∀ u ∈ flat l, u.oneCell' = true := by
  intro u hu
  unfold flat at hu
  rw [List.mem_flatMap] at hu
  obtain ⟨t, _, ht⟩ := hu
  simp only [tokCells, lxCells, List.mem_cons, List.not_mem_nil, or_false] at ht
  rcases ht with rfl | rfl | rfl | rfl | rfl <;> rfl

theorem places_le {lang : Int} {l : List UInt8} : ∀ (ts : List Tok) (q : Nat), Places lang l q ts → ∀ t ∈ ts, t.at_ ≤ l.length ∧ t.end_ ≤ l.length := by
  intro ts
  induction ts with
  | nil => intro q _ t ht; cases ht
  | cons x ts ih =>
    intro q h t ht
    obtain ⟨_, h2, _, h4, _, _, h7⟩ := h
    rw [List.mem_cons] at ht
    rcases ht with rfl | ht
    · exact ⟨by omega, h4⟩
    · exact ih _ h7 t ht

theorem infoLexeme : (Try.prog.info? 36).map (fun i => (i.zero, i.size, i.bytes)) = some (some (.agg #[.int .i64 0, .string ⟨#[]⟩, .string ⟨#[]⟩, .int .i64 0, .int .i64 0]), 5, 56) := by kernel_rfl

/-- 'append(v, u...)' of two rows of lexemes, behind a guard that lets it by. -/
theorem append_two {w : World} {ops : Array Oper} {rest : List Oper} {o : Oper} {a : Act} {Q : Exit → Act → World → Prop} (hw : Region.wanted o (yielded ops a.tmps) = true) (s x : Operand)
    (ho : o.op = .call { callee := .builtin .append, args := #[s, x], argTypes := #[25, 25] })
    (base B2 : Nat) (v u : Value) (n m : Nat) (xs ys : List Value) (hs : a.eval s = v) (hx : a.eval x = u) (hown : w.ownsRow base 36 5 v n xs) (hown2 : w.ownsRow B2 36 5 u m ys)
    (h1 : ∀ y ∈ ys, y.oneCell' = true) (hm : n + m ≤ 100000000) (hbase : base ≤ w.heap.size)
    (h : ∀ v' w', w'.ownsRow base 36 5 v' (n + m) (xs ++ ys) → w.grownBy w' v.ownBlock → wpList Try.prog ops Q rest (a.put o.dst v') w') : wpList Try.prog ops Q (o :: rest) a w := by
  obtain ⟨i0, hi, hz0, hz1, hz2⟩ := info_parts infoLexeme
  refine BigFrame.wpList_want hw fun K hK => ?_
  rcases hown2.2 with ⟨rfl, rfl⟩ | ⟨g, cap, cur, rfl, _⟩
  · obtain rfl : ys = [] := List.eq_nil_of_length_eq_zero (by simpa using hown2.1)
    have hrun := run_append_owned_none (P := Try.prog) (w := w) base 25 o.type 36 i0 5 Try.underlying25 hi v n xs hown
    unfold Oper.wp
    simp [execOp, ho, resolve, invoke, builtin, hs, hx, hrun, Result.andThen]
    exact hK _ _ (h v w (by simpa using hown) ⟨rfl, rfl, rfl, Nat.le_refl _, fun _ _ _ => rfl⟩)
  · exact wp_append_own w s x 25 ho base 36 i0 _ 5 56 Try.underlying25 hi hz0 hz1 hz2 rfl (by decide) v n xs hs hown ⟨g, 0, none⟩ m cap ys hx hown2.1 (hown2.cells (g := g) rfl) h1
      (by unfold maxLen; omega) (by omega) hbase (fun v' w' h2 h3 _ => hK _ _ (h v' w' h2 h3))

theorem same_rows {w : World} {v u : Value} {B1 B2 n m : Nat} {ts : List Tok} (hn : n = ts.length) (hm : m = ts.length) (hl : ts.length ≤ 100000) (h1 : w.ownsRow B1 36 5 v n (flat ts)) (h2 : w.ownsRow B2 36 5 u m (flat ts)) :
    Calls Try.prog 10 #[v, u] w fun e w' => e = .returned (.bool true) ∧ ∃ k, w' = w.drewN k := by
  subst hn
  subst hm
  have form : ∀ {v : Value} {B : Nat}, w.ownsRow B 36 5 v ts.length (flat ts) → ∃ A c, v = .slice A ts.length c := by
    intro v B h
    rcases h.2 with ⟨rfl, h0⟩ | ⟨g, cap, cur, rfl, _⟩
    · exact ⟨none, 0, by rw [h0]⟩
    · exact ⟨_, cap, rfl⟩
  obtain ⟨A1, c1, rfl⟩ := form h1
  obtain ⟨A2, c2, rfl⟩ := form h2
  exact same_any A1 A2 c1 c2 ts w hl (Reads.of_own h1) (Reads.of_own h2)

theorem lex_some (s : ByteArray) (lang : Int) (hs : s.size ≤ 16384) (w : World) :
    Calls Try.prog 8 #[.int .i64 lang, .string s] w fun e w' => ∃ v r f, e = .returned (.tuple #[v, .int .i64 r, .int .i64 f]) ∧ Below w.heap.size w w' := by
  refine (lex_any s lang hs w).mono ?_
  intro e w' h
  unfold LexRes at h
  obtain ⟨hb, h⟩ := h
  split at h
  · exact ⟨_, _, _, h, hb⟩
  · obtain ⟨v, rfl, _⟩ := h
    exact ⟨_, _, _, rfl, hb⟩

end Go.Proofs.Ytaaomjpkgpjegaa
