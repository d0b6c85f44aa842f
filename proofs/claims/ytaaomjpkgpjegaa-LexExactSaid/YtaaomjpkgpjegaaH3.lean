/- A row of the call's own that grows by what was just laid; a row of bytes as a string; the document's own function on quoted texts. -/
import Derived.Test.YtaaomjpkgpjegaaH2
import Derived.Test.YtaaomjpkgpjegaaA6
import Derived.OwnWalk
import Derived.Deep.AppendLies
import Derived.Lib.BufferRead
namespace Go.Proofs.Ytaaomjpkgpjegaa
open Go Go.RowKit

theorem grown_after {w w' : World} {o : Obj} {row : Option Nat} (h : (w.alloc o).grownBy w' row) : w.grownBy w' row :=
  ⟨h.os, h.tape, h.output, Nat.le_trans (by simp) h.size, fun k hk hne => (h.block k (by simp; omega) hne).trans (Below.heap_alloc w o k hk)⟩

/-- 'append(v, ..)': what is appended has just been laid into a block of its own. -/
theorem app_new {P : Program} {wr : World} {ops : Array Oper} {rest : List Oper} {o : Oper} {a : Act} {Q : Exit → Act → World → Prop} (hgd : o.guard = none) (s x : Operand) (t : TypeId)
    (ho : o.op = .call { callee := .builtin .append, args := #[s, x], argTypes := #[t, t] })
    (base : Nat) (e : TypeId) (z : Value) (size bytes : Nat) (ht : P.underlying t = some (.slice e)) (hinfo : (P.info? e).map (fun i => (i.zero, i.size, i.bytes)) = some (some z, size, bytes))
    (hzs : z.cells.size = size) (hsz : 0 < size)
    (v : Value) (n : Nat) (xs : List Value) (hs : a.eval s = v) (hown : wr.ownsRow base e size v n xs) (hbase : base ≤ wr.heap.size)
    (cs : Array Value) (m c : Nat) (hx : a.eval x = .slice (some ⟨wr.heap.size, 0, none⟩) m c) (hl : cs.size = m * size) (h1 : ∀ u ∈ cs.toList, u.oneCell' = true)
    (hm : n + m ≤ 100000000) (hb : bytes ≤ 1000)
    (h : ∀ v' w', w'.ownsRow base e size v' (n + m) (xs ++ cs.toList) → wr.grownBy w' v.ownBlock → wpList P ops Q rest (a.put o.dst v') w') : wpList P ops Q (o :: rest) a (wr.alloc (.cells cs e)) := by
  obtain ⟨i0, hi, hz0, hz1, hz2⟩ := info_parts hinfo
  refine wpList_append_own _ hgd s x t ho base e i0 z size bytes ht hi hz0 hz1 hz2 hzs hsz v n xs hs (hown.alloc _) ⟨wr.heap.size, 0, none⟩ m c cs.toList hx (by simpa using hl)
    (World.news_of_block (heap_alloc_new wr _)) h1 (by unfold maxLen; omega) (Nat.le_trans (Nat.mul_le_mul hm hb) (by decide)) (by simp; omega) (fun v' w' h1 h2 _ => h v' w' h1 (grown_after h2))

/-- 'string(b)' of a row of the call's own. -/
theorem conv_row {w : World} {base : Nat} {v : Value} {l : List UInt8} (h : w.ownsRow base 5 1 v l.length (Lib.byteCells l)) : (convert 48 9 v).run Try.prog w = .ok (.string (strB l)) w := by
  have he : Try.prog.underlying 5 = some (.int .u8) := by kernel_rfl
  have hd : Try.prog.underlying 9 = some .string := by kernel_rfl
  rcases h.2 with ⟨rfl, h0⟩ | ⟨g, cap, cur, rfl, _, hg, _, _, _, htake⟩
  · obtain rfl : l = [] := List.eq_nil_of_length_eq_zero h0
    exact Lib.run_convert_nil_bytes w 48 9 5 0 Try.underlying48 he hd
  · exact run_convert_bytes_back w 48 9 5 ⟨g, 0, none⟩ cap l Try.underlying48 he hd (Lib.bytes_of_row hg (by simpa using htake))

/-- What a quoted text says and where it ends; -1: it is refused. -/
def quoEnd (p : Nat) : Option (List UInt8 × Nat) → Value
  | some (t, n) => .tuple #[.string (strB t), .int .i64 ((p + n : Nat) : Int)]
  | none => .tuple #[.string ⟨#[]⟩, .int .i64 (-1)]

def QuoRel (s : ByteArray) (p B : Nat) (w : World) (v i : Value) (wr : World) : Prop :=
  ∃ (q : Nat) (acc : List UInt8), p + 1 ≤ q ∧ q ≤ s.size ∧ acc.length ≤ q ∧ i = .int .i64 q ∧ quoScan (q - p) acc (s.data.toList.drop q) = quoted (s.data.toList.drop p) ∧
    wr.ownsRow B 5 1 v acc.length (Lib.byteCells acc) ∧ Below B w wr

theorem quoRel_step {s : ByteArray} {p B q : Nat} {w wr w2 : World} {v v' : Value} {acc : List UInt8} {e : UInt8} {d : Nat} {x : Value} (hx : x = .int .u8 (e.toNat : Int))
    (hpq : p + 1 ≤ q) (hqs : q + d ≤ s.size) (hd : 1 ≤ d) (hacc : acc.length ≤ q) (hs : quoScan (q + d - p) (acc ++ [e]) (s.data.toList.drop (q + d)) = quoted (s.data.toList.drop p))
    (hown : wr.ownsRow B 5 1 v acc.length (Lib.byteCells acc)) (hbel : Below B w wr) (hB : B ≤ wr.heap.size)
    (hown' : w2.ownsRow B 5 1 v' (acc.length + 1) (Lib.byteCells acc ++ (#[x] : Array Value).toList)) (hg : wr.grownBy w2 v.ownBlock) {i : Value} (hi : i = .int .i64 ((q + d : Nat) : Int)) : QuoRel s p B w v' i w2 := by
  subst hx
  refine ⟨q + d, acc ++ [e], by omega, hqs, by simp; omega, hi, hs, ?_, hbel.grown hg hB (fun k hk => (hown.lt k hk).1)⟩
  rw [byteCells_snoc, List.length_append]
  exact hown'

end Go.Proofs.Ytaaomjpkgpjegaa
