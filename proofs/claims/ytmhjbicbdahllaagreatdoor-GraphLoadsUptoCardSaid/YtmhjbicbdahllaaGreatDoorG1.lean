/- Graphs as plain data, and how they lie in memory. -/
import Derived.Test.YtmhjbicbdahllaaGreatDoorG0
import Derived.Test.YtmhjbicbdahllaaGreatDoorV3
namespace Go.Proofs.YtmhjbicbdahllaaGreatDoor
open Go Go.RowKit

structure PairD where
  key : ByteArray
  v : Val
structure NodeD where
  id : Int
  labels : List ByteArray
  props : List PairD
structure EdgeD where
  id : Int
  src : Int
  dst : Int
  type : ByteArray
  props : List PairD
structure GraphD where
  nodes : List NodeD
  edges : List EdgeD

/-- A key and its value: seven cells. -/
def cellsP (p : PairD) (s : Value) : Array Value := #[.string p.key, .int .i64 p.v.kind, .bool p.v.truth, .int .i64 p.v.num, .string p.v.text, .string p.v.extra, s]
def PaR : Lies PairD := fun w F p c => ∃ s, c = cellsP p s ∧ VRd w F p.v (.agg (cellsV p.v s))
theorem PaR.good : PaR.Good := ⟨fun ⟨s, e, h⟩ hk => ⟨s, e, h.keep hk⟩, fun ⟨s, e, h⟩ hF => ⟨s, e, h.mono hF⟩⟩
/-- A node: three cells. -/
def NoR : Lies NodeD := fun w F n c => ∃ L P, c = #[.int .i64 n.id, L, P] ∧ SlR 1 TxR w F n.labels L ∧ SlR 7 PaR w F n.props P
theorem NoR.good : NoR.Good := ⟨fun ⟨L, P, e, h1, h2⟩ hk => ⟨L, P, e, h1.keep TxR.good hk, h2.keep PaR.good hk⟩, fun ⟨L, P, e, h1, h2⟩ hF => ⟨L, P, e, h1.mono TxR.good hF, h2.mono PaR.good hF⟩⟩
/-- An edge: five cells. -/
def EdR : Lies EdgeD := fun w F e c => ∃ P, c = #[.int .i64 e.id, .int .i64 e.src, .int .i64 e.dst, .string e.type, P] ∧ SlR 7 PaR w F e.props P
theorem EdR.good : EdR.Good := ⟨fun ⟨P, e, h⟩ hk => ⟨P, e, h.keep PaR.good hk⟩, fun ⟨P, e, h⟩ hF => ⟨P, e, h.mono PaR.good hF⟩⟩
/-- A graph. -/
def GrR (w : World) (F : Nat → Prop) (g : GraphD) (u : Value) : Prop := ∃ N E, u = .agg #[N, E] ∧ SlR 3 NoR w F g.nodes N ∧ SlR 5 EdR w F g.edges E
section
variable {w w' : World} {F F' : Nat → Prop} {g : GraphD} {u : Value}
theorem GrR.keep (h : GrR w F g u) (hk : ∀ p : Addr, F p.block → w'.cell? p = w.cell? p) : GrR w' F g u := by
  obtain ⟨N, E, e, h1, h2⟩ := h
  exact ⟨N, E, e, h1.keep NoR.good hk, h2.keep EdR.good hk⟩
theorem GrR.mono (h : GrR w F g u) (hF : ∀ g, F g → F' g) : GrR w F' g u := by
  obtain ⟨N, E, e, h1, h2⟩ := h
  exact ⟨N, E, e, h1.mono NoR.good hF, h2.mono EdR.good hF⟩
theorem GrR.under {B : Nat} (h : GrR w F g u) (hb : Below B w w') (hF : ∀ g, F g → g < B) : GrR w' F g u := h.keep fun _ hp => hb.cell (hF _ hp)
end
end Go.Proofs.YtmhjbicbdahllaaGreatDoor
