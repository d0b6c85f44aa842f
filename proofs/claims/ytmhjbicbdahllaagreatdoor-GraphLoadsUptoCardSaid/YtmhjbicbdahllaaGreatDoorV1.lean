/- How great a row of values is: Size. -/
import Derived.Test.YtmhjbicbdahllaaGreatDoorV0
import Derived.Test.YtmhjbicbdahllaaGreatDoorProg
import Derived.WalkKit
import Derived.WalkSpells
import Derived.Lib.Hide
import Derived.Deep.QuietTactic
import Derived.BigQuiet
import Derived.IntWalk
import Derived.Outline
namespace Go.Proofs.YtmhjbicbdahllaaGreatDoor
open Go Go.RowKit

theorem name_itV {α : Type} (a : α) : ∃ x, Hid (a = x) := ⟨a, Lib.hid rfl⟩
theorem take_oneMore {α : Type} {l : List α} {k : Nat} {y : α} (h : l[k]? = some y) : l.take (k + 1) = l.take k ++ [y] := by
  rw [List.take_add_one, h]; rfl
/-- A row of values at a place, as the walk asks for its cells. -/
theorem LRd.cellsAt {w : World} {F : Nat → Prop} {l : List Val} {A : Option Addr} {n : Nat} (h : LRd w F l A n) {i : Nat} {x : Val} (hx : l[i]? = some x) :
    ∃ ad s, A = some ad ∧ F ad.block ∧ (∃ B cap, s = .slice B x.list.length cap ∧ x.list.length ≤ cap ∧ LRd w F x.list B x.list.length) ∧ VRd w F x (.agg (cellsV x s)) ∧
      w.cell? (ad.add (i * 6)) = some (.int .i64 x.kind) ∧ w.cell? ⟨(ad.add (i * 6)).block, (ad.add (i * 6)).off + 1, none⟩ = some (.bool x.truth) ∧ w.cell? ⟨(ad.add (i * 6)).block, (ad.add (i * 6)).off + 2, none⟩ = some (.int .i64 x.num) ∧
      w.cell? ⟨(ad.add (i * 6)).block, (ad.add (i * 6)).off + 3, none⟩ = some (.string x.text) ∧ w.cell? ⟨(ad.add (i * 6)).block, (ad.add (i * 6)).off + 4, none⟩ = some (.string x.extra) ∧ w.cell? ⟨(ad.add (i * 6)).block, (ad.add (i * 6)).off + 5, none⟩ = some s := by
  obtain ⟨ad, s, e, hF, hs, hc, hv⟩ := h.at_ hx
  have c0 := hc 0 (by omega)
  have c1 := hc 1 (by omega)
  have c2 := hc 2 (by omega)
  have c3 := hc 3 (by omega)
  have c4 := hc 4 (by omega)
  have c5 := hc 5 (by omega)
  rw [← add_of_add] at c1 c2 c3 c4 c5
  exact ⟨ad, s, e, hF, hs, hv, c0, c1, c2, c3, c4, c5⟩

theorem len_le_size (l : List Val) : l.length ≤ sizeL l := by
  induction l with
  | nil => simp
  | cons v r ih =>
    simp only [sizeL, List.length_cons]
    have : 1 ≤ sizeV v := by cases v; simp only [sizeV]; omega
    omega
/-- A number is told; the world but for draws as it was. -/
def ToldN (n : Nat) (w : World) (e : Ending) (w' : World) : Prop := e = .returned (.int .i64 (n : Int)) ∧ ∃ m, w' = w.drewN m

end Go.Proofs.YtmhjbicbdahllaaGreatDoor
