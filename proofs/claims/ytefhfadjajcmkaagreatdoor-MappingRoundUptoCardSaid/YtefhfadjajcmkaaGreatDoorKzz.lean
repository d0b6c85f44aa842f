/- The hiding word: a proposition that the walk does not look into. -/
import Derived.WalkKit
namespace Go.Proofs.YtefhfadjajcmkaaGreatDoor
structure Q_ (p : Prop) : Prop where
  o : p
theorem q_ {p : Prop} (h : p) : Q_ p := ⟨h⟩
end Go.Proofs.YtefhfadjajcmkaaGreatDoor
