/- The hiding word: a proposition that the walk does not look into. -/
import Derived.WalkKit
namespace Go.Proofs.YtefhfadjajcmkaaGreatDoor
structure Q_ (p : Prop) : Prop where
  o : p
theorem q_ {p : Prop} (h : p) : Q_ p := ⟨h⟩
theorem dF_ {p : Prop} [Decidable p] (h : ¬p) : decide p = false := decide_eq_false h
theorem dT_ {p : Prop} [Decidable p] (h : p) : decide p = true := decide_eq_true h
theorem iN_ {c : Prop} {h : Decidable c} (n : ¬c) {α : Sort _} {t e : α} : (ite c t e) = e := if_neg n
theorem iP_ {c : Prop} {h : Decidable c} (n : c) {α : Sort _} {t e : α} : (ite c t e) = t := if_pos n
theorem bN_ {α : Type _} [BEq α] [LawfulBEq α] {a b : α} : (a == b) = false ↔ a ≠ b := beq_eq_false_iff_ne
end Go.Proofs.YtefhfadjajcmkaaGreatDoor
