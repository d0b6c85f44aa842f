/- Walks of the document's own function on one lexeme, case by case. -/
import Derived.Test.YtaaomjpkgpjegaaH4
import Derived.Test.YtaaomjpkgpjegaaA8
import Derived.StillTailTactics
namespace Go.Proofs.Ytaaomjpkgpjegaa
open Go Go.RowKit

/-- What 'one' hands back where x is the lexeme at the place p (a length of 0: there is none). -/
def OneIs (x : Lx) (p : Nat) (v : Value) : Prop :=
  (x.len ≠ 0 ∧ v = .agg (lxCells x p ((p + x.len : Nat) : Int))) ∨
  (x.len = 0 ∧ ∃ (k : Int) (T : ByteArray) (z : Int), v = .agg #[.int .i64 k, .string T, .string ⟨#[]⟩, .int .i64 p, .int .i64 z] ∧ z ≤ (p : Int))

theorem oneIs_some {k p q : Nat} {t e : List UInt8} {x : Lx} {T E : ByteArray} {n : Nat} (h : x = ⟨k, t, e, n⟩) (h0 : 0 < n) (ht : strB t = T) (he : strB e = E) (hq : p + n = q) :
    OneIs x p (.agg #[.int .i64 k, .string T, .string E, .int .i64 p, .int .i64 q]) := by
  subst h; subst ht; subst he; subst hq
  exact .inl ⟨by simp; omega, rfl⟩

section
variable {s : ByteArray} (hs : s.size ≤ 100000)
include hs
theorem rword_to {a q : Nat} {z y : Int} (hz : z = a) (ha : a ≤ s.size) (hq : a + wordLen (s.data.toList.drop a) = q) (hy : y = q) (w : World) :
    Calls Try.prog 23 #[.string s, .int .i64 z] w fun e w' => e = .returned (.int .i64 y) ∧ w' = w := by
  subst hz; subst hy; subst hq
  exact (rword_any s a hs ha w).mono fun _ _ ⟨h1, h2⟩ => ⟨h1, h2.symm⟩
theorem rdigits_to {a q : Nat} {z y : Int} (hz : z = a) (ha : a ≤ s.size) (hq : a + digLen (s.data.toList.drop a) = q) (hy : y = q) (w : World) :
    Calls Try.prog 42 #[.string s, .int .i64 z] w fun e w' => e = .returned (.int .i64 y) ∧ w' = w := by
  subst hz; subst hy; subst hq
  exact (rdigits_any s a hs ha w).mono fun _ _ ⟨h1, h2⟩ => ⟨h1, h2.symm⟩
theorem riri_to {a q : Nat} {z y : Int} (hz : z = a) (ha : a < s.size) (hq : a + iriLen (s.data.toList.drop a) = q) (hy : y = q) (w : World) :
    Calls Try.prog 44 #[.string s, .int .i64 z] w fun e w' => e = .returned (.int .i64 y) ∧ w' = w := by
  subst hz; subst hy; subst hq
  exact (riri_any s a hs ha w).mono fun _ _ ⟨h1, h2⟩ => ⟨h1, h2.symm⟩
end

theorem wordEnd_le {s : ByteArray} {a : Nat} (h : a ≤ s.size) : a + wordLen (s.data.toList.drop a) ≤ s.size := by
  have := wordLen_le (s.data.toList.drop a)
  rw [drop_len] at this
  omega
theorem digEnd_le {s : ByteArray} {a : Nat} (h : a ≤ s.size) : a + digLen (s.data.toList.drop a) ≤ s.size := by
  have := digLen_le (s.data.toList.drop a)
  rw [drop_len] at this
  omega

theorem pk_first {s : ByteArray} {p : Nat} (h : p < s.size) : pk (s.data.toList.drop p) 0 = (s[p].toNat : Int) := by
  rw [← pk_here (Nat.le_refl p) h, Nat.sub_self]
theorem pos_word' {r : List UInt8} (h : letB (pk r 0) = true) : 0 < wordLen r := by
  unfold wordLen
  rw [if_pos h]
  omega
theorem pk_past {s : ByteArray} {p q : Nat} (hp : p ≤ q) (h : s.size ≤ q) : pk (s.data.toList.drop p) (q - p) = 0 := by
  rw [pk_drop]; exact pk_ge (by omega)
theorem let_not {c : Int} (h : letB c = true) : c ≠ 63 ∧ c ≠ 60 ∧ c ≠ 58 ∧ c ≠ 34 ∧ digB c = false := by
  unfold letB at h
  unfold digB
  simp at h ⊢
  omega
theorem dig_not {c : Int} (h : digB c = true) : c ≠ 63 ∧ c ≠ 60 ∧ c ≠ 58 ∧ c ≠ 34 ∧ letB c = false := by
  unfold digB at h
  unfold letB
  simp at h ⊢
  omega
theorem below_new2 (w : World) (a b : Obj) : Below w.heap.size w ((w.alloc a).alloc b) := ((Below.refl _ _).alloc (Nat.le_refl _) _).alloc (by simp) _

end Go.Proofs.Ytaaomjpkgpjegaa
