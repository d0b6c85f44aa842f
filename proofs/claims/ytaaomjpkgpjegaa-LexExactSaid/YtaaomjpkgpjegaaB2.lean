/- What a text's lexemes are: plain functions on lists of bytes. -/
import Derived.Test.YtaaomjpkgpjegaaB1
namespace Go.Proofs.Ytaaomjpkgpjegaa

def blankB (c : UInt8) : Bool := c == 32 || c == 9 || c == 13 || c == 10

/-- How many bytes of blanks and remarks a list begins with (true: we stand in a remark). -/
def skip : Bool → List UInt8 → Nat
  | _, [] => 0
  | false, c :: t => if blankB c then 1 + skip false t else if c = 35 then 1 + skip true t else 0
  | true, c :: t => if c = 10 then 1 + skip false t else 1 + skip true t

theorem skip_le : ∀ (t : List UInt8) (m : Bool), skip m t ≤ t.length := by
  intro t
  induction t with
  | nil => intro m; simp [skip]
  | cons c t ih =>
    intro m
    have h1 := ih true
    have h2 := ih false
    cases m <;> simp only [skip, List.length_cons]
    · split
      · omega
      · split <;> omega
    · split <;> omega

/-- A lexeme with its place and its end. -/
structure Tok where
  x : Lx
  at_ : Nat
  end_ : Nat

/-- Where the mark of a blank has ended just now; -1: nowhere. -/
def endOf (lang : Int) (x : Lx) (q : Nat) : Int := if x.kind = 7 ∧ x.text = [95, 58] ∧ lang = 1 then q else -1

/-- The lexemes from a place on (p: the place; e: where the mark of a blank has ended; the list: what is left), and the place of the fault, if there is one. -/
def toks (lang : Int) : Nat → Nat → Int → List UInt8 → List Tok × Option Nat
  | 0, _, _, _ => ([], none)
  | f + 1, p, e, r =>
    if r.length ≤ skip false r then ([], none)
    else
      if (nextLx lang (decide (e = ((p + skip false r : Nat) : Int))) (r.drop (skip false r))).len = 0 then ([], some (p + skip false r))
      else
        (⟨nextLx lang (decide (e = ((p + skip false r : Nat) : Int))) (r.drop (skip false r)), p + skip false r,
            p + skip false r + (nextLx lang (decide (e = ((p + skip false r : Nat) : Int))) (r.drop (skip false r))).len⟩ ::
          (toks lang f (p + skip false r + (nextLx lang (decide (e = ((p + skip false r : Nat) : Int))) (r.drop (skip false r))).len)
            (endOf lang (nextLx lang (decide (e = ((p + skip false r : Nat) : Int))) (r.drop (skip false r)))
              (p + skip false r + (nextLx lang (decide (e = ((p + skip false r : Nat) : Int))) (r.drop (skip false r))).len))
            ((r.drop (skip false r)).drop (nextLx lang (decide (e = ((p + skip false r : Nat) : Int))) (r.drop (skip false r))).len)).1,
          (toks lang f (p + skip false r + (nextLx lang (decide (e = ((p + skip false r : Nat) : Int))) (r.drop (skip false r))).len)
            (endOf lang (nextLx lang (decide (e = ((p + skip false r : Nat) : Int))) (r.drop (skip false r)))
              (p + skip false r + (nextLx lang (decide (e = ((p + skip false r : Nat) : Int))) (r.drop (skip false r))).len))
            ((r.drop (skip false r)).drop (nextLx lang (decide (e = ((p + skip false r : Nat) : Int))) (r.drop (skip false r))).len)).2)

/-- The lexemes of a text, and the place of the fault. -/
def lexAll (lang : Int) (l : List UInt8) : List Tok × Option Nat := toks lang (l.length + 1) 0 (-1) l

end Go.Proofs.Ytaaomjpkgpjegaa
