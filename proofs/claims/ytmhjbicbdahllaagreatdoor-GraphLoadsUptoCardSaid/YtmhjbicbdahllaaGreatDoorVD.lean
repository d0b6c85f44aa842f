/- The program's decimals: what is told of digits (plain). -/
import Derived.Test.YtmhjbicbdahllaaGreatDoorVC
namespace Go.Proofs.YtmhjbicbdahllaaGreatDoor
open Go Go.RowKit

/-- The digits, with noughts ahead where they are too few. -/
def padT (d : List UInt8) (sc : Nat) : List UInt8 := if d.length ≤ sc then List.replicate (sc + 1 - d.length) 48 ++ d else d
def wholeT (d : List UInt8) (sc : Nat) : List UInt8 := Lib.trimLeftS ((padT d sc).take ((padT d sc).length - sc)) [48]
def partT (d : List UInt8) (sc : Nat) : List UInt8 := Lib.trimRightS ((padT d sc).drop ((padT d sc).length - sc)) [48]
/-- What is told of a sign, digits, and how many of them stand behind the point. -/
def toldT (neg : Bool) (d : List UInt8) (sc : Nat) : List UInt8 × Int :=
  if 40 < (wholeT d sc).length ∨ 20 < (partT d sc).length then ([], 2)
  else if wholeT d sc = [] ∧ partT d sc = [] then ([48, 46, 48], 0)
  else ((if neg = true then [45] else []) ++ (if wholeT d sc = [] then [48] else wholeT d sc) ++ [46] ++ (if partT d sc = [] then [48] else partT d sc), 0)
end Go.Proofs.YtmhjbicbdahllaaGreatDoor
