/-
  The kinds of acts: words and parts; a line as one plain function.
-/
import Derived.Test.YtjkopohmcabfjaaGreatDoorTMath
namespace Go.Proofs.YtjkopohmcabfjaaGreatDoor
set_option linter.unusedVariables false
/-- The words, and which parts each kind has. -/
def kindsT : List (List UInt8) := [[], [115, 101, 110, 100, 32, 97], [100, 114, 111, 112, 32, 97], [116, 119, 105, 110, 32, 97], [115, 112, 111, 105, 108, 32, 97, 98, 110], [116, 105, 99, 107, 32, 97], [99, 114, 97, 115, 104, 32, 97], [115, 116, 97, 114, 116, 32, 97, 98, 110], [98, 101, 103, 105, 110, 32, 97], [103, 101, 116, 32, 97, 107], [108, 105, 115, 116, 32, 97, 107, 118], [112, 117, 116, 32, 97, 107, 118], [99, 108, 101, 97, 114, 32, 97, 107], [119, 105, 112, 101, 32, 97, 107, 118], [101, 110, 100, 32, 97], [100, 114, 97, 105, 110, 32, 110], [102, 117, 115, 101, 32, 97, 110]]
def wordT : List (List UInt8) := [[], [115, 101, 110, 100], [100, 114, 111, 112], [116, 119, 105, 110], [115, 112, 111, 105, 108], [116, 105, 99, 107], [99, 114, 97, 115, 104], [115, 116, 97, 114, 116], [98, 101, 103, 105, 110], [103, 101, 116], [108, 105, 115, 116], [112, 117, 116], [99, 108, 101, 97, 114], [119, 105, 112, 101], [101, 110, 100], [100, 114, 97, 105, 110], [102, 117, 115, 101]]
def partT : List (List UInt8) := [[], [97], [97], [97], [97, 98, 110], [97], [97], [97, 98, 110], [97], [97, 107], [97, 107, 118], [97, 107, 118], [97, 107], [97, 107, 118], [97], [110], [97, 110]]
/-- An act: four numbers, two texts. -/
structure AV where
  kind : Int
  a : Int
  b : Int
  n : Int
  key : List UInt8
  val : List UInt8
deriving DecidableEq
def AV.zero : AV := ⟨0, 0, 0, 0, [], []⟩
/-- A part of an act as a word. -/
def encP (x : AV) (p : UInt8) : List UInt8 :=
  if p = 97 then Lib.itoa x.a else if p = 98 then Lib.itoa x.b else if p = 110 then Lib.itoa x.n else if p = 107 then quoteL x.key else quoteL x.val
/-- An act without a part. -/
def lessP (x : AV) (p : UInt8) : AV :=
  if p = 97 then { x with a := 0 } else if p = 98 then { x with b := 0 } else if p = 110 then { x with n := 0 } else if p = 107 then { x with key := [] } else { x with val := [] }
/-- Words with blanks between. -/
def joinW : List (List UInt8) → List UInt8
  | [] => []
  | [w] => w
  | w :: r => w ++ 32 :: joinW r
/-- The line of an act: the words of its kind and parts. -/
def wordsF (x : AV) (k : Nat) : List (List UInt8) := wordT.getD k [] :: (partT.getD k []).map (encP x)
def restF (x : AV) (k : Nat) : AV := (partT.getD k []).foldl lessP { x with kind := 0 }
def lineF (x : AV) : Option (List UInt8) := if 1 ≤ x.kind ∧ x.kind ≤ 16 then (if restF x x.kind.toNat = AV.zero then some (joinW (wordsF x x.kind.toNat)) else none) else none
end Go.Proofs.YtjkopohmcabfjaaGreatDoor
