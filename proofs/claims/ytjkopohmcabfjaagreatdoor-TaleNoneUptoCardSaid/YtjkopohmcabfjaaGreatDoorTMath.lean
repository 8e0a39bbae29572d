/-
  Plain facts for Tale: a text as a word, a number as a word.
-/
import Derived.Test.YtjkopohmcabfjaaGreatDoorBytes
import Derived.Shelf.Strconv.Itoa3
namespace Go.Proofs.YtjkopohmcabfjaaGreatDoor
set_option linter.unusedVariables false
/-- A byte of a text as it stands in a word. -/
def plainB (b : UInt8) : Bool := decide (32 < b.toNat) && decide (b.toNat < 127) && (b.toNat != 39) && (b.toNat != 126)
def threeB (b : UInt8) : List UInt8 := [48 + b / 100, 48 + b / 10 % 10, 48 + b % 10]
def quoteB (b : UInt8) : List UInt8 := if plainB b = true then [b] else 126 :: threeB b
/-- A text as a word. -/
def quoteL (l : List UInt8) : List UInt8 := 39 :: l.flatMap quoteB
theorem quoteB_len (b : UInt8) : (quoteB b).length ≤ 4 := by unfold quoteB; split <;> simp [threeB]
theorem quoteL_len (l : List UInt8) : (quoteL l).length ≤ 4 * l.length + 1 := by
  unfold quoteL
  induction l with
  | nil => simp
  | cons b l ih =>
    simp only [List.flatMap_cons, List.length_cons, List.length_append] at ih ⊢
    have := quoteB_len b
    omega
theorem quoteL_snoc (l : List UInt8) (b : UInt8) : quoteL (l ++ [b]) = quoteL l ++ quoteB b := by simp [quoteL]
/-- The last three digits of a thousand and a byte. -/
theorem three_itoa (b : UInt8) : (Lib.itoa (1000 + (b.toNat : Int))).drop 1 = threeB b := by
  have key : ∀ x : BitVec 8, (Lib.itoa (1000 + ((⟨x⟩ : UInt8).toNat : Int))).drop 1 = threeB ⟨x⟩ := by decide +kernel
  exact key b.toBitVec
theorem itoa_thousand_len (b : UInt8) : (Lib.itoa (1000 + (b.toNat : Int))).length = 4 := by
  have key : ∀ x : BitVec 8, (Lib.itoa (1000 + ((⟨x⟩ : UInt8).toNat : Int))).length = 4 := by decide +kernel
  exact key b.toBitVec
end Go.Proofs.YtjkopohmcabfjaaGreatDoor
