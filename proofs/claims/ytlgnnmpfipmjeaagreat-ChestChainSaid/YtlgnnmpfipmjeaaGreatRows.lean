/-
  No cell of these rows narrows 'for every input' (looked for: loops, veiled, ifaces, maps, wideKeys, modest, calm, conditions, laid).
  DERIVED. THE GIVEN ROWS OF THIS SEAT. 4 by the template 'for every input the law returns true; each argument reads behind the call as it read before'; 0 by the template 'total and deterministic' (their statements: YtlgnnmpfipmjeaaGreatTotals.lean).
  GIVEN WITH THE SEED: the statements are not yours to turn. If you find one false, say at which input.
  Laid BY PROGRAM, IN A SANDBOX (cutbox-rows.mjs): the forced cells as the released guide's own fill.sh prints them over the translation ca086c6e42ea4d62… (all of the seat's roots in one cut). By AI agents, Wed Nov 11 2026. No macro, syntax, notation, axiom, sorry.
-/
import Derived.Test.YtlgnnmpfipmjeaaGreatChecked
import GoSem.Claim
import GoSem.ClaimJoined
import GoSem.ClaimMapViews
import Derived.JoinedTies
import Derived.KernelRfl
namespace Go.Proofs.YtlgnnmpfipmjeaaGreat
/- THE CELL 'sum', in the pinned program and in every row, IS THE sha256 OF THE DUMP (.gsa) THAT YtlgnnmpfipmjeaaGreatProg.lean LOADS. Nothing in Lean hashes anything: it is a label: what it is worth is what the hold of that sum in a sandbox is worth. -/
noncomputable def Tryz.pinned : Pinned := { name := "ytlgnnmpfipmjeaagreat", sum := "ca086c6e42ea4d621ef1568e7eaf8e39b5acbe25df52c2e631df3c6649c5877b", checked := Tryz.checked }
namespace Rows
def none {H : Type} : Left H := { results := [], args := [] }

/-- 'roundhouselaw16.ChestLocks': WHATEVER THE INPUT: true; the input reads as it did. -/
def chestLocksSpec : ChangeSpec := { name := "chestLocks", fn := fun _ => fun
  | [d1, d2, d3] => { results := [.lit (.bool true)], args := [d1, d2, d3] }
  | _ => none }
def chestLocksRow : OpenClaim := { program := "ytlgnnmpfipmjeaagreat", sum := "ca086c6e42ea4d621ef1568e7eaf8e39b5acbe25df52c2e631df3c6649c5877b", func := "roundhouse/roundhouselaw16.ChestLocks", spec := "chestLocks", unfollowed := true, recurses := true, apart := false }
def ChestLocksSaid : Prop := chestLocksRow.holds Tryz.pinned (OpenSpec.ofChange chestLocksSpec)

/-- ITS FALSE NEIGHBOUR: 'it returns false'. Refute it at one input. -/
def chestLocksWrong : ChangeSpec := { name := "chestLocks", fn := fun _ => fun
  | [d1, d2, d3] => { results := [.lit (.bool false)], args := [d1, d2, d3] }
  | _ => none }
def ChestLocksWrongFalsely : Prop := chestLocksRow.holds Tryz.pinned (OpenSpec.ofChange chestLocksWrong)

/-- 'roundhouselaw16.ChestFull': WHATEVER THE INPUT: true; the input reads as it did. -/
def chestFullSpec : ChangeSpec := { name := "chestFull", fn := fun _ => fun
  | [d1, d2] => { results := [.lit (.bool true)], args := [d1, d2] }
  | _ => none }
def chestFullRow : OpenClaim := { program := "ytlgnnmpfipmjeaagreat", sum := "ca086c6e42ea4d621ef1568e7eaf8e39b5acbe25df52c2e631df3c6649c5877b", func := "roundhouse/roundhouselaw16.ChestFull", spec := "chestFull", unfollowed := true, recurses := true, apart := false }
def ChestFullSaid : Prop := chestFullRow.holds Tryz.pinned (OpenSpec.ofChange chestFullSpec)

/-- ITS FALSE NEIGHBOUR: 'it returns false'. Refute it at one input. -/
def chestFullWrong : ChangeSpec := { name := "chestFull", fn := fun _ => fun
  | [d1, d2] => { results := [.lit (.bool false)], args := [d1, d2] }
  | _ => none }
def ChestFullWrongFalsely : Prop := chestFullRow.holds Tryz.pinned (OpenSpec.ofChange chestFullWrong)

/-- 'roundhouselaw16.ChestChain': WHATEVER THE INPUT: true; the input reads as it did. -/
def chestChainSpec : ChangeSpec := { name := "chestChain", fn := fun _ => fun
  | [d1, d2, d3] => { results := [.lit (.bool true)], args := [d1, d2, d3] }
  | _ => none }
def chestChainRow : OpenClaim := { program := "ytlgnnmpfipmjeaagreat", sum := "ca086c6e42ea4d621ef1568e7eaf8e39b5acbe25df52c2e631df3c6649c5877b", func := "roundhouse/roundhouselaw16.ChestChain", spec := "chestChain", unfollowed := true, recurses := true, apart := false }
def ChestChainSaid : Prop := chestChainRow.holds Tryz.pinned (OpenSpec.ofChange chestChainSpec)

/-- ITS FALSE NEIGHBOUR: 'it returns false'. Refute it at one input. -/
def chestChainWrong : ChangeSpec := { name := "chestChain", fn := fun _ => fun
  | [d1, d2, d3] => { results := [.lit (.bool false)], args := [d1, d2, d3] }
  | _ => none }
def ChestChainWrongFalsely : Prop := chestChainRow.holds Tryz.pinned (OpenSpec.ofChange chestChainWrong)

/-- 'roundhouselaw16.ChestNone': WHATEVER THE INPUT: true; the input reads as it did. -/
def chestNoneSpec : ChangeSpec := { name := "chestNone", fn := fun _ => fun
  | [d1, d2, d3] => { results := [.lit (.bool true)], args := [d1, d2, d3] }
  | _ => none }
def chestNoneRow : OpenClaim := { program := "ytlgnnmpfipmjeaagreat", sum := "ca086c6e42ea4d621ef1568e7eaf8e39b5acbe25df52c2e631df3c6649c5877b", func := "roundhouse/roundhouselaw16.ChestNone", spec := "chestNone", unfollowed := true, recurses := true, apart := false }
def ChestNoneSaid : Prop := chestNoneRow.holds Tryz.pinned (OpenSpec.ofChange chestNoneSpec)

/-- ITS FALSE NEIGHBOUR: 'it returns false'. Refute it at one input. -/
def chestNoneWrong : ChangeSpec := { name := "chestNone", fn := fun _ => fun
  | [d1, d2, d3] => { results := [.lit (.bool false)], args := [d1, d2, d3] }
  | _ => none }
def ChestNoneWrongFalsely : Prop := chestNoneRow.holds Tryz.pinned (OpenSpec.ofChange chestNoneWrong)

/- THE SECOND FORM. 'bulk': how many values and letters a reading holds, each counted each time it is reached (what is shared counts as often as it is met; a slice's spare places count too). A statement '..UptoSaid' is the law's where the arguments, and the package variables that the reading takes, are together of bulk at most 1048576: NARROWER than '..Said'. Prove '..Said' where nothing that the law and all that it calls make is longer than what came in: it says more and counts as full. Else prove '..UptoSaid'. A law counts once. -/
mutual
def uptoBulk {H : Type} : DataW H → Nat
  | .lit (.string bytes) => bytes.length + 1
  | .lit _ => 1
  | .nil => 1
  | .ptr d => uptoBulk d + 1
  | .slice elems spare => uptoBulkAll elems + uptoBulkAll spare + 1
  | .agg parts => uptoBulkAll parts + 1
  | .iface _ d => uptoBulk d + 1
  | .map entries => uptoBulkEntries entries + 1
  | .held _ => 1
def uptoBulkAll {H : Type} : List (DataW H) → Nat
  | [] => 0
  | d :: r => uptoBulk d + uptoBulkAll r
def uptoBulkEntries {H : Type} : List (Lit × DataW H) → Nat
  | [] => 0
  | x :: r => uptoBulkEntry x + uptoBulkEntries r
def uptoBulkEntry {H : Type} : Lit × DataW H → Nat
  | (.string bytes, d) => bytes.length + uptoBulk d + 1
  | (_, d) => uptoBulk d + 1
 end
def uptoSmall : (H : Type) → List (DataW H) → Bool := fun _ ds => decide (uptoBulkAll ds ≤ 1048576)
def OpenSpec.upto (s : _root_.Go.ChangeSpec) : _root_.Go.OpenSpec := { _root_.Go.OpenSpec.ofChange s with cond := some uptoSmall }

/-- 'roundhouselaw16.ChestLocks', WHERE WHAT IT READS IS OF BULK AT MOST 1048576: true; the input reads as it did. -/
def chestLocksUptoRow : OpenClaim := { program := "ytlgnnmpfipmjeaagreat", sum := "ca086c6e42ea4d621ef1568e7eaf8e39b5acbe25df52c2e631df3c6649c5877b", func := "roundhouse/roundhouselaw16.ChestLocks", spec := "chestLocks", unfollowed := true, recurses := true, apart := false, narrowed := true }
def ChestLocksUptoSaid : Prop := chestLocksUptoRow.holds Tryz.pinned (OpenSpec.upto chestLocksSpec)

/-- 'roundhouselaw16.ChestFull', WHERE WHAT IT READS IS OF BULK AT MOST 1048576: true; the input reads as it did. -/
def chestFullUptoRow : OpenClaim := { program := "ytlgnnmpfipmjeaagreat", sum := "ca086c6e42ea4d621ef1568e7eaf8e39b5acbe25df52c2e631df3c6649c5877b", func := "roundhouse/roundhouselaw16.ChestFull", spec := "chestFull", unfollowed := true, recurses := true, apart := false, narrowed := true }
def ChestFullUptoSaid : Prop := chestFullUptoRow.holds Tryz.pinned (OpenSpec.upto chestFullSpec)

/-- 'roundhouselaw16.ChestChain', WHERE WHAT IT READS IS OF BULK AT MOST 1048576: true; the input reads as it did. -/
def chestChainUptoRow : OpenClaim := { program := "ytlgnnmpfipmjeaagreat", sum := "ca086c6e42ea4d621ef1568e7eaf8e39b5acbe25df52c2e631df3c6649c5877b", func := "roundhouse/roundhouselaw16.ChestChain", spec := "chestChain", unfollowed := true, recurses := true, apart := false, narrowed := true }
def ChestChainUptoSaid : Prop := chestChainUptoRow.holds Tryz.pinned (OpenSpec.upto chestChainSpec)

/-- 'roundhouselaw16.ChestNone', WHERE WHAT IT READS IS OF BULK AT MOST 1048576: true; the input reads as it did. -/
def chestNoneUptoRow : OpenClaim := { program := "ytlgnnmpfipmjeaagreat", sum := "ca086c6e42ea4d621ef1568e7eaf8e39b5acbe25df52c2e631df3c6649c5877b", func := "roundhouse/roundhouselaw16.ChestNone", spec := "chestNone", unfollowed := true, recurses := true, apart := false, narrowed := true }
def ChestNoneUptoSaid : Prop := chestNoneUptoRow.holds Tryz.pinned (OpenSpec.upto chestNoneSpec)

end Rows
end Go.Proofs.YtlgnnmpfipmjeaaGreat
