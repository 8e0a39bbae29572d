/-
  No cell of these rows narrows 'for every input' (looked for: loops, veiled, ifaces, maps, wideKeys, modest, calm, conditions, laid).
  DERIVED. THE GIVEN ROWS OF THIS SEAT. 8 by the template 'for every input the law returns true; each argument reads behind the call as it read before'; 0 by the template 'total and deterministic' (their statements: YtlllcepoglklcaaTotals.lean).
  GIVEN WITH THE SEED: the statements are not yours to turn. If you find one false, say at which input.
  Laid BY PROGRAM, IN A SANDBOX (cutbox-rows.mjs): the forced cells as the released guide's own fill.sh prints them over the translation e2d9335658c1353c… (all of the seat's roots in one cut). By AI agents, Wed Nov 11 2026. No macro, syntax, notation, axiom, sorry.
-/
import Derived.Test.YtlllcepoglklcaaChecked
import GoSem.Claim
import GoSem.ClaimJoined
import GoSem.ClaimMapViews
import Derived.JoinedTies
import Derived.KernelRfl
namespace Go.Proofs.Ytlllcepoglklcaa
/- THE CELL 'sum', in the pinned program and in every row, IS THE sha256 OF THE DUMP (.gsa) THAT YtlllcepoglklcaaProg.lean LOADS. Nothing in Lean hashes anything: it is a label: what it is worth is what the hold of that sum in a sandbox is worth. -/
noncomputable def Try.pinned : Pinned := { name := "ytlllcepoglklcaa", sum := "e2d9335658c1353c3686e793d09b5f45f2ca41b885cefc876469f08e92a481e7", checked := Try.checked }
namespace Rows
def none {H : Type} : Left H := { results := [], args := [] }

/-- 'roundhouselaw01.SpanHas': WHATEVER THE INPUT: true; the input reads as it did. -/
def spanHasSpec : ChangeSpec := { name := "spanHas", fn := fun _ => fun
  | [d1, d2] => { results := [.lit (.bool true)], args := [d1, d2] }
  | _ => none }
def spanHasRow : OpenClaim := { program := "ytlllcepoglklcaa", sum := "e2d9335658c1353c3686e793d09b5f45f2ca41b885cefc876469f08e92a481e7", func := "roundhouse/roundhouselaw01.SpanHas", spec := "spanHas", unfollowed := true, recurses := true, apart := false }
def SpanHasSaid : Prop := spanHasRow.holds Try.pinned (OpenSpec.ofChange spanHasSpec)

/-- ITS FALSE NEIGHBOUR: 'it returns false'. Refute it at one input. -/
def spanHasWrong : ChangeSpec := { name := "spanHas", fn := fun _ => fun
  | [d1, d2] => { results := [.lit (.bool false)], args := [d1, d2] }
  | _ => none }
def SpanHasWrongFalsely : Prop := spanHasRow.holds Try.pinned (OpenSpec.ofChange spanHasWrong)

/-- 'roundhouselaw01.SpanNext': WHATEVER THE INPUT: true; the input reads as it did. -/
def spanNextSpec : ChangeSpec := { name := "spanNext", fn := fun _ => fun
  | [d1, d2] => { results := [.lit (.bool true)], args := [d1, d2] }
  | _ => none }
def spanNextRow : OpenClaim := { program := "ytlllcepoglklcaa", sum := "e2d9335658c1353c3686e793d09b5f45f2ca41b885cefc876469f08e92a481e7", func := "roundhouse/roundhouselaw01.SpanNext", spec := "spanNext", unfollowed := true, recurses := true, apart := false }
def SpanNextSaid : Prop := spanNextRow.holds Try.pinned (OpenSpec.ofChange spanNextSpec)

/-- ITS FALSE NEIGHBOUR: 'it returns false'. Refute it at one input. -/
def spanNextWrong : ChangeSpec := { name := "spanNext", fn := fun _ => fun
  | [d1, d2] => { results := [.lit (.bool false)], args := [d1, d2] }
  | _ => none }
def SpanNextWrongFalsely : Prop := spanNextRow.holds Try.pinned (OpenSpec.ofChange spanNextWrong)

/-- 'roundhouselaw01.SpanBehind': WHATEVER THE INPUT: true; the input reads as it did. -/
def spanBehindSpec : ChangeSpec := { name := "spanBehind", fn := fun _ => fun
  | [d1, d2] => { results := [.lit (.bool true)], args := [d1, d2] }
  | _ => none }
def spanBehindRow : OpenClaim := { program := "ytlllcepoglklcaa", sum := "e2d9335658c1353c3686e793d09b5f45f2ca41b885cefc876469f08e92a481e7", func := "roundhouse/roundhouselaw01.SpanBehind", spec := "spanBehind", unfollowed := true, recurses := true, apart := false }
def SpanBehindSaid : Prop := spanBehindRow.holds Try.pinned (OpenSpec.ofChange spanBehindSpec)

/-- ITS FALSE NEIGHBOUR: 'it returns false'. Refute it at one input. -/
def spanBehindWrong : ChangeSpec := { name := "spanBehind", fn := fun _ => fun
  | [d1, d2] => { results := [.lit (.bool false)], args := [d1, d2] }
  | _ => none }
def SpanBehindWrongFalsely : Prop := spanBehindRow.holds Try.pinned (OpenSpec.ofChange spanBehindWrong)

/-- 'roundhouselaw01.SpanJoins': WHATEVER THE INPUT: true; the input reads as it did. -/
def spanJoinsSpec : ChangeSpec := { name := "spanJoins", fn := fun _ => fun
  | [d] => { results := [.lit (.bool true)], args := [d] }
  | _ => none }
def spanJoinsRow : OpenClaim := { program := "ytlllcepoglklcaa", sum := "e2d9335658c1353c3686e793d09b5f45f2ca41b885cefc876469f08e92a481e7", func := "roundhouse/roundhouselaw01.SpanJoins", spec := "spanJoins", unfollowed := true, recurses := true, apart := false }
def SpanJoinsSaid : Prop := spanJoinsRow.holds Try.pinned (OpenSpec.ofChange spanJoinsSpec)

/-- ITS FALSE NEIGHBOUR: 'it returns false'. Refute it at one input. -/
def spanJoinsWrong : ChangeSpec := { name := "spanJoins", fn := fun _ => fun
  | [d] => { results := [.lit (.bool false)], args := [d] }
  | _ => none }
def SpanJoinsWrongFalsely : Prop := spanJoinsRow.holds Try.pinned (OpenSpec.ofChange spanJoinsWrong)

/-- 'roundhouselaw01.SpanMeets': WHATEVER THE INPUT: true; the input reads as it did. -/
def spanMeetsSpec : ChangeSpec := { name := "spanMeets", fn := fun _ => fun
  | [d1, d2, d3] => { results := [.lit (.bool true)], args := [d1, d2, d3] }
  | _ => none }
def spanMeetsRow : OpenClaim := { program := "ytlllcepoglklcaa", sum := "e2d9335658c1353c3686e793d09b5f45f2ca41b885cefc876469f08e92a481e7", func := "roundhouse/roundhouselaw01.SpanMeets", spec := "spanMeets", unfollowed := true, recurses := true, apart := false }
def SpanMeetsSaid : Prop := spanMeetsRow.holds Try.pinned (OpenSpec.ofChange spanMeetsSpec)

/-- ITS FALSE NEIGHBOUR: 'it returns false'. Refute it at one input. -/
def spanMeetsWrong : ChangeSpec := { name := "spanMeets", fn := fun _ => fun
  | [d1, d2, d3] => { results := [.lit (.bool false)], args := [d1, d2, d3] }
  | _ => none }
def SpanMeetsWrongFalsely : Prop := spanMeetsRow.holds Try.pinned (OpenSpec.ofChange spanMeetsWrong)

/-- 'roundhouselaw01.SpanWithout': WHATEVER THE INPUT: true; the input reads as it did. -/
def spanWithoutSpec : ChangeSpec := { name := "spanWithout", fn := fun _ => fun
  | [d1, d2] => { results := [.lit (.bool true)], args := [d1, d2] }
  | _ => none }
def spanWithoutRow : OpenClaim := { program := "ytlllcepoglklcaa", sum := "e2d9335658c1353c3686e793d09b5f45f2ca41b885cefc876469f08e92a481e7", func := "roundhouse/roundhouselaw01.SpanWithout", spec := "spanWithout", unfollowed := true, recurses := true, apart := false }
def SpanWithoutSaid : Prop := spanWithoutRow.holds Try.pinned (OpenSpec.ofChange spanWithoutSpec)

/-- ITS FALSE NEIGHBOUR: 'it returns false'. Refute it at one input. -/
def spanWithoutWrong : ChangeSpec := { name := "spanWithout", fn := fun _ => fun
  | [d1, d2] => { results := [.lit (.bool false)], args := [d1, d2] }
  | _ => none }
def SpanWithoutWrongFalsely : Prop := spanWithoutRow.holds Try.pinned (OpenSpec.ofChange spanWithoutWrong)

/-- 'roundhouselaw01.SpanKeys': WHATEVER THE INPUT: true; the input reads as it did. -/
def spanKeysSpec : ChangeSpec := { name := "spanKeys", fn := fun _ => fun
  | [d1, d2, d3] => { results := [.lit (.bool true)], args := [d1, d2, d3] }
  | _ => none }
def spanKeysRow : OpenClaim := { program := "ytlllcepoglklcaa", sum := "e2d9335658c1353c3686e793d09b5f45f2ca41b885cefc876469f08e92a481e7", func := "roundhouse/roundhouselaw01.SpanKeys", spec := "spanKeys", unfollowed := true, recurses := true, apart := false }
def SpanKeysSaid : Prop := spanKeysRow.holds Try.pinned (OpenSpec.ofChange spanKeysSpec)

/-- ITS FALSE NEIGHBOUR: 'it returns false'. Refute it at one input. -/
def spanKeysWrong : ChangeSpec := { name := "spanKeys", fn := fun _ => fun
  | [d1, d2, d3] => { results := [.lit (.bool false)], args := [d1, d2, d3] }
  | _ => none }
def SpanKeysWrongFalsely : Prop := spanKeysRow.holds Try.pinned (OpenSpec.ofChange spanKeysWrong)

/-- 'roundhouselaw01.SpanOrder': WHATEVER THE INPUT: true; the input reads as it did. -/
def spanOrderSpec : ChangeSpec := { name := "spanOrder", fn := fun _ => fun
  | [d] => { results := [.lit (.bool true)], args := [d] }
  | _ => none }
def spanOrderRow : OpenClaim := { program := "ytlllcepoglklcaa", sum := "e2d9335658c1353c3686e793d09b5f45f2ca41b885cefc876469f08e92a481e7", func := "roundhouse/roundhouselaw01.SpanOrder", spec := "spanOrder", unfollowed := true, recurses := true, apart := false }
def SpanOrderSaid : Prop := spanOrderRow.holds Try.pinned (OpenSpec.ofChange spanOrderSpec)

/-- ITS FALSE NEIGHBOUR: 'it returns false'. Refute it at one input. -/
def spanOrderWrong : ChangeSpec := { name := "spanOrder", fn := fun _ => fun
  | [d] => { results := [.lit (.bool false)], args := [d] }
  | _ => none }
def SpanOrderWrongFalsely : Prop := spanOrderRow.holds Try.pinned (OpenSpec.ofChange spanOrderWrong)

/- THE SECOND FORM. 'bulk': how many values and letters a reading holds, each counted each time it is reached (what is shared counts as often as it is met; a slice's spare places count too). A statement '..UptoSaid' is the law's where the arguments, and the package variables that the reading takes, are together of bulk at most 1048576: NARROWER than '..Said'. Prove '..Said' where nothing that the law and all that it calls make is longer than what came in: it says more and counts as full. Else prove '..UptoSaid'. A law counts once. -/
mutual
def uptoBulk {H : Type} : DataW H → Nat
  | .lit (.string bytes) => bytes.length + 1
  | .lit _ => 1
  | .nil => 1
  | .ptr d => uptoBulk d + 1
  | .slice elems spare => uptoBulkAll elems + uptoBulkAll spare + 1
  | .agg parts => uptoBulkAll parts + 1
  | .iface _ d => uptoBulk d + 1
  | .map entries => uptoBulkEntries entries + 1
  | .held _ => 1
def uptoBulkAll {H : Type} : List (DataW H) → Nat
  | [] => 0
  | d :: r => uptoBulk d + uptoBulkAll r
def uptoBulkEntries {H : Type} : List (Lit × DataW H) → Nat
  | [] => 0
  | x :: r => uptoBulkEntry x + uptoBulkEntries r
def uptoBulkEntry {H : Type} : Lit × DataW H → Nat
  | (.string bytes, d) => bytes.length + uptoBulk d + 1
  | (_, d) => uptoBulk d + 1
 end
def uptoSmall : (H : Type) → List (DataW H) → Bool := fun _ ds => decide (uptoBulkAll ds ≤ 1048576)
def OpenSpec.upto (s : _root_.Go.ChangeSpec) : _root_.Go.OpenSpec := { _root_.Go.OpenSpec.ofChange s with cond := some uptoSmall }

/-- 'roundhouselaw01.SpanHas', WHERE WHAT IT READS IS OF BULK AT MOST 1048576: true; the input reads as it did. -/
def spanHasUptoRow : OpenClaim := { program := "ytlllcepoglklcaa", sum := "e2d9335658c1353c3686e793d09b5f45f2ca41b885cefc876469f08e92a481e7", func := "roundhouse/roundhouselaw01.SpanHas", spec := "spanHas", unfollowed := true, recurses := true, apart := false, narrowed := true }
def SpanHasUptoSaid : Prop := spanHasUptoRow.holds Try.pinned (OpenSpec.upto spanHasSpec)

/-- 'roundhouselaw01.SpanNext', WHERE WHAT IT READS IS OF BULK AT MOST 1048576: true; the input reads as it did. -/
def spanNextUptoRow : OpenClaim := { program := "ytlllcepoglklcaa", sum := "e2d9335658c1353c3686e793d09b5f45f2ca41b885cefc876469f08e92a481e7", func := "roundhouse/roundhouselaw01.SpanNext", spec := "spanNext", unfollowed := true, recurses := true, apart := false, narrowed := true }
def SpanNextUptoSaid : Prop := spanNextUptoRow.holds Try.pinned (OpenSpec.upto spanNextSpec)

/-- 'roundhouselaw01.SpanBehind', WHERE WHAT IT READS IS OF BULK AT MOST 1048576: true; the input reads as it did. -/
def spanBehindUptoRow : OpenClaim := { program := "ytlllcepoglklcaa", sum := "e2d9335658c1353c3686e793d09b5f45f2ca41b885cefc876469f08e92a481e7", func := "roundhouse/roundhouselaw01.SpanBehind", spec := "spanBehind", unfollowed := true, recurses := true, apart := false, narrowed := true }
def SpanBehindUptoSaid : Prop := spanBehindUptoRow.holds Try.pinned (OpenSpec.upto spanBehindSpec)

/-- 'roundhouselaw01.SpanJoins', WHERE WHAT IT READS IS OF BULK AT MOST 1048576: true; the input reads as it did. -/
def spanJoinsUptoRow : OpenClaim := { program := "ytlllcepoglklcaa", sum := "e2d9335658c1353c3686e793d09b5f45f2ca41b885cefc876469f08e92a481e7", func := "roundhouse/roundhouselaw01.SpanJoins", spec := "spanJoins", unfollowed := true, recurses := true, apart := false, narrowed := true }
def SpanJoinsUptoSaid : Prop := spanJoinsUptoRow.holds Try.pinned (OpenSpec.upto spanJoinsSpec)

/-- 'roundhouselaw01.SpanMeets', WHERE WHAT IT READS IS OF BULK AT MOST 1048576: true; the input reads as it did. -/
def spanMeetsUptoRow : OpenClaim := { program := "ytlllcepoglklcaa", sum := "e2d9335658c1353c3686e793d09b5f45f2ca41b885cefc876469f08e92a481e7", func := "roundhouse/roundhouselaw01.SpanMeets", spec := "spanMeets", unfollowed := true, recurses := true, apart := false, narrowed := true }
def SpanMeetsUptoSaid : Prop := spanMeetsUptoRow.holds Try.pinned (OpenSpec.upto spanMeetsSpec)

/-- 'roundhouselaw01.SpanWithout', WHERE WHAT IT READS IS OF BULK AT MOST 1048576: true; the input reads as it did. -/
def spanWithoutUptoRow : OpenClaim := { program := "ytlllcepoglklcaa", sum := "e2d9335658c1353c3686e793d09b5f45f2ca41b885cefc876469f08e92a481e7", func := "roundhouse/roundhouselaw01.SpanWithout", spec := "spanWithout", unfollowed := true, recurses := true, apart := false, narrowed := true }
def SpanWithoutUptoSaid : Prop := spanWithoutUptoRow.holds Try.pinned (OpenSpec.upto spanWithoutSpec)

/-- 'roundhouselaw01.SpanKeys', WHERE WHAT IT READS IS OF BULK AT MOST 1048576: true; the input reads as it did. -/
def spanKeysUptoRow : OpenClaim := { program := "ytlllcepoglklcaa", sum := "e2d9335658c1353c3686e793d09b5f45f2ca41b885cefc876469f08e92a481e7", func := "roundhouse/roundhouselaw01.SpanKeys", spec := "spanKeys", unfollowed := true, recurses := true, apart := false, narrowed := true }
def SpanKeysUptoSaid : Prop := spanKeysUptoRow.holds Try.pinned (OpenSpec.upto spanKeysSpec)

/-- 'roundhouselaw01.SpanOrder', WHERE WHAT IT READS IS OF BULK AT MOST 1048576: true; the input reads as it did. -/
def spanOrderUptoRow : OpenClaim := { program := "ytlllcepoglklcaa", sum := "e2d9335658c1353c3686e793d09b5f45f2ca41b885cefc876469f08e92a481e7", func := "roundhouse/roundhouselaw01.SpanOrder", spec := "spanOrder", unfollowed := true, recurses := true, apart := false, narrowed := true }
def SpanOrderUptoSaid : Prop := spanOrderUptoRow.holds Try.pinned (OpenSpec.upto spanOrderSpec)

end Rows
end Go.Proofs.Ytlllcepoglklcaa
