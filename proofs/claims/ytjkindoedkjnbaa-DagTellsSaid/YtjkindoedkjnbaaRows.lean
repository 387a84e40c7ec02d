/-
  No cell of these rows narrows 'for every input' (looked for: loops, veiled, ifaces, maps, wideKeys, modest, calm, conditions, laid).
  DERIVED. THE GIVEN ROWS OF THIS SEAT. 7 by the template 'for every input the law returns true; each argument reads behind the call as it read before'; 0 by the template 'total and deterministic' (their statements: YtjkindoedkjnbaaTotals.lean).
  GIVEN WITH THE SEED: the statements are not yours to turn. If you find one false, say at which input.
  Laid BY PROGRAM, IN A SANDBOX (cutbox-rows.mjs): the forced cells as the released guide's own fill.sh prints them over the translation 1f09008cb6b8d113… (all of the seat's roots in one cut). By AI agents, Wed Nov 11 2026. No macro, syntax, notation, axiom, sorry.
-/
import Derived.Test.YtjkindoedkjnbaaChecked
import GoSem.Claim
import GoSem.ClaimJoined
import GoSem.ClaimMapViews
import Derived.JoinedTies
import Derived.KernelRfl
namespace Go.Proofs.Ytjkindoedkjnbaa
/- THE CELL 'sum', in the pinned program and in every row, IS THE sha256 OF THE DUMP (.gsa) THAT YtjkindoedkjnbaaProg.lean LOADS. Nothing in Lean hashes anything: it is a label: what it is worth is what the hold of that sum in a sandbox is worth. -/
noncomputable def Try.pinned : Pinned := { name := "ytjkindoedkjnbaa", sum := "1f09008cb6b8d1136ef89f19776df9c4c5ef6336f8f75d0acbd4b94d7e516cf6", checked := Try.checked }
namespace Rows
def none {H : Type} : Left H := { results := [], args := [] }

/-- 'trefoillaw04.DagChecks': WHATEVER THE INPUT: true; the input reads as it did. -/
def dagChecksSpec : ChangeSpec := { name := "dagChecks", fn := fun _ => fun
  | [d1, d2] => { results := [.lit (.bool true)], args := [d1, d2] }
  | _ => none }
def dagChecksRow : OpenClaim := { program := "ytjkindoedkjnbaa", sum := "1f09008cb6b8d1136ef89f19776df9c4c5ef6336f8f75d0acbd4b94d7e516cf6", func := "trefoil/trefoillaw04.DagChecks", spec := "dagChecks", unfollowed := true, recurses := true, apart := false }
def DagChecksSaid : Prop := dagChecksRow.holds Try.pinned (OpenSpec.ofChange dagChecksSpec)

/-- ITS FALSE NEIGHBOUR: 'it returns false'. Refute it at one input. -/
def dagChecksWrong : ChangeSpec := { name := "dagChecks", fn := fun _ => fun
  | [d1, d2] => { results := [.lit (.bool false)], args := [d1, d2] }
  | _ => none }
def DagChecksWrongFalsely : Prop := dagChecksRow.holds Try.pinned (OpenSpec.ofChange dagChecksWrong)

/-- 'trefoillaw04.DagTells': WHATEVER THE INPUT: true; the input reads as it did. -/
def dagTellsSpec : ChangeSpec := { name := "dagTells", fn := fun _ => fun
  | [d1, d2, d3] => { results := [.lit (.bool true)], args := [d1, d2, d3] }
  | _ => none }
def dagTellsRow : OpenClaim := { program := "ytjkindoedkjnbaa", sum := "1f09008cb6b8d1136ef89f19776df9c4c5ef6336f8f75d0acbd4b94d7e516cf6", func := "trefoil/trefoillaw04.DagTells", spec := "dagTells", unfollowed := true, recurses := true, apart := false }
def DagTellsSaid : Prop := dagTellsRow.holds Try.pinned (OpenSpec.ofChange dagTellsSpec)

/-- ITS FALSE NEIGHBOUR: 'it returns false'. Refute it at one input. -/
def dagTellsWrong : ChangeSpec := { name := "dagTells", fn := fun _ => fun
  | [d1, d2, d3] => { results := [.lit (.bool false)], args := [d1, d2, d3] }
  | _ => none }
def DagTellsWrongFalsely : Prop := dagTellsRow.holds Try.pinned (OpenSpec.ofChange dagTellsWrong)

/-- 'trefoillaw04.DagOrder': WHATEVER THE INPUT: true; the input reads as it did. -/
def dagOrderSpec : ChangeSpec := { name := "dagOrder", fn := fun _ => fun
  | [d] => { results := [.lit (.bool true)], args := [d] }
  | _ => none }
def dagOrderRow : OpenClaim := { program := "ytjkindoedkjnbaa", sum := "1f09008cb6b8d1136ef89f19776df9c4c5ef6336f8f75d0acbd4b94d7e516cf6", func := "trefoil/trefoillaw04.DagOrder", spec := "dagOrder", unfollowed := true, recurses := true, apart := false }
def DagOrderSaid : Prop := dagOrderRow.holds Try.pinned (OpenSpec.ofChange dagOrderSpec)

/-- ITS FALSE NEIGHBOUR: 'it returns false'. Refute it at one input. -/
def dagOrderWrong : ChangeSpec := { name := "dagOrder", fn := fun _ => fun
  | [d] => { results := [.lit (.bool false)], args := [d] }
  | _ => none }
def DagOrderWrongFalsely : Prop := dagOrderRow.holds Try.pinned (OpenSpec.ofChange dagOrderWrong)

/-- 'trefoillaw04.DagLong': WHATEVER THE INPUT: true; the input reads as it did. -/
def dagLongSpec : ChangeSpec := { name := "dagLong", fn := fun _ => fun
  | [d1, d2] => { results := [.lit (.bool true)], args := [d1, d2] }
  | _ => none }
def dagLongRow : OpenClaim := { program := "ytjkindoedkjnbaa", sum := "1f09008cb6b8d1136ef89f19776df9c4c5ef6336f8f75d0acbd4b94d7e516cf6", func := "trefoil/trefoillaw04.DagLong", spec := "dagLong", unfollowed := true, recurses := true, apart := false }
def DagLongSaid : Prop := dagLongRow.holds Try.pinned (OpenSpec.ofChange dagLongSpec)

/-- ITS FALSE NEIGHBOUR: 'it returns false'. Refute it at one input. -/
def dagLongWrong : ChangeSpec := { name := "dagLong", fn := fun _ => fun
  | [d1, d2] => { results := [.lit (.bool false)], args := [d1, d2] }
  | _ => none }
def DagLongWrongFalsely : Prop := dagLongRow.holds Try.pinned (OpenSpec.ofChange dagLongWrong)

/-- 'trefoillaw04.DagBefore': WHATEVER THE INPUT: true; the input reads as it did. -/
def dagBeforeSpec : ChangeSpec := { name := "dagBefore", fn := fun _ => fun
  | [d1, d2, d3, d4] => { results := [.lit (.bool true)], args := [d1, d2, d3, d4] }
  | _ => none }
def dagBeforeRow : OpenClaim := { program := "ytjkindoedkjnbaa", sum := "1f09008cb6b8d1136ef89f19776df9c4c5ef6336f8f75d0acbd4b94d7e516cf6", func := "trefoil/trefoillaw04.DagBefore", spec := "dagBefore", unfollowed := true, recurses := true, apart := false }
def DagBeforeSaid : Prop := dagBeforeRow.holds Try.pinned (OpenSpec.ofChange dagBeforeSpec)

/-- ITS FALSE NEIGHBOUR: 'it returns false'. Refute it at one input. -/
def dagBeforeWrong : ChangeSpec := { name := "dagBefore", fn := fun _ => fun
  | [d1, d2, d3, d4] => { results := [.lit (.bool false)], args := [d1, d2, d3, d4] }
  | _ => none }
def DagBeforeWrongFalsely : Prop := dagBeforeRow.holds Try.pinned (OpenSpec.ofChange dagBeforeWrong)

/-- 'trefoillaw04.DagRounds': WHATEVER THE INPUT: true; the input reads as it did. -/
def dagRoundsSpec : ChangeSpec := { name := "dagRounds", fn := fun _ => fun
  | [d1, d2, d3] => { results := [.lit (.bool true)], args := [d1, d2, d3] }
  | _ => none }
def dagRoundsRow : OpenClaim := { program := "ytjkindoedkjnbaa", sum := "1f09008cb6b8d1136ef89f19776df9c4c5ef6336f8f75d0acbd4b94d7e516cf6", func := "trefoil/trefoillaw04.DagRounds", spec := "dagRounds", unfollowed := true, recurses := true, apart := false }
def DagRoundsSaid : Prop := dagRoundsRow.holds Try.pinned (OpenSpec.ofChange dagRoundsSpec)

/-- ITS FALSE NEIGHBOUR: 'it returns false'. Refute it at one input. -/
def dagRoundsWrong : ChangeSpec := { name := "dagRounds", fn := fun _ => fun
  | [d1, d2, d3] => { results := [.lit (.bool false)], args := [d1, d2, d3] }
  | _ => none }
def DagRoundsWrongFalsely : Prop := dagRoundsRow.holds Try.pinned (OpenSpec.ofChange dagRoundsWrong)

/-- 'trefoillaw04.DagLess': WHATEVER THE INPUT: true; the input reads as it did. -/
def dagLessSpec : ChangeSpec := { name := "dagLess", fn := fun _ => fun
  | [d1, d2] => { results := [.lit (.bool true)], args := [d1, d2] }
  | _ => none }
def dagLessRow : OpenClaim := { program := "ytjkindoedkjnbaa", sum := "1f09008cb6b8d1136ef89f19776df9c4c5ef6336f8f75d0acbd4b94d7e516cf6", func := "trefoil/trefoillaw04.DagLess", spec := "dagLess", unfollowed := true, recurses := true, apart := false }
def DagLessSaid : Prop := dagLessRow.holds Try.pinned (OpenSpec.ofChange dagLessSpec)

/-- ITS FALSE NEIGHBOUR: 'it returns false'. Refute it at one input. -/
def dagLessWrong : ChangeSpec := { name := "dagLess", fn := fun _ => fun
  | [d1, d2] => { results := [.lit (.bool false)], args := [d1, d2] }
  | _ => none }
def DagLessWrongFalsely : Prop := dagLessRow.holds Try.pinned (OpenSpec.ofChange dagLessWrong)

/- THE SECOND FORM. 'bulk': how many values and letters a reading holds, each counted each time it is reached (what is shared counts as often as it is met; a slice's spare places count too). A statement '..UptoSaid' is the law's where the arguments, and the package variables that the reading takes, are together of bulk at most 1048576: NARROWER than '..Said'. Prove '..Said' where nothing that the law and all that it calls make is longer than what came in: it says more and counts as full. Else prove '..UptoSaid'. A law counts once. -/
mutual
def uptoBulk {H : Type} : DataW H → Nat
  | .lit (.string bytes) => bytes.length + 1
  | .lit _ => 1
  | .nil => 1
  | .ptr d => uptoBulk d + 1
  | .slice elems spare => uptoBulkAll elems + uptoBulkAll spare + 1
  | .agg parts => uptoBulkAll parts + 1
  | .iface _ d => uptoBulk d + 1
  | .map entries => uptoBulkEntries entries + 1
  | .held _ => 1
def uptoBulkAll {H : Type} : List (DataW H) → Nat
  | [] => 0
  | d :: r => uptoBulk d + uptoBulkAll r
def uptoBulkEntries {H : Type} : List (Lit × DataW H) → Nat
  | [] => 0
  | x :: r => uptoBulkEntry x + uptoBulkEntries r
def uptoBulkEntry {H : Type} : Lit × DataW H → Nat
  | (.string bytes, d) => bytes.length + uptoBulk d + 1
  | (_, d) => uptoBulk d + 1
 end
def uptoSmall : (H : Type) → List (DataW H) → Bool := fun _ ds => decide (uptoBulkAll ds ≤ 1048576)
def OpenSpec.upto (s : _root_.Go.ChangeSpec) : _root_.Go.OpenSpec := { _root_.Go.OpenSpec.ofChange s with cond := some uptoSmall }

/-- 'trefoillaw04.DagChecks', WHERE WHAT IT READS IS OF BULK AT MOST 1048576: true; the input reads as it did. -/
def dagChecksUptoRow : OpenClaim := { program := "ytjkindoedkjnbaa", sum := "1f09008cb6b8d1136ef89f19776df9c4c5ef6336f8f75d0acbd4b94d7e516cf6", func := "trefoil/trefoillaw04.DagChecks", spec := "dagChecks", unfollowed := true, recurses := true, apart := false, narrowed := true }
def DagChecksUptoSaid : Prop := dagChecksUptoRow.holds Try.pinned (OpenSpec.upto dagChecksSpec)

/-- 'trefoillaw04.DagTells', WHERE WHAT IT READS IS OF BULK AT MOST 1048576: true; the input reads as it did. -/
def dagTellsUptoRow : OpenClaim := { program := "ytjkindoedkjnbaa", sum := "1f09008cb6b8d1136ef89f19776df9c4c5ef6336f8f75d0acbd4b94d7e516cf6", func := "trefoil/trefoillaw04.DagTells", spec := "dagTells", unfollowed := true, recurses := true, apart := false, narrowed := true }
def DagTellsUptoSaid : Prop := dagTellsUptoRow.holds Try.pinned (OpenSpec.upto dagTellsSpec)

/-- 'trefoillaw04.DagOrder', WHERE WHAT IT READS IS OF BULK AT MOST 1048576: true; the input reads as it did. -/
def dagOrderUptoRow : OpenClaim := { program := "ytjkindoedkjnbaa", sum := "1f09008cb6b8d1136ef89f19776df9c4c5ef6336f8f75d0acbd4b94d7e516cf6", func := "trefoil/trefoillaw04.DagOrder", spec := "dagOrder", unfollowed := true, recurses := true, apart := false, narrowed := true }
def DagOrderUptoSaid : Prop := dagOrderUptoRow.holds Try.pinned (OpenSpec.upto dagOrderSpec)

/-- 'trefoillaw04.DagLong', WHERE WHAT IT READS IS OF BULK AT MOST 1048576: true; the input reads as it did. -/
def dagLongUptoRow : OpenClaim := { program := "ytjkindoedkjnbaa", sum := "1f09008cb6b8d1136ef89f19776df9c4c5ef6336f8f75d0acbd4b94d7e516cf6", func := "trefoil/trefoillaw04.DagLong", spec := "dagLong", unfollowed := true, recurses := true, apart := false, narrowed := true }
def DagLongUptoSaid : Prop := dagLongUptoRow.holds Try.pinned (OpenSpec.upto dagLongSpec)

/-- 'trefoillaw04.DagBefore', WHERE WHAT IT READS IS OF BULK AT MOST 1048576: true; the input reads as it did. -/
def dagBeforeUptoRow : OpenClaim := { program := "ytjkindoedkjnbaa", sum := "1f09008cb6b8d1136ef89f19776df9c4c5ef6336f8f75d0acbd4b94d7e516cf6", func := "trefoil/trefoillaw04.DagBefore", spec := "dagBefore", unfollowed := true, recurses := true, apart := false, narrowed := true }
def DagBeforeUptoSaid : Prop := dagBeforeUptoRow.holds Try.pinned (OpenSpec.upto dagBeforeSpec)

/-- 'trefoillaw04.DagRounds', WHERE WHAT IT READS IS OF BULK AT MOST 1048576: true; the input reads as it did. -/
def dagRoundsUptoRow : OpenClaim := { program := "ytjkindoedkjnbaa", sum := "1f09008cb6b8d1136ef89f19776df9c4c5ef6336f8f75d0acbd4b94d7e516cf6", func := "trefoil/trefoillaw04.DagRounds", spec := "dagRounds", unfollowed := true, recurses := true, apart := false, narrowed := true }
def DagRoundsUptoSaid : Prop := dagRoundsUptoRow.holds Try.pinned (OpenSpec.upto dagRoundsSpec)

/-- 'trefoillaw04.DagLess', WHERE WHAT IT READS IS OF BULK AT MOST 1048576: true; the input reads as it did. -/
def dagLessUptoRow : OpenClaim := { program := "ytjkindoedkjnbaa", sum := "1f09008cb6b8d1136ef89f19776df9c4c5ef6336f8f75d0acbd4b94d7e516cf6", func := "trefoil/trefoillaw04.DagLess", spec := "dagLess", unfollowed := true, recurses := true, apart := false, narrowed := true }
def DagLessUptoSaid : Prop := dagLessUptoRow.holds Try.pinned (OpenSpec.upto dagLessSpec)

end Rows
end Go.Proofs.Ytjkindoedkjnbaa
