/-
  No cell of these rows narrows 'for every input' (looked for: loops, veiled, ifaces, maps, wideKeys, modest, calm, conditions, laid).
  DERIVED. THE GIVEN ROWS OF THIS SEAT. 7 by the template 'for every input the law returns true; each argument reads behind the call as it read before'; 0 by the template 'total and deterministic' (their statements: YtnnbgfjokbaepaaTotals.lean).
  GIVEN WITH THE SEED: the statements are not yours to turn. If you find one false, say at which input.
  Laid BY PROGRAM, IN A SANDBOX (cutbox-rows.mjs): the forced cells as the released guide's own fill.sh prints them over the translation 4697dba28618ae3e… (all of the seat's roots in one cut). By AI agents, Wed Nov 11 2026. No macro, syntax, notation, axiom, sorry.
-/
import Derived.Test.YtnnbgfjokbaepaaChecked
import GoSem.Claim
import GoSem.ClaimJoined
import GoSem.ClaimMapViews
import Derived.JoinedTies
import Derived.KernelRfl
namespace Go.Proofs.Ytnnbgfjokbaepaa
/- THE CELL 'sum', in the pinned program and in every row, IS THE sha256 OF THE DUMP (.gsa) THAT YtnnbgfjokbaepaaProg.lean LOADS. Nothing in Lean hashes anything: it is a label: what it is worth is what the hold of that sum in a sandbox is worth. -/
noncomputable def Try.pinned : Pinned := { name := "ytnnbgfjokbaepaa", sum := "4697dba28618ae3e11a4fde414a2fc65c40d3c232d7cf410761dad21505cec32", checked := Try.checked }
namespace Rows
def none {H : Type} : Left H := { results := [], args := [] }

/-- 'trefoillaw10.SchedChecks': WHATEVER THE INPUT: true; the input reads as it did. -/
def schedChecksSpec : ChangeSpec := { name := "schedChecks", fn := fun _ => fun
  | [d1, d2, d3, d4] => { results := [.lit (.bool true)], args := [d1, d2, d3, d4] }
  | _ => none }
def schedChecksRow : OpenClaim := { program := "ytnnbgfjokbaepaa", sum := "4697dba28618ae3e11a4fde414a2fc65c40d3c232d7cf410761dad21505cec32", func := "trefoil/trefoillaw10.SchedChecks", spec := "schedChecks", unfollowed := true, recurses := true, apart := false }
def SchedChecksSaid : Prop := schedChecksRow.holds Try.pinned (OpenSpec.ofChange schedChecksSpec)

/-- ITS FALSE NEIGHBOUR: 'it returns false'. Refute it at one input. -/
def schedChecksWrong : ChangeSpec := { name := "schedChecks", fn := fun _ => fun
  | [d1, d2, d3, d4] => { results := [.lit (.bool false)], args := [d1, d2, d3, d4] }
  | _ => none }
def SchedChecksWrongFalsely : Prop := schedChecksRow.holds Try.pinned (OpenSpec.ofChange schedChecksWrong)

/-- 'trefoillaw10.SchedBounds': WHATEVER THE INPUT: true; the input reads as it did. -/
def schedBoundsSpec : ChangeSpec := { name := "schedBounds", fn := fun _ => fun
  | [d1, d2, d3, d4] => { results := [.lit (.bool true)], args := [d1, d2, d3, d4] }
  | _ => none }
def schedBoundsRow : OpenClaim := { program := "ytnnbgfjokbaepaa", sum := "4697dba28618ae3e11a4fde414a2fc65c40d3c232d7cf410761dad21505cec32", func := "trefoil/trefoillaw10.SchedBounds", spec := "schedBounds", unfollowed := true, recurses := true, apart := false }
def SchedBoundsSaid : Prop := schedBoundsRow.holds Try.pinned (OpenSpec.ofChange schedBoundsSpec)

/-- ITS FALSE NEIGHBOUR: 'it returns false'. Refute it at one input. -/
def schedBoundsWrong : ChangeSpec := { name := "schedBounds", fn := fun _ => fun
  | [d1, d2, d3, d4] => { results := [.lit (.bool false)], args := [d1, d2, d3, d4] }
  | _ => none }
def SchedBoundsWrongFalsely : Prop := schedBoundsRow.holds Try.pinned (OpenSpec.ofChange schedBoundsWrong)

/-- 'trefoillaw10.SchedGraham': WHATEVER THE INPUT: true; the input reads as it did. -/
def schedGrahamSpec : ChangeSpec := { name := "schedGraham", fn := fun _ => fun
  | [d1, d2, d3, d4] => { results := [.lit (.bool true)], args := [d1, d2, d3, d4] }
  | _ => none }
def schedGrahamRow : OpenClaim := { program := "ytnnbgfjokbaepaa", sum := "4697dba28618ae3e11a4fde414a2fc65c40d3c232d7cf410761dad21505cec32", func := "trefoil/trefoillaw10.SchedGraham", spec := "schedGraham", unfollowed := true, recurses := true, apart := false }
def SchedGrahamSaid : Prop := schedGrahamRow.holds Try.pinned (OpenSpec.ofChange schedGrahamSpec)

/-- ITS FALSE NEIGHBOUR: 'it returns false'. Refute it at one input. -/
def schedGrahamWrong : ChangeSpec := { name := "schedGraham", fn := fun _ => fun
  | [d1, d2, d3, d4] => { results := [.lit (.bool false)], args := [d1, d2, d3, d4] }
  | _ => none }
def SchedGrahamWrongFalsely : Prop := schedGrahamRow.holds Try.pinned (OpenSpec.ofChange schedGrahamWrong)

/-- 'trefoillaw10.SchedOrder': WHATEVER THE INPUT: true; the input reads as it did. -/
def schedOrderSpec : ChangeSpec := { name := "schedOrder", fn := fun _ => fun
  | [d1, d2, d3, d4] => { results := [.lit (.bool true)], args := [d1, d2, d3, d4] }
  | _ => none }
def schedOrderRow : OpenClaim := { program := "ytnnbgfjokbaepaa", sum := "4697dba28618ae3e11a4fde414a2fc65c40d3c232d7cf410761dad21505cec32", func := "trefoil/trefoillaw10.SchedOrder", spec := "schedOrder", unfollowed := true, recurses := true, apart := false }
def SchedOrderSaid : Prop := schedOrderRow.holds Try.pinned (OpenSpec.ofChange schedOrderSpec)

/-- ITS FALSE NEIGHBOUR: 'it returns false'. Refute it at one input. -/
def schedOrderWrong : ChangeSpec := { name := "schedOrder", fn := fun _ => fun
  | [d1, d2, d3, d4] => { results := [.lit (.bool false)], args := [d1, d2, d3, d4] }
  | _ => none }
def SchedOrderWrongFalsely : Prop := schedOrderRow.holds Try.pinned (OpenSpec.ofChange schedOrderWrong)

/-- 'trefoillaw10.SchedCuts': WHATEVER THE INPUT: true; the input reads as it did. -/
def schedCutsSpec : ChangeSpec := { name := "schedCuts", fn := fun _ => fun
  | [d1, d2, d3, d4, d5] => { results := [.lit (.bool true)], args := [d1, d2, d3, d4, d5] }
  | _ => none }
def schedCutsRow : OpenClaim := { program := "ytnnbgfjokbaepaa", sum := "4697dba28618ae3e11a4fde414a2fc65c40d3c232d7cf410761dad21505cec32", func := "trefoil/trefoillaw10.SchedCuts", spec := "schedCuts", unfollowed := true, recurses := true, apart := false }
def SchedCutsSaid : Prop := schedCutsRow.holds Try.pinned (OpenSpec.ofChange schedCutsSpec)

/-- ITS FALSE NEIGHBOUR: 'it returns false'. Refute it at one input. -/
def schedCutsWrong : ChangeSpec := { name := "schedCuts", fn := fun _ => fun
  | [d1, d2, d3, d4, d5] => { results := [.lit (.bool false)], args := [d1, d2, d3, d4, d5] }
  | _ => none }
def SchedCutsWrongFalsely : Prop := schedCutsRow.holds Try.pinned (OpenSpec.ofChange schedCutsWrong)

/-- 'trefoillaw10.SchedBusy': WHATEVER THE INPUT: true; the input reads as it did. -/
def schedBusySpec : ChangeSpec := { name := "schedBusy", fn := fun _ => fun
  | [d1, d2, d3, d4] => { results := [.lit (.bool true)], args := [d1, d2, d3, d4] }
  | _ => none }
def schedBusyRow : OpenClaim := { program := "ytnnbgfjokbaepaa", sum := "4697dba28618ae3e11a4fde414a2fc65c40d3c232d7cf410761dad21505cec32", func := "trefoil/trefoillaw10.SchedBusy", spec := "schedBusy", unfollowed := true, recurses := true, apart := false }
def SchedBusySaid : Prop := schedBusyRow.holds Try.pinned (OpenSpec.ofChange schedBusySpec)

/-- ITS FALSE NEIGHBOUR: 'it returns false'. Refute it at one input. -/
def schedBusyWrong : ChangeSpec := { name := "schedBusy", fn := fun _ => fun
  | [d1, d2, d3, d4] => { results := [.lit (.bool false)], args := [d1, d2, d3, d4] }
  | _ => none }
def SchedBusyWrongFalsely : Prop := schedBusyRow.holds Try.pinned (OpenSpec.ofChange schedBusyWrong)

/-- 'trefoillaw10.SchedMore': WHATEVER THE INPUT: true; the input reads as it did. -/
def schedMoreSpec : ChangeSpec := { name := "schedMore", fn := fun _ => fun
  | [d1, d2] => { results := [.lit (.bool true)], args := [d1, d2] }
  | _ => none }
def schedMoreRow : OpenClaim := { program := "ytnnbgfjokbaepaa", sum := "4697dba28618ae3e11a4fde414a2fc65c40d3c232d7cf410761dad21505cec32", func := "trefoil/trefoillaw10.SchedMore", spec := "schedMore", unfollowed := true, recurses := true, apart := false }
def SchedMoreSaid : Prop := schedMoreRow.holds Try.pinned (OpenSpec.ofChange schedMoreSpec)

/-- ITS FALSE NEIGHBOUR: 'it returns false'. Refute it at one input. -/
def schedMoreWrong : ChangeSpec := { name := "schedMore", fn := fun _ => fun
  | [d1, d2] => { results := [.lit (.bool false)], args := [d1, d2] }
  | _ => none }
def SchedMoreWrongFalsely : Prop := schedMoreRow.holds Try.pinned (OpenSpec.ofChange schedMoreWrong)

/- THE SECOND FORM. 'bulk': how many values and letters a reading holds, each counted each time it is reached (what is shared counts as often as it is met; a slice's spare places count too). A statement '..UptoSaid' is the law's where the arguments, and the package variables that the reading takes, are together of bulk at most 1048576: NARROWER than '..Said'. Prove '..Said' where nothing that the law and all that it calls make is longer than what came in: it says more and counts as full. Else prove '..UptoSaid'. A law counts once. -/
mutual
def uptoBulk {H : Type} : DataW H → Nat
  | .lit (.string bytes) => bytes.length + 1
  | .lit _ => 1
  | .nil => 1
  | .ptr d => uptoBulk d + 1
  | .slice elems spare => uptoBulkAll elems + uptoBulkAll spare + 1
  | .agg parts => uptoBulkAll parts + 1
  | .iface _ d => uptoBulk d + 1
  | .map entries => uptoBulkEntries entries + 1
  | .held _ => 1
def uptoBulkAll {H : Type} : List (DataW H) → Nat
  | [] => 0
  | d :: r => uptoBulk d + uptoBulkAll r
def uptoBulkEntries {H : Type} : List (Lit × DataW H) → Nat
  | [] => 0
  | x :: r => uptoBulkEntry x + uptoBulkEntries r
def uptoBulkEntry {H : Type} : Lit × DataW H → Nat
  | (.string bytes, d) => bytes.length + uptoBulk d + 1
  | (_, d) => uptoBulk d + 1
 end
def uptoSmall : (H : Type) → List (DataW H) → Bool := fun _ ds => decide (uptoBulkAll ds ≤ 1048576)
def OpenSpec.upto (s : _root_.Go.ChangeSpec) : _root_.Go.OpenSpec := { _root_.Go.OpenSpec.ofChange s with cond := some uptoSmall }

/-- 'trefoillaw10.SchedChecks', WHERE WHAT IT READS IS OF BULK AT MOST 1048576: true; the input reads as it did. -/
def schedChecksUptoRow : OpenClaim := { program := "ytnnbgfjokbaepaa", sum := "4697dba28618ae3e11a4fde414a2fc65c40d3c232d7cf410761dad21505cec32", func := "trefoil/trefoillaw10.SchedChecks", spec := "schedChecks", unfollowed := true, recurses := true, apart := false, narrowed := true }
def SchedChecksUptoSaid : Prop := schedChecksUptoRow.holds Try.pinned (OpenSpec.upto schedChecksSpec)

/-- 'trefoillaw10.SchedBounds', WHERE WHAT IT READS IS OF BULK AT MOST 1048576: true; the input reads as it did. -/
def schedBoundsUptoRow : OpenClaim := { program := "ytnnbgfjokbaepaa", sum := "4697dba28618ae3e11a4fde414a2fc65c40d3c232d7cf410761dad21505cec32", func := "trefoil/trefoillaw10.SchedBounds", spec := "schedBounds", unfollowed := true, recurses := true, apart := false, narrowed := true }
def SchedBoundsUptoSaid : Prop := schedBoundsUptoRow.holds Try.pinned (OpenSpec.upto schedBoundsSpec)

/-- 'trefoillaw10.SchedGraham', WHERE WHAT IT READS IS OF BULK AT MOST 1048576: true; the input reads as it did. -/
def schedGrahamUptoRow : OpenClaim := { program := "ytnnbgfjokbaepaa", sum := "4697dba28618ae3e11a4fde414a2fc65c40d3c232d7cf410761dad21505cec32", func := "trefoil/trefoillaw10.SchedGraham", spec := "schedGraham", unfollowed := true, recurses := true, apart := false, narrowed := true }
def SchedGrahamUptoSaid : Prop := schedGrahamUptoRow.holds Try.pinned (OpenSpec.upto schedGrahamSpec)

/-- 'trefoillaw10.SchedOrder', WHERE WHAT IT READS IS OF BULK AT MOST 1048576: true; the input reads as it did. -/
def schedOrderUptoRow : OpenClaim := { program := "ytnnbgfjokbaepaa", sum := "4697dba28618ae3e11a4fde414a2fc65c40d3c232d7cf410761dad21505cec32", func := "trefoil/trefoillaw10.SchedOrder", spec := "schedOrder", unfollowed := true, recurses := true, apart := false, narrowed := true }
def SchedOrderUptoSaid : Prop := schedOrderUptoRow.holds Try.pinned (OpenSpec.upto schedOrderSpec)

/-- 'trefoillaw10.SchedCuts', WHERE WHAT IT READS IS OF BULK AT MOST 1048576: true; the input reads as it did. -/
def schedCutsUptoRow : OpenClaim := { program := "ytnnbgfjokbaepaa", sum := "4697dba28618ae3e11a4fde414a2fc65c40d3c232d7cf410761dad21505cec32", func := "trefoil/trefoillaw10.SchedCuts", spec := "schedCuts", unfollowed := true, recurses := true, apart := false, narrowed := true }
def SchedCutsUptoSaid : Prop := schedCutsUptoRow.holds Try.pinned (OpenSpec.upto schedCutsSpec)

/-- 'trefoillaw10.SchedBusy', WHERE WHAT IT READS IS OF BULK AT MOST 1048576: true; the input reads as it did. -/
def schedBusyUptoRow : OpenClaim := { program := "ytnnbgfjokbaepaa", sum := "4697dba28618ae3e11a4fde414a2fc65c40d3c232d7cf410761dad21505cec32", func := "trefoil/trefoillaw10.SchedBusy", spec := "schedBusy", unfollowed := true, recurses := true, apart := false, narrowed := true }
def SchedBusyUptoSaid : Prop := schedBusyUptoRow.holds Try.pinned (OpenSpec.upto schedBusySpec)

/-- 'trefoillaw10.SchedMore', WHERE WHAT IT READS IS OF BULK AT MOST 1048576: true; the input reads as it did. -/
def schedMoreUptoRow : OpenClaim := { program := "ytnnbgfjokbaepaa", sum := "4697dba28618ae3e11a4fde414a2fc65c40d3c232d7cf410761dad21505cec32", func := "trefoil/trefoillaw10.SchedMore", spec := "schedMore", unfollowed := true, recurses := true, apart := false, narrowed := true }
def SchedMoreUptoSaid : Prop := schedMoreUptoRow.holds Try.pinned (OpenSpec.upto schedMoreSpec)

end Rows
end Go.Proofs.Ytnnbgfjokbaepaa
