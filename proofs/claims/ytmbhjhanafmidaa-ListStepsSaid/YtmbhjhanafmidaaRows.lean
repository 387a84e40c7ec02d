/-
  No cell of these rows narrows 'for every input' (looked for: loops, veiled, ifaces, maps, wideKeys, modest, calm, conditions, laid).
  DERIVED. THE GIVEN ROWS OF THIS SEAT. 6 by the template 'for every input the law returns true; each argument reads behind the call as it read before'; 0 by the template 'total and deterministic' (their statements: YtmbhjhanafmidaaTotals.lean).
  GIVEN WITH THE SEED: the statements are not yours to turn. If you find one false, say at which input.
  Laid BY PROGRAM, IN A SANDBOX (cutbox-rows.mjs): the forced cells as the released guide's own fill.sh prints them over the translation a57acab985349080… (all of the seat's roots in one cut). By AI agents, Wed Nov 11 2026. No macro, syntax, notation, axiom, sorry.
-/
import Derived.Test.YtmbhjhanafmidaaChecked
import GoSem.Claim
import GoSem.ClaimJoined
import GoSem.ClaimMapViews
import Derived.JoinedTies
import Derived.KernelRfl
namespace Go.Proofs.Ytmbhjhanafmidaa
/- THE CELL 'sum', in the pinned program and in every row, IS THE sha256 OF THE DUMP (.gsa) THAT YtmbhjhanafmidaaProg.lean LOADS. Nothing in Lean hashes anything: it is a label: what it is worth is what the hold of that sum in a sandbox is worth. -/
noncomputable def Try.pinned : Pinned := { name := "ytmbhjhanafmidaa", sum := "a57acab98534908038ac97124b1f1ddfbc6e614bb6fd64f3cddd525138f832e0", checked := Try.checked }
namespace Rows
def none {H : Type} : Left H := { results := [], args := [] }

/-- 'trefoillaw11.ListSteps': WHATEVER THE INPUT: true; the input reads as it did. -/
def listStepsSpec : ChangeSpec := { name := "listSteps", fn := fun _ => fun
  | [d1, d2, d3] => { results := [.lit (.bool true)], args := [d1, d2, d3] }
  | _ => none }
def listStepsRow : OpenClaim := { program := "ytmbhjhanafmidaa", sum := "a57acab98534908038ac97124b1f1ddfbc6e614bb6fd64f3cddd525138f832e0", func := "trefoil/trefoillaw11.ListSteps", spec := "listSteps", unfollowed := true, recurses := true, apart := false }
def ListStepsSaid : Prop := listStepsRow.holds Try.pinned (OpenSpec.ofChange listStepsSpec)

/-- ITS FALSE NEIGHBOUR: 'it returns false'. Refute it at one input. -/
def listStepsWrong : ChangeSpec := { name := "listSteps", fn := fun _ => fun
  | [d1, d2, d3] => { results := [.lit (.bool false)], args := [d1, d2, d3] }
  | _ => none }
def ListStepsWrongFalsely : Prop := listStepsRow.holds Try.pinned (OpenSpec.ofChange listStepsWrong)

/-- 'trefoillaw11.ListRuns': WHATEVER THE INPUT: true; the input reads as it did. -/
def listRunsSpec : ChangeSpec := { name := "listRuns", fn := fun _ => fun
  | [d1, d2, d3] => { results := [.lit (.bool true)], args := [d1, d2, d3] }
  | _ => none }
def listRunsRow : OpenClaim := { program := "ytmbhjhanafmidaa", sum := "a57acab98534908038ac97124b1f1ddfbc6e614bb6fd64f3cddd525138f832e0", func := "trefoil/trefoillaw11.ListRuns", spec := "listRuns", unfollowed := true, recurses := true, apart := false }
def ListRunsSaid : Prop := listRunsRow.holds Try.pinned (OpenSpec.ofChange listRunsSpec)

/-- ITS FALSE NEIGHBOUR: 'it returns false'. Refute it at one input. -/
def listRunsWrong : ChangeSpec := { name := "listRuns", fn := fun _ => fun
  | [d1, d2, d3] => { results := [.lit (.bool false)], args := [d1, d2, d3] }
  | _ => none }
def ListRunsWrongFalsely : Prop := listRunsRow.holds Try.pinned (OpenSpec.ofChange listRunsWrong)

/-- 'trefoillaw11.ListFill': WHATEVER THE INPUT: true; the input reads as it did. -/
def listFillSpec : ChangeSpec := { name := "listFill", fn := fun _ => fun
  | [d1, d2] => { results := [.lit (.bool true)], args := [d1, d2] }
  | _ => none }
def listFillRow : OpenClaim := { program := "ytmbhjhanafmidaa", sum := "a57acab98534908038ac97124b1f1ddfbc6e614bb6fd64f3cddd525138f832e0", func := "trefoil/trefoillaw11.ListFill", spec := "listFill", unfollowed := true, recurses := true, apart := false }
def ListFillSaid : Prop := listFillRow.holds Try.pinned (OpenSpec.ofChange listFillSpec)

/-- ITS FALSE NEIGHBOUR: 'it returns false'. Refute it at one input. -/
def listFillWrong : ChangeSpec := { name := "listFill", fn := fun _ => fun
  | [d1, d2] => { results := [.lit (.bool false)], args := [d1, d2] }
  | _ => none }
def ListFillWrongFalsely : Prop := listFillRow.holds Try.pinned (OpenSpec.ofChange listFillWrong)

/-- 'trefoillaw11.ListTick': WHATEVER THE INPUT: true; the input reads as it did. -/
def listTickSpec : ChangeSpec := { name := "listTick", fn := fun _ => fun
  | [d1, d2] => { results := [.lit (.bool true)], args := [d1, d2] }
  | _ => none }
def listTickRow : OpenClaim := { program := "ytmbhjhanafmidaa", sum := "a57acab98534908038ac97124b1f1ddfbc6e614bb6fd64f3cddd525138f832e0", func := "trefoil/trefoillaw11.ListTick", spec := "listTick", unfollowed := true, recurses := true, apart := false }
def ListTickSaid : Prop := listTickRow.holds Try.pinned (OpenSpec.ofChange listTickSpec)

/-- ITS FALSE NEIGHBOUR: 'it returns false'. Refute it at one input. -/
def listTickWrong : ChangeSpec := { name := "listTick", fn := fun _ => fun
  | [d1, d2] => { results := [.lit (.bool false)], args := [d1, d2] }
  | _ => none }
def ListTickWrongFalsely : Prop := listTickRow.holds Try.pinned (OpenSpec.ofChange listTickWrong)

/-- 'trefoillaw11.ListOne': WHATEVER THE INPUT: true; the input reads as it did. -/
def listOneSpec : ChangeSpec := { name := "listOne", fn := fun _ => fun
  | [d1, d2] => { results := [.lit (.bool true)], args := [d1, d2] }
  | _ => none }
def listOneRow : OpenClaim := { program := "ytmbhjhanafmidaa", sum := "a57acab98534908038ac97124b1f1ddfbc6e614bb6fd64f3cddd525138f832e0", func := "trefoil/trefoillaw11.ListOne", spec := "listOne", unfollowed := true, recurses := true, apart := false }
def ListOneSaid : Prop := listOneRow.holds Try.pinned (OpenSpec.ofChange listOneSpec)

/-- ITS FALSE NEIGHBOUR: 'it returns false'. Refute it at one input. -/
def listOneWrong : ChangeSpec := { name := "listOne", fn := fun _ => fun
  | [d1, d2] => { results := [.lit (.bool false)], args := [d1, d2] }
  | _ => none }
def ListOneWrongFalsely : Prop := listOneRow.holds Try.pinned (OpenSpec.ofChange listOneWrong)

/-- 'trefoillaw11.ListSched': WHATEVER THE INPUT: true; the input reads as it did. -/
def listSchedSpec : ChangeSpec := { name := "listSched", fn := fun _ => fun
  | [d1, d2, d3] => { results := [.lit (.bool true)], args := [d1, d2, d3] }
  | _ => none }
def listSchedRow : OpenClaim := { program := "ytmbhjhanafmidaa", sum := "a57acab98534908038ac97124b1f1ddfbc6e614bb6fd64f3cddd525138f832e0", func := "trefoil/trefoillaw11.ListSched", spec := "listSched", unfollowed := true, recurses := true, apart := false }
def ListSchedSaid : Prop := listSchedRow.holds Try.pinned (OpenSpec.ofChange listSchedSpec)

/-- ITS FALSE NEIGHBOUR: 'it returns false'. Refute it at one input. -/
def listSchedWrong : ChangeSpec := { name := "listSched", fn := fun _ => fun
  | [d1, d2, d3] => { results := [.lit (.bool false)], args := [d1, d2, d3] }
  | _ => none }
def ListSchedWrongFalsely : Prop := listSchedRow.holds Try.pinned (OpenSpec.ofChange listSchedWrong)

/- THE SECOND FORM. 'bulk': how many values and letters a reading holds, each counted each time it is reached (what is shared counts as often as it is met; a slice's spare places count too). A statement '..UptoSaid' is the law's where the arguments, and the package variables that the reading takes, are together of bulk at most 1048576: NARROWER than '..Said'. Prove '..Said' where nothing that the law and all that it calls make is longer than what came in: it says more and counts as full. Else prove '..UptoSaid'. A law counts once. -/
mutual
def uptoBulk {H : Type} : DataW H → Nat
  | .lit (.string bytes) => bytes.length + 1
  | .lit _ => 1
  | .nil => 1
  | .ptr d => uptoBulk d + 1
  | .slice elems spare => uptoBulkAll elems + uptoBulkAll spare + 1
  | .agg parts => uptoBulkAll parts + 1
  | .iface _ d => uptoBulk d + 1
  | .map entries => uptoBulkEntries entries + 1
  | .held _ => 1
def uptoBulkAll {H : Type} : List (DataW H) → Nat
  | [] => 0
  | d :: r => uptoBulk d + uptoBulkAll r
def uptoBulkEntries {H : Type} : List (Lit × DataW H) → Nat
  | [] => 0
  | x :: r => uptoBulkEntry x + uptoBulkEntries r
def uptoBulkEntry {H : Type} : Lit × DataW H → Nat
  | (.string bytes, d) => bytes.length + uptoBulk d + 1
  | (_, d) => uptoBulk d + 1
 end
def uptoSmall : (H : Type) → List (DataW H) → Bool := fun _ ds => decide (uptoBulkAll ds ≤ 1048576)
def OpenSpec.upto (s : _root_.Go.ChangeSpec) : _root_.Go.OpenSpec := { _root_.Go.OpenSpec.ofChange s with cond := some uptoSmall }

/-- 'trefoillaw11.ListSteps', WHERE WHAT IT READS IS OF BULK AT MOST 1048576: true; the input reads as it did. -/
def listStepsUptoRow : OpenClaim := { program := "ytmbhjhanafmidaa", sum := "a57acab98534908038ac97124b1f1ddfbc6e614bb6fd64f3cddd525138f832e0", func := "trefoil/trefoillaw11.ListSteps", spec := "listSteps", unfollowed := true, recurses := true, apart := false, narrowed := true }
def ListStepsUptoSaid : Prop := listStepsUptoRow.holds Try.pinned (OpenSpec.upto listStepsSpec)

/-- 'trefoillaw11.ListRuns', WHERE WHAT IT READS IS OF BULK AT MOST 1048576: true; the input reads as it did. -/
def listRunsUptoRow : OpenClaim := { program := "ytmbhjhanafmidaa", sum := "a57acab98534908038ac97124b1f1ddfbc6e614bb6fd64f3cddd525138f832e0", func := "trefoil/trefoillaw11.ListRuns", spec := "listRuns", unfollowed := true, recurses := true, apart := false, narrowed := true }
def ListRunsUptoSaid : Prop := listRunsUptoRow.holds Try.pinned (OpenSpec.upto listRunsSpec)

/-- 'trefoillaw11.ListFill', WHERE WHAT IT READS IS OF BULK AT MOST 1048576: true; the input reads as it did. -/
def listFillUptoRow : OpenClaim := { program := "ytmbhjhanafmidaa", sum := "a57acab98534908038ac97124b1f1ddfbc6e614bb6fd64f3cddd525138f832e0", func := "trefoil/trefoillaw11.ListFill", spec := "listFill", unfollowed := true, recurses := true, apart := false, narrowed := true }
def ListFillUptoSaid : Prop := listFillUptoRow.holds Try.pinned (OpenSpec.upto listFillSpec)

/-- 'trefoillaw11.ListTick', WHERE WHAT IT READS IS OF BULK AT MOST 1048576: true; the input reads as it did. -/
def listTickUptoRow : OpenClaim := { program := "ytmbhjhanafmidaa", sum := "a57acab98534908038ac97124b1f1ddfbc6e614bb6fd64f3cddd525138f832e0", func := "trefoil/trefoillaw11.ListTick", spec := "listTick", unfollowed := true, recurses := true, apart := false, narrowed := true }
def ListTickUptoSaid : Prop := listTickUptoRow.holds Try.pinned (OpenSpec.upto listTickSpec)

/-- 'trefoillaw11.ListOne', WHERE WHAT IT READS IS OF BULK AT MOST 1048576: true; the input reads as it did. -/
def listOneUptoRow : OpenClaim := { program := "ytmbhjhanafmidaa", sum := "a57acab98534908038ac97124b1f1ddfbc6e614bb6fd64f3cddd525138f832e0", func := "trefoil/trefoillaw11.ListOne", spec := "listOne", unfollowed := true, recurses := true, apart := false, narrowed := true }
def ListOneUptoSaid : Prop := listOneUptoRow.holds Try.pinned (OpenSpec.upto listOneSpec)

/-- 'trefoillaw11.ListSched', WHERE WHAT IT READS IS OF BULK AT MOST 1048576: true; the input reads as it did. -/
def listSchedUptoRow : OpenClaim := { program := "ytmbhjhanafmidaa", sum := "a57acab98534908038ac97124b1f1ddfbc6e614bb6fd64f3cddd525138f832e0", func := "trefoil/trefoillaw11.ListSched", spec := "listSched", unfollowed := true, recurses := true, apart := false, narrowed := true }
def ListSchedUptoSaid : Prop := listSchedUptoRow.holds Try.pinned (OpenSpec.upto listSchedSpec)

end Rows
end Go.Proofs.Ytmbhjhanafmidaa
