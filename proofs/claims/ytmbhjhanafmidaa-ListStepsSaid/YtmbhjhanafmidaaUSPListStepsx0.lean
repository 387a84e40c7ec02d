/- Written by a program of this work: each theorem says that a call of the Go function comes to what the Lean function beside it tells, under the conditions that it names; Lean checks it. -/
import Derived.Test.YtmbhjhanafmidaaProg
import Derived.Test.YtmbhjhanafmidaaUSLstAw
import Derived.Below
import Derived.Deep.Draws
import Derived.Deep.AppendLies
import Derived.Maps.AppendAt
import Derived.OwnWalk
import Derived.Laws.BytesArg
import Derived.Laws.MakeOwn
import Derived.Laws.OwnMore
import Derived.Deep.OwnRows
import Derived.Tactics
import Derived.Lib.ConvBytes
import Derived.Laws.Slices
import Derived.WalkKit
import Derived.KernelRfl
import Derived.RowKit3
import Derived.Deep.LoopGhost
import Derived.Deep.QuietTactic
import Derived.BigQuiet
import Derived.WideLaws
import Derived.Deep.DeepCutAuto
import Derived.Deep.CutBlock
import Derived.Deep.RegionHeld3
import Derived.Laws.Rows
import Derived.Lib.AppendStr
import Derived.ArgAppend
import Derived.Laws.IdiomCopy
import Derived.OrdersHeld
import Derived.Laws.BitsLemmas
import Derived.RowKit
import Derived.Test.YtmbhjhanafmidaaUSWWords
import Derived.Test.YtmbhjhanafmidaaUSWLast
import Derived.Test.YtmbhjhanafmidaaUSWTab
import Derived.Test.YtmbhjhanafmidaaUSWFour
import Derived.Test.YtmbhjhanafmidaaUSWQPut
import Derived.Test.YtmbhjhanafmidaaUSWApart
import Derived.Test.YtmbhjhanafmidaaUSWArr
import Derived.Test.YtmbhjhanafmidaaUSWZeros
import Derived.Test.YtmbhjhanafmidaaUSWFoot
import Derived.Test.YtmbhjhanafmidaaUSWKept
import Derived.Test.YtmbhjhanafmidaaUSWShare
import Derived.Test.YtmbhjhanafmidaaUSWN
import Derived.Test.YtmbhjhanafmidaaUSWFootNe
import Derived.Test.YtmbhjhanafmidaaUSWAt
import Derived.Test.YtmbhjhanafmidaaUSWEqStruct
import Derived.Test.YtmbhjhanafmidaaUSWRepsOne
import Derived.Test.YtmbhjhanafmidaaUSWInv
import Derived.Test.YtmbhjhanafmidaaUSWInvWords
import Derived.Test.YtmbhjhanafmidaaUSWGuard
import Derived.Test.YtmbhjhanafmidaaUSWNEv
import Derived.Test.YtmbhjhanafmidaaUSWMore
namespace Go.Proofs.Ytmbhjhanafmidaa.PListSteps
open Go.Proofs.Ytmbhjhanafmidaa.PAw Go.RowKit Go.Proofs.YtmbhjhanafmidaaW.PrintWords Go.Proofs.YtmbhjhanafmidaaW.PrintLast Go.Proofs.YtmbhjhanafmidaaW.PrintMore
attribute [local go_sem] max2_int min2_int max_two min_two max_three min_three max_four min_four   -- for this text's walks alone
set_option linter.unusedVariables false
set_option linter.unusedSimpArgs false
theorem info4 : (Try.prog.info? 4).map (fun i => (i.zero, i.size, i.bytes)) = some (some (.bool false), 1, 1) := by kernel_rfl
end Go.Proofs.Ytmbhjhanafmidaa.PListSteps
