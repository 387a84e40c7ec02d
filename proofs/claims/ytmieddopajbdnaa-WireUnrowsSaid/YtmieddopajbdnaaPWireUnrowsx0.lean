/- Written by a program of this work: each theorem says that a call of the Go function comes to what the Lean function beside it tells, under the conditions that it names; Lean checks it. -/
import Derived.Test.YtmieddopajbdnaaProg
import Derived.Test.YtmieddopajbdnaaWireCut
import Derived.Below
import Derived.Deep.Draws
import Derived.Deep.AppendLies
import Derived.Maps.AppendAt
import Derived.OwnWalk
import Derived.Laws.BytesArg
import Derived.Laws.MakeOwn
import Derived.Laws.OwnMore
import Derived.Deep.OwnRows
import Derived.Tactics
import Derived.Lib.ConvBytes
import Derived.Laws.Slices
import Derived.WalkKit
import Derived.KernelRfl
import Derived.RowKit3
import Derived.Deep.LoopGhost
import Derived.Deep.QuietTactic
import Derived.BigQuiet
import Derived.WideLaws
import Derived.Deep.DeepCutAuto
import Derived.Deep.CutBlock
import Derived.Deep.RegionHeld3
import Derived.Laws.Rows
import Derived.Lib.AppendStr
import Derived.ArgAppend
import Derived.Laws.IdiomCopy
import Derived.OrdersHeld
import Derived.Laws.BitsLemmas
import Derived.RowKit
import Derived.Test.YtmieddopajbdnaaWWords
import Derived.Test.YtmieddopajbdnaaWLast
import Derived.Test.YtmieddopajbdnaaWTab
import Derived.Test.YtmieddopajbdnaaWFour
import Derived.Test.YtmieddopajbdnaaWQPut
import Derived.Test.YtmieddopajbdnaaWApart
import Derived.Test.YtmieddopajbdnaaWArr
import Derived.Test.YtmieddopajbdnaaWZeros
import Derived.Test.YtmieddopajbdnaaWFoot
import Derived.Test.YtmieddopajbdnaaWKept
import Derived.Test.YtmieddopajbdnaaWShare
import Derived.Test.YtmieddopajbdnaaWN
import Derived.Test.YtmieddopajbdnaaWFootNe
import Derived.Test.YtmieddopajbdnaaWAt
import Derived.Test.YtmieddopajbdnaaWEqStruct
import Derived.Test.YtmieddopajbdnaaWRepsOne
import Derived.Test.YtmieddopajbdnaaWInv
import Derived.Test.YtmieddopajbdnaaWInvWords
import Derived.Test.YtmieddopajbdnaaWGuard
import Derived.Test.YtmieddopajbdnaaWNEv
import Derived.Test.YtmieddopajbdnaaWMore
namespace Go.Proofs.Ytmieddopajbdnaa.PWireUnrows
open Go.RowKit Go.Proofs.YtmieddopajbdnaaW.PrintWords Go.Proofs.YtmieddopajbdnaaW.PrintLast Go.Proofs.YtmieddopajbdnaaW.PrintMore
attribute [local go_sem] max2_int min2_int max_two min_two max_three min_three max_four min_four   -- for this text's walks alone
set_option linter.unusedVariables false
set_option linter.unusedSimpArgs false



def errW : Option Int → Value
  | none => .nilIface
  | some c => .iface 0 (.int .i64 c)
theorem errW_none : errW none = .nilIface := rfl
theorem errW_some (c : Int) : errW (some c) = .iface 0 (.int .i64 c) := rfl

theorem info3 : (Try.prog.info? 3).map (fun i => (i.zero, i.size, i.bytes)) = some (some (.int .i64 0), 1, 8) := by kernel_rfl
-- the values' own types

end Go.Proofs.Ytmieddopajbdnaa.PWireUnrows
