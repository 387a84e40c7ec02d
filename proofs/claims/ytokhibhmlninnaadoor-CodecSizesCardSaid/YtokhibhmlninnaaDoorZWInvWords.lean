/- Written by a program of this work: each theorem says that a call of the Go function comes to what the Lean function beside it tells, under the conditions that it names; Lean checks it. -/
import Derived.Test.YtokhibhmlninnaaDoorZWInv
import Derived.Test.YtokhibhmlninnaaDoorZWFootNe
namespace Go.Proofs.YtokhibhmlninnaaDoorW.PrintWords
open Go.RowKit
end Go.Proofs.YtokhibhmlninnaaDoorW.PrintWords
namespace Go.Proofs.YtokhibhmlninnaaDoorW.PrintLast
section
variable {ops : Array Oper} {a : Act} {o og : Oper} {g : Nat} {t : Tmp} {u : Bool}
end
end Go.Proofs.YtokhibhmlninnaaDoorW.PrintLast
