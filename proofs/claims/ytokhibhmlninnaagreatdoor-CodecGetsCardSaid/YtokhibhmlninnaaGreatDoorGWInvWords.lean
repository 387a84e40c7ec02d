/- Written by a program of this work: each theorem says that a call of the Go function comes to what the Lean function beside it tells, under the conditions that it names; Lean checks it. -/
import Derived.Test.YtokhibhmlninnaaGreatDoorGWInv
import Derived.Test.YtokhibhmlninnaaGreatDoorGWFootNe
namespace Go.Proofs.YtokhibhmlninnaaGreatDoorW.PrintWords
open Go.RowKit
end Go.Proofs.YtokhibhmlninnaaGreatDoorW.PrintWords
namespace Go.Proofs.YtokhibhmlninnaaGreatDoorW.PrintLast
section
variable {ops : Array Oper} {a : Act} {o og : Oper} {g : Nat} {t : Tmp} {u : Bool}
end
end Go.Proofs.YtokhibhmlninnaaGreatDoorW.PrintLast
