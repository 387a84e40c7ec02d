/- Written by a program of this work: each theorem says that a call of the Go function comes to what the Lean function beside it tells, under the conditions that it names; Lean checks it. -/
import Derived.Test.YtokhibhmlninnaaGreatDoorZWShare
import Derived.Test.YtokhibhmlninnaaGreatDoorZWZeros
namespace Go.Proofs.YtokhibhmlninnaaGreatDoorW.PrintWords
open Go.RowKit
namespace Kd
section
variable {α : Type} {d : Kd α} {e base n cc g : Nat} {ok ok' okp S : Nat → Prop} {w w1 W W1 : World} {A : Option Addr} {u v v1 : Value} {xs : List α} {x : α} {c : List Value}
end
end Kd
end Go.Proofs.YtokhibhmlninnaaGreatDoorW.PrintWords
