/- Printed contracts of some functions, put into one: trefoillaw04_Few, trefoillaw11_few, trefoillaw04_Own, trefoillaw11_Own, trefoilref04_Has. -/
import Derived.Test.YtmbhjhanafmidaaProg
import Derived.Test.YtmbhjhanafmidaaUSLstAw
import Derived.Below
import Derived.Deep.Draws
import Derived.Deep.AppendLies
import Derived.Maps.AppendAt
import Derived.OwnWalk
import Derived.Laws.BytesArg
import Derived.Laws.MakeOwn
import Derived.Laws.OwnMore
import Derived.Deep.OwnRows
import Derived.Tactics
import Derived.Lib.ConvBytes
import Derived.Laws.Slices
import Derived.WalkKit
import Derived.KernelRfl
import Derived.RowKit3
import Derived.Deep.LoopGhost
import Derived.Deep.QuietTactic
import Derived.BigQuiet
import Derived.WideLaws
import Derived.Deep.DeepCutAuto
import Derived.Deep.CutBlock
import Derived.Deep.RegionHeld3
import Derived.Laws.Rows
import Derived.Lib.AppendStr
import Derived.ArgAppend
import Derived.Laws.IdiomCopy
import Derived.OrdersHeld
import Derived.Laws.BitsLemmas
import Derived.RowKit
import Derived.Test.YtmbhjhanafmidaaUSWWords
import Derived.Test.YtmbhjhanafmidaaUSWLast
import Derived.Test.YtmbhjhanafmidaaUSWTab
import Derived.Test.YtmbhjhanafmidaaUSWFour
import Derived.Test.YtmbhjhanafmidaaUSWQPut
import Derived.Test.YtmbhjhanafmidaaUSWApart
import Derived.Test.YtmbhjhanafmidaaUSWArr
import Derived.Test.YtmbhjhanafmidaaUSWZeros
import Derived.Test.YtmbhjhanafmidaaUSWFoot
import Derived.Test.YtmbhjhanafmidaaUSWKept
import Derived.Test.YtmbhjhanafmidaaUSWShare
import Derived.Test.YtmbhjhanafmidaaUSWN
import Derived.Test.YtmbhjhanafmidaaUSWFootNe
import Derived.Test.YtmbhjhanafmidaaUSWAt
import Derived.Test.YtmbhjhanafmidaaUSWEqStruct
import Derived.Test.YtmbhjhanafmidaaUSWRepsOne
import Derived.Test.YtmbhjhanafmidaaUSWInv
import Derived.Test.YtmbhjhanafmidaaUSWInvWords
import Derived.Test.YtmbhjhanafmidaaUSWGuard
import Derived.Test.YtmbhjhanafmidaaUSWNEv
import Derived.Test.YtmbhjhanafmidaaUSWMore
import Derived.Test.YtmbhjhanafmidaaUSLstAw
import Derived.Test.YtmbhjhanafmidaaUSZr
namespace Go.Proofs.Ytmbhjhanafmidaa.PLl
open Go.Proofs.Ytmbhjhanafmidaa.Zr Go.RowKit Go.Proofs.YtmbhjhanafmidaaW.PrintWords Go.Proofs.YtmbhjhanafmidaaW.PrintLast Go.Proofs.YtmbhjhanafmidaaW.PrintMore
attribute [local go_sem] max2_int min2_int max_two min_two max_three min_three max_four min_four   -- for this text's walks alone
set_option linter.unusedVariables false
set_option linter.unusedSimpArgs false
structure S85 where
 f0 : Int
 f1 : Int
def k85 : Kd S85 := Kd.iso (Kd.pair (Kd.int .i64) (Kd.int .i64)) (fun x : S85 => (x.f0, x.f1))
theorem k85_mk (w : World) (x : S85)  : k85.K w x [.int .i64 x.f0, .int .i64 x.f1] := ⟨[.int .i64 x.f0], [.int .i64 x.f1], rfl, rfl, rfl⟩
theorem k85_mkM (w : World) (base : Nat) (ok : Nat → Prop) (x : S85)  : k85.M w base ok x [.int .i64 x.f0, .int .i64 x.f1] := ⟨[.int .i64 x.f0], [.int .i64 x.f1], rfl, rfl, rfl⟩
def rd_L2 (xs : List (List Int)) (i : Int) : (List Int) := xs.getD i.toNat ([] : List Int)
open Go.RowKit Go.Proofs.YtmbhjhanafmidaaW.PrintWords Go.Proofs.YtmbhjhanafmidaaW.PrintLast Go.Proofs.YtmbhjhanafmidaaW.PrintMore
attribute [local go_sem] max2_int min2_int max_two min_two max_three min_three max_four min_four   -- for this text's walks alone
set_option linter.unusedVariables false
set_option linter.unusedSimpArgs false
theorem eqA85 (d : Nat) (w : World) (x0 y0 : Int) (x1 y1 : Int) :
  (Op.equalIn (d + 2) 85 (.agg #[.int .i64 x0, .int .i64 x1]) (.agg #[.int .i64 y0, .int .i64 y1])).run Try.prog w = .ok (x0 == y0 && (x1 == y1)) w := by
 refine eqA_of Try.underlying85 (by kernel_rfl) ?_
 refine eqf_cons (by rfl) (by go_simp; rfl) (by go_simp; rfl) (by go_simp) ?_
 exact eqf_last (by rfl) (by go_simp; rfl) (by go_simp; rfl) (by go_simp)
open Go.RowKit Go.Proofs.YtmbhjhanafmidaaW.PrintWords Go.Proofs.YtmbhjhanafmidaaW.PrintLast Go.Proofs.YtmbhjhanafmidaaW.PrintMore
attribute [local go_sem] max2_int min2_int max_two min_two max_three min_three max_four min_four   -- for this text's walks alone
set_option linter.unusedVariables false
set_option linter.unusedSimpArgs false
attribute [local go_sem high] eqA85
def trefoillaw04_Few.f (l0_0 : List Int) (l0_1 : List (S85)) : Option (Bool) := if (l0_0.length : Int) ≤ 70 then (some (decide ((l0_1.length : Int) ≤ 300))) else (some false)
def trefoillaw11_few.f (l0_0 : List Int) (l0_1 : List (S85)) (l1_0 : List Int) (l1_1 : List Int) : Option (Bool) := (trefoillaw04_Few.f l0_0 l0_1).bind fun t273 => (if t273 = true then (if (l1_0.length : Int) ≤ 12 then (some (decide ((l1_1.length : Int) ≤ 70))) else (some false)) else (some false))
def trefoillaw04_Own.f (l0_0 : List Int) (l0_1 : List (S85)) : Option (List Int × (List (S85))) := (some (([] : List Int) : List Int)).bind fun y276 => (if y276.length + l0_0.length < 17592186044416 then ((some (([] : List (S85)) : List (S85))).bind fun y282 => (if y282.length + l0_1.length < 8796093022208 then (some ((y276 ++ l0_0), (y282 ++ l0_1))) else (none))) else (none))
def trefoillaw11_Own.f (l0_0 : List Int) (l0_1 : List Int) : Option (List Int × List Int) := (some (([] : List Int) : List Int)).bind fun y290 => (if y290.length + l0_0.length < 17592186044416 then ((some (([] : List Int) : List Int)).bind fun y296 => (if y296.length + l0_1.length < 17592186044416 then (some ((y290 ++ l0_0), (y296 ++ l0_1))) else (none))) else (none))
def trefoilref04_Has.l0 : Nat → List Int → Int → Int → Option (Bool)
 | 0, _, _, _ => none
 | k + 1, x0, x1, x5 => if x5 < (x0.length : Int) then (if 0 ≤ x5 then (if (rd x0 x5) = x1 then (some true) else (trefoilref04_Has.l0 k x0 x1 (wrap64 (x5 + 1)))) else (none)) else (some false)
def trefoilref04_Has.f (k : Nat) (l0 : List Int) (a1 : Int) : Option (Bool) := trefoilref04_Has.l0 k l0 a1 0
end Go.Proofs.Ytmbhjhanafmidaa.PLl
