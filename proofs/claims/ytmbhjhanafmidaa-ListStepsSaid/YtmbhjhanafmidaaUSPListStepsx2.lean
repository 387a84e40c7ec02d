/- Written by a program of this work: each theorem says that a call of the Go function comes to what the Lean function beside it tells, under the conditions that it names; Lean checks it. -/
import Derived.Test.YtmbhjhanafmidaaUSPListStepsx0
import Derived.Test.YtmbhjhanafmidaaUSPListStepsx1
namespace Go.Proofs.Ytmbhjhanafmidaa.PListSteps
open Go.Proofs.Ytmbhjhanafmidaa.PAw Go.RowKit Go.Proofs.YtmbhjhanafmidaaW.PrintWords Go.Proofs.YtmbhjhanafmidaaW.PrintLast Go.Proofs.YtmbhjhanafmidaaW.PrintMore
attribute [local go_sem] max2_int min2_int max_two min_two max_three min_three max_four min_four   -- for this text's walks alone
set_option linter.unusedVariables false
set_option linter.unusedSimpArgs false
attribute [local go_sem high] eqA85
def api_Edge_87.l0 : Nat → List (S85) → Int → Int → Int → Int → Option (Int)
 | 0, _, _, _, _, _ => none
 | k + 1, x0, x7, x8, x102000, x102001 => if x8 < x7 then (if 0 ≤ x8 then (if x8 < (x0.length : Int) then (if (x102000 == ((rd_T85 x0 x8).f0) && (x102001 == ((rd_T85 x0 x8).f1))) = true then (some x8) else (api_Edge_87.l0 k x0 x7 (wrap64 (x8 + 1)) x102000 x102001)) else (none)) else (none)) else (some (-1))
def api_Edge_87.f (k : Nat) (l0 : List (S85)) (a1_0 : Int) (a1_1 : Int) : Option (Int) := api_Edge_87.l0 k l0 (l0.length : Int) 0 a1_0 a1_1
def api_Edge_66.f (k : Nat) (l0 : List (S85)) (a1_0 : Int) (a1_1 : Int) : Option (Bool) := (api_Edge_87.f k l0 a1_0 a1_1).bind fun t104 => (some (decide (t104 ≥ 0)))
def slices_Index_int_int.l0 : Nat → List Int → Int → Int → Int → Option (Int)
 | 0, _, _, _, _ => none
 | k + 1, x0, x1, x7, x8 => if x8 < x7 then (if 0 ≤ x8 then (if x8 < (x0.length : Int) then (if x1 = (rd x0 x8) then (some x8) else (slices_Index_int_int.l0 k x0 x1 x7 (wrap64 (x8 + 1)))) else (none)) else (none)) else (some (-1))
def slices_Index_int_int.f (k : Nat) (l0 : List Int) (a1 : Int) : Option (Int) := slices_Index_int_int.l0 k l0 a1 (l0.length : Int) 0
def slices_Contains_int_int.f (k : Nat) (l0 : List Int) (a1 : Int) : Option (Bool) := (slices_Index_int_int.f k l0 a1).bind fun t110 => (some (decide (t110 ≥ 0)))
def list_over.f (l0_0 : List Int) (l0_1 : List Int) (a1 : Int) : Option (Bool) := if 0 ≤ a1 then (if a1 < (l0_1.length : Int) then (some ((rd l0_1 a1) == 0)) else (none)) else (none)
def cmp_isNaN_int.f (a0 : Int) : Option (Bool) := some (a0 != a0)
def cmp_Less_int.f (a0 : Int) (a1 : Int) : Option (Bool) := (cmp_isNaN_int.f a0).bind fun t130 => (if t130 = true then ((cmp_isNaN_int.f a1).bind fun t131 => (if t131 = true then (some (decide (a0 < a1))) else (some true))) else (some (decide (a0 < a1))))
end Go.Proofs.Ytmbhjhanafmidaa.PListSteps
