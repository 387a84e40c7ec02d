
/- The law package's awake, of layer 11. -/
import Derived.Test.YtmbhjhanafmidaaUSLstAwP
set_option linter.unusedVariables false
set_option linter.unusedSimpArgs false
namespace Go.Proofs.Ytmbhjhanafmidaa
open Go.RowKit Go.Sort
open DagPlain SchPlain LstPlain
open Go.Proofs.YtmbhjhanafmidaaW.PrintWords
namespace LAw
def dw : List Int := [9, 9, 9]
def nd : List Int := [3, 1, 1]
theorem lk : lookR dw [] nd 2 [] = 0 := by decide +kernel
theorem nw : newR dw [] nd 2 = ([-1, -1], nd) := by unfold newR; rw [if_pos lk]; rfl
theorem re : runE dw [] nd 2 = 0 := by unfold runE; rw [if_pos lk]; rfl
theorem rn : runR dw [] nd 2 = [[0, 1], [0, 2], [0, -1]] := by unfold runR; rw [if_pos re]; decide +kernel
theorem ck0 : crewR dw [] [-1, -1] nd = 0 := by decide +kernel
theorem fl : fillR dw [] [-1, -1] nd = ([0, 1], nd, 0) := by unfold fillR; rw [ck0]; decide +kernel
theorem ck1 : crewR dw [] [0, 1] nd = 0 := by decide +kernel
theorem tk0 : tickL [0, 1] nd = ([0, -1], [2, 0, 1], [1]) := by decide +kernel
theorem tk : tickQ dw [] [0, 1] nd = ([0, -1], [2, 0, 1], [1], 0) := by
 unfold tickQ tickR
 rw [ck1, if_pos rfl, tk0]
 show (_, _, sortL [1], _) = _
 rw [sortL_id (by decide)]
theorem ck2 : crewR dw [] [0, -1] [2, 0, 1] = 0 := by decide +kernel
theorem rd2 : readyL [] [0, -1] [2, 0, 1] = [2] := by decide +kernel
open PAw in
theorem run : trefoillaw11_awake.f 12 = some true := by
 have h1 : list_Run.f [9, 9, 9] [] [3, 1, 1] 2 = some ([[0, 1], [0, 2], [0, -1]], 0) := by
  unfold list_Run.f; rw [if_pos (by decide)]; exact congrArg some (show (runR dw [] nd 2, runE dw [] nd 2) = _ by rw [rn, re])
 have h2 : list_New.f [9, 9, 9] [] [3, 1, 1] 2 = some ([-1, -1], [3, 1, 1], 0) := by
  unfold list_New.f; rw [if_pos (by decide)]; exact congrArg some (show ((newR dw [] nd 2).1, (newR dw [] nd 2).2, lookR dw [] nd 2 []) = ([-1, -1], [3, 1, 1], 0) by rw [nw, lk]; rfl)
 have h3 : list_Fill.f [9, 9, 9] [] [-1, -1] [3, 1, 1] = some ([0, 1], [3, 1, 1], 0) := by
  unfold list_Fill.f; rw [if_pos (by decide)]; exact congrArg some fl
 have h4 : list_Tick.f [9, 9, 9] [] [0, 1] [3, 1, 1] = some ([0, -1], [2, 0, 1], [1], 0) := by
  unfold list_Tick.f; rw [if_pos (by decide)]; exact congrArg some tk
 have h5 : list_Check.f [9, 9, 9] [] [0, -1] [2, 0, 1] = some 0 := by
  unfold list_Check.f; rw [if_pos (by decide)]; exact congrArg some ck2
 have h6 : list_Ready.f [9, 9, 9] [] [0, -1] [2, 0, 1] = some [2] := by
  unfold list_Ready.f list_ready.f; rw [h5, Option.bind_some, if_pos rfl, if_pos (by decide)]; exact congrArg some rd2
 unfold trefoillaw11_awake.f
 simp only [Option.bind_some, h1, h2, h3, h4, h5, h6, if_true]
 decide +kernel
end LAw
theorem awake11_any (w : World) : Calls Try.prog 9 #[] w fun e w' => e = .returned (.bool true) ∧ Below w.heap.size w w' :=
 PAw.trefoillaw11_awake.calls 12 true w LAw.run rfl
end Go.Proofs.Ytmbhjhanafmidaa
