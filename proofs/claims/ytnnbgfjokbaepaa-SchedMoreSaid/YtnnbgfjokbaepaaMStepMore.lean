/- What the bound does from one number of cores to the next. -/
import Derived.Test.YtnnbgfjokbaepaaNSchC
import Derived.Test.YtnnbgfjokbaepaaMSchB
set_option linter.unusedVariables false
set_option linter.unusedSimpArgs false
namespace Go.Proofs.Ytnnbgfjokbaepaa
open Go.RowKit Go.Sort
open DagPlain SchPlain
theorem right1 {l need : List Int} {es : List (Int × Int)} (h : lookR l es need 1 [] = 0) : checkL l es = 0 ∧ rightB l need 1 = true := by
  have := valid_of h
  exact ⟨this.zd, this.rb⟩
theorem right_at {l need : List Int} (h : rightB l need 1 = true) (k : Int) (h1 : 1 ≤ k) (h2 : k ≤ 8) : rightB l need k = true := by
  unfold rightB at h ⊢
  simp only [Bool.and_eq_true, decide_eq_true_eq] at h ⊢
  exact ⟨⟨h.1.1, h1⟩, h2⟩
theorem bound_at {l need : List Int} {es : List (Int × Int)} (hz : checkL l es = 0) (h : rightB l need 1 = true) (k : Int) (h1 : 1 ≤ k) (h2 : k ≤ 8) : boundL l es need k = (totL need es + (k - 1) * longL need es) / k := by
  unfold boundL rightR
  rw [hz, right_at h k h1 h2]; rfl
theorem bound_nine {l need : List Int} {es : List (Int × Int)} : boundL l es need 9 = 0 := by
  unfold boundL rightR rightB
  simp
theorem long_le_tot {l need : List Int} {es : List (Int × Int)} (hz : checkL l es = 0) (h : rightB l need 1 = true) : longL need es ≤ totL need es := by
  have hn := check_need hz h
  have h1 : totL need es = need.sum := by unfold totL; rw [if_pos hn]
  have := long_total hn
  omega
theorem bound_steps {l need : List Int} {es : List (Int × Int)} (hz : checkL l es = 0) (h : rightB l need 1 = true) :
    boundL l es need 1 = totL need es ∧ ∀ k : Int, 2 ≤ k → k ≤ 8 → boundL l es need k ≤ boundL l es need (k - 1) ∧ longL need es ≤ boundL l es need k := by
  have hl := long_le_tot hz h
  have hbi := bound_in (check_need hz h)
  refine ⟨by rw [bound_at hz h 1 (by omega) (by omega)]; simp, fun k h1 h2 => ?_⟩
  rw [bound_at hz h k (by omega) h2, bound_at hz h (k - 1) (by omega) (by omega)]
  generalize totL need es = tt at *
  generalize longL need es = tl at *
  obtain rfl | rfl | rfl | rfl | rfl | rfl | rfl : k = 2 ∨ k = 3 ∨ k = 4 ∨ k = 5 ∨ k = 6 ∨ k = 7 ∨ k = 8 := by omega
  all_goals omega
end Go.Proofs.Ytnnbgfjokbaepaa
