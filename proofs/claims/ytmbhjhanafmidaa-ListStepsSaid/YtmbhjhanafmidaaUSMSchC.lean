/- Texts of this work, put into one. -/
import Derived.Test.YtmbhjhanafmidaaUSMSchA
import Derived.Test.YtmbhjhanafmidaaUSMSchB
import Derived.Test.YtmbhjhanafmidaaUSMDagB
set_option linter.unusedVariables false
set_option linter.unusedSimpArgs false
namespace SchPlain
open DagPlain
theorem take_mem_next {row : List Int} {c : Nat} (hc : c < row.length) (x : Int) : x ∈ row.take (c + 1) ↔ x ∈ row.take c ∨ row.getD c 0 = x := by
 rw [List.take_add_one, List.getD_eq_getElem?_getD, List.getElem?_eq_getElem hc]
 simp only [Option.toList_some, List.mem_append, List.mem_singleton, Option.getD_some]
 exact ⟨fun h => h.imp id Eq.symm, fun h => h.imp id Eq.symm⟩
theorem mem_getD_row {row : List Int} {n : Int} (h : n ∈ row) : ∃ c, c < row.length ∧ row.getD c 0 = n := by
 obtain ⟨c, hc, e⟩ := List.getElem_of_mem h
 exact ⟨c, hc, by rw [List.getD_eq_getElem?_getD, List.getElem?_eq_getElem hc]; exact e⟩
theorem getD_row_mem {row : List Int} {n : Int} {c : Nat} (hc : c < row.length) (h : row.getD c 0 = n) : n ∈ row := by
 rw [← h, List.getD_eq_getElem?_getD, List.getElem?_eq_getElem hc]
 exact List.getElem_mem hc
end SchPlain

set_option linter.unusedVariables false
set_option linter.unusedSimpArgs false
namespace Go.Proofs.Ytmbhjhanafmidaa
open DagPlain SchPlain
theorem sum_set (F : List Int) (i : Nat) (x : Int) (h : i < F.length) : (F.set i x).sum = F.sum + (x - F.getD i 0) := by
 induction F generalizing i with
 | nil => simp at h
 | cons a F ih =>
  cases i with
  | zero => simp only [List.set_cons_zero, List.sum_cons, List.getD_cons_zero]; omega
  | succ i => simp only [List.set_cons_succ, List.sum_cons, List.getD_cons_succ]; have := ih i (by simpa using h); omega
structure Valid (l : List Int) (es : List (Int × Int)) (need : List Int) (cores : Int) (ts : List (List Int)) : Prop where
 zd : checkL l es = 0
 rb : rightB l need cores = true
 len : ts.length ≤ 4096
 rows : ∀ r ∈ ts, (r.length : Int) = cores
 ok : ∀ j, j < ts.length → rowErr es need ts j = 0
theorem valid_of {l : List Int} {es : List (Int × Int)} {need : List Int} {cores : Int} {ts : List (List Int)} (h : lookR l es need cores ts = 0) : Valid l es need cores ts := by
 unfold lookR at h
 by_cases hz : checkL l es = 0
 ·rw [if_neg (by rw [hz]; simp)] at h
  by_cases hf : formB l need cores ts = false
  ·rw [if_pos hf] at h; cases h
  ·rw [if_neg hf] at h
   have hf2 : formB l need cores ts = true := by simpa using hf
   rw [form_longB] at hf2
   simp only [Bool.and_eq_true, decide_eq_true_eq, Bool.not_eq_true'] at hf2
   exact ⟨hz, hf2.1.1, hf2.1.2, rows_len hf2.2, lookE_zero h⟩
 ·rw [if_pos hz] at h
  exact absurd h hz
section
variable {l : List Int} {es : List (Int × Int)} {need : List Int} {cores : Int} {ts : List (List Int)}
end
end Go.Proofs.Ytmbhjhanafmidaa

set_option linter.unusedVariables false
set_option linter.unusedSimpArgs false
namespace Go.Proofs.Ytmbhjhanafmidaa
open Go.RowKit Go.Sort
open DagPlain SchPlain
open Go.Proofs.YtmbhjhanafmidaaW.PrintWords
section
variable {l : List Int} {es : List (Int × Int)} {need : List Int} {cores : Int} {ts : List (List Int)}
end
end Go.Proofs.Ytmbhjhanafmidaa

set_option linter.unusedVariables false
set_option linter.unusedSimpArgs false
namespace Go.Proofs.Ytmbhjhanafmidaa
open DagPlain SchPlain
section
variable {l : List Int} {es : List (Int × Int)} {need : List Int} {cores : Int} {ts : List (List Int)}
end
end Go.Proofs.Ytmbhjhanafmidaa

set_option linter.unusedVariables false
set_option linter.unusedSimpArgs false
namespace Go.Proofs.Ytmbhjhanafmidaa
open Go.RowKit Go.Sort
open DagPlain SchPlain
end Go.Proofs.Ytmbhjhanafmidaa

set_option linter.unusedVariables false
set_option maxRecDepth 100000
set_option linter.unusedSimpArgs false
namespace Go.Proofs.Ytmbhjhanafmidaa
open Go.RowKit Go.Sort Go.Joins Go.Deep Go.ChangeShapes Go.WideShapes
open Go.Proofs.YtmbhjhanafmidaaW.PrintWords
def NeedIn (w : World) (A : Option Addr) (c : Nat) (l : List Int) : Prop := l.length ≤ c ∧ ReadsInt w .i64 A l.length l ∧ ∀ x ∈ l, I64 x
end Go.Proofs.Ytmbhjhanafmidaa
