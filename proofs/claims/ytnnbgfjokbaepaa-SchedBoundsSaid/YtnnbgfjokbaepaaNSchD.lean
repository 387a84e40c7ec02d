/- Texts of this work, put into one: SchStep, SchOpen. -/
import Derived.Test.YtnnbgfjokbaepaaNSchC
import Derived.Test.YtnnbgfjokbaepaaMSchB
import Derived.Test.YtnnbgfjokbaepaaMDagB
import Derived.Test.YtnnbgfjokbaepaaMSchA
set_option linter.unusedVariables false
set_option linter.unusedSimpArgs false
namespace Go.Proofs.Ytnnbgfjokbaepaa
open Go.RowKit Go.Sort
open DagPlain SchPlain
theorem right1 {l need : List Int} {es : List (Int × Int)} (h : lookR l es need 1 [] = 0) : checkL l es = 0 ∧ rightB l need 1 = true := by
  have := valid_of h
  exact ⟨this.zd, this.rb⟩
theorem right_at {l need : List Int} (h : rightB l need 1 = true) (k : Int) (h1 : 1 ≤ k) (h2 : k ≤ 8) : rightB l need k = true := by
  unfold rightB at h ⊢
  simp only [Bool.and_eq_true, decide_eq_true_eq] at h ⊢
  exact ⟨⟨h.1.1, h1⟩, h2⟩
theorem bound_at {l need : List Int} {es : List (Int × Int)} (hz : checkL l es = 0) (h : rightB l need 1 = true) (k : Int) (h1 : 1 ≤ k) (h2 : k ≤ 8) : boundL l es need k = (totL need es + (k - 1) * longL need es) / k := by
  unfold boundL rightR
  rw [hz, right_at h k h1 h2]; rfl
theorem bound_nine {l need : List Int} {es : List (Int × Int)} : boundL l es need 9 = 0 := by
  unfold boundL rightR rightB
  simp
theorem long_le_tot {l need : List Int} {es : List (Int × Int)} (hz : checkL l es = 0) (h : rightB l need 1 = true) : longL need es ≤ totL need es := by
  have hn := check_need hz h
  have h1 : totL need es = need.sum := by unfold totL; rw [if_pos hn]
  have := long_total hn
  omega
theorem bound_steps {l need : List Int} {es : List (Int × Int)} (hz : checkL l es = 0) (h : rightB l need 1 = true) :
    boundL l es need 1 = totL need es ∧ ∀ k : Int, 2 ≤ k → k ≤ 8 → boundL l es need k ≤ boundL l es need (k - 1) ∧ longL need es ≤ boundL l es need k := by
  have hl := long_le_tot hz h
  have hbi := bound_in (check_need hz h)
  refine ⟨by rw [bound_at hz h 1 (by omega) (by omega)]; simp, fun k h1 h2 => ?_⟩
  rw [bound_at hz h k (by omega) h2, bound_at hz h (k - 1) (by omega) (by omega)]
  generalize totL need es = tt at *
  generalize longL need es = tl at *
  obtain rfl | rfl | rfl | rfl | rfl | rfl | rfl : k = 2 ∨ k = 3 ∨ k = 4 ∨ k = 5 ∨ k = 6 ∨ k = 7 ∨ k = 8 := by omega
  all_goals omega
end Go.Proofs.Ytnnbgfjokbaepaa

set_option linter.unusedVariables false
set_option maxRecDepth 100000
set_option linter.unusedSimpArgs false
namespace Go.Proofs.Ytnnbgfjokbaepaa
open Go.RowKit Go.Sort Go.Joins Go.Deep Go.ChangeShapes Go.WideShapes
open Go.Proofs.YtnnbgfjokbaepaaW.PrintWords
def NeedIn (w : World) (A : Option Addr) (c : Nat) (l : List Int) : Prop := l.length ≤ c ∧ ReadsInt w .i64 A l.length l ∧ ∀ x ∈ l, I64 x
theorem open_need {H : Type} {enc : TypeId × Value → H} {w : World} {base b0 : Nat} {sp : Nat → Bool} {held : Bool} {v : Value} {d : DataW H} {p : List MemPlace} (hv : Value.okWide Try.prog w .any b0 22 v) (h : DataW.Trod enc Try.prog w base sp held 22 v d p) :
    ∃ A c l, v = .slice A l.length c ∧ NeedIn w A c l := by
  obtain ⟨a, len, cap, rfl⟩ := okWide_slice Try.underlying22 hv
  obtain ⟨m, hm⟩ := h
  obtain ⟨A, c, l, e, h1, h2, h3⟩ := trod_ints (v := .slice a len cap) hm
  exact ⟨A, c, l, e, h1, h2, h3⟩
def TrIn (w : World) (T : Option Addr) (c : Nat) (ts : List (List Int)) : Prop := ts.length ≤ c ∧ ts.length ≤ maxLen ∧ TrR w T ts ∧ (T = none → c = 0)
theorem cellsInts : Try.prog.cellsOf 22 = 1 := by kernel_rfl
theorem open_trace {H : Type} {enc : TypeId × Value → H} {w : World} {base b0 : Nat} {sp : Nat → Bool} {held : Bool} {v : Value} {d : DataW H} {p : List MemPlace} (hv : Value.okWide Try.prog w .any b0 27 v) (h : DataW.Trod enc Try.prog w base sp held 27 v d p) :
    ∃ T c ts, v = .slice T ts.length c ∧ TrIn w T c ts := by
  obtain ⟨a, len, cap, rfl⟩ := okWide_slice Try.underlying27 hv
  obtain ⟨m, hm⟩ := h
  rcases open_slice1 Try.underlying27 cellsInts (cs := [.slice a len cap]) hm with ⟨hcs, _⟩ | ⟨x, n, cap', k, q, V, Dd, Pl, hcs, _, hl, hm2, hmm, _, hx⟩
  · have e : Value.slice a len cap = .slice none 0 0 := by simpa using hcs
    exact ⟨none, 0, [], e, Nat.le_refl _, by simp, fun h => absurd h (by simp), fun _ => rfl⟩
  · have e : Value.slice a len cap = .slice (some x) n cap' := by simpa using hcs
    have hlm : n ≤ k := by rw [hmm]; split <;> omega
    have hval : ∀ i, i < n → ∃ r : List Int, ∃ A c, V i = .slice A r.length c ∧ r.length ≤ c ∧ ReadsInt w .i64 A r.length r := by
      intro i hi
      obtain ⟨_, h1⟩ := hx i (by omega)
      obtain ⟨A, c, r, e1, h2, h3, _⟩ := trod_ints h1
      exact ⟨r, A, c, e1, h2, h3⟩
    obtain ⟨f, hf⟩ := choose_lt hval
    refine ⟨some x, cap', (List.range n).map f, by rw [e]; simp, by simpa using hl, by simp; omega, fun _ => ⟨x, rfl, fun i hi => ?_⟩, fun h => by cases h⟩
    have hi' : i < n := by simpa using hi
    have hg : ((List.range n).map f).getD i [] = f i := by simp [List.getD_eq_getElem?_getD, hi']
    obtain ⟨A, c, h1, h2, h3⟩ := hf i hi'
    rw [hg]
    exact ⟨A, c, by rw [(hx i (by omega)).1, h1], h2, h3⟩
end Go.Proofs.Ytnnbgfjokbaepaa
