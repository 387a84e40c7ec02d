/- Texts of this work, put into one: SchOpen. -/
import Derived.Test.YtnnbgfjokbaepaaMDagB
import Derived.Test.YtnnbgfjokbaepaaMSchA
set_option linter.unusedVariables false
set_option maxRecDepth 100000
set_option linter.unusedSimpArgs false
namespace Go.Proofs.Ytnnbgfjokbaepaa
open Go.RowKit Go.Sort Go.Joins Go.Deep Go.ChangeShapes Go.WideShapes
open Go.Proofs.YtnnbgfjokbaepaaW.PrintWords
def NeedIn (w : World) (A : Option Addr) (c : Nat) (l : List Int) : Prop := l.length ≤ c ∧ ReadsInt w .i64 A l.length l ∧ ∀ x ∈ l, I64 x
theorem open_need {H : Type} {enc : TypeId × Value → H} {w : World} {base b0 : Nat} {sp : Nat → Bool} {held : Bool} {v : Value} {d : DataW H} {p : List MemPlace} (hv : Value.okWide Try.prog w .any b0 22 v) (h : DataW.Trod enc Try.prog w base sp held 22 v d p) :
    ∃ A c l, v = .slice A l.length c ∧ NeedIn w A c l := by
  obtain ⟨a, len, cap, rfl⟩ := okWide_slice Try.underlying22 hv
  obtain ⟨m, hm⟩ := h
  obtain ⟨A, c, l, e, h1, h2, h3⟩ := trod_ints (v := .slice a len cap) hm
  exact ⟨A, c, l, e, h1, h2, h3⟩
def TrIn (w : World) (T : Option Addr) (c : Nat) (ts : List (List Int)) : Prop := ts.length ≤ c ∧ ts.length ≤ maxLen ∧ TrR w T ts ∧ (T = none → c = 0)
theorem cellsInts : Try.prog.cellsOf 22 = 1 := by kernel_rfl
theorem open_trace {H : Type} {enc : TypeId × Value → H} {w : World} {base b0 : Nat} {sp : Nat → Bool} {held : Bool} {v : Value} {d : DataW H} {p : List MemPlace} (hv : Value.okWide Try.prog w .any b0 27 v) (h : DataW.Trod enc Try.prog w base sp held 27 v d p) :
    ∃ T c ts, v = .slice T ts.length c ∧ TrIn w T c ts := by
  obtain ⟨a, len, cap, rfl⟩ := okWide_slice Try.underlying27 hv
  obtain ⟨m, hm⟩ := h
  rcases open_slice1 Try.underlying27 cellsInts (cs := [.slice a len cap]) hm with ⟨hcs, _⟩ | ⟨x, n, cap', k, q, V, Dd, Pl, hcs, _, hl, hm2, hmm, _, hx⟩
  · have e : Value.slice a len cap = .slice none 0 0 := by simpa using hcs
    exact ⟨none, 0, [], e, Nat.le_refl _, by simp, fun h => absurd h (by simp), fun _ => rfl⟩
  · have e : Value.slice a len cap = .slice (some x) n cap' := by simpa using hcs
    have hlm : n ≤ k := by rw [hmm]; split <;> omega
    have hval : ∀ i, i < n → ∃ r : List Int, ∃ A c, V i = .slice A r.length c ∧ r.length ≤ c ∧ ReadsInt w .i64 A r.length r := by
      intro i hi
      obtain ⟨_, h1⟩ := hx i (by omega)
      obtain ⟨A, c, r, e1, h2, h3, _⟩ := trod_ints h1
      exact ⟨r, A, c, e1, h2, h3⟩
    obtain ⟨f, hf⟩ := choose_lt hval
    refine ⟨some x, cap', (List.range n).map f, by rw [e]; simp, by simpa using hl, by simp; omega, fun _ => ⟨x, rfl, fun i hi => ?_⟩, fun h => by cases h⟩
    have hi' : i < n := by simpa using hi
    have hg : ((List.range n).map f).getD i [] = f i := by simp [List.getD_eq_getElem?_getD, hi']
    obtain ⟨A, c, h1, h2, h3⟩ := hf i hi'
    rw [hg]
    exact ⟨A, c, by rw [(hx i (by omega)).1, h1], h2, h3⟩
end Go.Proofs.Ytnnbgfjokbaepaa
