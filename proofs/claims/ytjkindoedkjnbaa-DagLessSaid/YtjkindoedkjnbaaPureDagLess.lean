/- DagLess, walked whole. -/
import Derived.Test.YtjkindoedkjnbaaDagLessC
set_option linter.unusedVariables false
set_option linter.unusedSimpArgs false
namespace Go.Proofs.Ytjkindoedkjnbaa.PDagLess
open Go.RowKit Go.Proofs.YtjkindoedkjnbaaW.PrintWords
open Go.Proofs.Ytjkindoedkjnbaa DagPlain
theorem walk (A0 : Option Addr) (c0 : Nat) (l0 : List Int) (B0 : Option Addr) (d0 : Nat) (es0 : List (Int × Int)) (x1 : Int) (w : World) (h0 : DagIn w A0 c0 l0 B0 d0 es0) (h1 : (Lit.int .i64 x1).wf = true) :
    Calls Try.prog 9 #[.agg #[.slice A0 l0.length c0, .slice B0 es0.length d0], .int .i64 x1] w fun e w' => e = .returned (.bool true) ∧ Below w.heap.size w w' := by
  by_cases hf : l0.length ≤ 70 ∧ es0.length ≤ 300
  · by_cases hz : checkL l0 es0 = 0
    · by_cases hx : x1 < 0
      · exact lessw_check A0 c0 l0 B0 d0 es0 x1 w (gr_in h0) hf (.inr (.inl ⟨hz, hx⟩))
      · by_cases hy : es0.length ≤ x1
        · exact lessw_check A0 c0 l0 B0 d0 es0 x1 w (gr_in h0) hf (.inr (.inr ⟨hz, by omega, hy⟩))
        · obtain ⟨k, rfl⟩ : ∃ k : Nat, x1 = (k : Int) := ⟨x1.toNat, by omega⟩
          exact lessw_main A0 c0 l0 B0 d0 es0 k w (gr_in h0) hf hz (by omega)
    · exact lessw_check A0 c0 l0 B0 d0 es0 x1 w (gr_in h0) hf (.inl (by simpa using hz))
  · exact lessw_few A0 c0 l0 B0 d0 es0 x1 w hf
end Go.Proofs.Ytjkindoedkjnbaa.PDagLess
