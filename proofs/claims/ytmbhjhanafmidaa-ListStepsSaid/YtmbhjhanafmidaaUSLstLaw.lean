
/- The law package's small functions, of layer 11, by plain contracts; a crew that is handed in. -/
import Derived.Test.YtmbhjhanafmidaaUSLstLP
import Derived.Test.YtmbhjhanafmidaaUSLstSim
import Derived.Test.YtmbhjhanafmidaaUSMSchC
import Derived.Test.YtmbhjhanafmidaaUSMDagB
set_option linter.unusedVariables false
set_option linter.unusedSimpArgs false
set_option maxRecDepth 100000
namespace Go.Proofs.Ytmbhjhanafmidaa
open Go.RowKit Go.Joins Go.Deep
open DagPlain SchPlain LstPlain
open Go.Proofs.YtmbhjhanafmidaaW.PrintWords
open PLl (S85 k85 k85_mk)
theorem cellsCrew : Try.prog.cellsOf 27 = 2 := by kernel_rfl
def CrewIn (w : World) (O : Option Addr) (oc : Nat) (on : List Int) (L : Option Addr) (lc : Nat) (left : List Int) : Prop := NeedIn w O oc on ∧ NeedIn w L lc left
theorem open_crew {H : Type} {enc : TypeId × Value → H} {w : World} {base b0 : Nat} {sp : Nat → Bool} {held : Bool} {v : Value} {d : DataW H} {p : List MemPlace} (hv : Value.okWide Try.prog w .any b0 27 v) (h : DataW.Trod enc Try.prog w base sp held 27 v d p) :
  ∃ O oc on L lc left, v = .agg #[.slice O on.length oc, .slice L left.length lc] ∧ CrewIn w O oc on L lc left := by
 obtain ⟨c0, c1, y0, y1, m, rfl, _, _, hy0, hy1⟩ := open_agg2 Try.underlying27 (by kernel_rfl) cellsCrew hv h
 obtain ⟨O, oc, on, rfl, h1, h2, h3⟩ := trod_ints hy0
 obtain ⟨L, lc, left, rfl, h4, h5, h6⟩ := trod_ints hy1
 exact ⟨O, oc, on, L, lc, left, rfl, ⟨h1, h2, h3⟩, h4, h5, h6⟩
end Go.Proofs.Ytmbhjhanafmidaa
