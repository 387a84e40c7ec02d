
/- Layer 11: what a run makes is a schedule of layer 10: it may be, and no core is idle needlessly. Plain facts. -/
import Derived.Test.YtmbhjhanafmidaaUSMLstB
import Derived.Test.YtmbhjhanafmidaaUSMSchC
import Derived.Test.YtmbhjhanafmidaaUSMSchC
set_option linter.unusedVariables false
set_option linter.unusedSimpArgs false
namespace LstPlain
open DagPlain SchPlain Go.Proofs.Ytmbhjhanafmidaa
section
variable {l : List Int} {es : List (Int × Int)} {cores : Nat} {need : List Int}
variable {N : Nat} {g : Nat} (hri : RI l es N (List.replicate N (-1), need)) (hl : need.length = l.length) (hin : ∀ e ∈ es, 0 ≤ e.1 ∧ e.1 < need.length) (hpos : ∀ n : Nat, n < need.length → 1 ≤ need.getD n 0)
include hri hl hin hpos
end
end LstPlain
