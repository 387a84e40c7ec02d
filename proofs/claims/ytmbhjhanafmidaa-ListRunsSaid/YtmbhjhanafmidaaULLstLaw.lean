
/- The law package's small functions, of layer 11, by plain contracts; a crew that is handed in. -/
import Derived.Test.YtmbhjhanafmidaaULLstLP
import Derived.Test.YtmbhjhanafmidaaULLstSim
import Derived.Test.YtmbhjhanafmidaaULMSchC
import Derived.Test.YtmbhjhanafmidaaULMDagB
set_option linter.unusedVariables false
set_option linter.unusedSimpArgs false
set_option maxRecDepth 100000
namespace Go.Proofs.Ytmbhjhanafmidaa
open Go.RowKit Go.Joins Go.Deep
open DagPlain SchPlain LstPlain
open Go.Proofs.YtmbhjhanafmidaaW.PrintWords
open PLl (S85 k85 k85_mk)
end Go.Proofs.Ytmbhjhanafmidaa
