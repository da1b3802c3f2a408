
/- Contract of the reference's RegionChoose. Printed by mkregn.py. -/
import Derived.Test.YtkpagiokjihmhaaRegM
set_option linter.unusedVariables false
set_option linter.unusedSimpArgs false
namespace Go.Proofs.Ytkpagiokjihmhaa
open Go Go.RowKit Go.Kn

end Go.Proofs.Ytkpagiokjihmhaa
