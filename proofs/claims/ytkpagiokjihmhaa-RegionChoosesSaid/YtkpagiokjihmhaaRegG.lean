
/- Contract of the reference's RegionBytes. Printed by mkregenc3.py. -/
import Derived.Test.YtkpagiokjihmhaaRegF
import Derived.Deep.RegionWith
set_option linter.unusedVariables false
set_option linter.unusedSimpArgs false
namespace Go.Proofs.Ytkpagiokjihmhaa
open Go Go.RowKit Go.Kn

end Go.Proofs.Ytkpagiokjihmhaa
