
/- Contract of the reference's RegionMay. Printed by mkrefmay.py. -/
import Derived.Test.YtkpagiokjihmhaaRegB
import Derived.BigQuiet
set_option linter.unusedVariables false
set_option linter.unusedSimpArgs false
namespace Go.Kn
open Go Go.RowKit
theorem bool6 (b1 b2 b3 b4 b5 b6 : Bool) : (b1 = false ∨ (b1 = true ∧ b2 = false) ∨ (b1 = true ∧ b2 = true ∧ b3 = false) ∨ (b1 = true ∧ b2 = true ∧ b3 = true ∧ b4 = false) ∨ (b1 = true ∧ b2 = true ∧ b3 = true ∧ b4 = true ∧ b5 = false) ∨ (b1 = true ∧ b2 = true ∧ b3 = true ∧ b4 = true ∧ b5 = true ∧ b6 = false)) ∨ (b1 = true ∧ b2 = true ∧ b3 = true ∧ b4 = true ∧ b5 = true ∧ b6 = true) := by
  cases b1 <;> cases b2 <;> cases b3 <;> cases b4 <;> cases b5 <;> cases b6 <;> simp
end Go.Kn
namespace Go.Proofs.Ytkpagiokjihmhaa
open Go Go.RowKit Go.Kn

end Go.Proofs.Ytkpagiokjihmhaa
