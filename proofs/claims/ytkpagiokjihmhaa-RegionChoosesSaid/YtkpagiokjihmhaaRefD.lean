
/- The reference's begun and starts. -/
import Derived.Test.YtkpagiokjihmhaaSeal
import Derived.Test.YtkpagiokjihmhaaRefC
set_option linter.unusedVariables false
namespace Go.Kn
open Go Go.RowKit
theorem u8_ne {a b : UInt8} (h : a ≠ b) : ((a.toNat : Int) == (b.toNat : Int)) = false := by
  rw [beq_eq_false_iff_ne]
  intro e
  exact h (UInt8.toNat_inj.1 (by omega))
theorem fit_cons {n : Nat} {z : Int} {zs : List Int} : Fit n (z :: zs) ↔ (0 ≤ z ∧ z < 256 ^ n) ∧ Fit n zs := by simp [Fit]
theorem fit_nil {n : Nat} : Fit n [] ↔ True := by simp [Fit]
end Go.Kn
namespace Go.Proofs.Ytkpagiokjihmhaa
open Go Go.RowKit Go.Kn

end Go.Proofs.Ytkpagiokjihmhaa
