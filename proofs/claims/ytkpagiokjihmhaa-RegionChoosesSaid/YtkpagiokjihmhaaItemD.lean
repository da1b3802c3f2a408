
/- item.Decode of any bytes; the likeness of items. -/
import Derived.Test.YtkpagiokjihmhaaItemC
set_option linter.unusedVariables false
namespace Go.Kn
open Go Go.RowKit
instance : DecidableEq It := fun a b => by
  obtain ⟨a1, a2, a3, a4⟩ := a
  obtain ⟨b1, b2, b3, b4⟩ := b
  exact decidable_of_iff (a1 = b1 ∧ a2 = b2 ∧ a3 = b3 ∧ a4 = b4) (by simp)
end Go.Kn
namespace Go.Proofs.Ytkpagiokjihmhaa
open Go Go.RowKit Go.Kn

@[go_sem] theorem eq_item (a b c d e f g h : Int) (w : World) : (Op.equalIn 10000 77 (.agg #[.int .i64 a, .int .i64 b, .int .i64 c, .int .i64 d]) (.agg #[.int .i64 e, .int .i64 f, .int .i64 g, .int .i64 h])).run Try.prog w = .ok (a == e && b == f && c == g && d == h) w := by
  have u3 := Try.underlying3
  have a3 := Try.isAgg3
  have z3 := Try.sizeOf3
  have hS : Try.prog.underlying 77 = some (.struct (Try.prog.fieldsOf 77)) := by kernel_rfl
  rw [show (10000 : Nat) = 9999 + 1 from rfl, run_equalIn_agg w 9999 77 _ _ hS Try.stoodInHeld77]
  simp only [Program.fieldsOf, Try.underlying77]
  go_simp
  by_cases h1 : a = e <;> by_cases h2 : b = f <;> by_cases h3 : c = g <;> by_cases h4 : d = h <;> simp [h1, h2, h3, h4]

end Go.Proofs.Ytkpagiokjihmhaa
