/- A frame that may be, of six numbers. Plain, no program in sight. -/
import Derived.Test.YtjmbhknokobnpaaWireP
import Derived.Test.YtjmbhknokobnpaaFill
set_option linter.unusedVariables false
namespace Go.Kn
open Go Go.RowKit
def madeFr (a b c d e f : Int) : Fr :=
  if a % 5 = 0 then ⟨1, 1 + b % 2147483647, 1 + c % 2147483647, d % 64, 0, 0, 0, fillB e⟩
  else if a % 5 = 1 then ⟨2, 1 + b % 2147483647, 1 + c % 2147483647, d % 64, 1 + e % (64 - d % 64), 0, 0, []⟩
  else if a % 5 = 2 then ⟨3, 1 + b % 2147483647, 1 + c % 2147483647, 0, 0, 1 + f % 2147483647, 0, []⟩
  else if a % 5 = 3 then ⟨8, 1 + b % 2147483647, 1 + c % 2147483647, 0, 0, f % 2147483648, e % (1 + c % 2147483647 + 1), []⟩
  else ⟨9, 1 + b % 2147483647, 0, 0, 0, 0, 0, []⟩
theorem fillB_length (x : Int) : (fillB x).length = 64 := by simp [fillB]
theorem madeFr_may (a b c d e f : Int) : frMay (madeFr a b c d e f) = true := by
  have h1 : 0 ≤ b % 2147483647 ∧ b % 2147483647 < 2147483647 := by omega
  have h2 : 0 ≤ c % 2147483647 ∧ c % 2147483647 < 2147483647 := by omega
  have h3 : 0 ≤ d % 64 ∧ d % 64 < 64 := by omega
  have h4 : 0 ≤ e % (64 - d % 64) ∧ e % (64 - d % 64) < 64 - d % 64 := ⟨Int.emod_nonneg _ (by omega), Int.emod_lt_of_pos _ (by omega)⟩
  have h5 : 0 ≤ f % 2147483647 ∧ f % 2147483647 < 2147483647 := by omega
  have h6 : 0 ≤ f % 2147483648 ∧ f % 2147483648 < 2147483648 := by omega
  have h7 : 0 ≤ e % (1 + c % 2147483647 + 1) ∧ e % (1 + c % 2147483647 + 1) < 1 + c % 2147483647 + 1 := ⟨Int.emod_nonneg _ (by omega), Int.emod_lt_of_pos _ (by omega)⟩
  unfold madeFr
  generalize e % (1 + c % 2147483647 + 1) = e2 at *
  generalize e % (64 - d % 64) = e1 at *
  generalize b % 2147483647 = b1 at *
  generalize c % 2147483647 = c1 at *
  generalize d % 64 = d1 at *
  generalize f % 2147483647 = f1 at *
  generalize f % 2147483648 = f2 at *
  have g1 : decide (1 ≤ 1 + b1 ∧ 1 + b1 ≤ 2147483647) = true := decide_eq_true (by omega)
  have g2 : decide (1 ≤ 1 + c1 ∧ 1 + c1 ≤ 2147483647) = true := decide_eq_true (by omega)
  have g2' : decide (0 ≤ 1 + c1 ∧ 1 + c1 ≤ 2147483647) = true := decide_eq_true (by omega)
  have g3 : decide (0 ≤ d1 ∧ d1 ≤ 63) = true := decide_eq_true (by omega)
  have g4 : decide (1 ≤ 1 + e1 ∧ 1 + e1 ≤ 64 - d1) = true := decide_eq_true (by omega)
  have g5 : decide (1 ≤ 1 + f1 ∧ 1 + f1 ≤ 2147483647) = true := decide_eq_true (by omega)
  have g6 : decide (0 ≤ f2 ∧ f2 ≤ 2147483647) = true := decide_eq_true (by omega)
  have g7 : decide (0 ≤ e2 ∧ e2 ≤ 1 + c1) = true := decide_eq_true (by omega)
  have g8 : decide ((fillB e).length = 64) = true := decide_eq_true (fillB_length e)
  split
  · show (decide (1 ≤ 1 + b1 ∧ 1 + b1 ≤ 2147483647) && (decide (1 ≤ 1 + c1 ∧ 1 + c1 ≤ 2147483647) && decide (0 ≤ d1 ∧ d1 ≤ 63) && true && true && true && decide ((fillB e).length = 64))) = true
    rw [g1, g2, g3, g8]
    rfl
  · split
    · show (decide (1 ≤ 1 + b1 ∧ 1 + b1 ≤ 2147483647) && (decide (1 ≤ 1 + c1 ∧ 1 + c1 ≤ 2147483647) && decide (0 ≤ d1 ∧ d1 ≤ 63) && decide (1 ≤ 1 + e1 ∧ 1 + e1 ≤ 64 - d1) && true && true && true)) = true
      rw [g1, g2, g3, g4]
      rfl
    · split
      · show (decide (1 ≤ 1 + b1 ∧ 1 + b1 ≤ 2147483647) && (decide (1 ≤ 1 + c1 ∧ 1 + c1 ≤ 2147483647) && true && true && decide (1 ≤ 1 + f1 ∧ 1 + f1 ≤ 2147483647) && true && true)) = true
        rw [g1, g2, g5]
        rfl
      · split
        · show (decide (1 ≤ 1 + b1 ∧ 1 + b1 ≤ 2147483647) && (decide (0 ≤ 1 + c1 ∧ 1 + c1 ≤ 2147483647) && true && true && decide (0 ≤ f2 ∧ f2 ≤ 2147483647) && decide (0 ≤ e2 ∧ e2 ≤ 1 + c1) && true)) = true
          rw [g1, g2', g6, g7]
          rfl
        · show (decide (1 ≤ 1 + b1 ∧ 1 + b1 ≤ 2147483647) && true) = true
          rw [g1]
          rfl
end Go.Kn
