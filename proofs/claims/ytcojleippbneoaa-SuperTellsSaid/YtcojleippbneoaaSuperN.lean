/- Contracts of the reference's ConfigMay and SuperMay. -/
import Derived.Test.YtcojleippbneoaaSuperM
set_option linter.unusedVariables false
namespace Go.Proofs.Ytcojleippbneoaa
open Go Go.RowKit Go.Kn

set_option maxRecDepth 100000 in
set_option maxHeartbeats 1000000 in
theorem ref_config_may_any (b s l : Int) (w : World) :
    Calls Try.prog 90 #[.agg #[.int .i64 b, .int .i64 s, .int .i64 l]] w fun e w' => e = .returned (.bool (confMay b s l)) ∧ Only [] w w' := by
  go_enter Try.func90, Try.ntmps90
  go_wp2_with (first | (go_at_call 75; refine (within_any _ _ _ _).mono ?_; rintro e w' ⟨rfl, rfl⟩))
  all_goals (go_ret; exact ⟨by simp [confMay, *], (Only.refl _ _).alloc _⟩)

set_option maxRecDepth 100000 in
set_option maxHeartbeats 1000000 in
theorem ref_super_may_any (b s l i m : Int) (w : World) :
    Calls Try.prog 70 #[.agg #[.int .i64 b, .int .i64 s, .int .i64 l, .int .i64 i, .int .i64 m]] w fun e w' => e = .returned (.bool (superMay ⟨b, s, l, i, m⟩)) ∧ Only [] w w' := by
  have hsm : superMay ⟨b, s, l, i, m⟩ = (confMay b s l && decide (0 ≤ i ∧ i ≤ 2147483647) && decide (1 ≤ m ∧ m ≤ 2147483647)) := rfl
  have HSM := Lib.hid hsm
  clear hsm
  generalize hcc : confMay b s l = cc at *
  have HCC := Lib.hid hcc
  clear hcc
  go_enter Try.func70, Try.ntmps70
  go_wp2_with fail
  refine (ref_config_may_any b s l _).mono ?_
  rintro e w1 ⟨rfl, hO1⟩
  rw [HCC.out]
  have x3 := hO1.cell (p := ⟨w.heap.size, 3, none⟩) (v := .int .i64 i) (by simp) (by simp)
  have x4 := hO1.cell (p := ⟨w.heap.size, 4, none⟩) (v := .int .i64 m) (by simp) (by simp)
  have HO1 := Lib.hid (((Only.refl [] w).alloc (.cells #[.int .i64 b, .int .i64 s, .int .i64 l, .int .i64 i, .int .i64 m] 100)).trans' hO1)
  clear hO1
  cases cc
  · go_wp2
    go_ret
    exact ⟨by rw [HSM.out]; rfl, HO1.out⟩
  · go_wp2_with (first | (go_at_call 75; refine (within_any _ _ _ _).mono ?_; rintro e w' ⟨rfl, rfl⟩))
    all_goals (go_ret; exact ⟨by rw [HSM.out]; simp [*], HO1.out⟩)
end Go.Proofs.Ytcojleippbneoaa
