
/- Contracts of the small functions without memory: Within, Mod, Round, wide, most. -/
import Derived.Test.YtkpagiokjihmhaaChecked
import Derived.Test.YtkpagiokjihmhaaMem
import Derived.WalkLawsBesides
import Derived.WalkSpells
import Derived.Outline
import Derived.IntWalk
namespace Go.Proofs.Ytkpagiokjihmhaa
open Go Go.RowKit Go.Kn

theorem within_any (n lo hi : Int) (w : World) : Calls Try.prog 60 #[.int .i64 n, .int .i64 lo, .int .i64 hi] w fun e w' => e = .returned (.bool (decide (lo ≤ n ∧ n ≤ hi))) ∧ w = w' := by
  go_enter Try.func60, Try.ntmps60
  by_cases h1 : lo ≤ n <;> by_cases h2 : n ≤ hi <;>
  (go_wp2
   go_ret
   exact ⟨by simp [*], rfl⟩)

theorem wide_any (n : Int) (w : World) : Calls Try.prog 97 #[.int .i64 n] w fun e w' => e = .returned (.bool (decide (n = 1 ∨ n = 2 ∨ n = 4))) ∧ w = w' := by
  by_cases h1 : n = 1
  · subst h1
    go_enter Try.func97, Try.ntmps97
    go_wp2
    go_ret
    exact ⟨by simp, rfl⟩
  by_cases h2 : n = 2
  · subst h2
    go_enter Try.func97, Try.ntmps97
    go_wp2
    go_ret
    exact ⟨by simp, rfl⟩
  by_cases h4 : n = 4
  · subst h4
    go_enter Try.func97, Try.ntmps97
    go_wp2
    go_ret
    exact ⟨by simp, rfl⟩
  have h1' : (n == 1) = false := by simpa using h1
  have h2' : (n == 2) = false := by simpa using h2
  have h4' : (n == 4) = false := by simpa using h4
  go_enter Try.func97, Try.ntmps97
  go_wp2
  go_ret
  exact ⟨by simp [h1, h2, h4], rfl⟩

/-- the greatest number of so many bytes; -1 -/
def mostF (n : Int) : Int := if n = 1 then 255 else if n = 2 then 65535 else if n = 4 then 4294967295 else -1
theorem most_any (n : Int) (w : World) : Calls Try.prog 100 #[.int .i64 n] w fun e w' => e = .returned (.int .i64 (mostF n)) ∧ w = w' := by
  by_cases h1 : n = 1
  · subst h1
    go_enter Try.func100, Try.ntmps100
    go_wp2
    go_ret
    exact ⟨by simp [mostF], rfl⟩
  by_cases h2 : n = 2
  · subst h2
    go_enter Try.func100, Try.ntmps100
    go_wp2
    go_ret
    exact ⟨by simp [mostF], rfl⟩
  by_cases h4 : n = 4
  · subst h4
    go_enter Try.func100, Try.ntmps100
    go_wp2
    go_ret
    exact ⟨by simp [mostF], rfl⟩
  have h1' : (n == 1) = false := by simpa using h1
  have h2' : (n == 2) = false := by simpa using h2
  have h4' : (n == 4) = false := by simpa using h4
  go_enter Try.func100, Try.ntmps100
  go_wp2
  go_ret
  exact ⟨by simp [mostF, h1, h2, h4], rfl⟩

theorem mod_any (n m : Int) (w : World) (hn : (Lit.int .i64 n).wf = true) (hm : 0 < m) (hm2 : m ≤ 4611686018427387904) :
    Calls Try.prog 81 #[.int .i64 n, .int .i64 m] w fun e w' => e = .returned (.int .i64 (n % m)) ∧ w = w' := by
  have hx : -9223372036854775808 ≤ n ∧ n ≤ 9223372036854775807 := by simpa [Lit.wf, IntKind.min, IntKind.max, IntKind.signed, IntKind.bits] using hn
  have hz : (m == 0) = false := by simp; omega
  have hb := Int.tmod_lt_of_pos n hm
  have hb2 : -m < n.tmod m := by
    have h1 := Int.tmod_lt_of_pos (-n) hm
    rw [Int.neg_tmod] at h1
    omega
  have e1 : 0 ≤ n.tmod m → n.tmod m = n % m := fun h => by
    have h2 := Int.emod_nonneg n (show m ≠ 0 by omega)
    have h3 := Int.emod_lt_of_pos n hm
    have h4 := Int.emod_emod_of_dvd n (Int.dvd_refl m)
    have h5 : (n.tmod m) % m = n % m := by
      have := Int.tmod_add_mul_tdiv n m
      rw [← this, Int.add_mul_emod_self_left]
      rw [this]
    rw [← h5, Int.emod_eq_of_lt h hb]
  have e2 : n.tmod m < 0 → n.tmod m + m = n % m := fun h => by
    have h5 : (n.tmod m + m) % m = n % m := by
      have := Int.tmod_add_mul_tdiv n m
      rw [Int.add_emod_right, ← this, Int.add_mul_emod_self_left]
      rw [this]
    rw [← h5, Int.emod_eq_of_lt (by omega) (by omega)]
  have E1 := Lib.hid e1
  have E2 := Lib.hid e2
  clear e1 e2
  go_enter Try.func81, Try.ntmps81
  go_wp2
  · have h : n.tmod m < 0 := by assumption
    go_ret
    exact ⟨by rw [E2.out h]; rfl, rfl⟩
  · have h : 0 ≤ n.tmod m := by assumption
    go_ret
    exact ⟨by rw [E1.out h]; rfl, rfl⟩

theorem round_any (n m : Int) (w : World) (hn : (Lit.int .i64 n).wf = true) (hm : 0 < m) (hm2 : m ≤ 4611686018427387904) :
    Calls Try.prog 26 #[.int .i64 n, .int .i64 m] w fun e w' => e = .returned (.int .i64 (n % m)) ∧ w = w' := by
  go_enter Try.func26, Try.ntmps26
  go_wp2_with (go_at_call 81; refine (mod_any _ _ _ hn hm hm2).mono ?_; rintro e w' ⟨rfl, rfl⟩)
  go_ret
  exact ⟨rfl, rfl⟩
end Go.Proofs.Ytkpagiokjihmhaa
