
/- Contracts of package item and the reference's items: May, Loaded. -/
import Derived.Test.YtkpagiokjihmhaaLeaf
set_option linter.unusedVariables false
namespace Go.Kn
/-- an item's numbers -/
structure It where
  k : Int
  b : Int
  c : Int
  v : Int
/-- may an item be -/
def It.may (i : It) : Bool :=
  if i.k = 1 ∨ i.k = 5 then decide (0 ≤ i.b ∧ i.b ≤ 63) && (i.c == 0) && (i.v == 0)
  else if i.k = 2 ∨ i.k = 6 then decide (0 ≤ i.b ∧ i.b ≤ 63) && decide (1 ≤ i.c ∧ i.c ≤ 64 - i.b) && (i.v == 0)
  else if i.k = 3 then (i.b == 0) && (i.c == 0) && decide (1 ≤ i.v ∧ i.v ≤ 2147483647)
  else if i.k = 4 then decide (0 ≤ i.b ∧ i.b ≤ 63) && (i.c == 0) && decide (1 ≤ i.v ∧ i.v ≤ 4095)
  else if i.k = 7 then (i.b == 0) && (i.c == 0) && decide (0 ≤ i.v ∧ i.v ≤ 31)
  else false
def It.loaded (i : It) : Bool := i.may && (i.k == 1 || i.k == 4 || i.k == 5)
def It.vals (i : It) : Array Value := #[.int .i64 i.k, .int .i64 i.b, .int .i64 i.c, .int .i64 i.v]
end Go.Kn
namespace Go.Proofs.Ytkpagiokjihmhaa
open Go Go.RowKit Go.Kn

theorem item_within_any (n lo hi : Int) (w : World) : Calls Try.prog 120 #[.int .i64 n, .int .i64 lo, .int .i64 hi] w fun e w' => e = .returned (.bool (decide (lo ≤ n ∧ n ≤ hi))) ∧ w = w' := by
  go_enter Try.func120, Try.ntmps120
  by_cases h1 : lo ≤ n <;> by_cases h2 : n ≤ hi <;>
  (go_wp2
   go_ret
   exact ⟨by simp [*], rfl⟩)

set_option maxRecDepth 100000 in
set_option maxHeartbeats 1000000 in
theorem item_may_1y (b c v : Int) (w : World) (hb : 0 ≤ b ∧ b ≤ 63) :
    Calls Try.prog 83 #[.agg #[.int .i64 1, .int .i64 b, .int .i64 c, .int .i64 v]] w fun e w' => e = .returned (.bool (It.may ⟨1, b, c, v⟩)) ∧ Only [] w w' := by
  have hbd : decide (0 ≤ b ∧ b ≤ 63) = true := by simp; omega
  go_enter Try.func83, Try.ntmps83
  go_wp2_with (first | (go_at_call 120; refine (item_within_any _ _ _ _).mono ?_; rintro e w' ⟨rfl, rfl⟩))
  all_goals (go_ret; exact ⟨by simp [It.may, *], (Only.refl _ _).alloc _⟩)
set_option maxRecDepth 100000 in
set_option maxHeartbeats 1000000 in
theorem item_may_2y (b c v : Int) (w : World) (hb : 0 ≤ b ∧ b ≤ 63) :
    Calls Try.prog 83 #[.agg #[.int .i64 2, .int .i64 b, .int .i64 c, .int .i64 v]] w fun e w' => e = .returned (.bool (It.may ⟨2, b, c, v⟩)) ∧ Only [] w w' := by
  have hbd : decide (0 ≤ b ∧ b ≤ 63) = true := by simp; omega
  have hw1 : IntKind.i64.wrap (64 - b) = 64 - b := IntWalk.i64_in _ (by omega)
  go_enter Try.func83, Try.ntmps83
  go_wp2_with (first | (go_at_call 120; refine (item_within_any _ _ _ _).mono ?_; rintro e w' ⟨rfl, rfl⟩))
  all_goals (go_ret; exact ⟨by simp [It.may, *], (Only.refl _ _).alloc _⟩)
set_option maxRecDepth 100000 in
set_option maxHeartbeats 1000000 in
theorem item_may_3y (b c v : Int) (w : World) (hb : 0 ≤ b ∧ b ≤ 63) :
    Calls Try.prog 83 #[.agg #[.int .i64 3, .int .i64 b, .int .i64 c, .int .i64 v]] w fun e w' => e = .returned (.bool (It.may ⟨3, b, c, v⟩)) ∧ Only [] w w' := by
  have hbd : decide (0 ≤ b ∧ b ≤ 63) = true := by simp; omega
  go_enter Try.func83, Try.ntmps83
  go_wp2_with (first | (go_at_call 120; refine (item_within_any _ _ _ _).mono ?_; rintro e w' ⟨rfl, rfl⟩))
  all_goals (go_ret; exact ⟨by simp [It.may, *], (Only.refl _ _).alloc _⟩)
set_option maxRecDepth 100000 in
set_option maxHeartbeats 1000000 in
theorem item_may_4y (b c v : Int) (w : World) (hb : 0 ≤ b ∧ b ≤ 63) :
    Calls Try.prog 83 #[.agg #[.int .i64 4, .int .i64 b, .int .i64 c, .int .i64 v]] w fun e w' => e = .returned (.bool (It.may ⟨4, b, c, v⟩)) ∧ Only [] w w' := by
  have hbd : decide (0 ≤ b ∧ b ≤ 63) = true := by simp; omega
  go_enter Try.func83, Try.ntmps83
  go_wp2_with (first | (go_at_call 120; refine (item_within_any _ _ _ _).mono ?_; rintro e w' ⟨rfl, rfl⟩))
  all_goals (go_ret; exact ⟨by simp [It.may, *], (Only.refl _ _).alloc _⟩)
set_option maxRecDepth 100000 in
set_option maxHeartbeats 1000000 in
theorem item_may_5y (b c v : Int) (w : World) (hb : 0 ≤ b ∧ b ≤ 63) :
    Calls Try.prog 83 #[.agg #[.int .i64 5, .int .i64 b, .int .i64 c, .int .i64 v]] w fun e w' => e = .returned (.bool (It.may ⟨5, b, c, v⟩)) ∧ Only [] w w' := by
  have hbd : decide (0 ≤ b ∧ b ≤ 63) = true := by simp; omega
  go_enter Try.func83, Try.ntmps83
  go_wp2_with (first | (go_at_call 120; refine (item_within_any _ _ _ _).mono ?_; rintro e w' ⟨rfl, rfl⟩))
  all_goals (go_ret; exact ⟨by simp [It.may, *], (Only.refl _ _).alloc _⟩)
set_option maxRecDepth 100000 in
set_option maxHeartbeats 1000000 in
theorem item_may_6y (b c v : Int) (w : World) (hb : 0 ≤ b ∧ b ≤ 63) :
    Calls Try.prog 83 #[.agg #[.int .i64 6, .int .i64 b, .int .i64 c, .int .i64 v]] w fun e w' => e = .returned (.bool (It.may ⟨6, b, c, v⟩)) ∧ Only [] w w' := by
  have hbd : decide (0 ≤ b ∧ b ≤ 63) = true := by simp; omega
  have hw1 : IntKind.i64.wrap (64 - b) = 64 - b := IntWalk.i64_in _ (by omega)
  go_enter Try.func83, Try.ntmps83
  go_wp2_with (first | (go_at_call 120; refine (item_within_any _ _ _ _).mono ?_; rintro e w' ⟨rfl, rfl⟩))
  all_goals (go_ret; exact ⟨by simp [It.may, *], (Only.refl _ _).alloc _⟩)
set_option maxRecDepth 100000 in
set_option maxHeartbeats 1000000 in
theorem item_may_7y (b c v : Int) (w : World) (hb : 0 ≤ b ∧ b ≤ 63) :
    Calls Try.prog 83 #[.agg #[.int .i64 7, .int .i64 b, .int .i64 c, .int .i64 v]] w fun e w' => e = .returned (.bool (It.may ⟨7, b, c, v⟩)) ∧ Only [] w w' := by
  have hbd : decide (0 ≤ b ∧ b ≤ 63) = true := by simp; omega
  go_enter Try.func83, Try.ntmps83
  go_wp2_with (first | (go_at_call 120; refine (item_within_any _ _ _ _).mono ?_; rintro e w' ⟨rfl, rfl⟩))
  all_goals (go_ret; exact ⟨by simp [It.may, *], (Only.refl _ _).alloc _⟩)
set_option maxRecDepth 100000 in
set_option maxHeartbeats 1000000 in
theorem item_may_0y (k b c v : Int) (w : World) (hb : 0 ≤ b ∧ b ≤ 63) (k1 : k ≠ 1) (k2 : k ≠ 2) (k3 : k ≠ 3) (k4 : k ≠ 4) (k5 : k ≠ 5) (k6 : k ≠ 6) (k7 : k ≠ 7) :
    Calls Try.prog 83 #[.agg #[.int .i64 k, .int .i64 b, .int .i64 c, .int .i64 v]] w fun e w' => e = .returned (.bool (It.may ⟨k, b, c, v⟩)) ∧ Only [] w w' := by
  have hbd : decide (0 ≤ b ∧ b ≤ 63) = true := by simp; omega
  have e1 : (k == 1) = false := by simpa using k1
  have e2 : (k == 2) = false := by simpa using k2
  have e3 : (k == 3) = false := by simpa using k3
  have e4 : (k == 4) = false := by simpa using k4
  have e5 : (k == 5) = false := by simpa using k5
  have e6 : (k == 6) = false := by simpa using k6
  have e7 : (k == 7) = false := by simpa using k7
  go_enter Try.func83, Try.ntmps83
  go_wp2_with (first | (go_at_call 120; refine (item_within_any _ _ _ _).mono ?_; rintro e w' ⟨rfl, rfl⟩))
  all_goals (go_ret; exact ⟨by simp [It.may, *], (Only.refl _ _).alloc _⟩)
set_option maxRecDepth 100000 in
set_option maxHeartbeats 1000000 in
theorem item_may_1n (b c v : Int) (w : World) (hb : ¬ (0 ≤ b ∧ b ≤ 63)) :
    Calls Try.prog 83 #[.agg #[.int .i64 1, .int .i64 b, .int .i64 c, .int .i64 v]] w fun e w' => e = .returned (.bool (It.may ⟨1, b, c, v⟩)) ∧ Only [] w w' := by
  have hbd : decide (0 ≤ b ∧ b ≤ 63) = false := by simp; omega
  go_enter Try.func83, Try.ntmps83
  go_wp2_with (first | (go_at_call 120; refine (item_within_any _ _ _ _).mono ?_; rintro e w' ⟨rfl, rfl⟩))
  all_goals (go_ret; exact ⟨by simp [It.may, *], (Only.refl _ _).alloc _⟩)
set_option maxRecDepth 100000 in
set_option maxHeartbeats 1000000 in
theorem item_may_2n (b c v : Int) (w : World) (hb : ¬ (0 ≤ b ∧ b ≤ 63)) :
    Calls Try.prog 83 #[.agg #[.int .i64 2, .int .i64 b, .int .i64 c, .int .i64 v]] w fun e w' => e = .returned (.bool (It.may ⟨2, b, c, v⟩)) ∧ Only [] w w' := by
  have hbd : decide (0 ≤ b ∧ b ≤ 63) = false := by simp; omega
  go_enter Try.func83, Try.ntmps83
  go_wp2_with (first | (go_at_call 120; refine (item_within_any _ _ _ _).mono ?_; rintro e w' ⟨rfl, rfl⟩))
  all_goals (go_ret; exact ⟨by simp [It.may, *], (Only.refl _ _).alloc _⟩)
set_option maxRecDepth 100000 in
set_option maxHeartbeats 1000000 in
theorem item_may_3n (b c v : Int) (w : World) (hb : ¬ (0 ≤ b ∧ b ≤ 63)) :
    Calls Try.prog 83 #[.agg #[.int .i64 3, .int .i64 b, .int .i64 c, .int .i64 v]] w fun e w' => e = .returned (.bool (It.may ⟨3, b, c, v⟩)) ∧ Only [] w w' := by
  have hbd : decide (0 ≤ b ∧ b ≤ 63) = false := by simp; omega
  go_enter Try.func83, Try.ntmps83
  go_wp2_with (first | (go_at_call 120; refine (item_within_any _ _ _ _).mono ?_; rintro e w' ⟨rfl, rfl⟩))
  all_goals (go_ret; exact ⟨by simp [It.may, *], (Only.refl _ _).alloc _⟩)
set_option maxRecDepth 100000 in
set_option maxHeartbeats 1000000 in
theorem item_may_4n (b c v : Int) (w : World) (hb : ¬ (0 ≤ b ∧ b ≤ 63)) :
    Calls Try.prog 83 #[.agg #[.int .i64 4, .int .i64 b, .int .i64 c, .int .i64 v]] w fun e w' => e = .returned (.bool (It.may ⟨4, b, c, v⟩)) ∧ Only [] w w' := by
  have hbd : decide (0 ≤ b ∧ b ≤ 63) = false := by simp; omega
  go_enter Try.func83, Try.ntmps83
  go_wp2_with (first | (go_at_call 120; refine (item_within_any _ _ _ _).mono ?_; rintro e w' ⟨rfl, rfl⟩))
  all_goals (go_ret; exact ⟨by simp [It.may, *], (Only.refl _ _).alloc _⟩)
set_option maxRecDepth 100000 in
set_option maxHeartbeats 1000000 in
theorem item_may_5n (b c v : Int) (w : World) (hb : ¬ (0 ≤ b ∧ b ≤ 63)) :
    Calls Try.prog 83 #[.agg #[.int .i64 5, .int .i64 b, .int .i64 c, .int .i64 v]] w fun e w' => e = .returned (.bool (It.may ⟨5, b, c, v⟩)) ∧ Only [] w w' := by
  have hbd : decide (0 ≤ b ∧ b ≤ 63) = false := by simp; omega
  go_enter Try.func83, Try.ntmps83
  go_wp2_with (first | (go_at_call 120; refine (item_within_any _ _ _ _).mono ?_; rintro e w' ⟨rfl, rfl⟩))
  all_goals (go_ret; exact ⟨by simp [It.may, *], (Only.refl _ _).alloc _⟩)
set_option maxRecDepth 100000 in
set_option maxHeartbeats 1000000 in
theorem item_may_6n (b c v : Int) (w : World) (hb : ¬ (0 ≤ b ∧ b ≤ 63)) :
    Calls Try.prog 83 #[.agg #[.int .i64 6, .int .i64 b, .int .i64 c, .int .i64 v]] w fun e w' => e = .returned (.bool (It.may ⟨6, b, c, v⟩)) ∧ Only [] w w' := by
  have hbd : decide (0 ≤ b ∧ b ≤ 63) = false := by simp; omega
  go_enter Try.func83, Try.ntmps83
  go_wp2_with (first | (go_at_call 120; refine (item_within_any _ _ _ _).mono ?_; rintro e w' ⟨rfl, rfl⟩))
  all_goals (go_ret; exact ⟨by simp [It.may, *], (Only.refl _ _).alloc _⟩)
set_option maxRecDepth 100000 in
set_option maxHeartbeats 1000000 in
theorem item_may_7n (b c v : Int) (w : World) (hb : ¬ (0 ≤ b ∧ b ≤ 63)) :
    Calls Try.prog 83 #[.agg #[.int .i64 7, .int .i64 b, .int .i64 c, .int .i64 v]] w fun e w' => e = .returned (.bool (It.may ⟨7, b, c, v⟩)) ∧ Only [] w w' := by
  have hbd : decide (0 ≤ b ∧ b ≤ 63) = false := by simp; omega
  go_enter Try.func83, Try.ntmps83
  go_wp2_with (first | (go_at_call 120; refine (item_within_any _ _ _ _).mono ?_; rintro e w' ⟨rfl, rfl⟩))
  all_goals (go_ret; exact ⟨by simp [It.may, *], (Only.refl _ _).alloc _⟩)
set_option maxRecDepth 100000 in
set_option maxHeartbeats 1000000 in
theorem item_may_0n (k b c v : Int) (w : World) (hb : ¬ (0 ≤ b ∧ b ≤ 63)) (k1 : k ≠ 1) (k2 : k ≠ 2) (k3 : k ≠ 3) (k4 : k ≠ 4) (k5 : k ≠ 5) (k6 : k ≠ 6) (k7 : k ≠ 7) :
    Calls Try.prog 83 #[.agg #[.int .i64 k, .int .i64 b, .int .i64 c, .int .i64 v]] w fun e w' => e = .returned (.bool (It.may ⟨k, b, c, v⟩)) ∧ Only [] w w' := by
  have hbd : decide (0 ≤ b ∧ b ≤ 63) = false := by simp; omega
  have e1 : (k == 1) = false := by simpa using k1
  have e2 : (k == 2) = false := by simpa using k2
  have e3 : (k == 3) = false := by simpa using k3
  have e4 : (k == 4) = false := by simpa using k4
  have e5 : (k == 5) = false := by simpa using k5
  have e6 : (k == 6) = false := by simpa using k6
  have e7 : (k == 7) = false := by simpa using k7
  go_enter Try.func83, Try.ntmps83
  go_wp2_with (first | (go_at_call 120; refine (item_within_any _ _ _ _).mono ?_; rintro e w' ⟨rfl, rfl⟩))
  all_goals (go_ret; exact ⟨by simp [It.may, *], (Only.refl _ _).alloc _⟩)
theorem item_may_any (k b c v : Int) (w : World) :
    Calls Try.prog 83 #[.agg #[.int .i64 k, .int .i64 b, .int .i64 c, .int .i64 v]] w fun e w' => e = .returned (.bool (It.may ⟨k, b, c, v⟩)) ∧ Only [] w w' := by
  by_cases hb : 0 ≤ b ∧ b ≤ 63
  · by_cases k1 : k = 1
    · subst k1; exact item_may_1y b c v w hb
    by_cases k2 : k = 2
    · subst k2; exact item_may_2y b c v w hb
    by_cases k3 : k = 3
    · subst k3; exact item_may_3y b c v w hb
    by_cases k4 : k = 4
    · subst k4; exact item_may_4y b c v w hb
    by_cases k5 : k = 5
    · subst k5; exact item_may_5y b c v w hb
    by_cases k6 : k = 6
    · subst k6; exact item_may_6y b c v w hb
    by_cases k7 : k = 7
    · subst k7; exact item_may_7y b c v w hb
    exact item_may_0y k b c v w hb k1 k2 k3 k4 k5 k6 k7
  · by_cases k1 : k = 1
    · subst k1; exact item_may_1n b c v w hb
    by_cases k2 : k = 2
    · subst k2; exact item_may_2n b c v w hb
    by_cases k3 : k = 3
    · subst k3; exact item_may_3n b c v w hb
    by_cases k4 : k = 4
    · subst k4; exact item_may_4n b c v w hb
    by_cases k5 : k = 5
    · subst k5; exact item_may_5n b c v w hb
    by_cases k6 : k = 6
    · subst k6; exact item_may_6n b c v w hb
    by_cases k7 : k = 7
    · subst k7; exact item_may_7n b c v w hb
    exact item_may_0n k b c v w hb k1 k2 k3 k4 k5 k6 k7

set_option maxRecDepth 100000 in
set_option maxHeartbeats 1000000 in
theorem item_loaded_any (k b c v : Int) (w : World) :
    Calls Try.prog 82 #[.agg #[.int .i64 k, .int .i64 b, .int .i64 c, .int .i64 v]] w fun e w' => e = .returned (.bool (It.loaded ⟨k, b, c, v⟩)) ∧ Only [] w w' := by
  cases hm : It.may ⟨k, b, c, v⟩
  · have HM := Lib.hid hm
    clear hm
    go_enter Try.func82, Try.ntmps82
    go_wp2_with (first | (go_at_call 83; refine (item_may_any _ _ _ _ _).mono ?_; rintro e w1 ⟨rfl, hO1⟩; have HO1 := Lib.hid hO1; clear hO1; rw [HM.out]))
    go_ret
    exact ⟨by simp [It.loaded, HM.out], ((Only.refl _ _).alloc _).trans' HO1.out⟩
  · have HM := Lib.hid hm
    clear hm
    by_cases k1 : k = 1
    · subst k1
      go_enter Try.func82, Try.ntmps82
      go_wp2_with (first | (go_at_call 83; refine (item_may_any _ _ _ _ _).mono ?_; rintro e w1 ⟨rfl, hO1⟩; have HO1 := Lib.hid hO1; have hx := hO1.cell (p := ⟨w.heap.size, 0, none⟩) (v := .int .i64 1) (by simp) (by simp); clear hO1; rw [HM.out]))
      go_ret
      exact ⟨by simp [It.loaded, HM.out], ((Only.refl _ _).alloc _).trans' HO1.out⟩
    by_cases k4 : k = 4
    · subst k4
      go_enter Try.func82, Try.ntmps82
      go_wp2_with (first | (go_at_call 83; refine (item_may_any _ _ _ _ _).mono ?_; rintro e w1 ⟨rfl, hO1⟩; have HO1 := Lib.hid hO1; have hx := hO1.cell (p := ⟨w.heap.size, 0, none⟩) (v := .int .i64 4) (by simp) (by simp); clear hO1; rw [HM.out]))
      go_ret
      exact ⟨by simp [It.loaded, HM.out], ((Only.refl _ _).alloc _).trans' HO1.out⟩
    by_cases k5 : k = 5
    · subst k5
      go_enter Try.func82, Try.ntmps82
      go_wp2_with (first | (go_at_call 83; refine (item_may_any _ _ _ _ _).mono ?_; rintro e w1 ⟨rfl, hO1⟩; have HO1 := Lib.hid hO1; have hx := hO1.cell (p := ⟨w.heap.size, 0, none⟩) (v := .int .i64 5) (by simp) (by simp); clear hO1; rw [HM.out]))
      go_ret
      exact ⟨by simp [It.loaded, HM.out], ((Only.refl _ _).alloc _).trans' HO1.out⟩
    have e1 : (k == 1) = false := by simpa using k1
    have e4 : (k == 4) = false := by simpa using k4
    have e5 : (k == 5) = false := by simpa using k5
    go_enter Try.func82, Try.ntmps82
    go_wp2_with (first | (go_at_call 83; refine (item_may_any _ _ _ _ _).mono ?_; rintro e w1 ⟨rfl, hO1⟩; have HO1 := Lib.hid hO1; have hx := hO1.cell (p := ⟨w.heap.size, 0, none⟩) (v := .int .i64 k) (by simp) (by simp); clear hO1; rw [HM.out]))
    go_ret
    exact ⟨by simp [It.loaded, HM.out, e1, e4, e5], ((Only.refl _ _).alloc _).trans' HO1.out⟩

end Go.Proofs.Ytkpagiokjihmhaa
