/- Contracts of head.May and the reference's HeadMay; what a reader of heads answers. -/
import Derived.Test.YtcojleippbneoaaHeadP
import Derived.Test.YtcojleippbneoaaLeaf
set_option linter.unusedVariables false
namespace Go.Kn
open Go Go.RowKit
theorem headRow_ref (i : It) : lay (lay (lay zeros64 0 [75, 72]) 2 (le 1 i.k.toNat)) 3 (les 4 [i.b, i.c, i.v]) = headRow i := by
  have e : lay (lay zeros64 0 [75, 72]) 2 (le 1 i.k.toNat) = lay zeros64 0 (les 1 [75, 72, i.k]) := by
    have h := lay_lay zeros64 0 [75, 72] (le 1 i.k.toNat) (by simp [zeros64])
    simp only [List.length_cons, List.length_nil, Nat.zero_add, Nat.reduceAdd] at h
    rw [h]
    rfl
  rw [e]
  rfl
/-- what a reader of heads answers -/
def HeadSays (w : World) (o : Option It) (err : Int) (e : Ending) (w' : World) : Prop :=
  e = .returned (.tuple #[.agg (o.getD ⟨0, 0, 0, 0⟩).vals, .int .i64 (if o.isSome then 0 else err)]) ∧ Only [] w w'
end Go.Kn
namespace Go.Proofs.Ytcojleippbneoaa
open Go Go.RowKit Go.Kn

theorem head_within_any (n lo hi : Int) (w : World) : Calls Try.prog 87 #[.int .i64 n, .int .i64 lo, .int .i64 hi] w fun e w' => e = .returned (.bool (decide (lo ≤ n ∧ n ≤ hi))) ∧ w = w' := by
  go_enter Try.func87, Try.ntmps87
  by_cases h1 : lo ≤ n <;> by_cases h2 : n ≤ hi <;>
  (go_wp2
   go_ret
   exact ⟨by simp [*], rfl⟩)

set_option maxRecDepth 100000 in
set_option maxHeartbeats 1000000 in
theorem head_may_any (k b c v : Int) (w : World) :
    Calls Try.prog 59 #[.agg #[.int .i64 k, .int .i64 b, .int .i64 c, .int .i64 v]] w fun e w' => e = .returned (.bool (headMay ⟨k, b, c, v⟩)) ∧ Only [] w w' := by
  go_enter Try.func59, Try.ntmps59
  go_wp2_with (first | (go_at_call 87; refine (head_within_any _ _ _ _).mono ?_; rintro e w' ⟨rfl, rfl⟩))
  all_goals (go_ret; exact ⟨by simp [headMay, *], (Only.refl _ _).alloc _⟩)

set_option maxRecDepth 100000 in
set_option maxHeartbeats 1000000 in
theorem ref_head_may_any (k b c v : Int) (w : World) :
    Calls Try.prog 60 #[.agg #[.int .i64 k, .int .i64 b, .int .i64 c, .int .i64 v]] w fun e w' => e = .returned (.bool (headMay ⟨k, b, c, v⟩)) ∧ Only [] w w' := by
  go_enter Try.func60, Try.ntmps60
  go_wp2_with (first | (go_at_call 75; refine (within_any _ _ _ _).mono ?_; rintro e w' ⟨rfl, rfl⟩))
  all_goals (go_ret; exact ⟨by simp [headMay, *], (Only.refl _ _).alloc _⟩)
end Go.Proofs.Ytcojleippbneoaa
