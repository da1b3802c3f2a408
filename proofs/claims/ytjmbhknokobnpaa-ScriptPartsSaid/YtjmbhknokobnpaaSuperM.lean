/- Contracts of geom.New and super.May. -/
import Derived.Test.YtjmbhknokobnpaaSuperP
import Derived.Test.YtjmbhknokobnpaaLeaf
set_option linter.unusedVariables false
namespace Go.Proofs.Ytjmbhknokobnpaa
open Go Go.RowKit Go.Kn

theorem geom_within_any (n lo hi : Int) (w : World) : Calls Try.prog 158 #[.int .i64 n, .int .i64 lo, .int .i64 hi] w fun e w' => e = .returned (.bool (decide (lo ≤ n ∧ n ≤ hi))) ∧ w = w' := by
  go_enter Try.func158, Try.ntmps158
  by_cases h1 : lo ≤ n <;> by_cases h2 : n ≤ hi <;>
  (go_wp2
   go_ret
   exact ⟨by simp [*], rfl⟩)

/-- a device's layout, made -/
def GeomMade (w : World) (b s l : Int) (e : Ending) (w' : World) : Prop :=
  ∃ g, e = .returned (.tuple #[.pointer (some ⟨g, 0, none⟩), .int .i64 0]) ∧ w.heap.size ≤ g ∧ Own w' g [.int .i64 b, .int .i64 s, .int .i64 l] ∧ Only [] w w'

set_option maxRecDepth 100000 in
set_option maxHeartbeats 1000000 in
theorem geom_new_no (b s l : Int) (w : World) (h : confMay b s l = false) :
    Calls Try.prog 115 #[.agg #[.int .i64 b, .int .i64 s, .int .i64 l]] w fun e w' => e = .returned (.tuple #[.pointer none, .int .i64 1]) ∧ Only [] w w' := by
  have H := Lib.hid h
  clear h
  go_enter Try.func115, Try.ntmps115
  go_wp2_with (first | (go_at_call 158; refine (geom_within_any _ _ _ _).mono ?_; rintro e w' ⟨rfl, rfl⟩))
  all_goals first
    | (go_ret2; exact ⟨rfl, (Only.refl _ _).alloc _⟩)
    | (exfalso; have := H.out; simp_all [confMay])

set_option maxRecDepth 100000 in
set_option maxHeartbeats 1000000 in
theorem geom_new_yes (b s l : Int) (w : World) (h : confMay b s l = true) :
    Calls Try.prog 115 #[.agg #[.int .i64 b, .int .i64 s, .int .i64 l]] w (GeomMade w b s l) := by
  obtain ⟨h0, h1, h2⟩ := confMay_iff.1 h
  have d0 : decide (1 ≤ b ∧ b ≤ 64) = true := decide_eq_true h0
  have d1 : decide (8 ≤ s ∧ s ≤ 32) = true := decide_eq_true h1
  have d2 : decide (24 ≤ l ∧ l ≤ 64) = true := decide_eq_true h2
  have D0 := Lib.hid d0
  have D1 := Lib.hid d1
  have D2 := Lib.hid d2
  clear h d0 d1 d2 h0 h1 h2
  go_enter Try.func115, Try.ntmps115
  go_wp2_with fail
  refine (geom_within_any _ _ _ _).mono ?_
  rintro e w' ⟨rfl, rfl⟩
  rw [D0.out]
  go_wp2_with fail
  refine (geom_within_any _ _ _ _).mono ?_
  rintro e w' ⟨rfl, rfl⟩
  rw [D1.out]
  go_wp2_with fail
  refine (geom_within_any _ _ _ _).mono ?_
  rintro e w' ⟨rfl, rfl⟩
  rw [D2.out]
  go_wp2
  go_ret2
  refine ⟨_, rfl, by simp, ?_, ((Only.refl _ _).alloc _).alloc _⟩
  have hs : (w.alloc (.cells #[.int .i64 b, .int .i64 s, .int .i64 l] 29)).heap.size = w.heap.size + 1 := by simp
  rw [← hs]
  exact Own.new _ _ _

set_option maxRecDepth 100000 in
set_option maxHeartbeats 2000000 in
theorem super_may_any (b s l i m : Int) (w : World) :
    Calls Try.prog 83 #[.agg #[.int .i64 b, .int .i64 s, .int .i64 l, .int .i64 i, .int .i64 m]] w fun e w' => e = .returned (.bool (superMay ⟨b, s, l, i, m⟩)) ∧ Only [] w w' := by
  cases hc : confMay b s l
  · have HC := Lib.hid hc
    clear hc
    go_enter Try.func83, Try.ntmps83
    go_wp2_with fail
    refine (geom_new_no b s l _ HC.out).mono ?_
    rintro e w1 ⟨rfl, hO1⟩
    have HO1 := Lib.hid (((Only.refl [] w).alloc (.cells #[.int .i64 b, .int .i64 s, .int .i64 l, .int .i64 i, .int .i64 m] 31)).trans' hO1)
    clear hO1
    go_wp2
    go_ret
    exact ⟨by simp [superMay, HC.out], HO1.out⟩
  · have HC := Lib.hid hc
    clear hc
    go_enter Try.func83, Try.ntmps83
    go_wp2_with fail
    refine (geom_new_yes b s l _ HC.out).mono ?_
    rintro e w1 ⟨g, rfl, _, _, hO1⟩
    have x3 := hO1.cell (p := ⟨w.heap.size, 3, none⟩) (v := .int .i64 i) (by simp) (by simp)
    have x4 := hO1.cell (p := ⟨w.heap.size, 4, none⟩) (v := .int .i64 m) (by simp) (by simp)
    have HO1 := Lib.hid (((Only.refl [] w).alloc (.cells #[.int .i64 b, .int .i64 s, .int .i64 l, .int .i64 i, .int .i64 m] 31)).trans' hO1)
    clear hO1
    go_wp2
    all_goals (go_ret; exact ⟨by first | (simp [superMay, HC.out, *]; done) | (simp [superMay, HC.out, *]; omega), HO1.out⟩)
end Go.Proofs.Ytjmbhknokobnpaa
