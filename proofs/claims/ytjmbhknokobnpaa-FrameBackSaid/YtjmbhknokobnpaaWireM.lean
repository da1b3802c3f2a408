/- Contracts of frame.within, bare, same. -/
import Derived.Test.YtjmbhknokobnpaaWireP
import Derived.Test.YtjmbhknokobnpaaBytesEq
set_option linter.unusedVariables false
set_option linter.unusedSimpArgs false
namespace Go.Proofs.Ytjmbhknokobnpaa
open Go Go.RowKit Go.Kn

theorem frame_within_any (n lo hi : Int) (w : World) : Calls Try.prog 112 #[.int .i64 n, .int .i64 lo, .int .i64 hi] w fun e w' => e = .returned (.bool (decide (lo ≤ n ∧ n ≤ hi))) ∧ w = w' := by
  go_enter Try.func112, Try.ntmps112
  by_cases h1 : lo ≤ n <;> by_cases h2 : n ≤ hi <;>
  (go_wp2
   go_ret
   exact ⟨by simp [*], rfl⟩)

set_option maxRecDepth 100000 in
set_option maxHeartbeats 1000000 in
theorem frame_bare_any (k v s b c e d : Int) (A : Option Addr) (n cp : Nat) (w : World) :
    Calls Try.prog 111 #[.agg #[.int .i64 k, .int .i64 v, .int .i64 s, .int .i64 b, .int .i64 c, .int .i64 e, .int .i64 d, .slice A n cp]] w fun en w' => en = .returned (.agg #[.int .i64 k, .int .i64 v, .int .i64 0, .int .i64 0, .int .i64 0, .int .i64 0, .int .i64 0, .slice none 0 0]) ∧ Only [] w w' := by
  have hres : Try.f111.results = #[.cell 2 64] := by kernel_rfl
  have HRES := Lib.hid hres
  clear hres
  go_enter Try.func111, Try.ntmps111
  go_wp2
  (try simp only [Exit.inBlock, Exit.then])
  refine bodyPost_ret (v := .agg #[.int .i64 k, .int .i64 v, .int .i64 0, .int .i64 0, .int .i64 0, .int .i64 0, .int .i64 0, .slice none 0 0]) ?_ rfl ⟨rfl, ?_⟩
  · simp only [results, HRES.out]
    go_simp
  · exact ((Only.refl _ _).alloc _).alloc _

set_option maxRecDepth 100000 in
set_option maxHeartbeats 4000000 in
theorem frame_same_any (k v s b c e d : Int) (A : Option Addr) (n cp : Nat) (xs : List UInt8) (k' v' s' b' c' e' d' : Int) (B : Option Addr) (m cq : Nat) (ys : List UInt8) (w : World) (hx : Bys w A n cp xs) (hy : Bys w B m cq ys) :
    Calls Try.prog 113 #[.agg #[.int .i64 k, .int .i64 v, .int .i64 s, .int .i64 b, .int .i64 c, .int .i64 e, .int .i64 d, .slice A n cp], .agg #[.int .i64 k', .int .i64 v', .int .i64 s', .int .i64 b', .int .i64 c', .int .i64 e', .int .i64 d', .slice B m cq]] w
      fun en w' => en = .returned (.bool (k == k' && v == v' && s == s' && b == b' && c == c' && e == e' && d == d' && decide (xs = ys))) ∧ Only [] w w' := by
  have HX := Lib.hid hx
  have HY := Lib.hid hy
  clear hx hy
  obtain ⟨bb, hbb⟩ : ∃ bb, decide (xs = ys) = bb := ⟨_, rfl⟩
  have HBB := Lib.hid hbb
  rw [hbb]
  clear hbb
  go_enter Try.func113, Try.ntmps113
  go_wp2_with (first | (go_at_call 93; refine (bytes_equal_any A n cp xs B m cq ys _ (by exact (HX.out.alloc _).alloc _) (by exact (HY.out.alloc _).alloc _)).mono ?_; rintro en w' ⟨rfl, rfl⟩; rw [HBB.out]))
  all_goals (go_ret; exact ⟨by simp [*], ((Only.refl _ _).alloc _).alloc _⟩)
end Go.Proofs.Ytjmbhknokobnpaa
