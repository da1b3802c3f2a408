/- Contract of alike.Frame. -/
import Derived.Test.YtjmbhknokobnpaaWireP
import Derived.Test.YtjmbhknokobnpaaRefA
set_option linter.unusedVariables false
set_option linter.unusedSimpArgs false
namespace Go.Proofs.Ytjmbhknokobnpaa
open Go Go.RowKit Go.Kn

set_option maxRecDepth 100000 in
set_option maxHeartbeats 4000000 in
theorem alike_frame_any (k v s b c e d : Int) (A : Option Addr) (n cp : Nat) (xs : List UInt8) (k' v' s' b' c' e' d' : Int) (B : Option Addr) (m cq : Nat) (ys : List UInt8) (w : World) (hx : Bys w A n cp xs) (hy : Bys w B m cq ys) :
    Calls Try.prog 49 #[.agg #[.int .i64 k, .int .i64 v, .int .i64 s, .int .i64 b, .int .i64 c, .int .i64 e, .int .i64 d, .slice A n cp], .agg #[.int .i64 k', .int .i64 v', .int .i64 s', .int .i64 b', .int .i64 c', .int .i64 e', .int .i64 d', .slice B m cq]] w
      fun en w' => en = .returned (.bool (k == k' && v == v' && s == s' && b == b' && c == c' && e == e' && d == d' && decide (xs = ys))) ∧ Only [] w w' := by
  have HX := Lib.hid hx
  have HY := Lib.hid hy
  clear hx hy
  obtain ⟨bb, hbb⟩ : ∃ bb, decide (xs = ys) = bb := ⟨_, rfl⟩
  have HBB := Lib.hid hbb
  rw [hbb]
  clear hbb
  go_enter Try.func49, Try.ntmps49
  go_wp2_with (first | (go_at_call 37; refine (alike_bytes_any A n cp xs B m cq ys _ (by exact (HX.out.alloc _).alloc _) (by exact (HY.out.alloc _).alloc _)).mono ?_; rintro en w' ⟨rfl, nn, rfl⟩; rw [HBB.out]))
  all_goals (go_ret; exact ⟨by simp [*], by first | exact (((Only.refl _ _).alloc _).alloc _).drewN _ | exact ((Only.refl _ _).alloc _).alloc _⟩)
end Go.Proofs.Ytjmbhknokobnpaa
