/- Contract of frame.May. Printed by mkwire.py. -/
import Derived.Test.YtjmbhknokobnpaaWireM
set_option linter.unusedVariables false
set_option linter.unusedSimpArgs false
namespace Go.Proofs.Ytjmbhknokobnpaa
open Go Go.RowKit Go.Kn

set_option maxRecDepth 100000 in
set_option maxHeartbeats 4000000 in
theorem frame_may_1 (v s b c e d : Int) (A : Option Addr) (n cp : Nat) (xs : List UInt8) (w : World) (hi : Bys w A n cp xs) :
    Calls Try.prog 47 #[.agg #[.int .i64 1, .int .i64 v, .int .i64 s, .int .i64 b, .int .i64 c, .int .i64 e, .int .i64 d, .slice A n cp]] w fun en w' => en = .returned (.bool (frMay ⟨1, v, s, b, c, e, d, xs⟩)) ∧ Only [] w w' := by
  have hlen := hi.len
  rw [bvs_length] at hlen
  obtain ⟨vv, hvv⟩ : ∃ x, decide (1 ≤ v ∧ v ≤ 2147483647) = x := ⟨_, rfl⟩
  have Hvv := Lib.hid hvv
  obtain ⟨ss, hss⟩ : ∃ x, decide (1 ≤ s ∧ s ≤ 2147483647) = x := ⟨_, rfl⟩
  have Hss := Lib.hid hss
  obtain ⟨ww, hww⟩ : ∃ x, decide (0 ≤ b ∧ b ≤ 63) = x := ⟨_, rfl⟩
  have Hww := Lib.hid hww
  obtain ⟨cc, hcc⟩ : ∃ x, decide (1 ≤ c ∧ c ≤ 64 - b) = x := ⟨_, rfl⟩
  have Hcc := Lib.hid hcc
  obtain ⟨ee, hee⟩ : ∃ x, decide (1 ≤ e ∧ e ≤ 2147483647) = x := ⟨_, rfl⟩
  have Hee := Lib.hid hee
  obtain ⟨s0, hs0⟩ : ∃ x, decide (0 ≤ s ∧ s ≤ 2147483647) = x := ⟨_, rfl⟩
  have Hs0 := Lib.hid hs0
  obtain ⟨e0, he0⟩ : ∃ x, decide (0 ≤ e ∧ e ≤ 2147483647) = x := ⟨_, rfl⟩
  have He0 := Lib.hid he0
  obtain ⟨d0, hd0⟩ : ∃ x, decide (0 ≤ d ∧ d ≤ s) = x := ⟨_, rfl⟩
  have Hd0 := Lib.hid hd0
  obtain ⟨nl, hnl⟩ : ∃ x, decide (xs.length = 64) = x := ⟨_, rfl⟩
  obtain ⟨nz, hnz⟩ : ∃ x, decide (xs.length = 0) = x := ⟨_, rfl⟩
  have n64 : ((n : Int) == 64) = nl := by rw [← hnl, hlen, Bool.eq_iff_iff]; simp; omega
  have n0 : ((n : Int) == 0) = nz := by rw [← hnz, hlen, Bool.eq_iff_iff]; simp
  have hxn : decide (xs = []) = nz := by rw [← hnz, decide_eq_decide, List.length_eq_zero_iff]
  have HXN := Lib.hid hxn
  have HM : Hid (frMay ⟨1, v, s, b, c, e, d, xs⟩ = (vv && (ss && ww && (c == 0) && (e == 0) && (d == 0) && nl))) := Lib.hid (by subst hvv hss hww hcc hee hs0 he0 hd0 hnl hnz; rfl)
  have HI := Lib.hid hi
  clear hi hlen hnl hnz hxn hvv hss hww hcc hee hs0 he0 hd0
  go_enter Try.func47, Try.ntmps47
  go_wp2_with fail
  refine (frame_bare_any 1 v s b c e d A n cp _).mono ?_
  rintro en w1 ⟨rfl, hO1⟩
  have b1 := (Own.new w #[.int .i64 1, .int .i64 v, .int .i64 s, .int .i64 b, .int .i64 c, .int .i64 e, .int .i64 d, .slice A n cp] 64).keep0 hO1
  have x0 : w1.cell? ⟨w.heap.size, 0, none⟩ = some (.int .i64 1) := b1.cell 0 (by simp)
  have x1 : w1.cell? ⟨w.heap.size, 1, none⟩ = some (.int .i64 v) := b1.cell 1 (by simp)
  have x2 : w1.cell? ⟨w.heap.size, 2, none⟩ = some (.int .i64 s) := b1.cell 2 (by simp)
  have x3 : w1.cell? ⟨w.heap.size, 3, none⟩ = some (.int .i64 b) := b1.cell 3 (by simp)
  have x4 : w1.cell? ⟨w.heap.size, 4, none⟩ = some (.int .i64 c) := b1.cell 4 (by simp)
  have x5 : w1.cell? ⟨w.heap.size, 5, none⟩ = some (.int .i64 e) := b1.cell 5 (by simp)
  have x6 : w1.cell? ⟨w.heap.size, 6, none⟩ = some (.int .i64 d) := b1.cell 6 (by simp)
  have x7 : w1.cell? ⟨w.heap.size, 7, none⟩ = some (.slice A n cp) := b1.cell 7 (by simp)
  have lx : w.heap.size < w1.heap.size := b1.lt
  have HO1 := Lib.hid (((Only.refl [] w).alloc (.cells #[.int .i64 1, .int .i64 v, .int .i64 s, .int .i64 b, .int .i64 c, .int .i64 e, .int .i64 d, .slice A n cp] 64)).trans' hO1)
  have HI1 := Lib.hid ((HI.out.alloc (.cells #[.int .i64 1, .int .i64 v, .int .i64 s, .int .i64 b, .int .i64 c, .int .i64 e, .int .i64 d, .slice A n cp] 64)).keep0 hO1)
  clear b1 hO1
  go_wp2_with fail
  refine (frame_within_any _ _ _ _).mono ?_
  rintro en w' ⟨rfl, rfl⟩
  rw [Hvv.out]
  go_wp2_with fail
  refine (frame_within_any _ _ _ _).mono ?_
  rintro en w' ⟨rfl, rfl⟩
  rw [Hss.out]
  go_wp2_with fail
  refine (frame_within_any _ _ _ _).mono ?_
  rintro en w' ⟨rfl, rfl⟩
  rw [Hww.out]
  go_wp2_with fail
  go_region
  all_goals (go_wp2_with (first
    | (go_at_call 112; refine (frame_within_any _ _ _ _).mono ?_; rintro en w' ⟨rfl, rfl⟩; (first | rw [Hvv.out] | rw [Hss.out] | rw [Hww.out] | rw [Hcc.out] | rw [Hee.out] | rw [Hs0.out] | rw [He0.out] | rw [Hd0.out]))
    | (go_at_call 113
       refine (frame_same_any 1 v s b c e d A n cp xs 1 v s b 0 0 0 A n cp xs _ (by first | exact HI1.out.alloc _ | exact (HI1.out.alloc _).drew) (by first | exact HI1.out.alloc _ | exact (HI1.out.alloc _).drew)).mono ?_
       rintro en w9 ⟨rfl, hO9⟩
       have HO9 : Hid (Only [] w w9) := by first | exact Lib.hid ((HO1.out.alloc _).trans' hO9) | exact Lib.hid (((HO1.out.alloc _).drew).trans' hO9)
       skip
       clear hO9)))
  all_goals (go_ret; exact ⟨by rw [HM.out]; simp [*], by first | exact HO9.out | exact HO1.out.alloc _ | exact (HO1.out.alloc _).drew⟩)

set_option maxRecDepth 100000 in
set_option maxHeartbeats 4000000 in
theorem frame_may_2y (v s b c e d : Int) (A : Option Addr) (n cp : Nat) (xs : List UInt8) (w : World) (hi : Bys w A n cp xs) (hb : 0 ≤ b ∧ b ≤ 63) :
    Calls Try.prog 47 #[.agg #[.int .i64 2, .int .i64 v, .int .i64 s, .int .i64 b, .int .i64 c, .int .i64 e, .int .i64 d, .slice A n cp]] w fun en w' => en = .returned (.bool (frMay ⟨2, v, s, b, c, e, d, xs⟩)) ∧ Only [] w w' := by
  have hw1 : IntKind.i64.wrap (64 - b) = 64 - b := IntWalk.i64_in _ (by omega)
  have hlen := hi.len
  rw [bvs_length] at hlen
  obtain ⟨vv, hvv⟩ : ∃ x, decide (1 ≤ v ∧ v ≤ 2147483647) = x := ⟨_, rfl⟩
  have Hvv := Lib.hid hvv
  obtain ⟨ss, hss⟩ : ∃ x, decide (1 ≤ s ∧ s ≤ 2147483647) = x := ⟨_, rfl⟩
  have Hss := Lib.hid hss
  obtain ⟨ww, hww⟩ : ∃ x, decide (0 ≤ b ∧ b ≤ 63) = x := ⟨_, rfl⟩
  have Hww := Lib.hid hww
  obtain ⟨cc, hcc⟩ : ∃ x, decide (1 ≤ c ∧ c ≤ 64 - b) = x := ⟨_, rfl⟩
  have Hcc := Lib.hid hcc
  obtain ⟨ee, hee⟩ : ∃ x, decide (1 ≤ e ∧ e ≤ 2147483647) = x := ⟨_, rfl⟩
  have Hee := Lib.hid hee
  obtain ⟨s0, hs0⟩ : ∃ x, decide (0 ≤ s ∧ s ≤ 2147483647) = x := ⟨_, rfl⟩
  have Hs0 := Lib.hid hs0
  obtain ⟨e0, he0⟩ : ∃ x, decide (0 ≤ e ∧ e ≤ 2147483647) = x := ⟨_, rfl⟩
  have He0 := Lib.hid he0
  obtain ⟨d0, hd0⟩ : ∃ x, decide (0 ≤ d ∧ d ≤ s) = x := ⟨_, rfl⟩
  have Hd0 := Lib.hid hd0
  obtain ⟨nl, hnl⟩ : ∃ x, decide (xs.length = 64) = x := ⟨_, rfl⟩
  obtain ⟨nz, hnz⟩ : ∃ x, decide (xs.length = 0) = x := ⟨_, rfl⟩
  have n64 : ((n : Int) == 64) = nl := by rw [← hnl, hlen, Bool.eq_iff_iff]; simp; omega
  have n0 : ((n : Int) == 0) = nz := by rw [← hnz, hlen, Bool.eq_iff_iff]; simp
  have hxn : decide (xs = []) = nz := by rw [← hnz, decide_eq_decide, List.length_eq_zero_iff]
  have HXN := Lib.hid hxn
  have HM : Hid (frMay ⟨2, v, s, b, c, e, d, xs⟩ = (vv && (ss && ww && cc && (e == 0) && (d == 0) && nz))) := Lib.hid (by subst hvv hss hww hcc hee hs0 he0 hd0 hnl hnz; rfl)
  have HI := Lib.hid hi
  clear hi hlen hnl hnz hxn hvv hss hww hcc hee hs0 he0 hd0
  obtain rfl : ww = true := by rw [← Hww.out]; exact decide_eq_true hb
  go_enter Try.func47, Try.ntmps47
  go_wp2_with fail
  refine (frame_bare_any 2 v s b c e d A n cp _).mono ?_
  rintro en w1 ⟨rfl, hO1⟩
  have b1 := (Own.new w #[.int .i64 2, .int .i64 v, .int .i64 s, .int .i64 b, .int .i64 c, .int .i64 e, .int .i64 d, .slice A n cp] 64).keep0 hO1
  have x0 : w1.cell? ⟨w.heap.size, 0, none⟩ = some (.int .i64 2) := b1.cell 0 (by simp)
  have x1 : w1.cell? ⟨w.heap.size, 1, none⟩ = some (.int .i64 v) := b1.cell 1 (by simp)
  have x2 : w1.cell? ⟨w.heap.size, 2, none⟩ = some (.int .i64 s) := b1.cell 2 (by simp)
  have x3 : w1.cell? ⟨w.heap.size, 3, none⟩ = some (.int .i64 b) := b1.cell 3 (by simp)
  have x4 : w1.cell? ⟨w.heap.size, 4, none⟩ = some (.int .i64 c) := b1.cell 4 (by simp)
  have x5 : w1.cell? ⟨w.heap.size, 5, none⟩ = some (.int .i64 e) := b1.cell 5 (by simp)
  have x6 : w1.cell? ⟨w.heap.size, 6, none⟩ = some (.int .i64 d) := b1.cell 6 (by simp)
  have x7 : w1.cell? ⟨w.heap.size, 7, none⟩ = some (.slice A n cp) := b1.cell 7 (by simp)
  have lx : w.heap.size < w1.heap.size := b1.lt
  have HO1 := Lib.hid (((Only.refl [] w).alloc (.cells #[.int .i64 2, .int .i64 v, .int .i64 s, .int .i64 b, .int .i64 c, .int .i64 e, .int .i64 d, .slice A n cp] 64)).trans' hO1)
  have HI1 := Lib.hid ((HI.out.alloc (.cells #[.int .i64 2, .int .i64 v, .int .i64 s, .int .i64 b, .int .i64 c, .int .i64 e, .int .i64 d, .slice A n cp] 64)).keep0 hO1)
  clear b1 hO1
  go_wp2_with fail
  refine (frame_within_any _ _ _ _).mono ?_
  rintro en w' ⟨rfl, rfl⟩
  rw [Hvv.out]
  go_wp2_with fail
  refine (frame_within_any _ _ _ _).mono ?_
  rintro en w' ⟨rfl, rfl⟩
  rw [Hss.out]
  go_wp2_with fail
  refine (frame_within_any _ _ _ _).mono ?_
  rintro en w' ⟨rfl, rfl⟩
  rw [Hww.out]
  go_wp2_with fail
  go_region
  all_goals (go_wp2_with (first
    | (go_at_call 112; refine (frame_within_any _ _ _ _).mono ?_; rintro en w' ⟨rfl, rfl⟩; (first | rw [Hvv.out] | rw [Hss.out] | rw [Hww.out] | rw [Hcc.out] | rw [Hee.out] | rw [Hs0.out] | rw [He0.out] | rw [Hd0.out]))
    | (go_at_call 113
       refine (frame_same_any 2 v s b c e d A n cp xs 2 v s b c 0 0 none 0 0 [] _ (by first | exact HI1.out.alloc _ | exact (HI1.out.alloc _).drew) (Row1.nil _)).mono ?_
       rintro en w9 ⟨rfl, hO9⟩
       have HO9 : Hid (Only [] w w9) := by first | exact Lib.hid ((HO1.out.alloc _).trans' hO9) | exact Lib.hid (((HO1.out.alloc _).drew).trans' hO9)
       rw [HXN.out]
       clear hO9)))
  all_goals (go_ret; exact ⟨by rw [HM.out]; simp [*], by first | exact HO9.out | exact HO1.out.alloc _ | exact (HO1.out.alloc _).drew⟩)

set_option maxRecDepth 100000 in
set_option maxHeartbeats 4000000 in
theorem frame_may_2n (v s b c e d : Int) (A : Option Addr) (n cp : Nat) (xs : List UInt8) (w : World) (hi : Bys w A n cp xs) (hb : ¬ (0 ≤ b ∧ b ≤ 63)) :
    Calls Try.prog 47 #[.agg #[.int .i64 2, .int .i64 v, .int .i64 s, .int .i64 b, .int .i64 c, .int .i64 e, .int .i64 d, .slice A n cp]] w fun en w' => en = .returned (.bool (frMay ⟨2, v, s, b, c, e, d, xs⟩)) ∧ Only [] w w' := by
  have hlen := hi.len
  rw [bvs_length] at hlen
  obtain ⟨vv, hvv⟩ : ∃ x, decide (1 ≤ v ∧ v ≤ 2147483647) = x := ⟨_, rfl⟩
  have Hvv := Lib.hid hvv
  obtain ⟨ss, hss⟩ : ∃ x, decide (1 ≤ s ∧ s ≤ 2147483647) = x := ⟨_, rfl⟩
  have Hss := Lib.hid hss
  obtain ⟨ww, hww⟩ : ∃ x, decide (0 ≤ b ∧ b ≤ 63) = x := ⟨_, rfl⟩
  have Hww := Lib.hid hww
  obtain ⟨cc, hcc⟩ : ∃ x, decide (1 ≤ c ∧ c ≤ 64 - b) = x := ⟨_, rfl⟩
  have Hcc := Lib.hid hcc
  obtain ⟨ee, hee⟩ : ∃ x, decide (1 ≤ e ∧ e ≤ 2147483647) = x := ⟨_, rfl⟩
  have Hee := Lib.hid hee
  obtain ⟨s0, hs0⟩ : ∃ x, decide (0 ≤ s ∧ s ≤ 2147483647) = x := ⟨_, rfl⟩
  have Hs0 := Lib.hid hs0
  obtain ⟨e0, he0⟩ : ∃ x, decide (0 ≤ e ∧ e ≤ 2147483647) = x := ⟨_, rfl⟩
  have He0 := Lib.hid he0
  obtain ⟨d0, hd0⟩ : ∃ x, decide (0 ≤ d ∧ d ≤ s) = x := ⟨_, rfl⟩
  have Hd0 := Lib.hid hd0
  obtain ⟨nl, hnl⟩ : ∃ x, decide (xs.length = 64) = x := ⟨_, rfl⟩
  obtain ⟨nz, hnz⟩ : ∃ x, decide (xs.length = 0) = x := ⟨_, rfl⟩
  have n64 : ((n : Int) == 64) = nl := by rw [← hnl, hlen, Bool.eq_iff_iff]; simp; omega
  have n0 : ((n : Int) == 0) = nz := by rw [← hnz, hlen, Bool.eq_iff_iff]; simp
  have hxn : decide (xs = []) = nz := by rw [← hnz, decide_eq_decide, List.length_eq_zero_iff]
  have HXN := Lib.hid hxn
  have HM : Hid (frMay ⟨2, v, s, b, c, e, d, xs⟩ = (vv && (ss && ww && cc && (e == 0) && (d == 0) && nz))) := Lib.hid (by subst hvv hss hww hcc hee hs0 he0 hd0 hnl hnz; rfl)
  have HI := Lib.hid hi
  clear hi hlen hnl hnz hxn hvv hss hww hcc hee hs0 he0 hd0
  obtain rfl : ww = false := by rw [← Hww.out]; exact decide_eq_false hb
  go_enter Try.func47, Try.ntmps47
  go_wp2_with fail
  refine (frame_bare_any 2 v s b c e d A n cp _).mono ?_
  rintro en w1 ⟨rfl, hO1⟩
  have b1 := (Own.new w #[.int .i64 2, .int .i64 v, .int .i64 s, .int .i64 b, .int .i64 c, .int .i64 e, .int .i64 d, .slice A n cp] 64).keep0 hO1
  have x0 : w1.cell? ⟨w.heap.size, 0, none⟩ = some (.int .i64 2) := b1.cell 0 (by simp)
  have x1 : w1.cell? ⟨w.heap.size, 1, none⟩ = some (.int .i64 v) := b1.cell 1 (by simp)
  have x2 : w1.cell? ⟨w.heap.size, 2, none⟩ = some (.int .i64 s) := b1.cell 2 (by simp)
  have x3 : w1.cell? ⟨w.heap.size, 3, none⟩ = some (.int .i64 b) := b1.cell 3 (by simp)
  have x4 : w1.cell? ⟨w.heap.size, 4, none⟩ = some (.int .i64 c) := b1.cell 4 (by simp)
  have x5 : w1.cell? ⟨w.heap.size, 5, none⟩ = some (.int .i64 e) := b1.cell 5 (by simp)
  have x6 : w1.cell? ⟨w.heap.size, 6, none⟩ = some (.int .i64 d) := b1.cell 6 (by simp)
  have x7 : w1.cell? ⟨w.heap.size, 7, none⟩ = some (.slice A n cp) := b1.cell 7 (by simp)
  have lx : w.heap.size < w1.heap.size := b1.lt
  have HO1 := Lib.hid (((Only.refl [] w).alloc (.cells #[.int .i64 2, .int .i64 v, .int .i64 s, .int .i64 b, .int .i64 c, .int .i64 e, .int .i64 d, .slice A n cp] 64)).trans' hO1)
  have HI1 := Lib.hid ((HI.out.alloc (.cells #[.int .i64 2, .int .i64 v, .int .i64 s, .int .i64 b, .int .i64 c, .int .i64 e, .int .i64 d, .slice A n cp] 64)).keep0 hO1)
  clear b1 hO1
  go_wp2_with fail
  refine (frame_within_any _ _ _ _).mono ?_
  rintro en w' ⟨rfl, rfl⟩
  rw [Hvv.out]
  go_wp2_with fail
  refine (frame_within_any _ _ _ _).mono ?_
  rintro en w' ⟨rfl, rfl⟩
  rw [Hss.out]
  go_wp2_with fail
  refine (frame_within_any _ _ _ _).mono ?_
  rintro en w' ⟨rfl, rfl⟩
  rw [Hww.out]
  go_wp2_with fail
  go_region
  all_goals (go_wp2_with (first
    | (go_at_call 112; refine (frame_within_any _ _ _ _).mono ?_; rintro en w' ⟨rfl, rfl⟩; (first | rw [Hvv.out] | rw [Hss.out] | rw [Hww.out] | rw [Hcc.out] | rw [Hee.out] | rw [Hs0.out] | rw [He0.out] | rw [Hd0.out]))
    | (go_at_call 113
       refine (frame_same_any 2 v s b c e d A n cp xs 2 v s b c 0 0 none 0 0 [] _ (by first | exact HI1.out.alloc _ | exact (HI1.out.alloc _).drew) (Row1.nil _)).mono ?_
       rintro en w9 ⟨rfl, hO9⟩
       have HO9 : Hid (Only [] w w9) := by first | exact Lib.hid ((HO1.out.alloc _).trans' hO9) | exact Lib.hid (((HO1.out.alloc _).drew).trans' hO9)
       rw [HXN.out]
       clear hO9)))
  all_goals (go_ret; exact ⟨by rw [HM.out]; simp [*], by first | exact HO9.out | exact HO1.out.alloc _ | exact (HO1.out.alloc _).drew⟩)

set_option maxRecDepth 100000 in
set_option maxHeartbeats 4000000 in
theorem frame_may_3 (v s b c e d : Int) (A : Option Addr) (n cp : Nat) (xs : List UInt8) (w : World) (hi : Bys w A n cp xs) :
    Calls Try.prog 47 #[.agg #[.int .i64 3, .int .i64 v, .int .i64 s, .int .i64 b, .int .i64 c, .int .i64 e, .int .i64 d, .slice A n cp]] w fun en w' => en = .returned (.bool (frMay ⟨3, v, s, b, c, e, d, xs⟩)) ∧ Only [] w w' := by
  have hlen := hi.len
  rw [bvs_length] at hlen
  obtain ⟨vv, hvv⟩ : ∃ x, decide (1 ≤ v ∧ v ≤ 2147483647) = x := ⟨_, rfl⟩
  have Hvv := Lib.hid hvv
  obtain ⟨ss, hss⟩ : ∃ x, decide (1 ≤ s ∧ s ≤ 2147483647) = x := ⟨_, rfl⟩
  have Hss := Lib.hid hss
  obtain ⟨ww, hww⟩ : ∃ x, decide (0 ≤ b ∧ b ≤ 63) = x := ⟨_, rfl⟩
  have Hww := Lib.hid hww
  obtain ⟨cc, hcc⟩ : ∃ x, decide (1 ≤ c ∧ c ≤ 64 - b) = x := ⟨_, rfl⟩
  have Hcc := Lib.hid hcc
  obtain ⟨ee, hee⟩ : ∃ x, decide (1 ≤ e ∧ e ≤ 2147483647) = x := ⟨_, rfl⟩
  have Hee := Lib.hid hee
  obtain ⟨s0, hs0⟩ : ∃ x, decide (0 ≤ s ∧ s ≤ 2147483647) = x := ⟨_, rfl⟩
  have Hs0 := Lib.hid hs0
  obtain ⟨e0, he0⟩ : ∃ x, decide (0 ≤ e ∧ e ≤ 2147483647) = x := ⟨_, rfl⟩
  have He0 := Lib.hid he0
  obtain ⟨d0, hd0⟩ : ∃ x, decide (0 ≤ d ∧ d ≤ s) = x := ⟨_, rfl⟩
  have Hd0 := Lib.hid hd0
  obtain ⟨nl, hnl⟩ : ∃ x, decide (xs.length = 64) = x := ⟨_, rfl⟩
  obtain ⟨nz, hnz⟩ : ∃ x, decide (xs.length = 0) = x := ⟨_, rfl⟩
  have n64 : ((n : Int) == 64) = nl := by rw [← hnl, hlen, Bool.eq_iff_iff]; simp; omega
  have n0 : ((n : Int) == 0) = nz := by rw [← hnz, hlen, Bool.eq_iff_iff]; simp
  have hxn : decide (xs = []) = nz := by rw [← hnz, decide_eq_decide, List.length_eq_zero_iff]
  have HXN := Lib.hid hxn
  have HM : Hid (frMay ⟨3, v, s, b, c, e, d, xs⟩ = (vv && (ss && (b == 0) && (c == 0) && ee && (d == 0) && nz))) := Lib.hid (by subst hvv hss hww hcc hee hs0 he0 hd0 hnl hnz; rfl)
  have HI := Lib.hid hi
  clear hi hlen hnl hnz hxn hvv hss hww hcc hee hs0 he0 hd0
  go_enter Try.func47, Try.ntmps47
  go_wp2_with fail
  refine (frame_bare_any 3 v s b c e d A n cp _).mono ?_
  rintro en w1 ⟨rfl, hO1⟩
  have b1 := (Own.new w #[.int .i64 3, .int .i64 v, .int .i64 s, .int .i64 b, .int .i64 c, .int .i64 e, .int .i64 d, .slice A n cp] 64).keep0 hO1
  have x0 : w1.cell? ⟨w.heap.size, 0, none⟩ = some (.int .i64 3) := b1.cell 0 (by simp)
  have x1 : w1.cell? ⟨w.heap.size, 1, none⟩ = some (.int .i64 v) := b1.cell 1 (by simp)
  have x2 : w1.cell? ⟨w.heap.size, 2, none⟩ = some (.int .i64 s) := b1.cell 2 (by simp)
  have x3 : w1.cell? ⟨w.heap.size, 3, none⟩ = some (.int .i64 b) := b1.cell 3 (by simp)
  have x4 : w1.cell? ⟨w.heap.size, 4, none⟩ = some (.int .i64 c) := b1.cell 4 (by simp)
  have x5 : w1.cell? ⟨w.heap.size, 5, none⟩ = some (.int .i64 e) := b1.cell 5 (by simp)
  have x6 : w1.cell? ⟨w.heap.size, 6, none⟩ = some (.int .i64 d) := b1.cell 6 (by simp)
  have x7 : w1.cell? ⟨w.heap.size, 7, none⟩ = some (.slice A n cp) := b1.cell 7 (by simp)
  have lx : w.heap.size < w1.heap.size := b1.lt
  have HO1 := Lib.hid (((Only.refl [] w).alloc (.cells #[.int .i64 3, .int .i64 v, .int .i64 s, .int .i64 b, .int .i64 c, .int .i64 e, .int .i64 d, .slice A n cp] 64)).trans' hO1)
  have HI1 := Lib.hid ((HI.out.alloc (.cells #[.int .i64 3, .int .i64 v, .int .i64 s, .int .i64 b, .int .i64 c, .int .i64 e, .int .i64 d, .slice A n cp] 64)).keep0 hO1)
  clear b1 hO1
  go_wp2_with fail
  refine (frame_within_any _ _ _ _).mono ?_
  rintro en w' ⟨rfl, rfl⟩
  rw [Hvv.out]
  go_wp2_with fail
  refine (frame_within_any _ _ _ _).mono ?_
  rintro en w' ⟨rfl, rfl⟩
  rw [Hss.out]
  go_wp2_with fail
  refine (frame_within_any _ _ _ _).mono ?_
  rintro en w' ⟨rfl, rfl⟩
  rw [Hww.out]
  go_wp2_with fail
  all_goals (go_wp2_with (first
    | (go_at_call 112; refine (frame_within_any _ _ _ _).mono ?_; rintro en w' ⟨rfl, rfl⟩; (first | rw [Hvv.out] | rw [Hss.out] | rw [Hww.out] | rw [Hcc.out] | rw [Hee.out] | rw [Hs0.out] | rw [He0.out] | rw [Hd0.out]))
    | (go_at_call 113
       refine (frame_same_any 3 v s b c e d A n cp xs 3 v s 0 0 e 0 none 0 0 [] _ (by first | exact HI1.out.alloc _ | exact (HI1.out.alloc _).drew) (Row1.nil _)).mono ?_
       rintro en w9 ⟨rfl, hO9⟩
       have HO9 : Hid (Only [] w w9) := by first | exact Lib.hid ((HO1.out.alloc _).trans' hO9) | exact Lib.hid (((HO1.out.alloc _).drew).trans' hO9)
       rw [HXN.out]
       clear hO9)))
  all_goals (go_ret; exact ⟨by rw [HM.out]; simp [*], by first | exact HO9.out | exact HO1.out.alloc _ | exact (HO1.out.alloc _).drew⟩)

set_option maxRecDepth 100000 in
set_option maxHeartbeats 4000000 in
theorem frame_may_8 (v s b c e d : Int) (A : Option Addr) (n cp : Nat) (xs : List UInt8) (w : World) (hi : Bys w A n cp xs) :
    Calls Try.prog 47 #[.agg #[.int .i64 8, .int .i64 v, .int .i64 s, .int .i64 b, .int .i64 c, .int .i64 e, .int .i64 d, .slice A n cp]] w fun en w' => en = .returned (.bool (frMay ⟨8, v, s, b, c, e, d, xs⟩)) ∧ Only [] w w' := by
  have hlen := hi.len
  rw [bvs_length] at hlen
  obtain ⟨vv, hvv⟩ : ∃ x, decide (1 ≤ v ∧ v ≤ 2147483647) = x := ⟨_, rfl⟩
  have Hvv := Lib.hid hvv
  obtain ⟨ss, hss⟩ : ∃ x, decide (1 ≤ s ∧ s ≤ 2147483647) = x := ⟨_, rfl⟩
  have Hss := Lib.hid hss
  obtain ⟨ww, hww⟩ : ∃ x, decide (0 ≤ b ∧ b ≤ 63) = x := ⟨_, rfl⟩
  have Hww := Lib.hid hww
  obtain ⟨cc, hcc⟩ : ∃ x, decide (1 ≤ c ∧ c ≤ 64 - b) = x := ⟨_, rfl⟩
  have Hcc := Lib.hid hcc
  obtain ⟨ee, hee⟩ : ∃ x, decide (1 ≤ e ∧ e ≤ 2147483647) = x := ⟨_, rfl⟩
  have Hee := Lib.hid hee
  obtain ⟨s0, hs0⟩ : ∃ x, decide (0 ≤ s ∧ s ≤ 2147483647) = x := ⟨_, rfl⟩
  have Hs0 := Lib.hid hs0
  obtain ⟨e0, he0⟩ : ∃ x, decide (0 ≤ e ∧ e ≤ 2147483647) = x := ⟨_, rfl⟩
  have He0 := Lib.hid he0
  obtain ⟨d0, hd0⟩ : ∃ x, decide (0 ≤ d ∧ d ≤ s) = x := ⟨_, rfl⟩
  have Hd0 := Lib.hid hd0
  obtain ⟨nl, hnl⟩ : ∃ x, decide (xs.length = 64) = x := ⟨_, rfl⟩
  obtain ⟨nz, hnz⟩ : ∃ x, decide (xs.length = 0) = x := ⟨_, rfl⟩
  have n64 : ((n : Int) == 64) = nl := by rw [← hnl, hlen, Bool.eq_iff_iff]; simp; omega
  have n0 : ((n : Int) == 0) = nz := by rw [← hnz, hlen, Bool.eq_iff_iff]; simp
  have hxn : decide (xs = []) = nz := by rw [← hnz, decide_eq_decide, List.length_eq_zero_iff]
  have HXN := Lib.hid hxn
  have HM : Hid (frMay ⟨8, v, s, b, c, e, d, xs⟩ = (vv && (s0 && (b == 0) && (c == 0) && e0 && d0 && nz))) := Lib.hid (by subst hvv hss hww hcc hee hs0 he0 hd0 hnl hnz; rfl)
  have HI := Lib.hid hi
  clear hi hlen hnl hnz hxn hvv hss hww hcc hee hs0 he0 hd0
  go_enter Try.func47, Try.ntmps47
  go_wp2_with fail
  refine (frame_bare_any 8 v s b c e d A n cp _).mono ?_
  rintro en w1 ⟨rfl, hO1⟩
  have b1 := (Own.new w #[.int .i64 8, .int .i64 v, .int .i64 s, .int .i64 b, .int .i64 c, .int .i64 e, .int .i64 d, .slice A n cp] 64).keep0 hO1
  have x0 : w1.cell? ⟨w.heap.size, 0, none⟩ = some (.int .i64 8) := b1.cell 0 (by simp)
  have x1 : w1.cell? ⟨w.heap.size, 1, none⟩ = some (.int .i64 v) := b1.cell 1 (by simp)
  have x2 : w1.cell? ⟨w.heap.size, 2, none⟩ = some (.int .i64 s) := b1.cell 2 (by simp)
  have x3 : w1.cell? ⟨w.heap.size, 3, none⟩ = some (.int .i64 b) := b1.cell 3 (by simp)
  have x4 : w1.cell? ⟨w.heap.size, 4, none⟩ = some (.int .i64 c) := b1.cell 4 (by simp)
  have x5 : w1.cell? ⟨w.heap.size, 5, none⟩ = some (.int .i64 e) := b1.cell 5 (by simp)
  have x6 : w1.cell? ⟨w.heap.size, 6, none⟩ = some (.int .i64 d) := b1.cell 6 (by simp)
  have x7 : w1.cell? ⟨w.heap.size, 7, none⟩ = some (.slice A n cp) := b1.cell 7 (by simp)
  have lx : w.heap.size < w1.heap.size := b1.lt
  have HO1 := Lib.hid (((Only.refl [] w).alloc (.cells #[.int .i64 8, .int .i64 v, .int .i64 s, .int .i64 b, .int .i64 c, .int .i64 e, .int .i64 d, .slice A n cp] 64)).trans' hO1)
  have HI1 := Lib.hid ((HI.out.alloc (.cells #[.int .i64 8, .int .i64 v, .int .i64 s, .int .i64 b, .int .i64 c, .int .i64 e, .int .i64 d, .slice A n cp] 64)).keep0 hO1)
  clear b1 hO1
  go_wp2_with fail
  refine (frame_within_any _ _ _ _).mono ?_
  rintro en w' ⟨rfl, rfl⟩
  rw [Hvv.out]
  go_wp2_with fail
  refine (frame_within_any _ _ _ _).mono ?_
  rintro en w' ⟨rfl, rfl⟩
  rw [Hss.out]
  go_wp2_with fail
  refine (frame_within_any _ _ _ _).mono ?_
  rintro en w' ⟨rfl, rfl⟩
  rw [Hww.out]
  go_wp2_with fail
  go_region
  all_goals (go_wp2_with (first
    | (go_at_call 112; refine (frame_within_any _ _ _ _).mono ?_; rintro en w' ⟨rfl, rfl⟩; (first | rw [Hvv.out] | rw [Hss.out] | rw [Hww.out] | rw [Hcc.out] | rw [Hee.out] | rw [Hs0.out] | rw [He0.out] | rw [Hd0.out]))
    | (go_at_call 113
       refine (frame_same_any 8 v s b c e d A n cp xs 8 v s 0 0 e d none 0 0 [] _ (by first | exact HI1.out.alloc _ | exact (HI1.out.alloc _).drew) (Row1.nil _)).mono ?_
       rintro en w9 ⟨rfl, hO9⟩
       have HO9 : Hid (Only [] w w9) := by first | exact Lib.hid ((HO1.out.alloc _).trans' hO9) | exact Lib.hid (((HO1.out.alloc _).drew).trans' hO9)
       rw [HXN.out]
       clear hO9)))
  all_goals (go_ret; exact ⟨by rw [HM.out]; simp [*], by first | exact HO9.out | exact HO1.out.alloc _ | exact (HO1.out.alloc _).drew⟩)

set_option maxRecDepth 100000 in
set_option maxHeartbeats 4000000 in
theorem frame_may_9 (v s b c e d : Int) (A : Option Addr) (n cp : Nat) (xs : List UInt8) (w : World) (hi : Bys w A n cp xs) :
    Calls Try.prog 47 #[.agg #[.int .i64 9, .int .i64 v, .int .i64 s, .int .i64 b, .int .i64 c, .int .i64 e, .int .i64 d, .slice A n cp]] w fun en w' => en = .returned (.bool (frMay ⟨9, v, s, b, c, e, d, xs⟩)) ∧ Only [] w w' := by
  have hlen := hi.len
  rw [bvs_length] at hlen
  obtain ⟨vv, hvv⟩ : ∃ x, decide (1 ≤ v ∧ v ≤ 2147483647) = x := ⟨_, rfl⟩
  have Hvv := Lib.hid hvv
  obtain ⟨ss, hss⟩ : ∃ x, decide (1 ≤ s ∧ s ≤ 2147483647) = x := ⟨_, rfl⟩
  have Hss := Lib.hid hss
  obtain ⟨ww, hww⟩ : ∃ x, decide (0 ≤ b ∧ b ≤ 63) = x := ⟨_, rfl⟩
  have Hww := Lib.hid hww
  obtain ⟨cc, hcc⟩ : ∃ x, decide (1 ≤ c ∧ c ≤ 64 - b) = x := ⟨_, rfl⟩
  have Hcc := Lib.hid hcc
  obtain ⟨ee, hee⟩ : ∃ x, decide (1 ≤ e ∧ e ≤ 2147483647) = x := ⟨_, rfl⟩
  have Hee := Lib.hid hee
  obtain ⟨s0, hs0⟩ : ∃ x, decide (0 ≤ s ∧ s ≤ 2147483647) = x := ⟨_, rfl⟩
  have Hs0 := Lib.hid hs0
  obtain ⟨e0, he0⟩ : ∃ x, decide (0 ≤ e ∧ e ≤ 2147483647) = x := ⟨_, rfl⟩
  have He0 := Lib.hid he0
  obtain ⟨d0, hd0⟩ : ∃ x, decide (0 ≤ d ∧ d ≤ s) = x := ⟨_, rfl⟩
  have Hd0 := Lib.hid hd0
  obtain ⟨nl, hnl⟩ : ∃ x, decide (xs.length = 64) = x := ⟨_, rfl⟩
  obtain ⟨nz, hnz⟩ : ∃ x, decide (xs.length = 0) = x := ⟨_, rfl⟩
  have n64 : ((n : Int) == 64) = nl := by rw [← hnl, hlen, Bool.eq_iff_iff]; simp; omega
  have n0 : ((n : Int) == 0) = nz := by rw [← hnz, hlen, Bool.eq_iff_iff]; simp
  have hxn : decide (xs = []) = nz := by rw [← hnz, decide_eq_decide, List.length_eq_zero_iff]
  have HXN := Lib.hid hxn
  have HM : Hid (frMay ⟨9, v, s, b, c, e, d, xs⟩ = (vv && ((s == 0) && (b == 0) && (c == 0) && (e == 0) && (d == 0) && nz))) := Lib.hid (by subst hvv hss hww hcc hee hs0 he0 hd0 hnl hnz; rfl)
  have HI := Lib.hid hi
  clear hi hlen hnl hnz hxn hvv hss hww hcc hee hs0 he0 hd0
  go_enter Try.func47, Try.ntmps47
  go_wp2_with fail
  refine (frame_bare_any 9 v s b c e d A n cp _).mono ?_
  rintro en w1 ⟨rfl, hO1⟩
  have b1 := (Own.new w #[.int .i64 9, .int .i64 v, .int .i64 s, .int .i64 b, .int .i64 c, .int .i64 e, .int .i64 d, .slice A n cp] 64).keep0 hO1
  have x0 : w1.cell? ⟨w.heap.size, 0, none⟩ = some (.int .i64 9) := b1.cell 0 (by simp)
  have x1 : w1.cell? ⟨w.heap.size, 1, none⟩ = some (.int .i64 v) := b1.cell 1 (by simp)
  have x2 : w1.cell? ⟨w.heap.size, 2, none⟩ = some (.int .i64 s) := b1.cell 2 (by simp)
  have x3 : w1.cell? ⟨w.heap.size, 3, none⟩ = some (.int .i64 b) := b1.cell 3 (by simp)
  have x4 : w1.cell? ⟨w.heap.size, 4, none⟩ = some (.int .i64 c) := b1.cell 4 (by simp)
  have x5 : w1.cell? ⟨w.heap.size, 5, none⟩ = some (.int .i64 e) := b1.cell 5 (by simp)
  have x6 : w1.cell? ⟨w.heap.size, 6, none⟩ = some (.int .i64 d) := b1.cell 6 (by simp)
  have x7 : w1.cell? ⟨w.heap.size, 7, none⟩ = some (.slice A n cp) := b1.cell 7 (by simp)
  have lx : w.heap.size < w1.heap.size := b1.lt
  have HO1 := Lib.hid (((Only.refl [] w).alloc (.cells #[.int .i64 9, .int .i64 v, .int .i64 s, .int .i64 b, .int .i64 c, .int .i64 e, .int .i64 d, .slice A n cp] 64)).trans' hO1)
  have HI1 := Lib.hid ((HI.out.alloc (.cells #[.int .i64 9, .int .i64 v, .int .i64 s, .int .i64 b, .int .i64 c, .int .i64 e, .int .i64 d, .slice A n cp] 64)).keep0 hO1)
  clear b1 hO1
  go_wp2_with fail
  refine (frame_within_any _ _ _ _).mono ?_
  rintro en w' ⟨rfl, rfl⟩
  rw [Hvv.out]
  go_wp2_with fail
  refine (frame_within_any _ _ _ _).mono ?_
  rintro en w' ⟨rfl, rfl⟩
  rw [Hss.out]
  go_wp2_with fail
  refine (frame_within_any _ _ _ _).mono ?_
  rintro en w' ⟨rfl, rfl⟩
  rw [Hww.out]
  go_wp2_with fail
  all_goals (go_wp2_with (first
    | (go_at_call 112; refine (frame_within_any _ _ _ _).mono ?_; rintro en w' ⟨rfl, rfl⟩; (first | rw [Hvv.out] | rw [Hss.out] | rw [Hww.out] | rw [Hcc.out] | rw [Hee.out] | rw [Hs0.out] | rw [He0.out] | rw [Hd0.out]))
    | (go_at_call 113
       refine (frame_same_any 9 v s b c e d A n cp xs 9 v 0 0 0 0 0 none 0 0 [] _ (by first | exact HI1.out.alloc _ | exact (HI1.out.alloc _).drew) (Row1.nil _)).mono ?_
       rintro en w9 ⟨rfl, hO9⟩
       have HO9 : Hid (Only [] w w9) := by first | exact Lib.hid ((HO1.out.alloc _).trans' hO9) | exact Lib.hid (((HO1.out.alloc _).drew).trans' hO9)
       rw [HXN.out]
       clear hO9)))
  all_goals (go_ret; exact ⟨by rw [HM.out]; simp [*], by first | exact HO9.out | exact HO1.out.alloc _ | exact (HO1.out.alloc _).drew⟩)

set_option maxRecDepth 100000 in
set_option maxHeartbeats 4000000 in
theorem frame_may_0 (k v s b c e d : Int) (A : Option Addr) (n cp : Nat) (xs : List UInt8) (w : World) (hi : Bys w A n cp xs) (k1 : k ≠ 1) (k2 : k ≠ 2) (k3 : k ≠ 3) (k8 : k ≠ 8) (k9 : k ≠ 9) :
    Calls Try.prog 47 #[.agg #[.int .i64 k, .int .i64 v, .int .i64 s, .int .i64 b, .int .i64 c, .int .i64 e, .int .i64 d, .slice A n cp]] w fun en w' => en = .returned (.bool (frMay ⟨k, v, s, b, c, e, d, xs⟩)) ∧ Only [] w w' := by
  have hlen := hi.len
  rw [bvs_length] at hlen
  obtain ⟨vv, hvv⟩ : ∃ x, decide (1 ≤ v ∧ v ≤ 2147483647) = x := ⟨_, rfl⟩
  have Hvv := Lib.hid hvv
  obtain ⟨ss, hss⟩ : ∃ x, decide (1 ≤ s ∧ s ≤ 2147483647) = x := ⟨_, rfl⟩
  have Hss := Lib.hid hss
  obtain ⟨ww, hww⟩ : ∃ x, decide (0 ≤ b ∧ b ≤ 63) = x := ⟨_, rfl⟩
  have Hww := Lib.hid hww
  obtain ⟨cc, hcc⟩ : ∃ x, decide (1 ≤ c ∧ c ≤ 64 - b) = x := ⟨_, rfl⟩
  have Hcc := Lib.hid hcc
  obtain ⟨ee, hee⟩ : ∃ x, decide (1 ≤ e ∧ e ≤ 2147483647) = x := ⟨_, rfl⟩
  have Hee := Lib.hid hee
  obtain ⟨s0, hs0⟩ : ∃ x, decide (0 ≤ s ∧ s ≤ 2147483647) = x := ⟨_, rfl⟩
  have Hs0 := Lib.hid hs0
  obtain ⟨e0, he0⟩ : ∃ x, decide (0 ≤ e ∧ e ≤ 2147483647) = x := ⟨_, rfl⟩
  have He0 := Lib.hid he0
  obtain ⟨d0, hd0⟩ : ∃ x, decide (0 ≤ d ∧ d ≤ s) = x := ⟨_, rfl⟩
  have Hd0 := Lib.hid hd0
  obtain ⟨nl, hnl⟩ : ∃ x, decide (xs.length = 64) = x := ⟨_, rfl⟩
  obtain ⟨nz, hnz⟩ : ∃ x, decide (xs.length = 0) = x := ⟨_, rfl⟩
  have n64 : ((n : Int) == 64) = nl := by rw [← hnl, hlen, Bool.eq_iff_iff]; simp; omega
  have n0 : ((n : Int) == 0) = nz := by rw [← hnz, hlen, Bool.eq_iff_iff]; simp
  have hxn : decide (xs = []) = nz := by rw [← hnz, decide_eq_decide, List.length_eq_zero_iff]
  have HXN := Lib.hid hxn
  have HM : Hid (frMay ⟨k, v, s, b, c, e, d, xs⟩ = (vv && false)) := Lib.hid (by subst hvv hss hww hcc hee hs0 he0 hd0 hnl hnz; unfold frMay; simp only [if_neg k1, if_neg k2, if_neg k3, if_neg k8, if_neg k9])
  have q1 : (k == 1) = false := by simpa using k1
  have q2 : (k == 2) = false := by simpa using k2
  have q3 : (k == 3) = false := by simpa using k3
  have q8 : (k == 8) = false := by simpa using k8
  have q9 : (k == 9) = false := by simpa using k9
  have p9 : (k != 9) = true := by simpa using k9
  clear k1 k2 k3 k8 k9
  have HI := Lib.hid hi
  clear hi hlen hnl hnz hxn hvv hss hww hcc hee hs0 he0 hd0
  go_enter Try.func47, Try.ntmps47
  go_wp2_with fail
  refine (frame_bare_any k v s b c e d A n cp _).mono ?_
  rintro en w1 ⟨rfl, hO1⟩
  have b1 := (Own.new w #[.int .i64 k, .int .i64 v, .int .i64 s, .int .i64 b, .int .i64 c, .int .i64 e, .int .i64 d, .slice A n cp] 64).keep0 hO1
  have x0 : w1.cell? ⟨w.heap.size, 0, none⟩ = some (.int .i64 k) := b1.cell 0 (by simp)
  have x1 : w1.cell? ⟨w.heap.size, 1, none⟩ = some (.int .i64 v) := b1.cell 1 (by simp)
  have x2 : w1.cell? ⟨w.heap.size, 2, none⟩ = some (.int .i64 s) := b1.cell 2 (by simp)
  have x3 : w1.cell? ⟨w.heap.size, 3, none⟩ = some (.int .i64 b) := b1.cell 3 (by simp)
  have x4 : w1.cell? ⟨w.heap.size, 4, none⟩ = some (.int .i64 c) := b1.cell 4 (by simp)
  have x5 : w1.cell? ⟨w.heap.size, 5, none⟩ = some (.int .i64 e) := b1.cell 5 (by simp)
  have x6 : w1.cell? ⟨w.heap.size, 6, none⟩ = some (.int .i64 d) := b1.cell 6 (by simp)
  have x7 : w1.cell? ⟨w.heap.size, 7, none⟩ = some (.slice A n cp) := b1.cell 7 (by simp)
  have lx : w.heap.size < w1.heap.size := b1.lt
  have HO1 := Lib.hid (((Only.refl [] w).alloc (.cells #[.int .i64 k, .int .i64 v, .int .i64 s, .int .i64 b, .int .i64 c, .int .i64 e, .int .i64 d, .slice A n cp] 64)).trans' hO1)
  have HI1 := Lib.hid ((HI.out.alloc (.cells #[.int .i64 k, .int .i64 v, .int .i64 s, .int .i64 b, .int .i64 c, .int .i64 e, .int .i64 d, .slice A n cp] 64)).keep0 hO1)
  clear b1 hO1
  go_wp2_with fail
  refine (frame_within_any _ _ _ _).mono ?_
  rintro en w' ⟨rfl, rfl⟩
  rw [Hvv.out]
  go_wp2_with fail
  refine (frame_within_any _ _ _ _).mono ?_
  rintro en w' ⟨rfl, rfl⟩
  rw [Hss.out]
  go_wp2_with fail
  refine (frame_within_any _ _ _ _).mono ?_
  rintro en w' ⟨rfl, rfl⟩
  rw [Hww.out]
  go_wp2_with fail
  all_goals (go_wp2_with (first
    | (go_at_call 112; refine (frame_within_any _ _ _ _).mono ?_; rintro en w' ⟨rfl, rfl⟩; (first | rw [Hvv.out] | rw [Hss.out] | rw [Hww.out] | rw [Hcc.out] | rw [Hee.out] | rw [Hs0.out] | rw [He0.out] | rw [Hd0.out]))))
  all_goals (go_ret; exact ⟨by rw [HM.out]; simp [*], by first | exact HO9.out | exact HO1.out.alloc _ | exact (HO1.out.alloc _).drew⟩)

theorem frame_may_any (k v s b c e d : Int) (A : Option Addr) (n cp : Nat) (xs : List UInt8) (w : World) (hi : Bys w A n cp xs) :
    Calls Try.prog 47 #[.agg #[.int .i64 k, .int .i64 v, .int .i64 s, .int .i64 b, .int .i64 c, .int .i64 e, .int .i64 d, .slice A n cp]] w fun en w' => en = .returned (.bool (frMay ⟨k, v, s, b, c, e, d, xs⟩)) ∧ Only [] w w' := by
  by_cases k1 : k = 1
  · subst k1
    exact frame_may_1 v s b c e d A n cp xs w hi
  by_cases k2 : k = 2
  · subst k2
    by_cases hb : 0 ≤ b ∧ b ≤ 63
    · exact frame_may_2y v s b c e d A n cp xs w hi hb
    · exact frame_may_2n v s b c e d A n cp xs w hi hb
  by_cases k3 : k = 3
  · subst k3
    exact frame_may_3 v s b c e d A n cp xs w hi
  by_cases k8 : k = 8
  · subst k8
    exact frame_may_8 v s b c e d A n cp xs w hi
  by_cases k9 : k = 9
  · subst k9
    exact frame_may_9 v s b c e d A n cp xs w hi
  exact frame_may_0 k v s b c e d A n cp xs w hi k1 k2 k3 k8 k9
end Go.Proofs.Ytjmbhknokobnpaa
