/- Contract of the reference's FrameMay. Printed by mkwire.py. -/
import Derived.Test.YtjmbhknokobnpaaWireM
set_option linter.unusedVariables false
set_option linter.unusedSimpArgs false
namespace Go.Proofs.Ytjmbhknokobnpaa
open Go Go.RowKit Go.Kn

set_option maxRecDepth 100000 in
set_option maxHeartbeats 4000000 in
theorem ref_frame_may_1 (v s b c e d : Int) (A : Option Addr) (n cp : Nat) (xs : List UInt8) (w : World) (hi : Bys w A n cp xs) :
    Calls Try.prog 48 #[.agg #[.int .i64 1, .int .i64 v, .int .i64 s, .int .i64 b, .int .i64 c, .int .i64 e, .int .i64 d, .slice A n cp]] w fun en w' => en = .returned (.bool (frMay ⟨1, v, s, b, c, e, d, xs⟩)) ∧ Only [] w w' := by
  have hlen := hi.len
  rw [bvs_length] at hlen
  obtain ⟨vv, hvv⟩ : ∃ x, decide (1 ≤ v ∧ v ≤ 2147483647) = x := ⟨_, rfl⟩
  have Hvv := Lib.hid hvv
  obtain ⟨ss, hss⟩ : ∃ x, decide (1 ≤ s ∧ s ≤ 2147483647) = x := ⟨_, rfl⟩
  have Hss := Lib.hid hss
  obtain ⟨ww, hww⟩ : ∃ x, decide (0 ≤ b ∧ b ≤ 63) = x := ⟨_, rfl⟩
  have Hww := Lib.hid hww
  obtain ⟨cc, hcc⟩ : ∃ x, decide (1 ≤ c ∧ c ≤ 64 - b) = x := ⟨_, rfl⟩
  have Hcc := Lib.hid hcc
  obtain ⟨ee, hee⟩ : ∃ x, decide (1 ≤ e ∧ e ≤ 2147483647) = x := ⟨_, rfl⟩
  have Hee := Lib.hid hee
  obtain ⟨s0, hs0⟩ : ∃ x, decide (0 ≤ s ∧ s ≤ 2147483647) = x := ⟨_, rfl⟩
  have Hs0 := Lib.hid hs0
  obtain ⟨e0, he0⟩ : ∃ x, decide (0 ≤ e ∧ e ≤ 2147483647) = x := ⟨_, rfl⟩
  have He0 := Lib.hid he0
  obtain ⟨d0, hd0⟩ : ∃ x, decide (0 ≤ d ∧ d ≤ s) = x := ⟨_, rfl⟩
  have Hd0 := Lib.hid hd0
  obtain ⟨nl, hnl⟩ : ∃ x, decide (xs.length = 64) = x := ⟨_, rfl⟩
  obtain ⟨nz, hnz⟩ : ∃ x, decide (xs.length = 0) = x := ⟨_, rfl⟩
  have n64 : ((n : Int) == 64) = nl := by rw [← hnl, hlen, Bool.eq_iff_iff]; simp; omega
  have n0 : ((n : Int) == 0) = nz := by rw [← hnz, hlen, Bool.eq_iff_iff]; simp
  have hxn : decide (xs = []) = nz := by rw [← hnz, decide_eq_decide, List.length_eq_zero_iff]
  have HXN := Lib.hid hxn
  have HM : Hid (frMay ⟨1, v, s, b, c, e, d, xs⟩ = (vv && (ss && ww && (c == 0) && (e == 0) && (d == 0) && nl))) := Lib.hid (by subst hvv hss hww hcc hee hs0 he0 hd0 hnl hnz; rfl)
  have HI := Lib.hid hi
  clear hi hlen hnl hnz hxn hvv hss hww hcc hee hs0 he0 hd0
  go_enter Try.func48, Try.ntmps48
  go_wp2_with (first
    | (go_at_call 105; refine (within_any _ _ _ _).mono ?_; rintro en w' ⟨rfl, rfl⟩; (first | rw [Hvv.out] | rw [Hss.out] | rw [Hww.out] | rw [Hcc.out] | rw [Hee.out] | rw [Hs0.out] | rw [He0.out] | rw [Hd0.out])))
  all_goals (go_ret; exact ⟨by rw [HM.out]; first | (simp [*]; done) | (cases vv <;> simp_all; done), (Only.refl _ _).alloc _⟩)

set_option maxRecDepth 100000 in
set_option maxHeartbeats 4000000 in
theorem ref_frame_may_2y (v s b c e d : Int) (A : Option Addr) (n cp : Nat) (xs : List UInt8) (w : World) (hi : Bys w A n cp xs) (hb : 0 ≤ b ∧ b ≤ 63) :
    Calls Try.prog 48 #[.agg #[.int .i64 2, .int .i64 v, .int .i64 s, .int .i64 b, .int .i64 c, .int .i64 e, .int .i64 d, .slice A n cp]] w fun en w' => en = .returned (.bool (frMay ⟨2, v, s, b, c, e, d, xs⟩)) ∧ Only [] w w' := by
  have hw1 : IntKind.i64.wrap (64 - b) = 64 - b := IntWalk.i64_in _ (by omega)
  have hlen := hi.len
  rw [bvs_length] at hlen
  obtain ⟨vv, hvv⟩ : ∃ x, decide (1 ≤ v ∧ v ≤ 2147483647) = x := ⟨_, rfl⟩
  have Hvv := Lib.hid hvv
  obtain ⟨ss, hss⟩ : ∃ x, decide (1 ≤ s ∧ s ≤ 2147483647) = x := ⟨_, rfl⟩
  have Hss := Lib.hid hss
  obtain ⟨ww, hww⟩ : ∃ x, decide (0 ≤ b ∧ b ≤ 63) = x := ⟨_, rfl⟩
  have Hww := Lib.hid hww
  obtain ⟨cc, hcc⟩ : ∃ x, decide (1 ≤ c ∧ c ≤ 64 - b) = x := ⟨_, rfl⟩
  have Hcc := Lib.hid hcc
  obtain ⟨ee, hee⟩ : ∃ x, decide (1 ≤ e ∧ e ≤ 2147483647) = x := ⟨_, rfl⟩
  have Hee := Lib.hid hee
  obtain ⟨s0, hs0⟩ : ∃ x, decide (0 ≤ s ∧ s ≤ 2147483647) = x := ⟨_, rfl⟩
  have Hs0 := Lib.hid hs0
  obtain ⟨e0, he0⟩ : ∃ x, decide (0 ≤ e ∧ e ≤ 2147483647) = x := ⟨_, rfl⟩
  have He0 := Lib.hid he0
  obtain ⟨d0, hd0⟩ : ∃ x, decide (0 ≤ d ∧ d ≤ s) = x := ⟨_, rfl⟩
  have Hd0 := Lib.hid hd0
  obtain ⟨nl, hnl⟩ : ∃ x, decide (xs.length = 64) = x := ⟨_, rfl⟩
  obtain ⟨nz, hnz⟩ : ∃ x, decide (xs.length = 0) = x := ⟨_, rfl⟩
  have n64 : ((n : Int) == 64) = nl := by rw [← hnl, hlen, Bool.eq_iff_iff]; simp; omega
  have n0 : ((n : Int) == 0) = nz := by rw [← hnz, hlen, Bool.eq_iff_iff]; simp
  have hxn : decide (xs = []) = nz := by rw [← hnz, decide_eq_decide, List.length_eq_zero_iff]
  have HXN := Lib.hid hxn
  have HM : Hid (frMay ⟨2, v, s, b, c, e, d, xs⟩ = (vv && (ss && ww && cc && (e == 0) && (d == 0) && nz))) := Lib.hid (by subst hvv hss hww hcc hee hs0 he0 hd0 hnl hnz; rfl)
  have HI := Lib.hid hi
  clear hi hlen hnl hnz hxn hvv hss hww hcc hee hs0 he0 hd0
  obtain rfl : ww = true := by rw [← Hww.out]; exact decide_eq_true hb
  go_enter Try.func48, Try.ntmps48
  go_wp2_with (first
    | (go_at_call 105; refine (within_any _ _ _ _).mono ?_; rintro en w' ⟨rfl, rfl⟩; (first | rw [Hvv.out] | rw [Hss.out] | rw [Hww.out] | rw [Hcc.out] | rw [Hee.out] | rw [Hs0.out] | rw [He0.out] | rw [Hd0.out])))
  all_goals (go_ret; exact ⟨by rw [HM.out]; first | (simp [*]; done) | (cases vv <;> simp_all; done), (Only.refl _ _).alloc _⟩)

set_option maxRecDepth 100000 in
set_option maxHeartbeats 4000000 in
theorem ref_frame_may_2n (v s b c e d : Int) (A : Option Addr) (n cp : Nat) (xs : List UInt8) (w : World) (hi : Bys w A n cp xs) (hb : ¬ (0 ≤ b ∧ b ≤ 63)) :
    Calls Try.prog 48 #[.agg #[.int .i64 2, .int .i64 v, .int .i64 s, .int .i64 b, .int .i64 c, .int .i64 e, .int .i64 d, .slice A n cp]] w fun en w' => en = .returned (.bool (frMay ⟨2, v, s, b, c, e, d, xs⟩)) ∧ Only [] w w' := by
  have hlen := hi.len
  rw [bvs_length] at hlen
  obtain ⟨vv, hvv⟩ : ∃ x, decide (1 ≤ v ∧ v ≤ 2147483647) = x := ⟨_, rfl⟩
  have Hvv := Lib.hid hvv
  obtain ⟨ss, hss⟩ : ∃ x, decide (1 ≤ s ∧ s ≤ 2147483647) = x := ⟨_, rfl⟩
  have Hss := Lib.hid hss
  obtain ⟨ww, hww⟩ : ∃ x, decide (0 ≤ b ∧ b ≤ 63) = x := ⟨_, rfl⟩
  have Hww := Lib.hid hww
  obtain ⟨cc, hcc⟩ : ∃ x, decide (1 ≤ c ∧ c ≤ 64 - b) = x := ⟨_, rfl⟩
  have Hcc := Lib.hid hcc
  obtain ⟨ee, hee⟩ : ∃ x, decide (1 ≤ e ∧ e ≤ 2147483647) = x := ⟨_, rfl⟩
  have Hee := Lib.hid hee
  obtain ⟨s0, hs0⟩ : ∃ x, decide (0 ≤ s ∧ s ≤ 2147483647) = x := ⟨_, rfl⟩
  have Hs0 := Lib.hid hs0
  obtain ⟨e0, he0⟩ : ∃ x, decide (0 ≤ e ∧ e ≤ 2147483647) = x := ⟨_, rfl⟩
  have He0 := Lib.hid he0
  obtain ⟨d0, hd0⟩ : ∃ x, decide (0 ≤ d ∧ d ≤ s) = x := ⟨_, rfl⟩
  have Hd0 := Lib.hid hd0
  obtain ⟨nl, hnl⟩ : ∃ x, decide (xs.length = 64) = x := ⟨_, rfl⟩
  obtain ⟨nz, hnz⟩ : ∃ x, decide (xs.length = 0) = x := ⟨_, rfl⟩
  have n64 : ((n : Int) == 64) = nl := by rw [← hnl, hlen, Bool.eq_iff_iff]; simp; omega
  have n0 : ((n : Int) == 0) = nz := by rw [← hnz, hlen, Bool.eq_iff_iff]; simp
  have hxn : decide (xs = []) = nz := by rw [← hnz, decide_eq_decide, List.length_eq_zero_iff]
  have HXN := Lib.hid hxn
  have HM : Hid (frMay ⟨2, v, s, b, c, e, d, xs⟩ = (vv && (ss && ww && cc && (e == 0) && (d == 0) && nz))) := Lib.hid (by subst hvv hss hww hcc hee hs0 he0 hd0 hnl hnz; rfl)
  have HI := Lib.hid hi
  clear hi hlen hnl hnz hxn hvv hss hww hcc hee hs0 he0 hd0
  obtain rfl : ww = false := by rw [← Hww.out]; exact decide_eq_false hb
  go_enter Try.func48, Try.ntmps48
  go_wp2_with (first
    | (go_at_call 105; refine (within_any _ _ _ _).mono ?_; rintro en w' ⟨rfl, rfl⟩; (first | rw [Hvv.out] | rw [Hss.out] | rw [Hww.out] | rw [Hcc.out] | rw [Hee.out] | rw [Hs0.out] | rw [He0.out] | rw [Hd0.out])))
  all_goals (go_ret; exact ⟨by rw [HM.out]; first | (simp [*]; done) | (cases vv <;> simp_all; done), (Only.refl _ _).alloc _⟩)

set_option maxRecDepth 100000 in
set_option maxHeartbeats 4000000 in
theorem ref_frame_may_3 (v s b c e d : Int) (A : Option Addr) (n cp : Nat) (xs : List UInt8) (w : World) (hi : Bys w A n cp xs) :
    Calls Try.prog 48 #[.agg #[.int .i64 3, .int .i64 v, .int .i64 s, .int .i64 b, .int .i64 c, .int .i64 e, .int .i64 d, .slice A n cp]] w fun en w' => en = .returned (.bool (frMay ⟨3, v, s, b, c, e, d, xs⟩)) ∧ Only [] w w' := by
  have hlen := hi.len
  rw [bvs_length] at hlen
  obtain ⟨vv, hvv⟩ : ∃ x, decide (1 ≤ v ∧ v ≤ 2147483647) = x := ⟨_, rfl⟩
  have Hvv := Lib.hid hvv
  obtain ⟨ss, hss⟩ : ∃ x, decide (1 ≤ s ∧ s ≤ 2147483647) = x := ⟨_, rfl⟩
  have Hss := Lib.hid hss
  obtain ⟨ww, hww⟩ : ∃ x, decide (0 ≤ b ∧ b ≤ 63) = x := ⟨_, rfl⟩
  have Hww := Lib.hid hww
  obtain ⟨cc, hcc⟩ : ∃ x, decide (1 ≤ c ∧ c ≤ 64 - b) = x := ⟨_, rfl⟩
  have Hcc := Lib.hid hcc
  obtain ⟨ee, hee⟩ : ∃ x, decide (1 ≤ e ∧ e ≤ 2147483647) = x := ⟨_, rfl⟩
  have Hee := Lib.hid hee
  obtain ⟨s0, hs0⟩ : ∃ x, decide (0 ≤ s ∧ s ≤ 2147483647) = x := ⟨_, rfl⟩
  have Hs0 := Lib.hid hs0
  obtain ⟨e0, he0⟩ : ∃ x, decide (0 ≤ e ∧ e ≤ 2147483647) = x := ⟨_, rfl⟩
  have He0 := Lib.hid he0
  obtain ⟨d0, hd0⟩ : ∃ x, decide (0 ≤ d ∧ d ≤ s) = x := ⟨_, rfl⟩
  have Hd0 := Lib.hid hd0
  obtain ⟨nl, hnl⟩ : ∃ x, decide (xs.length = 64) = x := ⟨_, rfl⟩
  obtain ⟨nz, hnz⟩ : ∃ x, decide (xs.length = 0) = x := ⟨_, rfl⟩
  have n64 : ((n : Int) == 64) = nl := by rw [← hnl, hlen, Bool.eq_iff_iff]; simp; omega
  have n0 : ((n : Int) == 0) = nz := by rw [← hnz, hlen, Bool.eq_iff_iff]; simp
  have hxn : decide (xs = []) = nz := by rw [← hnz, decide_eq_decide, List.length_eq_zero_iff]
  have HXN := Lib.hid hxn
  have HM : Hid (frMay ⟨3, v, s, b, c, e, d, xs⟩ = (vv && (ss && (b == 0) && (c == 0) && ee && (d == 0) && nz))) := Lib.hid (by subst hvv hss hww hcc hee hs0 he0 hd0 hnl hnz; rfl)
  have HI := Lib.hid hi
  clear hi hlen hnl hnz hxn hvv hss hww hcc hee hs0 he0 hd0
  go_enter Try.func48, Try.ntmps48
  go_wp2_with (first
    | (go_at_call 105; refine (within_any _ _ _ _).mono ?_; rintro en w' ⟨rfl, rfl⟩; (first | rw [Hvv.out] | rw [Hss.out] | rw [Hww.out] | rw [Hcc.out] | rw [Hee.out] | rw [Hs0.out] | rw [He0.out] | rw [Hd0.out])))
  all_goals (go_ret; exact ⟨by rw [HM.out]; first | (simp [*]; done) | (cases vv <;> simp_all; done), (Only.refl _ _).alloc _⟩)

set_option maxRecDepth 100000 in
set_option maxHeartbeats 4000000 in
theorem ref_frame_may_8 (v s b c e d : Int) (A : Option Addr) (n cp : Nat) (xs : List UInt8) (w : World) (hi : Bys w A n cp xs) :
    Calls Try.prog 48 #[.agg #[.int .i64 8, .int .i64 v, .int .i64 s, .int .i64 b, .int .i64 c, .int .i64 e, .int .i64 d, .slice A n cp]] w fun en w' => en = .returned (.bool (frMay ⟨8, v, s, b, c, e, d, xs⟩)) ∧ Only [] w w' := by
  have hlen := hi.len
  rw [bvs_length] at hlen
  obtain ⟨vv, hvv⟩ : ∃ x, decide (1 ≤ v ∧ v ≤ 2147483647) = x := ⟨_, rfl⟩
  have Hvv := Lib.hid hvv
  obtain ⟨ss, hss⟩ : ∃ x, decide (1 ≤ s ∧ s ≤ 2147483647) = x := ⟨_, rfl⟩
  have Hss := Lib.hid hss
  obtain ⟨ww, hww⟩ : ∃ x, decide (0 ≤ b ∧ b ≤ 63) = x := ⟨_, rfl⟩
  have Hww := Lib.hid hww
  obtain ⟨cc, hcc⟩ : ∃ x, decide (1 ≤ c ∧ c ≤ 64 - b) = x := ⟨_, rfl⟩
  have Hcc := Lib.hid hcc
  obtain ⟨ee, hee⟩ : ∃ x, decide (1 ≤ e ∧ e ≤ 2147483647) = x := ⟨_, rfl⟩
  have Hee := Lib.hid hee
  obtain ⟨s0, hs0⟩ : ∃ x, decide (0 ≤ s ∧ s ≤ 2147483647) = x := ⟨_, rfl⟩
  have Hs0 := Lib.hid hs0
  obtain ⟨e0, he0⟩ : ∃ x, decide (0 ≤ e ∧ e ≤ 2147483647) = x := ⟨_, rfl⟩
  have He0 := Lib.hid he0
  obtain ⟨d0, hd0⟩ : ∃ x, decide (0 ≤ d ∧ d ≤ s) = x := ⟨_, rfl⟩
  have Hd0 := Lib.hid hd0
  obtain ⟨nl, hnl⟩ : ∃ x, decide (xs.length = 64) = x := ⟨_, rfl⟩
  obtain ⟨nz, hnz⟩ : ∃ x, decide (xs.length = 0) = x := ⟨_, rfl⟩
  have n64 : ((n : Int) == 64) = nl := by rw [← hnl, hlen, Bool.eq_iff_iff]; simp; omega
  have n0 : ((n : Int) == 0) = nz := by rw [← hnz, hlen, Bool.eq_iff_iff]; simp
  have hxn : decide (xs = []) = nz := by rw [← hnz, decide_eq_decide, List.length_eq_zero_iff]
  have HXN := Lib.hid hxn
  have HM : Hid (frMay ⟨8, v, s, b, c, e, d, xs⟩ = (vv && (s0 && (b == 0) && (c == 0) && e0 && d0 && nz))) := Lib.hid (by subst hvv hss hww hcc hee hs0 he0 hd0 hnl hnz; rfl)
  have HI := Lib.hid hi
  clear hi hlen hnl hnz hxn hvv hss hww hcc hee hs0 he0 hd0
  go_enter Try.func48, Try.ntmps48
  go_wp2_with (first
    | (go_at_call 105; refine (within_any _ _ _ _).mono ?_; rintro en w' ⟨rfl, rfl⟩; (first | rw [Hvv.out] | rw [Hss.out] | rw [Hww.out] | rw [Hcc.out] | rw [Hee.out] | rw [Hs0.out] | rw [He0.out] | rw [Hd0.out])))
  all_goals (go_ret; exact ⟨by rw [HM.out]; first | (simp [*]; done) | (cases vv <;> simp_all; done), (Only.refl _ _).alloc _⟩)

set_option maxRecDepth 100000 in
set_option maxHeartbeats 4000000 in
theorem ref_frame_may_9 (v s b c e d : Int) (A : Option Addr) (n cp : Nat) (xs : List UInt8) (w : World) (hi : Bys w A n cp xs) :
    Calls Try.prog 48 #[.agg #[.int .i64 9, .int .i64 v, .int .i64 s, .int .i64 b, .int .i64 c, .int .i64 e, .int .i64 d, .slice A n cp]] w fun en w' => en = .returned (.bool (frMay ⟨9, v, s, b, c, e, d, xs⟩)) ∧ Only [] w w' := by
  have hlen := hi.len
  rw [bvs_length] at hlen
  obtain ⟨vv, hvv⟩ : ∃ x, decide (1 ≤ v ∧ v ≤ 2147483647) = x := ⟨_, rfl⟩
  have Hvv := Lib.hid hvv
  obtain ⟨ss, hss⟩ : ∃ x, decide (1 ≤ s ∧ s ≤ 2147483647) = x := ⟨_, rfl⟩
  have Hss := Lib.hid hss
  obtain ⟨ww, hww⟩ : ∃ x, decide (0 ≤ b ∧ b ≤ 63) = x := ⟨_, rfl⟩
  have Hww := Lib.hid hww
  obtain ⟨cc, hcc⟩ : ∃ x, decide (1 ≤ c ∧ c ≤ 64 - b) = x := ⟨_, rfl⟩
  have Hcc := Lib.hid hcc
  obtain ⟨ee, hee⟩ : ∃ x, decide (1 ≤ e ∧ e ≤ 2147483647) = x := ⟨_, rfl⟩
  have Hee := Lib.hid hee
  obtain ⟨s0, hs0⟩ : ∃ x, decide (0 ≤ s ∧ s ≤ 2147483647) = x := ⟨_, rfl⟩
  have Hs0 := Lib.hid hs0
  obtain ⟨e0, he0⟩ : ∃ x, decide (0 ≤ e ∧ e ≤ 2147483647) = x := ⟨_, rfl⟩
  have He0 := Lib.hid he0
  obtain ⟨d0, hd0⟩ : ∃ x, decide (0 ≤ d ∧ d ≤ s) = x := ⟨_, rfl⟩
  have Hd0 := Lib.hid hd0
  obtain ⟨nl, hnl⟩ : ∃ x, decide (xs.length = 64) = x := ⟨_, rfl⟩
  obtain ⟨nz, hnz⟩ : ∃ x, decide (xs.length = 0) = x := ⟨_, rfl⟩
  have n64 : ((n : Int) == 64) = nl := by rw [← hnl, hlen, Bool.eq_iff_iff]; simp; omega
  have n0 : ((n : Int) == 0) = nz := by rw [← hnz, hlen, Bool.eq_iff_iff]; simp
  have hxn : decide (xs = []) = nz := by rw [← hnz, decide_eq_decide, List.length_eq_zero_iff]
  have HXN := Lib.hid hxn
  have HM : Hid (frMay ⟨9, v, s, b, c, e, d, xs⟩ = (vv && ((s == 0) && (b == 0) && (c == 0) && (e == 0) && (d == 0) && nz))) := Lib.hid (by subst hvv hss hww hcc hee hs0 he0 hd0 hnl hnz; rfl)
  have HI := Lib.hid hi
  clear hi hlen hnl hnz hxn hvv hss hww hcc hee hs0 he0 hd0
  go_enter Try.func48, Try.ntmps48
  go_wp2_with (first
    | (go_at_call 105; refine (within_any _ _ _ _).mono ?_; rintro en w' ⟨rfl, rfl⟩; (first | rw [Hvv.out] | rw [Hss.out] | rw [Hww.out] | rw [Hcc.out] | rw [Hee.out] | rw [Hs0.out] | rw [He0.out] | rw [Hd0.out])))
  all_goals (go_ret; exact ⟨by rw [HM.out]; first | (simp [*]; done) | (cases vv <;> simp_all; done), (Only.refl _ _).alloc _⟩)

set_option maxRecDepth 100000 in
set_option maxHeartbeats 4000000 in
theorem ref_frame_may_0 (k v s b c e d : Int) (A : Option Addr) (n cp : Nat) (xs : List UInt8) (w : World) (hi : Bys w A n cp xs) (k1 : k ≠ 1) (k2 : k ≠ 2) (k3 : k ≠ 3) (k8 : k ≠ 8) (k9 : k ≠ 9) :
    Calls Try.prog 48 #[.agg #[.int .i64 k, .int .i64 v, .int .i64 s, .int .i64 b, .int .i64 c, .int .i64 e, .int .i64 d, .slice A n cp]] w fun en w' => en = .returned (.bool (frMay ⟨k, v, s, b, c, e, d, xs⟩)) ∧ Only [] w w' := by
  have hlen := hi.len
  rw [bvs_length] at hlen
  obtain ⟨vv, hvv⟩ : ∃ x, decide (1 ≤ v ∧ v ≤ 2147483647) = x := ⟨_, rfl⟩
  have Hvv := Lib.hid hvv
  obtain ⟨ss, hss⟩ : ∃ x, decide (1 ≤ s ∧ s ≤ 2147483647) = x := ⟨_, rfl⟩
  have Hss := Lib.hid hss
  obtain ⟨ww, hww⟩ : ∃ x, decide (0 ≤ b ∧ b ≤ 63) = x := ⟨_, rfl⟩
  have Hww := Lib.hid hww
  obtain ⟨cc, hcc⟩ : ∃ x, decide (1 ≤ c ∧ c ≤ 64 - b) = x := ⟨_, rfl⟩
  have Hcc := Lib.hid hcc
  obtain ⟨ee, hee⟩ : ∃ x, decide (1 ≤ e ∧ e ≤ 2147483647) = x := ⟨_, rfl⟩
  have Hee := Lib.hid hee
  obtain ⟨s0, hs0⟩ : ∃ x, decide (0 ≤ s ∧ s ≤ 2147483647) = x := ⟨_, rfl⟩
  have Hs0 := Lib.hid hs0
  obtain ⟨e0, he0⟩ : ∃ x, decide (0 ≤ e ∧ e ≤ 2147483647) = x := ⟨_, rfl⟩
  have He0 := Lib.hid he0
  obtain ⟨d0, hd0⟩ : ∃ x, decide (0 ≤ d ∧ d ≤ s) = x := ⟨_, rfl⟩
  have Hd0 := Lib.hid hd0
  obtain ⟨nl, hnl⟩ : ∃ x, decide (xs.length = 64) = x := ⟨_, rfl⟩
  obtain ⟨nz, hnz⟩ : ∃ x, decide (xs.length = 0) = x := ⟨_, rfl⟩
  have n64 : ((n : Int) == 64) = nl := by rw [← hnl, hlen, Bool.eq_iff_iff]; simp; omega
  have n0 : ((n : Int) == 0) = nz := by rw [← hnz, hlen, Bool.eq_iff_iff]; simp
  have hxn : decide (xs = []) = nz := by rw [← hnz, decide_eq_decide, List.length_eq_zero_iff]
  have HXN := Lib.hid hxn
  have HM : Hid (frMay ⟨k, v, s, b, c, e, d, xs⟩ = (vv && false)) := Lib.hid (by subst hvv hss hww hcc hee hs0 he0 hd0 hnl hnz; unfold frMay; simp only [if_neg k1, if_neg k2, if_neg k3, if_neg k8, if_neg k9])
  have q1 : (k == 1) = false := by simpa using k1
  have q2 : (k == 2) = false := by simpa using k2
  have q3 : (k == 3) = false := by simpa using k3
  have q8 : (k == 8) = false := by simpa using k8
  have q9 : (k == 9) = false := by simpa using k9
  have p9 : (k != 9) = true := by simpa using k9
  clear k1 k2 k3 k8 k9
  have HI := Lib.hid hi
  clear hi hlen hnl hnz hxn hvv hss hww hcc hee hs0 he0 hd0
  go_enter Try.func48, Try.ntmps48
  go_wp2_with (first
    | (go_at_call 105; refine (within_any _ _ _ _).mono ?_; rintro en w' ⟨rfl, rfl⟩; (first | rw [Hvv.out] | rw [Hss.out] | rw [Hww.out] | rw [Hcc.out] | rw [Hee.out] | rw [Hs0.out] | rw [He0.out] | rw [Hd0.out])))
  all_goals (go_ret; exact ⟨by rw [HM.out]; first | (simp [*]; done) | (cases vv <;> simp_all; done), (Only.refl _ _).alloc _⟩)

theorem ref_frame_may_any (k v s b c e d : Int) (A : Option Addr) (n cp : Nat) (xs : List UInt8) (w : World) (hi : Bys w A n cp xs) :
    Calls Try.prog 48 #[.agg #[.int .i64 k, .int .i64 v, .int .i64 s, .int .i64 b, .int .i64 c, .int .i64 e, .int .i64 d, .slice A n cp]] w fun en w' => en = .returned (.bool (frMay ⟨k, v, s, b, c, e, d, xs⟩)) ∧ Only [] w w' := by
  by_cases k1 : k = 1
  · subst k1
    exact ref_frame_may_1 v s b c e d A n cp xs w hi
  by_cases k2 : k = 2
  · subst k2
    by_cases hb : 0 ≤ b ∧ b ≤ 63
    · exact ref_frame_may_2y v s b c e d A n cp xs w hi hb
    · exact ref_frame_may_2n v s b c e d A n cp xs w hi hb
  by_cases k3 : k = 3
  · subst k3
    exact ref_frame_may_3 v s b c e d A n cp xs w hi
  by_cases k8 : k = 8
  · subst k8
    exact ref_frame_may_8 v s b c e d A n cp xs w hi
  by_cases k9 : k = 9
  · subst k9
    exact ref_frame_may_9 v s b c e d A n cp xs w hi
  exact ref_frame_may_0 k v s b c e d A n cp xs w hi k1 k2 k3 k8 k9
end Go.Proofs.Ytjmbhknokobnpaa
