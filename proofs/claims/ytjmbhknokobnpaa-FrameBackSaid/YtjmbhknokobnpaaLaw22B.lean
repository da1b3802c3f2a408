/- The law package of chapter 22: made. Printed by mkmade22.py. -/
import Derived.Test.YtjmbhknokobnpaaLaw22A
import Derived.Deep.RegionHeld3
set_option linter.unusedVariables false
set_option linter.unusedSimpArgs false
namespace Go.Proofs.Ytjmbhknokobnpaa
open Go Go.RowKit Go.Kn

set_option maxRecDepth 100000 in
set_option maxHeartbeats 8000000 in
theorem made22_1 (z0 z1 z2 z3 z4 z5 : Int) (w : World) (h0 : (Lit.int .i64 z0).wf = true) (h1 : (Lit.int .i64 z1).wf = true) (h2 : (Lit.int .i64 z2).wf = true) (h3 : (Lit.int .i64 z3).wf = true) (h4 : (Lit.int .i64 z4).wf = true) (h5 : (Lit.int .i64 z5).wf = true) (hz : z0 % 5 = 1) :
    Calls Try.prog 50 #[.agg #[.int .i64 z0, .int .i64 z1, .int .i64 z2, .int .i64 z3, .int .i64 z4, .int .i64 z5]] w fun e w' => e = .returned (.agg #[.int .i64 (2), .int .i64 (1 + z1 % 2147483647), .int .i64 (1 + z2 % 2147483647), .int .i64 (z3 % 64), .int .i64 (1 + z4 % (64 - z3 % 64)), .int .i64 (0), .int .i64 (0), .slice none 0 0]) ∧ Only [] w w' := by
  have H0 := Lib.hid h0
  have H1 := Lib.hid h1
  have H2 := Lib.hid h2
  have H3 := Lib.hid h3
  have H4 := Lib.hid h4
  have H5 := Lib.hid h5
  have HZ := Lib.hid hz
  have hres : Try.f50.results = #[.cell 2 64] := by kernel_rfl
  have HRES := Lib.hid hres
  clear h0 h1 h2 h3 h4 h5 hz hres
  have hw1 := IntWalk.i64_in (1 + z1 % 2147483647) (by omega)
  have hw2 := IntWalk.i64_in (1 + z2 % 2147483647) (by omega)
  have hb3 : 0 ≤ z3 % 64 ∧ z3 % 64 < 64 := by omega
  have hb4 : 0 ≤ z4 % (64 - z3 % 64) ∧ z4 % (64 - z3 % 64) < 64 - z3 % 64 := ⟨Int.emod_nonneg _ (by omega), Int.emod_lt_of_pos _ (by omega)⟩
  go_enter Try.func50, Try.ntmps50
  go_wp2_with fail
  have c1 : ((w.alloc (.cells #[.int .i64 z0, .int .i64 z1, .int .i64 z2, .int .i64 z3, .int .i64 z4, .int .i64 z5] 74)).alloc (.cells #[.int .i64 0, .int .i64 0, .int .i64 0, .int .i64 0, .int .i64 0, .int .i64 0, .int .i64 0, .slice none 0 0] 64)).cell? ⟨w.heap.size, 1, none⟩ = some (.int .i64 z1) := by simp
  have c2 : ((w.alloc (.cells #[.int .i64 z0, .int .i64 z1, .int .i64 z2, .int .i64 z3, .int .i64 z4, .int .i64 z5] 74)).alloc (.cells #[.int .i64 0, .int .i64 0, .int .i64 0, .int .i64 0, .int .i64 0, .int .i64 0, .int .i64 0, .slice none 0 0] 64)).cell? ⟨w.heap.size, 2, none⟩ = some (.int .i64 z2) := by simp
  go_region_held3 (fun w' => w'.cell? ⟨w.heap.size, 1, none⟩ = some (.int .i64 z1) ∧ w'.cell? ⟨w.heap.size, 2, none⟩ = some (.int .i64 z2))
    (first | exact ⟨c1, c2⟩ | go_keep)
    (first
    | (go_at_call 40; refine (round_any _ _ _ (by first | exact H1.out | exact H2.out) (by decide) (by decide)).mono ?_
       rintro e w' ⟨rfl, rfl⟩))
  all_goals
    go_wp2_with fail
    refine (round_any z3 64 _ H3.out (by decide) (by decide)).mono ?_
    rintro e w' ⟨rfl, rfl⟩
    go_wp2_with fail
    refine (round_any z0 5 _ H0.out (by decide) (by decide)).mono ?_
    rintro e w' ⟨rfl, rfl⟩
    rw [HZ.out]
    go_wp2_with fail
    refine (round_any z4 (64 - z3 % 64) _ H4.out (by omega) (by omega)).mono ?_
    rintro e w' ⟨rfl, rfl⟩
    go_wp2
    (try simp only [Exit.inBlock, Exit.then])
    refine bodyPost_ret (v := .agg #[.int .i64 (2), .int .i64 (1 + z1 % 2147483647), .int .i64 (1 + z2 % 2147483647), .int .i64 (z3 % 64), .int .i64 (1 + z4 % (64 - z3 % 64)), .int .i64 (0), .int .i64 (0), .slice none 0 0]) ?_ rfl ⟨rfl, ?_⟩
    · simp only [results, HRES.out]
      go_simp
    · first
        | exact ((((Only.refl _ _).alloc _).alloc _).drew).alloc _
        | exact ((((Only.refl _ _).alloc _).alloc _).alloc _).drew
        | exact (((Only.refl _ _).alloc _).alloc _).alloc _

set_option maxRecDepth 100000 in
set_option maxHeartbeats 8000000 in
theorem made22_2 (z0 z1 z2 z3 z4 z5 : Int) (w : World) (h0 : (Lit.int .i64 z0).wf = true) (h1 : (Lit.int .i64 z1).wf = true) (h2 : (Lit.int .i64 z2).wf = true) (h3 : (Lit.int .i64 z3).wf = true) (h4 : (Lit.int .i64 z4).wf = true) (h5 : (Lit.int .i64 z5).wf = true) (hz : z0 % 5 = 2) :
    Calls Try.prog 50 #[.agg #[.int .i64 z0, .int .i64 z1, .int .i64 z2, .int .i64 z3, .int .i64 z4, .int .i64 z5]] w fun e w' => e = .returned (.agg #[.int .i64 (3), .int .i64 (1 + z1 % 2147483647), .int .i64 (1 + z2 % 2147483647), .int .i64 (0), .int .i64 (0), .int .i64 (1 + z5 % 2147483647), .int .i64 (0), .slice none 0 0]) ∧ Only [] w w' := by
  have H0 := Lib.hid h0
  have H1 := Lib.hid h1
  have H2 := Lib.hid h2
  have H3 := Lib.hid h3
  have H4 := Lib.hid h4
  have H5 := Lib.hid h5
  have HZ := Lib.hid hz
  have hres : Try.f50.results = #[.cell 2 64] := by kernel_rfl
  have HRES := Lib.hid hres
  clear h0 h1 h2 h3 h4 h5 hz hres
  have hw1 := IntWalk.i64_in (1 + z1 % 2147483647) (by omega)
  have hw2 := IntWalk.i64_in (1 + z2 % 2147483647) (by omega)
  go_enter Try.func50, Try.ntmps50
  go_wp2_with fail
  have c1 : ((w.alloc (.cells #[.int .i64 z0, .int .i64 z1, .int .i64 z2, .int .i64 z3, .int .i64 z4, .int .i64 z5] 74)).alloc (.cells #[.int .i64 0, .int .i64 0, .int .i64 0, .int .i64 0, .int .i64 0, .int .i64 0, .int .i64 0, .slice none 0 0] 64)).cell? ⟨w.heap.size, 1, none⟩ = some (.int .i64 z1) := by simp
  have c2 : ((w.alloc (.cells #[.int .i64 z0, .int .i64 z1, .int .i64 z2, .int .i64 z3, .int .i64 z4, .int .i64 z5] 74)).alloc (.cells #[.int .i64 0, .int .i64 0, .int .i64 0, .int .i64 0, .int .i64 0, .int .i64 0, .int .i64 0, .slice none 0 0] 64)).cell? ⟨w.heap.size, 2, none⟩ = some (.int .i64 z2) := by simp
  go_region_held3 (fun w' => w'.cell? ⟨w.heap.size, 1, none⟩ = some (.int .i64 z1) ∧ w'.cell? ⟨w.heap.size, 2, none⟩ = some (.int .i64 z2))
    (first | exact ⟨c1, c2⟩ | go_keep)
    (first
    | (go_at_call 40; refine (round_any _ _ _ (by first | exact H1.out | exact H2.out) (by decide) (by decide)).mono ?_
       rintro e w' ⟨rfl, rfl⟩))
  all_goals
    go_wp2_with fail
    refine (round_any z3 64 _ H3.out (by decide) (by decide)).mono ?_
    rintro e w' ⟨rfl, rfl⟩
    go_wp2_with fail
    refine (round_any z0 5 _ H0.out (by decide) (by decide)).mono ?_
    rintro e w' ⟨rfl, rfl⟩
    rw [HZ.out]
    go_wp2_with fail
    refine (round_any z5 (2147483647) _ H5.out (by decide) (by decide)).mono ?_
    rintro e w' ⟨rfl, rfl⟩
    go_wp2
    (try simp only [Exit.inBlock, Exit.then])
    refine bodyPost_ret (v := .agg #[.int .i64 (3), .int .i64 (1 + z1 % 2147483647), .int .i64 (1 + z2 % 2147483647), .int .i64 (0), .int .i64 (0), .int .i64 (1 + z5 % 2147483647), .int .i64 (0), .slice none 0 0]) ?_ rfl ⟨rfl, ?_⟩
    · simp only [results, HRES.out]
      go_simp
    · first
        | exact ((((Only.refl _ _).alloc _).alloc _).drew).alloc _
        | exact ((((Only.refl _ _).alloc _).alloc _).alloc _).drew
        | exact (((Only.refl _ _).alloc _).alloc _).alloc _

set_option maxRecDepth 100000 in
set_option maxHeartbeats 8000000 in
theorem made22_4 (z0 z1 z2 z3 z4 z5 : Int) (w : World) (h0 : (Lit.int .i64 z0).wf = true) (h1 : (Lit.int .i64 z1).wf = true) (h2 : (Lit.int .i64 z2).wf = true) (h3 : (Lit.int .i64 z3).wf = true) (h4 : (Lit.int .i64 z4).wf = true) (h5 : (Lit.int .i64 z5).wf = true) (hz : z0 % 5 = 4) :
    Calls Try.prog 50 #[.agg #[.int .i64 z0, .int .i64 z1, .int .i64 z2, .int .i64 z3, .int .i64 z4, .int .i64 z5]] w fun e w' => e = .returned (.agg #[.int .i64 (9), .int .i64 (1 + z1 % 2147483647), .int .i64 (0), .int .i64 (0), .int .i64 (0), .int .i64 (0), .int .i64 (0), .slice none 0 0]) ∧ Only [] w w' := by
  have H0 := Lib.hid h0
  have H1 := Lib.hid h1
  have H2 := Lib.hid h2
  have H3 := Lib.hid h3
  have H4 := Lib.hid h4
  have H5 := Lib.hid h5
  have HZ := Lib.hid hz
  have hres : Try.f50.results = #[.cell 2 64] := by kernel_rfl
  have HRES := Lib.hid hres
  clear h0 h1 h2 h3 h4 h5 hz hres
  have hw1 := IntWalk.i64_in (1 + z1 % 2147483647) (by omega)
  have hw2 := IntWalk.i64_in (1 + z2 % 2147483647) (by omega)
  go_enter Try.func50, Try.ntmps50
  go_wp2_with fail
  have c1 : ((w.alloc (.cells #[.int .i64 z0, .int .i64 z1, .int .i64 z2, .int .i64 z3, .int .i64 z4, .int .i64 z5] 74)).alloc (.cells #[.int .i64 0, .int .i64 0, .int .i64 0, .int .i64 0, .int .i64 0, .int .i64 0, .int .i64 0, .slice none 0 0] 64)).cell? ⟨w.heap.size, 1, none⟩ = some (.int .i64 z1) := by simp
  have c2 : ((w.alloc (.cells #[.int .i64 z0, .int .i64 z1, .int .i64 z2, .int .i64 z3, .int .i64 z4, .int .i64 z5] 74)).alloc (.cells #[.int .i64 0, .int .i64 0, .int .i64 0, .int .i64 0, .int .i64 0, .int .i64 0, .int .i64 0, .slice none 0 0] 64)).cell? ⟨w.heap.size, 2, none⟩ = some (.int .i64 z2) := by simp
  go_region_held3 (fun w' => w'.cell? ⟨w.heap.size, 1, none⟩ = some (.int .i64 z1) ∧ w'.cell? ⟨w.heap.size, 2, none⟩ = some (.int .i64 z2))
    (first | exact ⟨c1, c2⟩ | go_keep)
    (first
    | (go_at_call 40; refine (round_any _ _ _ (by first | exact H1.out | exact H2.out) (by decide) (by decide)).mono ?_
       rintro e w' ⟨rfl, rfl⟩))
  all_goals
    go_wp2_with fail
    refine (round_any z3 64 _ H3.out (by decide) (by decide)).mono ?_
    rintro e w' ⟨rfl, rfl⟩
    go_wp2_with fail
    refine (round_any z0 5 _ H0.out (by decide) (by decide)).mono ?_
    rintro e w' ⟨rfl, rfl⟩
    rw [HZ.out]
    go_wp2
    (try simp only [Exit.inBlock, Exit.then])
    refine bodyPost_ret (v := .agg #[.int .i64 (9), .int .i64 (1 + z1 % 2147483647), .int .i64 (0), .int .i64 (0), .int .i64 (0), .int .i64 (0), .int .i64 (0), .slice none 0 0]) ?_ rfl ⟨rfl, ?_⟩
    · simp only [results, HRES.out]
      go_simp
    · first
        | exact ((((Only.refl _ _).alloc _).alloc _).drew).alloc _
        | exact ((((Only.refl _ _).alloc _).alloc _).alloc _).drew
        | exact (((Only.refl _ _).alloc _).alloc _).alloc _

end Go.Proofs.Ytjmbhknokobnpaa
