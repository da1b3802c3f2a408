/- The law package of chapter 8: made. -/
import Derived.Test.YtcojleippbneoaaLaw8A
import Derived.Deep.RegionHeld3
set_option linter.unusedVariables false
namespace Go.Proofs.Ytcojleippbneoaa
open Go Go.RowKit Go.Kn

set_option maxRecDepth 100000 in
set_option maxHeartbeats 4000000 in
theorem made8 (z0 z1 z2 z3 : Int) (w : World) (h0 : (Lit.int .i64 z0).wf = true) (h1 : (Lit.int .i64 z1).wf = true) (h2 : (Lit.int .i64 z2).wf = true) (h3 : (Lit.int .i64 z3).wf = true) :
    Calls Try.prog 63 #[.agg #[.int .i64 z0, .int .i64 z1, .int .i64 z2, .int .i64 z3]] w fun e w' => e = .returned (.agg (madeHead z0 z1 z2 z3).vals) ∧ Only [] w w' := by
  have H0 := Lib.hid h0
  have H1 := Lib.hid h1
  have H2 := Lib.hid h2
  have H3 := Lib.hid h3
  have hv : madeHead z0 z1 z2 z3 = ⟨z0 % 32, 1 + z1 % 2147483647, 1 + z2 % 2147483647, z3 % 4294967296⟩ := rfl
  have HV := Lib.hid hv
  have hres : Try.f63.results = #[.cell 2 82] := by kernel_rfl
  have HRES := Lib.hid hres
  clear h0 h1 h2 h3 hv hres
  have a1 : 0 ≤ z1 % 2147483647 ∧ z1 % 2147483647 < 2147483647 := by omega
  have a2 : 0 ≤ z2 % 2147483647 ∧ z2 % 2147483647 < 2147483647 := by omega
  have hw1 := IntWalk.i64_in (1 + z1 % 2147483647) (by omega)
  have hw2 := IntWalk.i64_in (1 + z2 % 2147483647) (by omega)
  clear a1 a2
  go_enter Try.func63, Try.ntmps63
  go_wp2_with fail
  have hW : Only [] w ((w.alloc (.cells #[.int .i64 z0, .int .i64 z1, .int .i64 z2, .int .i64 z3] 67)).alloc (.cells #[.int .i64 0, .int .i64 0, .int .i64 0, .int .i64 0] 82)) := ((Only.refl _ _).alloc _).alloc _
  have HW := Lib.hid hW
  have c0 : ((w.alloc (.cells #[.int .i64 z0, .int .i64 z1, .int .i64 z2, .int .i64 z3] 67)).alloc (.cells #[.int .i64 0, .int .i64 0, .int .i64 0, .int .i64 0] 82)).cell? ⟨w.heap.size, 0, none⟩ = some (.int .i64 z0) := by simp
  have c1 : ((w.alloc (.cells #[.int .i64 z0, .int .i64 z1, .int .i64 z2, .int .i64 z3] 67)).alloc (.cells #[.int .i64 0, .int .i64 0, .int .i64 0, .int .i64 0] 82)).cell? ⟨w.heap.size, 1, none⟩ = some (.int .i64 z1) := by simp
  have c2 : ((w.alloc (.cells #[.int .i64 z0, .int .i64 z1, .int .i64 z2, .int .i64 z3] 67)).alloc (.cells #[.int .i64 0, .int .i64 0, .int .i64 0, .int .i64 0] 82)).cell? ⟨w.heap.size, 2, none⟩ = some (.int .i64 z2) := by simp
  have c3 : ((w.alloc (.cells #[.int .i64 z0, .int .i64 z1, .int .i64 z2, .int .i64 z3] 67)).alloc (.cells #[.int .i64 0, .int .i64 0, .int .i64 0, .int .i64 0] 82)).cell? ⟨w.heap.size, 3, none⟩ = some (.int .i64 z3) := by simp
  clear hW
  go_region_held3 (fun w' => w'.cell? ⟨w.heap.size, 0, none⟩ = some (.int .i64 z0) ∧ w'.cell? ⟨w.heap.size, 1, none⟩ = some (.int .i64 z1) ∧ w'.cell? ⟨w.heap.size, 2, none⟩ = some (.int .i64 z2) ∧ w'.cell? ⟨w.heap.size, 3, none⟩ = some (.int .i64 z3))
    (first | exact ⟨c0, c1, c2, c3⟩ | go_keep)
    (first
    | (go_at_call 20; refine (round_any _ _ _ (by first | exact H0.out | exact H1.out | exact H2.out | exact H3.out) (by decide) (by decide)).mono ?_
       rintro e w' ⟨rfl, rfl⟩))
  go_wp2
  (try simp only [Exit.inBlock, Exit.then])
  refine bodyPost_ret (v := .agg (madeHead z0 z1 z2 z3).vals) ?_ rfl ⟨rfl, ?_⟩
  · rw [HV.out]
    simp only [results, HRES.out, It.vals]
    go_simp
  · exact (((Only.refl _ _).alloc _).alloc _).drew
end Go.Proofs.Ytcojleippbneoaa
