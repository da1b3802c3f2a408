/- The law package of chapter 6: made. -/
import Derived.Test.YtcojleippbneoaaLaw6A
import Derived.Test.YtcojleippbneoaaFrameI
set_option linter.unusedVariables false
namespace Go.Kn
open Go Go.RowKit
/-- the item that 'made' makes of four numbers -/
def madeIt (z0 z1 z2 z3 : Int) : It :=
  if z0 % 7 = 0 then ⟨1, z1 % 64, 0, 0⟩ else if z0 % 7 = 1 then ⟨2, z1 % 64, 1 + z2 % (64 - z1 % 64), 0⟩ else if z0 % 7 = 2 then ⟨3, 0, 0, 1 + z3 % 2147483647⟩
  else if z0 % 7 = 3 then ⟨4, z1 % 64, 0, 1 + z3 % 4095⟩ else if z0 % 7 = 4 then ⟨5, z1 % 64, 0, 0⟩ else if z0 % 7 = 5 then ⟨6, z1 % 64, 1 + z2 % (64 - z1 % 64), 0⟩ else ⟨7, 0, 0, z3 % 32⟩
theorem madeIt_may (z0 z1 z2 z3 : Int) : (madeIt z0 z1 z2 z3).may = true := by
  unfold madeIt
  have h1 : 0 ≤ z1 % 64 ∧ z1 % 64 < 64 := by omega
  have h2 : 0 ≤ z2 % (64 - z1 % 64) ∧ z2 % (64 - z1 % 64) < 64 - z1 % 64 := ⟨Int.emod_nonneg _ (by omega), Int.emod_lt_of_pos _ (by omega)⟩
  generalize z2 % (64 - z1 % 64) = y at *
  generalize z1 % 64 = x at *
  have h3 : 0 ≤ z3 % 2147483647 ∧ z3 % 2147483647 < 2147483647 := by omega
  have h4 : 0 ≤ z3 % 4095 ∧ z3 % 4095 < 4095 := by omega
  have h5 : 0 ≤ z3 % 32 ∧ z3 % 32 < 32 := by omega
  split
  · simp [It.may]; omega
  split
  · simp [It.may]; omega
  split
  · simp [It.may]; omega
  split
  · simp [It.may]; omega
  split
  · simp [It.may]; omega
  split
  · simp [It.may]; omega
  · simp [It.may]; omega
end Go.Kn
namespace Go.Proofs.Ytcojleippbneoaa
open Go Go.RowKit Go.Kn

set_option maxRecDepth 100000 in
set_option maxHeartbeats 4000000 in
theorem made_any (z0 z1 z2 z3 : Int) (w : World) (h0 : (Lit.int .i64 z0).wf = true) (h1 : (Lit.int .i64 z1).wf = true) (h2 : (Lit.int .i64 z2).wf = true) (h3 : (Lit.int .i64 z3).wf = true) :
    Calls Try.prog 46 #[.agg #[.int .i64 z0, .int .i64 z1, .int .i64 z2, .int .i64 z3]] w fun e w' => e = .returned (.agg (madeIt z0 z1 z2 z3).vals) ∧ Only [] w w' := by
  have a1 : 0 ≤ z1 % 64 ∧ z1 % 64 < 64 := by omega
  have hk : z0 % 7 = 0 ∨ z0 % 7 = 1 ∨ z0 % 7 = 2 ∨ z0 % 7 = 3 ∨ z0 % 7 = 4 ∨ z0 % 7 = 5 ∨ z0 % 7 = 6 := by omega
  rcases hk with hk | hk | hk | hk | hk | hk | hk
  · have hv : madeIt z0 z1 z2 z3 = ⟨1, z1 % 64, 0, 0⟩ := by unfold madeIt; simp [hk]
    have HV := Lib.hid hv
    clear hv
    go_enter Try.func46, Try.ntmps46
    go_wp2_with fail
    refine (round_any z1 64 _ h1 (by decide) (by decide)).mono ?_
    rintro e w' ⟨rfl, rfl⟩
    generalize hx1 : z1 % 64 = x1 at *
    have HX1 := Lib.hid hx1
    clear hx1
    go_wp2_with fail
    refine (round_any z0 7 _ h0 (by decide) (by decide)).mono ?_
    rintro e w' ⟨rfl, rfl⟩
    rw [hk]
    clear hk
    go_wp2
    (try simp only [Exit.inBlock, Exit.then])
    have e := HV.out
    refine bodyPost_ret (v := .agg (madeIt z0 z1 z2 z3).vals) ?_ rfl ⟨rfl, ?_⟩
    · have hres : Try.f46.results = #[.cell 2 53] := by kernel_rfl
      rw [e]
      simp only [results, hres, It.vals]
      clear e HV
      go_simp
    · exact ((Only.refl _ _).alloc _).alloc _
  · have hv : madeIt z0 z1 z2 z3 = ⟨2, z1 % 64, 1 + z2 % (64 - z1 % 64), 0⟩ := by unfold madeIt; simp [hk]
    have HV := Lib.hid hv
    clear hv
    go_enter Try.func46, Try.ntmps46
    go_wp2_with fail
    refine (round_any z1 64 _ h1 (by decide) (by decide)).mono ?_
    rintro e w' ⟨rfl, rfl⟩
    generalize hx1 : z1 % 64 = x1 at *
    have HX1 := Lib.hid hx1
    clear hx1
    go_wp2_with fail
    refine (round_any z0 7 _ h0 (by decide) (by decide)).mono ?_
    rintro e w' ⟨rfl, rfl⟩
    rw [hk]
    clear hk
    go_wp2_with fail
    refine (round_any z2 (64 - x1) _ h2 (by omega) (by omega)).mono ?_
    rintro e w' ⟨rfl, rfl⟩
    have b2 : 0 ≤ z2 % (64 - x1) ∧ z2 % (64 - x1) < 64 - x1 := ⟨Int.emod_nonneg _ (by omega), Int.emod_lt_of_pos _ (by omega)⟩
    generalize hx2 : z2 % (64 - x1) = x2 at *
    have HX2 := Lib.hid hx2
    clear hx2
    go_wp2
    (try simp only [Exit.inBlock, Exit.then])
    have e := HV.out
    refine bodyPost_ret (v := .agg (madeIt z0 z1 z2 z3).vals) ?_ rfl ⟨rfl, ?_⟩
    · have hres : Try.f46.results = #[.cell 2 53] := by kernel_rfl
      rw [e]
      simp only [results, hres, It.vals]
      clear e HV
      go_simp
    · exact ((Only.refl _ _).alloc _).alloc _
  · have hv : madeIt z0 z1 z2 z3 = ⟨3, 0, 0, 1 + z3 % 2147483647⟩ := by unfold madeIt; simp [hk]
    have HV := Lib.hid hv
    clear hv
    go_enter Try.func46, Try.ntmps46
    go_wp2_with fail
    refine (round_any z1 64 _ h1 (by decide) (by decide)).mono ?_
    rintro e w' ⟨rfl, rfl⟩
    generalize hx1 : z1 % 64 = x1 at *
    have HX1 := Lib.hid hx1
    clear hx1
    go_wp2_with fail
    refine (round_any z0 7 _ h0 (by decide) (by decide)).mono ?_
    rintro e w' ⟨rfl, rfl⟩
    rw [hk]
    clear hk
    go_wp2_with fail
    refine (round_any z3 2147483647 _ h3 (by decide) (by decide)).mono ?_
    rintro e w' ⟨rfl, rfl⟩
    have b2 : 0 ≤ z3 % 2147483647 ∧ z3 % 2147483647 < 2147483647 := by omega
    generalize hx2 : z3 % 2147483647 = x2 at *
    have HX2 := Lib.hid hx2
    clear hx2
    go_wp2
    (try simp only [Exit.inBlock, Exit.then])
    have e := HV.out
    refine bodyPost_ret (v := .agg (madeIt z0 z1 z2 z3).vals) ?_ rfl ⟨rfl, ?_⟩
    · have hres : Try.f46.results = #[.cell 2 53] := by kernel_rfl
      rw [e]
      simp only [results, hres, It.vals]
      clear e HV
      go_simp
    · exact ((Only.refl _ _).alloc _).alloc _
  · have hv : madeIt z0 z1 z2 z3 = ⟨4, z1 % 64, 0, 1 + z3 % 4095⟩ := by unfold madeIt; simp [hk]
    have HV := Lib.hid hv
    clear hv
    go_enter Try.func46, Try.ntmps46
    go_wp2_with fail
    refine (round_any z1 64 _ h1 (by decide) (by decide)).mono ?_
    rintro e w' ⟨rfl, rfl⟩
    generalize hx1 : z1 % 64 = x1 at *
    have HX1 := Lib.hid hx1
    clear hx1
    go_wp2_with fail
    refine (round_any z0 7 _ h0 (by decide) (by decide)).mono ?_
    rintro e w' ⟨rfl, rfl⟩
    rw [hk]
    clear hk
    go_wp2_with fail
    refine (round_any z3 4095 _ h3 (by decide) (by decide)).mono ?_
    rintro e w' ⟨rfl, rfl⟩
    have b2 : 0 ≤ z3 % 4095 ∧ z3 % 4095 < 4095 := by omega
    generalize hx2 : z3 % 4095 = x2 at *
    have HX2 := Lib.hid hx2
    clear hx2
    go_wp2
    (try simp only [Exit.inBlock, Exit.then])
    have e := HV.out
    refine bodyPost_ret (v := .agg (madeIt z0 z1 z2 z3).vals) ?_ rfl ⟨rfl, ?_⟩
    · have hres : Try.f46.results = #[.cell 2 53] := by kernel_rfl
      rw [e]
      simp only [results, hres, It.vals]
      clear e HV
      go_simp
    · exact ((Only.refl _ _).alloc _).alloc _
  · have hv : madeIt z0 z1 z2 z3 = ⟨5, z1 % 64, 0, 0⟩ := by unfold madeIt; simp [hk]
    have HV := Lib.hid hv
    clear hv
    go_enter Try.func46, Try.ntmps46
    go_wp2_with fail
    refine (round_any z1 64 _ h1 (by decide) (by decide)).mono ?_
    rintro e w' ⟨rfl, rfl⟩
    generalize hx1 : z1 % 64 = x1 at *
    have HX1 := Lib.hid hx1
    clear hx1
    go_wp2_with fail
    refine (round_any z0 7 _ h0 (by decide) (by decide)).mono ?_
    rintro e w' ⟨rfl, rfl⟩
    rw [hk]
    clear hk
    go_wp2
    (try simp only [Exit.inBlock, Exit.then])
    have e := HV.out
    refine bodyPost_ret (v := .agg (madeIt z0 z1 z2 z3).vals) ?_ rfl ⟨rfl, ?_⟩
    · have hres : Try.f46.results = #[.cell 2 53] := by kernel_rfl
      rw [e]
      simp only [results, hres, It.vals]
      clear e HV
      go_simp
    · exact ((Only.refl _ _).alloc _).alloc _
  · have hv : madeIt z0 z1 z2 z3 = ⟨6, z1 % 64, 1 + z2 % (64 - z1 % 64), 0⟩ := by unfold madeIt; simp [hk]
    have HV := Lib.hid hv
    clear hv
    go_enter Try.func46, Try.ntmps46
    go_wp2_with fail
    refine (round_any z1 64 _ h1 (by decide) (by decide)).mono ?_
    rintro e w' ⟨rfl, rfl⟩
    generalize hx1 : z1 % 64 = x1 at *
    have HX1 := Lib.hid hx1
    clear hx1
    go_wp2_with fail
    refine (round_any z0 7 _ h0 (by decide) (by decide)).mono ?_
    rintro e w' ⟨rfl, rfl⟩
    rw [hk]
    clear hk
    go_wp2_with fail
    refine (round_any z2 (64 - x1) _ h2 (by omega) (by omega)).mono ?_
    rintro e w' ⟨rfl, rfl⟩
    have b2 : 0 ≤ z2 % (64 - x1) ∧ z2 % (64 - x1) < 64 - x1 := ⟨Int.emod_nonneg _ (by omega), Int.emod_lt_of_pos _ (by omega)⟩
    generalize hx2 : z2 % (64 - x1) = x2 at *
    have HX2 := Lib.hid hx2
    clear hx2
    go_wp2
    (try simp only [Exit.inBlock, Exit.then])
    have e := HV.out
    refine bodyPost_ret (v := .agg (madeIt z0 z1 z2 z3).vals) ?_ rfl ⟨rfl, ?_⟩
    · have hres : Try.f46.results = #[.cell 2 53] := by kernel_rfl
      rw [e]
      simp only [results, hres, It.vals]
      clear e HV
      go_simp
    · exact ((Only.refl _ _).alloc _).alloc _
  · have hv : madeIt z0 z1 z2 z3 = ⟨7, 0, 0, z3 % 32⟩ := by unfold madeIt; simp [hk]
    have HV := Lib.hid hv
    clear hv
    go_enter Try.func46, Try.ntmps46
    go_wp2_with fail
    refine (round_any z1 64 _ h1 (by decide) (by decide)).mono ?_
    rintro e w' ⟨rfl, rfl⟩
    generalize hx1 : z1 % 64 = x1 at *
    have HX1 := Lib.hid hx1
    clear hx1
    go_wp2_with fail
    refine (round_any z0 7 _ h0 (by decide) (by decide)).mono ?_
    rintro e w' ⟨rfl, rfl⟩
    rw [hk]
    clear hk
    go_wp2_with fail
    refine (round_any z3 32 _ h3 (by decide) (by decide)).mono ?_
    rintro e w' ⟨rfl, rfl⟩
    generalize hx2 : z3 % 32 = x2 at *
    have HX2 := Lib.hid hx2
    clear hx2
    go_wp2
    (try simp only [Exit.inBlock, Exit.then])
    have e := HV.out
    refine bodyPost_ret (v := .agg (madeIt z0 z1 z2 z3).vals) ?_ rfl ⟨rfl, ?_⟩
    · have hres : Try.f46.results = #[.cell 2 53] := by kernel_rfl
      rw [e]
      simp only [results, hres, It.vals]
      clear e HV
      go_simp
    · exact ((Only.refl _ _).alloc _).alloc _
end Go.Proofs.Ytcojleippbneoaa
