/- The law package of chapter 5: Config, made; super.Choose. Printed by mklaw5.py. -/
import Derived.Test.YtjmbhknokobnpaaSuperB
import Derived.Deep.RegionHeld3
import Derived.Deep.Cut
set_option linter.unusedVariables false
set_option linter.unusedSimpArgs false
namespace Go.Kn
open Go Go.RowKit
/-- a superblock that may be, of numbers -/
def madeSuper (a b c i m : Int) : Su := ⟨1 + a % 64, 8 + b % 25, 24 + c % 41, i % 2147483648, 1 + m % 2147483647⟩
theorem madeSuper_may (a b c i m : Int) : superMay (madeSuper a b c i m) = true := by
  rw [superMay_iff]
  show ((1 ≤ 1 + a % 64 ∧ 1 + a % 64 ≤ 64) ∧ (8 ≤ 8 + b % 25 ∧ 8 + b % 25 ≤ 32) ∧ (24 ≤ 24 + c % 41 ∧ 24 + c % 41 ≤ 64)) ∧ (0 ≤ i % 2147483648 ∧ i % 2147483648 ≤ 2147483647) ∧ (1 ≤ 1 + m % 2147483647 ∧ 1 + m % 2147483647 ≤ 2147483647)
  omega
end Go.Kn
namespace Go.Proofs.Ytjmbhknokobnpaa
open Go Go.RowKit Go.Kn

set_option maxRecDepth 100000 in
set_option maxHeartbeats 4000000 in
theorem alike_config_any (z0 z1 z2 : Int) (w : World) (h0 : (Lit.int .i64 z0).wf = true) (h1 : (Lit.int .i64 z1).wf = true) (h2 : (Lit.int .i64 z2).wf = true) :
    Calls Try.prog 88 #[.agg #[.int .i64 z0, .int .i64 z1, .int .i64 z2], .bool false] w fun e w' => e = .returned (.agg #[.int .i64 (1 + z0 % 64), .int .i64 (8 + z1 % 25), .int .i64 (24 + z2 % 41)]) ∧ Only [] w w' := by
  have H0 := Lib.hid h0
  have H1 := Lib.hid h1
  have H2 := Lib.hid h2
  have hres : Try.f88.results = #[.cell 4 29] := by kernel_rfl
  have HRES := Lib.hid hres
  clear h0 h1 h2 hres
  have hw0 := IntWalk.i64_in (1 + z0 % 64) (by omega)
  have hw1 := IntWalk.i64_in (8 + z1 % 25) (by omega)
  have hw2 := IntWalk.i64_in (24 + z2 % 41) (by omega)
  go_enter Try.func88, Try.ntmps88
  go_wp2_with fail
  have c0 : ((w.alloc (.cells #[.int .i64 z0, .int .i64 z1, .int .i64 z2] 22)).alloc (.cells #[.int .i64 0, .int .i64 0, .int .i64 0] 29)).cell? ⟨w.heap.size, 0, none⟩ = some (.int .i64 z0) := by simp
  have c1 : ((w.alloc (.cells #[.int .i64 z0, .int .i64 z1, .int .i64 z2] 22)).alloc (.cells #[.int .i64 0, .int .i64 0, .int .i64 0] 29)).cell? ⟨w.heap.size, 1, none⟩ = some (.int .i64 z1) := by simp
  have c2 : ((w.alloc (.cells #[.int .i64 z0, .int .i64 z1, .int .i64 z2] 22)).alloc (.cells #[.int .i64 0, .int .i64 0, .int .i64 0] 29)).cell? ⟨w.heap.size, 2, none⟩ = some (.int .i64 z2) := by simp
  go_region_held3 (fun w' => w'.cell? ⟨w.heap.size, 0, none⟩ = some (.int .i64 z0) ∧ w'.cell? ⟨w.heap.size, 1, none⟩ = some (.int .i64 z1) ∧ w'.cell? ⟨w.heap.size, 2, none⟩ = some (.int .i64 z2))
    (first | exact ⟨c0, c1, c2⟩ | go_keep)
    (first
    | (go_at_call 40; refine (round_any _ _ _ (by first | exact H0.out | exact H1.out | exact H2.out) (by decide) (by decide)).mono ?_
       rintro e w' ⟨rfl, rfl⟩))
  go_wp2
  (try simp only [Exit.inBlock, Exit.then])
  refine bodyPost_ret (v := .agg #[.int .i64 (1 + z0 % 64), .int .i64 (8 + z1 % 25), .int .i64 (24 + z2 % 41)]) ?_ rfl ⟨rfl, ?_⟩
  · simp only [results, HRES.out]
    go_simp
  · exact (((Only.refl _ _).alloc _).alloc _).drew

set_option maxRecDepth 100000 in
set_option maxHeartbeats 4000000 in
theorem made5 (z0 z1 z2 i m : Int) (w : World) (h0 : (Lit.int .i64 z0).wf = true) (h1 : (Lit.int .i64 z1).wf = true) (h2 : (Lit.int .i64 z2).wf = true) (h3 : (Lit.int .i64 i).wf = true) (h4 : (Lit.int .i64 m).wf = true) :
    Calls Try.prog 24 #[.agg #[.int .i64 z0, .int .i64 z1, .int .i64 z2], .int .i64 i, .int .i64 m] w fun e w' => e = .returned (.agg (madeSuper z0 z1 z2 i m).vals) ∧ Only [] w w' := by
  have H0 := Lib.hid h0
  have H1 := Lib.hid h1
  have H2 := Lib.hid h2
  have H3 := Lib.hid h3
  have H4 := Lib.hid h4
  have hv : madeSuper z0 z1 z2 i m = ⟨1 + z0 % 64, 8 + z1 % 25, 24 + z2 % 41, i % 2147483648, 1 + m % 2147483647⟩ := rfl
  have HV := Lib.hid hv
  have hres : Try.f24.results = #[.cell 6 31] := by kernel_rfl
  have HRES := Lib.hid hres
  clear h0 h1 h2 h3 h4 hres hv
  go_enter Try.func24, Try.ntmps24
  go_wp2_with fail
  refine (alike_config_any z0 z1 z2 _ H0.out H1.out H2.out).mono ?_
  rintro e w1 ⟨rfl, hO1⟩
  have b1 := ((Own.new (w.alloc (.cells #[.int .i64 z0, .int .i64 z1, .int .i64 z2] 22)) #[.int .i64 0, .int .i64 0, .int .i64 0, .int .i64 0, .int .i64 0] 31)).keep0 hO1
  have hs1 : (w.alloc (.cells #[.int .i64 z0, .int .i64 z1, .int .i64 z2] 22)).heap.size = w.heap.size + 1 := by simp
  rw [hs1] at b1
  have q0 : w1.cell? ⟨w.heap.size + 1, 0, none⟩ = some (.int .i64 0) := b1.cell 0 (by simp)
  have f0 := b1.frozen 0
  have q1 : w1.cell? ⟨w.heap.size + 1, 1, none⟩ = some (.int .i64 0) := b1.cell 1 (by simp)
  have f1 := b1.frozen 1
  have q2 : w1.cell? ⟨w.heap.size + 1, 2, none⟩ = some (.int .i64 0) := b1.cell 2 (by simp)
  have f2 := b1.frozen 2
  have q3 : w1.cell? ⟨w.heap.size + 1, 3, none⟩ = some (.int .i64 0) := b1.cell 3 (by simp)
  have f3 := b1.frozen 3
  have q4 : w1.cell? ⟨w.heap.size + 1, 4, none⟩ = some (.int .i64 0) := b1.cell 4 (by simp)
  have f4 := b1.frozen 4
  have HO1 := Lib.hid ((((Only.refl [] w).alloc (.cells #[.int .i64 z0, .int .i64 z1, .int .i64 z2] 22)).alloc (.cells #[.int .i64 0, .int .i64 0, .int .i64 0, .int .i64 0, .int .i64 0] 31)).trans' hO1)
  generalize hx0 : 1 + z0 % 64 = x0 at *
  generalize hx1 : 8 + z1 % 25 = x1 at *
  generalize hx2 : 24 + z2 % 41 = x2 at *
  clear hO1 b1 hs1 hx0 hx1 hx2
  go_wp2_with fail
  refine (round_any i 2147483648 _ H3.out (by decide) (by decide)).mono ?_
  rintro e w' ⟨rfl, rfl⟩
  have i0 : 0 ≤ i % 2147483648 := Int.emod_nonneg _ (by decide)
  have i1 : i % 2147483648 < 2147483648 := Int.emod_lt_of_pos _ (by decide)
  generalize i % 2147483648 = ii at *
  go_wp2_with fail
  refine (round_any m 2147483647 _ H4.out (by decide) (by decide)).mono ?_
  rintro e w' ⟨rfl, rfl⟩
  have m0 : 0 ≤ m % 2147483647 := Int.emod_nonneg _ (by decide)
  have m1 : m % 2147483647 < 2147483647 := Int.emod_lt_of_pos _ (by decide)
  generalize m % 2147483647 = mm at *
  go_wp2
  (try simp only [Exit.inBlock, Exit.then])
  refine bodyPost_ret (v := .agg (madeSuper z0 z1 z2 i m).vals) ?_ rfl ⟨rfl, ?_⟩
  · rw [HV.out]
    simp only [results, HRES.out, Su.vals]
    go_simp
  · exact ((((HO1.out.set (.inr (by simp)) _).set (.inr (by simp)) _).set (.inr (by simp)) _).set (.inr (by simp)) _).set (.inr (by simp)) _

set_option maxRecDepth 100000 in
set_option maxHeartbeats 8000000 in
theorem super_choose_any (A : Option Addr) (n c : Nat) (xs : List UInt8) (B : Option Addr) (k d : Nat) (ys : List UInt8) (w : World) (hx : Bys w A n c xs) (hy : Bys w B k d ys) (hn : n ≤ 65536) (hk : k ≤ 65536) :
    Calls Try.prog 28 #[.slice A n c, .slice B k d] w fun e w' => e = .returned (.tuple #[.agg (superPick (decSuper xs) (decSuper ys)).1.vals, .int .i64 (superPick (decSuper xs) (decSuper ys)).2.1, .int .i64 (superPick (decSuper xs) (decSuper ys)).2.2]) ∧ Only [] w w' := by
  have HX := Lib.hid hx
  have HY := Lib.hid hy
  have hres : Try.f28.results = #[.cell 4 31, .tmp 5, .tmp 6] := by kernel_rfl
  have HRES := Lib.hid hres
  clear hx hy hres
  obtain ⟨ox, hox⟩ : ∃ o, decSuper xs = o := ⟨_, rfl⟩
  obtain ⟨oy, hoy⟩ : ∃ o, decSuper ys = o := ⟨_, rfl⟩
  rw [hox, hoy]
  have HOX := Lib.hid hox
  have HOY := Lib.hid hoy
  clear hox hoy
  rcases ox with _ | ⟨xb, xs_, xl, xi, xm⟩
  · rcases oy with _ | ⟨yb, ys_, yl, yi, ym⟩
    · go_enter Try.func28, Try.ntmps28
      go_wp2_with fail
      refine (super_dec_any A n c xs _ (by exact HX.out.alloc _) hn).mono ?_
      rintro e w1 ⟨rfl, hO1⟩
      rw [HOX.out]
      simp only [Option.getD_some, Option.getD_none, Option.isSome_some, Option.isSome_none, if_true, Su.vals]
      have HB1 := Lib.hid ((((Boxes.nil w).new #[.int .i64 0, .int .i64 0, .int .i64 0, .int .i64 0, .int .i64 0] 31).keep0 hO1).new #[.int .i64 0, .int .i64 0, .int .i64 0, .int .i64 0, .int .i64 0] 31)
      have HY1 := Lib.hid (((HY.out.alloc (.cells #[.int .i64 0, .int .i64 0, .int .i64 0, .int .i64 0, .int .i64 0] 31)).keep0 hO1).alloc (.cells #[.int .i64 0, .int .i64 0, .int .i64 0, .int .i64 0, .int .i64 0] 31))
      have HO1 := Lib.hid ((((Only.refl [] w).alloc (.cells #[.int .i64 0, .int .i64 0, .int .i64 0, .int .i64 0, .int .i64 0] 31)).trans' hO1).alloc (.cells #[.int .i64 0, .int .i64 0, .int .i64 0, .int .i64 0, .int .i64 0] 31))
      have hlt0 : w.heap.size < w1.heap.size := by have := hO1.size; simp at this; omega
      clear hO1
      go_wp2_with fail
      refine (super_dec_any B k d ys _ (by exact HY1.out) hk).mono ?_
      rintro e w2 ⟨rfl, hO2⟩
      rw [HOY.out]
      simp only [Option.getD_some, Option.getD_none, Option.isSome_some, Option.isSome_none, if_true, Su.vals]
      have HB2 := Lib.hid ((HB1.out.keep0 hO2).new #[.int .i64 0, .int .i64 0, .int .i64 0, .int .i64 0, .int .i64 0] 31)
      have HO2 := Lib.hid ((HO1.out.trans' hO2).alloc (.cells #[.int .i64 0, .int .i64 0, .int .i64 0, .int .i64 0, .int .i64 0] 31))
      have hlt : w1.heap.size < w2.heap.size := by have := hO2.size; simp at this; omega
      go_upto_region 3 with (fail)
      generalize w2.alloc (.cells #[.int .i64 0, .int .i64 0, .int .i64 0, .int .i64 0, .int .i64 0] 31) = W at *
      obtain ⟨x0, x1, x2, x3, x4, lx⟩ := HB2.out.at5 (b := w1.heap.size) (a0 := .int .i64 0) (a1 := .int .i64 0) (a2 := .int .i64 0) (a3 := .int .i64 0) (a4 := .int .i64 0) (by simp)
      obtain ⟨y0, y1, y2, y3, y4, ly⟩ := HB2.out.at5 (b := w2.heap.size) (a0 := .int .i64 0) (a1 := .int .i64 0) (a2 := .int .i64 0) (a3 := .int .i64 0) (a4 := .int .i64 0) (by simp)
      obtain ⟨r0, r1, r2, r3, r4, lr⟩ := HB2.out.at5 (b := w.heap.size) (a0 := .int .i64 0) (a1 := .int .i64 0) (a2 := .int .i64 0) (a3 := .int .i64 0) (a4 := .int .i64 0) (by simp)
      have f0 := (HB2.out (w.heap.size, [.int .i64 0, .int .i64 0, .int .i64 0, .int .i64 0, .int .i64 0]) (by simp)).frozen
      have z0 := f0 0
      have z1 := f0 1
      have z2 := f0 2
      have z3 := f0 3
      have z4 := f0 4
      have hl2 : w.heap.size < w2.heap.size := by omega
      clear hO2 HB1 HY1 HO1 f0
      go_wp2
      (try simp only [Exit.inBlock, Exit.then])
      refine bodyPost_ret (v := .tuple #[.agg #[.int .i64 0, .int .i64 0, .int .i64 0, .int .i64 0, .int .i64 0], .int .i64 0, .int .i64 2]) ?_ rfl ?_
      · simp only [results, HRES.out]
        go_simp
      · exact ⟨by first | rfl | simp only [superPick, Su.vals], ((((HO2.out.set (.inr (Nat.le_refl _)) _).set (.inr (Nat.le_refl _)) _).set (.inr (Nat.le_refl _)) _).set (.inr (Nat.le_refl _)) _).set (.inr (Nat.le_refl _)) _⟩
    · go_enter Try.func28, Try.ntmps28
      go_wp2_with fail
      refine (super_dec_any A n c xs _ (by exact HX.out.alloc _) hn).mono ?_
      rintro e w1 ⟨rfl, hO1⟩
      rw [HOX.out]
      simp only [Option.getD_some, Option.getD_none, Option.isSome_some, Option.isSome_none, if_true, Su.vals]
      have HB1 := Lib.hid ((((Boxes.nil w).new #[.int .i64 0, .int .i64 0, .int .i64 0, .int .i64 0, .int .i64 0] 31).keep0 hO1).new #[.int .i64 0, .int .i64 0, .int .i64 0, .int .i64 0, .int .i64 0] 31)
      have HY1 := Lib.hid (((HY.out.alloc (.cells #[.int .i64 0, .int .i64 0, .int .i64 0, .int .i64 0, .int .i64 0] 31)).keep0 hO1).alloc (.cells #[.int .i64 0, .int .i64 0, .int .i64 0, .int .i64 0, .int .i64 0] 31))
      have HO1 := Lib.hid ((((Only.refl [] w).alloc (.cells #[.int .i64 0, .int .i64 0, .int .i64 0, .int .i64 0, .int .i64 0] 31)).trans' hO1).alloc (.cells #[.int .i64 0, .int .i64 0, .int .i64 0, .int .i64 0, .int .i64 0] 31))
      have hlt0 : w.heap.size < w1.heap.size := by have := hO1.size; simp at this; omega
      clear hO1
      go_wp2_with fail
      refine (super_dec_any B k d ys _ (by exact HY1.out) hk).mono ?_
      rintro e w2 ⟨rfl, hO2⟩
      rw [HOY.out]
      simp only [Option.getD_some, Option.getD_none, Option.isSome_some, Option.isSome_none, if_true, Su.vals]
      have HB2 := Lib.hid ((HB1.out.keep0 hO2).new #[.int .i64 yb, .int .i64 ys_, .int .i64 yl, .int .i64 yi, .int .i64 ym] 31)
      have HO2 := Lib.hid ((HO1.out.trans' hO2).alloc (.cells #[.int .i64 yb, .int .i64 ys_, .int .i64 yl, .int .i64 yi, .int .i64 ym] 31))
      have hlt : w1.heap.size < w2.heap.size := by have := hO2.size; simp at this; omega
      go_upto_region 3 with (fail)
      generalize w2.alloc (.cells #[.int .i64 yb, .int .i64 ys_, .int .i64 yl, .int .i64 yi, .int .i64 ym] 31) = W at *
      obtain ⟨x0, x1, x2, x3, x4, lx⟩ := HB2.out.at5 (b := w1.heap.size) (a0 := .int .i64 0) (a1 := .int .i64 0) (a2 := .int .i64 0) (a3 := .int .i64 0) (a4 := .int .i64 0) (by simp)
      obtain ⟨y0, y1, y2, y3, y4, ly⟩ := HB2.out.at5 (b := w2.heap.size) (a0 := .int .i64 yb) (a1 := .int .i64 ys_) (a2 := .int .i64 yl) (a3 := .int .i64 yi) (a4 := .int .i64 ym) (by simp)
      obtain ⟨r0, r1, r2, r3, r4, lr⟩ := HB2.out.at5 (b := w.heap.size) (a0 := .int .i64 0) (a1 := .int .i64 0) (a2 := .int .i64 0) (a3 := .int .i64 0) (a4 := .int .i64 0) (by simp)
      have f0 := (HB2.out (w.heap.size, [.int .i64 0, .int .i64 0, .int .i64 0, .int .i64 0, .int .i64 0]) (by simp)).frozen
      have z0 := f0 0
      have z1 := f0 1
      have z2 := f0 2
      have z3 := f0 3
      have z4 := f0 4
      have hl2 : w.heap.size < w2.heap.size := by omega
      clear hO2 HB1 HY1 HO1 f0
      go_wp2
      (try simp only [Exit.inBlock, Exit.then])
      refine bodyPost_ret (v := .tuple #[.agg #[.int .i64 yb, .int .i64 ys_, .int .i64 yl, .int .i64 yi, .int .i64 ym], .int .i64 1, .int .i64 0]) ?_ rfl ?_
      · simp only [results, HRES.out]
        go_simp
      · exact ⟨by first | rfl | simp only [superPick, Su.vals], ((((HO2.out.set (.inr (Nat.le_refl _)) _).set (.inr (Nat.le_refl _)) _).set (.inr (Nat.le_refl _)) _).set (.inr (Nat.le_refl _)) _).set (.inr (Nat.le_refl _)) _⟩
  · rcases oy with _ | ⟨yb, ys_, yl, yi, ym⟩
    · go_enter Try.func28, Try.ntmps28
      go_wp2_with fail
      refine (super_dec_any A n c xs _ (by exact HX.out.alloc _) hn).mono ?_
      rintro e w1 ⟨rfl, hO1⟩
      rw [HOX.out]
      simp only [Option.getD_some, Option.getD_none, Option.isSome_some, Option.isSome_none, if_true, Su.vals]
      have HB1 := Lib.hid ((((Boxes.nil w).new #[.int .i64 0, .int .i64 0, .int .i64 0, .int .i64 0, .int .i64 0] 31).keep0 hO1).new #[.int .i64 xb, .int .i64 xs_, .int .i64 xl, .int .i64 xi, .int .i64 xm] 31)
      have HY1 := Lib.hid (((HY.out.alloc (.cells #[.int .i64 0, .int .i64 0, .int .i64 0, .int .i64 0, .int .i64 0] 31)).keep0 hO1).alloc (.cells #[.int .i64 xb, .int .i64 xs_, .int .i64 xl, .int .i64 xi, .int .i64 xm] 31))
      have HO1 := Lib.hid ((((Only.refl [] w).alloc (.cells #[.int .i64 0, .int .i64 0, .int .i64 0, .int .i64 0, .int .i64 0] 31)).trans' hO1).alloc (.cells #[.int .i64 xb, .int .i64 xs_, .int .i64 xl, .int .i64 xi, .int .i64 xm] 31))
      have hlt0 : w.heap.size < w1.heap.size := by have := hO1.size; simp at this; omega
      clear hO1
      go_wp2_with fail
      refine (super_dec_any B k d ys _ (by exact HY1.out) hk).mono ?_
      rintro e w2 ⟨rfl, hO2⟩
      rw [HOY.out]
      simp only [Option.getD_some, Option.getD_none, Option.isSome_some, Option.isSome_none, if_true, Su.vals]
      have HB2 := Lib.hid ((HB1.out.keep0 hO2).new #[.int .i64 0, .int .i64 0, .int .i64 0, .int .i64 0, .int .i64 0] 31)
      have HO2 := Lib.hid ((HO1.out.trans' hO2).alloc (.cells #[.int .i64 0, .int .i64 0, .int .i64 0, .int .i64 0, .int .i64 0] 31))
      have hlt : w1.heap.size < w2.heap.size := by have := hO2.size; simp at this; omega
      go_upto_region 3 with (fail)
      generalize w2.alloc (.cells #[.int .i64 0, .int .i64 0, .int .i64 0, .int .i64 0, .int .i64 0] 31) = W at *
      obtain ⟨x0, x1, x2, x3, x4, lx⟩ := HB2.out.at5 (b := w1.heap.size) (a0 := .int .i64 xb) (a1 := .int .i64 xs_) (a2 := .int .i64 xl) (a3 := .int .i64 xi) (a4 := .int .i64 xm) (by simp)
      obtain ⟨y0, y1, y2, y3, y4, ly⟩ := HB2.out.at5 (b := w2.heap.size) (a0 := .int .i64 0) (a1 := .int .i64 0) (a2 := .int .i64 0) (a3 := .int .i64 0) (a4 := .int .i64 0) (by simp)
      obtain ⟨r0, r1, r2, r3, r4, lr⟩ := HB2.out.at5 (b := w.heap.size) (a0 := .int .i64 0) (a1 := .int .i64 0) (a2 := .int .i64 0) (a3 := .int .i64 0) (a4 := .int .i64 0) (by simp)
      have f0 := (HB2.out (w.heap.size, [.int .i64 0, .int .i64 0, .int .i64 0, .int .i64 0, .int .i64 0]) (by simp)).frozen
      have z0 := f0 0
      have z1 := f0 1
      have z2 := f0 2
      have z3 := f0 3
      have z4 := f0 4
      have hl2 : w.heap.size < w2.heap.size := by omega
      clear hO2 HB1 HY1 HO1 f0
      go_wp2
      (try simp only [Exit.inBlock, Exit.then])
      refine bodyPost_ret (v := .tuple #[.agg #[.int .i64 xb, .int .i64 xs_, .int .i64 xl, .int .i64 xi, .int .i64 xm], .int .i64 0, .int .i64 0]) ?_ rfl ?_
      · simp only [results, HRES.out]
        go_simp
      · exact ⟨by first | rfl | simp only [superPick, Su.vals], ((((HO2.out.set (.inr (Nat.le_refl _)) _).set (.inr (Nat.le_refl _)) _).set (.inr (Nat.le_refl _)) _).set (.inr (Nat.le_refl _)) _).set (.inr (Nat.le_refl _)) _⟩
    · by_cases hm : ym ≤ xm
      · have HM := Lib.hid hm
        go_enter Try.func28, Try.ntmps28
        go_wp2_with fail
        refine (super_dec_any A n c xs _ (by exact HX.out.alloc _) hn).mono ?_
        rintro e w1 ⟨rfl, hO1⟩
        rw [HOX.out]
        simp only [Option.getD_some, Option.getD_none, Option.isSome_some, Option.isSome_none, if_true, Su.vals]
        have HB1 := Lib.hid ((((Boxes.nil w).new #[.int .i64 0, .int .i64 0, .int .i64 0, .int .i64 0, .int .i64 0] 31).keep0 hO1).new #[.int .i64 xb, .int .i64 xs_, .int .i64 xl, .int .i64 xi, .int .i64 xm] 31)
        have HY1 := Lib.hid (((HY.out.alloc (.cells #[.int .i64 0, .int .i64 0, .int .i64 0, .int .i64 0, .int .i64 0] 31)).keep0 hO1).alloc (.cells #[.int .i64 xb, .int .i64 xs_, .int .i64 xl, .int .i64 xi, .int .i64 xm] 31))
        have HO1 := Lib.hid ((((Only.refl [] w).alloc (.cells #[.int .i64 0, .int .i64 0, .int .i64 0, .int .i64 0, .int .i64 0] 31)).trans' hO1).alloc (.cells #[.int .i64 xb, .int .i64 xs_, .int .i64 xl, .int .i64 xi, .int .i64 xm] 31))
        have hlt0 : w.heap.size < w1.heap.size := by have := hO1.size; simp at this; omega
        clear hO1
        go_wp2_with fail
        refine (super_dec_any B k d ys _ (by exact HY1.out) hk).mono ?_
        rintro e w2 ⟨rfl, hO2⟩
        rw [HOY.out]
        simp only [Option.getD_some, Option.getD_none, Option.isSome_some, Option.isSome_none, if_true, Su.vals]
        have HB2 := Lib.hid ((HB1.out.keep0 hO2).new #[.int .i64 yb, .int .i64 ys_, .int .i64 yl, .int .i64 yi, .int .i64 ym] 31)
        have HO2 := Lib.hid ((HO1.out.trans' hO2).alloc (.cells #[.int .i64 yb, .int .i64 ys_, .int .i64 yl, .int .i64 yi, .int .i64 ym] 31))
        have hlt : w1.heap.size < w2.heap.size := by have := hO2.size; simp at this; omega
        go_upto_region 3 with (fail)
        generalize w2.alloc (.cells #[.int .i64 yb, .int .i64 ys_, .int .i64 yl, .int .i64 yi, .int .i64 ym] 31) = W at *
        obtain ⟨x0, x1, x2, x3, x4, lx⟩ := HB2.out.at5 (b := w1.heap.size) (a0 := .int .i64 xb) (a1 := .int .i64 xs_) (a2 := .int .i64 xl) (a3 := .int .i64 xi) (a4 := .int .i64 xm) (by simp)
        obtain ⟨y0, y1, y2, y3, y4, ly⟩ := HB2.out.at5 (b := w2.heap.size) (a0 := .int .i64 yb) (a1 := .int .i64 ys_) (a2 := .int .i64 yl) (a3 := .int .i64 yi) (a4 := .int .i64 ym) (by simp)
        obtain ⟨r0, r1, r2, r3, r4, lr⟩ := HB2.out.at5 (b := w.heap.size) (a0 := .int .i64 0) (a1 := .int .i64 0) (a2 := .int .i64 0) (a3 := .int .i64 0) (a4 := .int .i64 0) (by simp)
        have f0 := (HB2.out (w.heap.size, [.int .i64 0, .int .i64 0, .int .i64 0, .int .i64 0, .int .i64 0]) (by simp)).frozen
        have z0 := f0 0
        have z1 := f0 1
        have z2 := f0 2
        have z3 := f0 3
        have z4 := f0 4
        have hl2 : w.heap.size < w2.heap.size := by omega
        clear hO2 HB1 HY1 HO1 f0
        go_wp2
        (try simp only [Exit.inBlock, Exit.then])
        refine bodyPost_ret (v := .tuple #[.agg #[.int .i64 xb, .int .i64 xs_, .int .i64 xl, .int .i64 xi, .int .i64 xm], .int .i64 0, .int .i64 0]) ?_ rfl ?_
        · simp only [results, HRES.out]
          go_simp
        · exact ⟨by first | rfl | (simp only [superPick, Su.vals, if_pos HM.out]), ((((HO2.out.set (.inr (Nat.le_refl _)) _).set (.inr (Nat.le_refl _)) _).set (.inr (Nat.le_refl _)) _).set (.inr (Nat.le_refl _)) _).set (.inr (Nat.le_refl _)) _⟩
      · have HM := Lib.hid hm
        go_enter Try.func28, Try.ntmps28
        go_wp2_with fail
        refine (super_dec_any A n c xs _ (by exact HX.out.alloc _) hn).mono ?_
        rintro e w1 ⟨rfl, hO1⟩
        rw [HOX.out]
        simp only [Option.getD_some, Option.getD_none, Option.isSome_some, Option.isSome_none, if_true, Su.vals]
        have HB1 := Lib.hid ((((Boxes.nil w).new #[.int .i64 0, .int .i64 0, .int .i64 0, .int .i64 0, .int .i64 0] 31).keep0 hO1).new #[.int .i64 xb, .int .i64 xs_, .int .i64 xl, .int .i64 xi, .int .i64 xm] 31)
        have HY1 := Lib.hid (((HY.out.alloc (.cells #[.int .i64 0, .int .i64 0, .int .i64 0, .int .i64 0, .int .i64 0] 31)).keep0 hO1).alloc (.cells #[.int .i64 xb, .int .i64 xs_, .int .i64 xl, .int .i64 xi, .int .i64 xm] 31))
        have HO1 := Lib.hid ((((Only.refl [] w).alloc (.cells #[.int .i64 0, .int .i64 0, .int .i64 0, .int .i64 0, .int .i64 0] 31)).trans' hO1).alloc (.cells #[.int .i64 xb, .int .i64 xs_, .int .i64 xl, .int .i64 xi, .int .i64 xm] 31))
        have hlt0 : w.heap.size < w1.heap.size := by have := hO1.size; simp at this; omega
        clear hO1
        go_wp2_with fail
        refine (super_dec_any B k d ys _ (by exact HY1.out) hk).mono ?_
        rintro e w2 ⟨rfl, hO2⟩
        rw [HOY.out]
        simp only [Option.getD_some, Option.getD_none, Option.isSome_some, Option.isSome_none, if_true, Su.vals]
        have HB2 := Lib.hid ((HB1.out.keep0 hO2).new #[.int .i64 yb, .int .i64 ys_, .int .i64 yl, .int .i64 yi, .int .i64 ym] 31)
        have HO2 := Lib.hid ((HO1.out.trans' hO2).alloc (.cells #[.int .i64 yb, .int .i64 ys_, .int .i64 yl, .int .i64 yi, .int .i64 ym] 31))
        have hlt : w1.heap.size < w2.heap.size := by have := hO2.size; simp at this; omega
        go_upto_region 3 with (fail)
        generalize w2.alloc (.cells #[.int .i64 yb, .int .i64 ys_, .int .i64 yl, .int .i64 yi, .int .i64 ym] 31) = W at *
        obtain ⟨x0, x1, x2, x3, x4, lx⟩ := HB2.out.at5 (b := w1.heap.size) (a0 := .int .i64 xb) (a1 := .int .i64 xs_) (a2 := .int .i64 xl) (a3 := .int .i64 xi) (a4 := .int .i64 xm) (by simp)
        obtain ⟨y0, y1, y2, y3, y4, ly⟩ := HB2.out.at5 (b := w2.heap.size) (a0 := .int .i64 yb) (a1 := .int .i64 ys_) (a2 := .int .i64 yl) (a3 := .int .i64 yi) (a4 := .int .i64 ym) (by simp)
        obtain ⟨r0, r1, r2, r3, r4, lr⟩ := HB2.out.at5 (b := w.heap.size) (a0 := .int .i64 0) (a1 := .int .i64 0) (a2 := .int .i64 0) (a3 := .int .i64 0) (a4 := .int .i64 0) (by simp)
        have f0 := (HB2.out (w.heap.size, [.int .i64 0, .int .i64 0, .int .i64 0, .int .i64 0, .int .i64 0]) (by simp)).frozen
        have z0 := f0 0
        have z1 := f0 1
        have z2 := f0 2
        have z3 := f0 3
        have z4 := f0 4
        have hl2 : w.heap.size < w2.heap.size := by omega
        clear hO2 HB1 HY1 HO1 f0
        go_wp2
        (try simp only [Exit.inBlock, Exit.then])
        refine bodyPost_ret (v := .tuple #[.agg #[.int .i64 yb, .int .i64 ys_, .int .i64 yl, .int .i64 yi, .int .i64 ym], .int .i64 1, .int .i64 0]) ?_ rfl ?_
        · simp only [results, HRES.out]
          go_simp
        · exact ⟨by first | rfl | (simp only [superPick, Su.vals, if_neg (show ¬ ym ≤ xm by have := HM.out; omega)]), ((((HO2.out.set (.inr (Nat.le_refl _)) _).set (.inr (Nat.le_refl _)) _).set (.inr (Nat.le_refl _)) _).set (.inr (Nat.le_refl _)) _).set (.inr (Nat.le_refl _)) _⟩
end Go.Proofs.Ytjmbhknokobnpaa
