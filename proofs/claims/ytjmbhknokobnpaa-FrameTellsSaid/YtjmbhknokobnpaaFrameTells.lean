/- Claim FrameTells. Printed by mkframetells.py. -/
import Derived.Test.YtjmbhknokobnpaaEnter
import Derived.Test.YtjmbhknokobnpaaLaw22A
import Derived.Test.YtjmbhknokobnpaaWireS
import Derived.Test.YtjmbhknokobnpaaFrameW
import Derived.Deep.RegionHeld3
set_option linter.unusedVariables false
set_option linter.unusedSimpArgs false
namespace Go.Kn
open Go Go.RowKit
theorem cells8 {w : World} {b : Nat} {k0 k1 k2 k3 k4 k5 k6 k7 : Value} (h : Own w b [k0, k1, k2, k3, k4, k5, k6, k7]) : w.cell? ⟨b, 0, none⟩ = some k0 ∧ w.cell? ⟨b, 1, none⟩ = some k1 ∧ w.cell? ⟨b, 2, none⟩ = some k2 ∧ w.cell? ⟨b, 3, none⟩ = some k3 ∧ w.cell? ⟨b, 4, none⟩ = some k4 ∧ w.cell? ⟨b, 5, none⟩ = some k5 ∧ w.cell? ⟨b, 6, none⟩ = some k6 ∧ w.cell? ⟨b, 7, none⟩ = some k7 :=
  ⟨h.cell 0 (by simp), h.cell 1 (by simp), h.cell 2 (by simp), h.cell 3 (by simp), h.cell 4 (by simp), h.cell 5 (by simp), h.cell 6 (by simp), h.cell 7 (by simp)⟩
theorem cells24 {w : World} {b0 b1 b2 : Nat} {k0 k1 k2 k3 k4 k5 k6 k7 z0 z1 z2 z3 z4 z5 z6 z7 y0 y1 y2 y3 y4 y5 y6 y7 : Value} (h : Boxes w [(b2, [y0, y1, y2, y3, y4, y5, y6, y7]), (b1, [z0, z1, z2, z3, z4, z5, z6, z7]), (b0, [k0, k1, k2, k3, k4, k5, k6, k7])]) :
    w.cell? ⟨b0, 0, none⟩ = some k0 ∧ w.cell? ⟨b0, 1, none⟩ = some k1 ∧ w.cell? ⟨b0, 2, none⟩ = some k2 ∧ w.cell? ⟨b0, 3, none⟩ = some k3 ∧ w.cell? ⟨b0, 4, none⟩ = some k4 ∧ w.cell? ⟨b0, 5, none⟩ = some k5 ∧ w.cell? ⟨b0, 6, none⟩ = some k6 ∧ w.cell? ⟨b0, 7, none⟩ = some k7 ∧ w.cell? ⟨b1, 0, none⟩ = some z0 ∧ w.cell? ⟨b1, 1, none⟩ = some z1 ∧ w.cell? ⟨b1, 2, none⟩ = some z2 ∧ w.cell? ⟨b1, 3, none⟩ = some z3 ∧ w.cell? ⟨b1, 4, none⟩ = some z4 ∧ w.cell? ⟨b1, 5, none⟩ = some z5 ∧ w.cell? ⟨b1, 6, none⟩ = some z6 ∧ w.cell? ⟨b1, 7, none⟩ = some z7 ∧ w.cell? ⟨b2, 0, none⟩ = some y0 ∧ w.cell? ⟨b2, 1, none⟩ = some y1 ∧ w.cell? ⟨b2, 2, none⟩ = some y2 ∧ w.cell? ⟨b2, 3, none⟩ = some y3 ∧ w.cell? ⟨b2, 4, none⟩ = some y4 ∧ w.cell? ⟨b2, 5, none⟩ = some y5 ∧ w.cell? ⟨b2, 6, none⟩ = some y6 ∧ w.cell? ⟨b2, 7, none⟩ = some y7 := by
  obtain ⟨pp0, pp1, pp2, pp3, pp4, pp5, pp6, pp7⟩ := cells8 (h (b0, [k0, k1, k2, k3, k4, k5, k6, k7]) (by simp))
  obtain ⟨qq0, qq1, qq2, qq3, qq4, qq5, qq6, qq7⟩ := cells8 (h (b1, [z0, z1, z2, z3, z4, z5, z6, z7]) (by simp))
  obtain ⟨rr0, rr1, rr2, rr3, rr4, rr5, rr6, rr7⟩ := cells8 (h (b2, [y0, y1, y2, y3, y4, y5, y6, y7]) (by simp))
  exact ⟨pp0, pp1, pp2, pp3, pp4, pp5, pp6, pp7, qq0, qq1, qq2, qq3, qq4, qq5, qq6, qq7, rr0, rr1, rr2, rr3, rr4, rr5, rr6, rr7⟩
end Go.Kn
namespace Go.Proofs.Ytjmbhknokobnpaa.frameTells
open Go Go.RowKit Go.Kn Go.ChangeShapes Go.WideShapes Go.ChangeAt

set_option maxRecDepth 100000 in
set_option maxHeartbeats 16000000 in
theorem tells (k v s b c e d : Int) (A : Option Addr) (n cp : Nat) (xs : List UInt8) (B : Option Addr) (m cq : Nat) (bs : List UInt8) (w : World) (hx : Bys w A n cp xs) (hb : Bys w B m cq bs) :
    Calls Try.prog 10 #[.agg #[.int .i64 k, .int .i64 v, .int .i64 s, .int .i64 b, .int .i64 c, .int .i64 e, .int .i64 d, .slice A n cp], .slice B m cq] w fun en w' => en = .returned (.bool true) ∧ Only [] w w' := by
  have hcm := hb.cm
  have hcl := hb.le
  have hcn := hx.cm
  have hcx := hx.le
  unfold maxLen at hcm hcn
  have HXX := Lib.hid hx
  have HBB := Lib.hid hb
  clear hx hb
  by_cases h200 : n ≤ 200 ∧ m ≤ 300
  · obtain ⟨h200, h300⟩ := h200
    have hd2 : decide (200 < (n : Int)) = false := by simp; omega
    have hd3 : decide (300 < (m : Int)) = false := by simp; omega
    go_enter Try.func10, Try.ntmps10
    go_wp2_with fail
    have HS0 := Lib.hid ((Boxes.nil w).new #[.int .i64 k, .int .i64 v, .int .i64 s, .int .i64 b, .int .i64 c, .int .i64 e, .int .i64 d, .slice A n cp] 64)
    have HO0 := Lib.hid ((Only.refl [] w).alloc (.cells #[.int .i64 k, .int .i64 v, .int .i64 s, .int .i64 b, .int .i64 c, .int .i64 e, .int .i64 d, .slice A n cp] 64))
    have HD0 := Lib.hid (HXX.out.alloc (.cells #[.int .i64 k, .int .i64 v, .int .i64 s, .int .i64 b, .int .i64 c, .int .i64 e, .int .i64 d, .slice A n cp] 64))
    have HB0 := Lib.hid (HBB.out.alloc (.cells #[.int .i64 k, .int .i64 v, .int .i64 s, .int .i64 b, .int .i64 c, .int .i64 e, .int .i64 d, .slice A n cp] 64))
    refine (frame_enc_any k v s b c e d A n cp xs _ (by exact HD0.out)).mono ?_
    rintro en w1 ⟨A1, c1, rfl, hb1, _, hO1⟩
    generalize hys : (encFr ⟨k, v, s, b, c, e, d, xs⟩).getD [] = ys at *
    generalize her : (if (encFr ⟨k, v, s, b, c, e, d, xs⟩).isSome = true then (0 : Int) else 1) = er at *
    have HYS := Lib.hid hys
    have HER := Lib.hid her
    have HX1 := Lib.hid hb1
    have HS1 := Lib.hid (HS0.out.keep0 hO1)
    have HB1 := Lib.hid (HB0.out.keep0 hO1)
    have HD1 := Lib.hid (HD0.out.keep0 hO1)
    have HO1 := Lib.hid (HO0.out.trans' hO1)
    have HLT := Lib.hid (HS1.out (w.heap.size, [.int .i64 k, .int .i64 v, .int .i64 s, .int .i64 b, .int .i64 c, .int .i64 e, .int .i64 d, .slice A n cp]) (by simp)).lt
    obtain ⟨x0, x1, x2, x3, x4, x5, x6, x7⟩ := cells8 (HS1.out (w.heap.size, [.int .i64 k, .int .i64 v, .int .i64 s, .int .i64 b, .int .i64 c, .int .i64 e, .int .i64 d, .slice A n cp]) (by simp))
    clear hys her hb1 hO1 HS0 HB0 HO0 HD0
    go_wp2_with fail
    refine (ref_frame_enc_any k v s b c e d A n cp xs _ (by exact HD1.out)).mono ?_
    rintro en w2 ⟨A2, c2, rfl, hb2, _, hO2⟩
    rw [HYS.out] at hb2
    rw [HYS.out, HER.out]
    have HX2 := Lib.hid hb2
    have HX12 := Lib.hid (HX1.out.keep0 hO2)
    have HS2 := Lib.hid (HS1.out.keep0 hO2)
    have HB2 := Lib.hid (HB1.out.keep0 hO2)
    have HD2 := Lib.hid (HD1.out.keep0 hO2)
    have HO2 := Lib.hid (HO1.out.trans' hO2)
    clear hb2 hO2 HS1 HB1 HO1 HX1 HD1 x0 x1 x2 x3 x4 x5 x6 x7
    go_wp2_with fail
    refine (frame_dec_any B m cq bs _ (by exact HB2.out) (by omega)).mono ?_
    rintro en w3 ⟨A3, n3, c3, rfl, hy3, hO3⟩
    obtain ⟨⟨z0, z1, z2, z3, z4, z5, z6, zs⟩, hzz⟩ : ∃ i, (decFr bs).getD frZero = i := ⟨_, rfl⟩
    generalize hes : (if (decFr bs).isSome = true then (0 : Int) else 2) = es at *
    rw [hzz] at hy3 ⊢
    dsimp only at hy3 ⊢
    have HZZ := Lib.hid hzz
    have HES := Lib.hid hes
    have HX13 := Lib.hid ((HX12.out.keep0 hO3).alloc (.cells #[.int .i64 z0, .int .i64 z1, .int .i64 z2, .int .i64 z3, .int .i64 z4, .int .i64 z5, .int .i64 z6, .slice A3 n3 c3] 64))
    have HX23 := Lib.hid ((HX2.out.keep0 hO3).alloc (.cells #[.int .i64 z0, .int .i64 z1, .int .i64 z2, .int .i64 z3, .int .i64 z4, .int .i64 z5, .int .i64 z6, .slice A3 n3 c3] 64))
    have HD3 := Lib.hid ((HD2.out.keep0 hO3).alloc (.cells #[.int .i64 z0, .int .i64 z1, .int .i64 z2, .int .i64 z3, .int .i64 z4, .int .i64 z5, .int .i64 z6, .slice A3 n3 c3] 64))
    have HY3 := Lib.hid (hy3.alloc (.cells #[.int .i64 z0, .int .i64 z1, .int .i64 z2, .int .i64 z3, .int .i64 z4, .int .i64 z5, .int .i64 z6, .slice A3 n3 c3] 64))
    have HS3 := Lib.hid ((HS2.out.keep0 hO3).new #[.int .i64 z0, .int .i64 z1, .int .i64 z2, .int .i64 z3, .int .i64 z4, .int .i64 z5, .int .i64 z6, .slice A3 n3 c3] 64)
    have HB3 := Lib.hid ((HB2.out.keep0 hO3).alloc (.cells #[.int .i64 z0, .int .i64 z1, .int .i64 z2, .int .i64 z3, .int .i64 z4, .int .i64 z5, .int .i64 z6, .slice A3 n3 c3] 64))
    have HO3 := Lib.hid ((HO2.out.trans' hO3).alloc (.cells #[.int .i64 z0, .int .i64 z1, .int .i64 z2, .int .i64 z3, .int .i64 z4, .int .i64 z5, .int .i64 z6, .slice A3 n3 c3] 64))
    clear hO3 hzz hes hy3 HS2 HB2 HO2 HX12 HX2 HD2
    go_wp2_with fail
    refine (ref_frame_dec_any B m cq bs _ (by exact HB3.out) (by omega)).mono ?_
    rintro en w4 ⟨A4, n4, c4, rfl, hy4, hO4⟩
    rw [HZZ.out] at hy4 ⊢
    rw [HES.out]
    dsimp only at hy4 ⊢
    have HX14 := Lib.hid ((HX13.out.keep0 hO4).alloc (.cells #[.int .i64 z0, .int .i64 z1, .int .i64 z2, .int .i64 z3, .int .i64 z4, .int .i64 z5, .int .i64 z6, .slice A4 n4 c4] 64))
    have HX24 := Lib.hid ((HX23.out.keep0 hO4).alloc (.cells #[.int .i64 z0, .int .i64 z1, .int .i64 z2, .int .i64 z3, .int .i64 z4, .int .i64 z5, .int .i64 z6, .slice A4 n4 c4] 64))
    have HD4 := Lib.hid ((HD3.out.keep0 hO4).alloc (.cells #[.int .i64 z0, .int .i64 z1, .int .i64 z2, .int .i64 z3, .int .i64 z4, .int .i64 z5, .int .i64 z6, .slice A4 n4 c4] 64))
    have HY34 := Lib.hid ((HY3.out.keep0 hO4).alloc (.cells #[.int .i64 z0, .int .i64 z1, .int .i64 z2, .int .i64 z3, .int .i64 z4, .int .i64 z5, .int .i64 z6, .slice A4 n4 c4] 64))
    have HY44 := Lib.hid (hy4.alloc (.cells #[.int .i64 z0, .int .i64 z1, .int .i64 z2, .int .i64 z3, .int .i64 z4, .int .i64 z5, .int .i64 z6, .slice A4 n4 c4] 64))
    have HS4 := Lib.hid ((HS3.out.keep0 hO4).new #[.int .i64 z0, .int .i64 z1, .int .i64 z2, .int .i64 z3, .int .i64 z4, .int .i64 z5, .int .i64 z6, .slice A4 n4 c4] 64)
    have HO4 := Lib.hid ((HO3.out.trans' hO4).alloc (.cells #[.int .i64 z0, .int .i64 z1, .int .i64 z2, .int .i64 z3, .int .i64 z4, .int .i64 z5, .int .i64 z6, .slice A4 n4 c4] 64))
    clear hO4 hy4 HS3 HB3 HO3 HX13 HX23 HD3 HY3
    obtain ⟨mm, hmm⟩ : ∃ mm, frMay ⟨k, v, s, b, c, e, d, xs⟩ = mm := ⟨_, rfl⟩
    have HM := Lib.hid hmm
    have hn1 : (mm == mm) = true := by simp
    have hn3 : (er == er) = true := by simp
    have hn4 : (es == es) = true := by simp
    clear hmm
    go_wp2_with fail
    generalize hW : w4.alloc (.cells #[.int .i64 z0, .int .i64 z1, .int .i64 z2, .int .i64 z3, .int .i64 z4, .int .i64 z5, .int .i64 z6, .slice A4 n4 c4] 64) = W at *
    clear hW
    go_region_held3 (fun w' => w'.cell? ⟨w.heap.size, 0, none⟩ = some (.int .i64 k) ∧ w'.cell? ⟨w.heap.size, 1, none⟩ = some (.int .i64 v) ∧ w'.cell? ⟨w.heap.size, 2, none⟩ = some (.int .i64 s) ∧ w'.cell? ⟨w.heap.size, 3, none⟩ = some (.int .i64 b) ∧ w'.cell? ⟨w.heap.size, 4, none⟩ = some (.int .i64 c) ∧ w'.cell? ⟨w.heap.size, 5, none⟩ = some (.int .i64 e) ∧ w'.cell? ⟨w.heap.size, 6, none⟩ = some (.int .i64 d) ∧ w'.cell? ⟨w.heap.size, 7, none⟩ = some (.slice A n cp) ∧ w'.cell? ⟨w3.heap.size, 0, none⟩ = some (.int .i64 z0) ∧ w'.cell? ⟨w3.heap.size, 1, none⟩ = some (.int .i64 z1) ∧ w'.cell? ⟨w3.heap.size, 2, none⟩ = some (.int .i64 z2) ∧ w'.cell? ⟨w3.heap.size, 3, none⟩ = some (.int .i64 z3) ∧ w'.cell? ⟨w3.heap.size, 4, none⟩ = some (.int .i64 z4) ∧ w'.cell? ⟨w3.heap.size, 5, none⟩ = some (.int .i64 z5) ∧ w'.cell? ⟨w3.heap.size, 6, none⟩ = some (.int .i64 z6) ∧ w'.cell? ⟨w3.heap.size, 7, none⟩ = some (.slice A3 n3 c3) ∧ w'.cell? ⟨w4.heap.size, 0, none⟩ = some (.int .i64 z0) ∧ w'.cell? ⟨w4.heap.size, 1, none⟩ = some (.int .i64 z1) ∧ w'.cell? ⟨w4.heap.size, 2, none⟩ = some (.int .i64 z2) ∧ w'.cell? ⟨w4.heap.size, 3, none⟩ = some (.int .i64 z3) ∧ w'.cell? ⟨w4.heap.size, 4, none⟩ = some (.int .i64 z4) ∧ w'.cell? ⟨w4.heap.size, 5, none⟩ = some (.int .i64 z5) ∧ w'.cell? ⟨w4.heap.size, 6, none⟩ = some (.int .i64 z6) ∧ w'.cell? ⟨w4.heap.size, 7, none⟩ = some (.slice A4 n4 c4))
      (first | exact cells24 HS4.out | exact cells24 HS5.out | exact cells24 HS6.out | exact cells24 HS7.out | exact cells24 HS8.out | exact cells24 HS9.out)
      (first
      | (go_at_call 47; refine (frame_may_any k v s b c e d A n cp xs _ (by exact HD4.out.drew)).mono ?_
         rintro en w5 ⟨rfl, hO5⟩
         rw [HM.out]
         have hO5' := ((Only.refl [] W).drew).trans' hO5
         have HS5 := Lib.hid (HS4.out.keep0 hO5')
         have HX15 := Lib.hid (HX14.out.keep0 hO5')
         have HX25 := Lib.hid (HX24.out.keep0 hO5')
         have HD5 := Lib.hid (HD4.out.keep0 hO5')
         have HY35 := Lib.hid (HY34.out.keep0 hO5')
         have HY45 := Lib.hid (HY44.out.keep0 hO5')
         have HO5 := Lib.hid (HO4.out.trans' hO5')
         clear hO5 hO5')
      | (go_at_call 48; refine (ref_frame_may_any k v s b c e d A n cp xs _ (by exact HD5.out)).mono ?_
         rintro en w6 ⟨rfl, hO6⟩
         rw [HM.out]
         have HS6 := Lib.hid (HS5.out.keep0 hO6)
         have HX16 := Lib.hid (HX15.out.keep0 hO6)
         have HX26 := Lib.hid (HX25.out.keep0 hO6)
         have HY36 := Lib.hid (HY35.out.keep0 hO6)
         have HY46 := Lib.hid (HY45.out.keep0 hO6)
         have HO6 := Lib.hid (HO5.out.trans' hO6)
         clear hO6)
      | (go_at_call 37; refine (alike_bytes_any A1 ys.length c1 ys A2 ys.length c2 ys _ (by exact HX16.out) (by exact HX26.out)).mono ?_
         rintro en w7 ⟨rfl, k7, rfl⟩
         have hdd : decide (ys = ys) = true := by simp
         rw [hdd]
         clear hdd
         have hO7 := (Only.refl [] w6).drewN k7
         have HS7 := Lib.hid (HS6.out.keep0 hO7)
         have HY37 := Lib.hid (HY36.out.keep0 hO7)
         have HY47 := Lib.hid (HY46.out.keep0 hO7)
         have HO7 := Lib.hid (HO6.out.trans' hO7)
         clear hO7)
      | (go_at_call 49; refine (alike_frame_any z0 z1 z2 z3 z4 z5 z6 A3 n3 c3 zs z0 z1 z2 z3 z4 z5 z6 A4 n4 c4 zs _ (by exact HY37.out) (by exact HY47.out)).mono ?_
         rintro en w8 ⟨rfl, hO8⟩
         have hdd : (z0 == z0 && z1 == z1 && z2 == z2 && z3 == z3 && z4 == z4 && z5 == z5 && z6 == z6 && decide (zs = zs)) = true := by simp
         rw [hdd]
         clear hdd
         have HS8 := Lib.hid (HS7.out.keep0 hO8)
         have HO8 := Lib.hid (HO7.out.trans' hO8)
         clear hO8)
      | (go_at_call 42; refine (awake22 _).mono ?_
         rintro en w9 ⟨rfl, hO9⟩
         have HS9 := Lib.hid (HS8.out.keep0 hO9)
         have HO9 := Lib.hid (HO8.out.trans' hO9)
         clear hO9))
    go_wp2
    go_ret
    exact ⟨rfl, HO9.out⟩
  · have HOA := Lib.hid ((Only.refl [] w).alloc (.cells #[.int .i64 k, .int .i64 v, .int .i64 s, .int .i64 b, .int .i64 c, .int .i64 e, .int .i64 d, .slice A n cp] 64))
    by_cases h1 : n ≤ 200
    · have h2 : ¬ m ≤ 300 := fun h => h200 ⟨h1, h⟩
      have hd2 : decide (200 < (n : Int)) = false := by simp; omega
      have hd3 : decide (300 < (m : Int)) = true := by simp; omega
      go_enter Try.func10, Try.ntmps10
      go_wp2_with fail
      refine (awake22 _).mono ?_
      rintro en w7 ⟨rfl, hO7⟩
      have HO7 := Lib.hid (HOA.out.trans' hO7)
      go_wp2
      go_ret
      exact ⟨rfl, HO7.out⟩
    · have hd2 : decide (200 < (n : Int)) = true := by simp; omega
      go_enter Try.func10, Try.ntmps10
      go_wp2_with fail
      refine (awake22 _).mono ?_
      rintro en w7 ⟨rfl, hO7⟩
      have HO7 := Lib.hid (HOA.out.trans' hO7)
      go_wp2
      go_ret
      exact ⟨rfl, HO7.out⟩

theorem walk (a0_0 a0_1 a0_2 a0_3 a0_4 a0_5 a0_6 : Int) (a0 : Option Addr) (len0 cap0 : Nat) (z0 : List Int) (a1 : Option Addr) (len1 cap1 : Nat) (z1 : List Int) (w : World) (w0_0 : (Lit.int .i64 a0_0).wf = true) (w0_1 : (Lit.int .i64 a0_1).wf = true) (w0_2 : (Lit.int .i64 a0_2).wf = true) (w0_3 : (Lit.int .i64 a0_3).wf = true) (w0_4 : (Lit.int .i64 a0_4).wf = true) (w0_5 : (Lit.int .i64 a0_5).wf = true) (w0_6 : (Lit.int .i64 a0_6).wf = true) (w0_7 : IsRow .u8 w a0 len0 cap0 z0) (w1 : IsRow .u8 w a1 len1 cap1 z1) : Calls Try.prog 10 #[.agg #[.int .i64 a0_0, .int .i64 a0_1, .int .i64 a0_2, .int .i64 a0_3, .int .i64 a0_4, .int .i64 a0_5, .int .i64 a0_6, .slice a0 len0 cap0], .slice a1 len1 cap1] w fun e w' => e = .returned (.bool true) ∧ Below w.heap.size w w' := by
  obtain ⟨xs, hx⟩ := w0_7.bys
  obtain ⟨bs, hb⟩ := w1.bys
  refine (tells a0_0 a0_1 a0_2 a0_3 a0_4 a0_5 a0_6 a0 len0 cap0 xs a1 len1 cap1 bs w hx hb).mono ?_
  rintro e w' ⟨rfl, hO⟩
  exact ⟨rfl, hO.below0⟩

set_option maxRecDepth 100000 in
theorem lifted (os : Os) (started : os.Started) (H : Type) (enc : TypeId × Value → H) :
    ReturnsInHanded {} Try.checked os 10 .any (Rows.frameTellsSpec.pre6 enc Try.prog Try.f10 Rows.frameTellsRow.domain false) (Rows.frameTellsSpec.post enc Try.prog Try.f10 false true false false) := by
  refine returnsInHanded_of_change (C := Try.checked) own started (by kernel_rfl) Try.func10
    (ChangeSpec.witness6 (enc := enc) (C := Try.checked) false ⟨#[], #[.agg #[.int .i64 0, .int .i64 0, .int .i64 0, .int .i64 0, .int .i64 0, .int .i64 0, .int .i64 0, .slice none 0 0], .slice none 0 0], []⟩ 8 (by kernel_rfl) (by kernel_rfl) (by kernel_rfl) (by kernel_rfl)) ?_
  intro W base args ds gs before hval0 hW hcnd _
  have hval : ∀ (j : Nat) t v, Try.f10.params[j]? = some t → args[j]? = some v → Value.okWide Try.prog W .any base t v := hval0
  have hW' := hW
  obtain ⟨p, q, hA0, hV, rfl, hfz, hnd⟩ := hW
  have hA : DataW.TrodAll enc Try.prog W 0 (fun _ => true) true Try.f10.params.toList args.toList ds p := hA0
  rw [Try.params10] at hA hval
  obtain ⟨v0, vs0, d0, ds0, p0, q0, hargs, rfl, rfl, h0, r0⟩ := trodAll_cons hA
  obtain ⟨v1, vs1, d1, ds1, p1, q1, rfl, rfl, rfl, h1, r1⟩ := trodAll_cons r0
  obtain ⟨rfl, rfl, rfl⟩ := trodAll_nil r1
  obtain rfl : args = #[v0, v1] := by cases args; simp_all
  obtain ⟨rfl, rfl⟩ := trodVars_none hV
  have k0 := h0
  have lt0 : ∀ x ∈ p0, x.block < W.heap.size := by obtain ⟨m, hm⟩ := k0; exact DataW.trod_lt m _ _ _ hm
  obtain ⟨a0_0, a0_1, a0_2, a0_3, a0_4, a0_5, a0_6, a0, len0, cap0, z0, rfl, w0_0, w0_1, w0_2, w0_3, w0_4, w0_5, w0_6, w0_7⟩ := open_frame (okWide_struct Try.underlying64 (hval 0 64 v0 rfl rfl)) h0
  obtain ⟨a1, len1, cap1, rfl⟩ := okWide_slice Try.underlying24 (hval 1 24 v1 rfl rfl)
  have k1 := h1
  have lt1 : ∀ x ∈ p1, x.block < W.heap.size := by obtain ⟨m, hm⟩ := k1; exact DataW.trod_lt m _ _ _ hm
  obtain ⟨z1, w1⟩ : ∃ zs, IsRow .u8 W a1 len1 cap1 zs := by
    obtain ⟨fuel, hf⟩ := h1
    rcases open_ints Try.underlying24 Try.underlying5 (by kernel_rfl) hf with ⟨hcs, _⟩ | ⟨x, l, c, zs, hcs, _, hl, hm, hz, _, hcell, hwz⟩
    · simp [Value.cells] at hcs
      obtain ⟨rfl, rfl, rfl⟩ := hcs
      exact ⟨[], .inl ⟨rfl, rfl, rfl, rfl⟩⟩
    · simp [Value.cells] at hcs
      obtain ⟨rfl, rfl, rfl⟩ := hcs
      exact ⟨zs, .inr ⟨_, rfl, hl, hm, by simpa using hz, hcell, hwz⟩⟩
  clear hA0 hval0
  refine (walk a0_0 a0_1 a0_2 a0_3 a0_4 a0_5 a0_6 a0 len0 cap0 z0 a1 len1 cap1 z1 W w0_0 w0_1 w0_2 w0_3 w0_4 w0_5 w0_6 w0_7 w1).mono fun e W' ⟨he, bel⟩ => ?_
  subst he
  exact ⟨_, rfl, _, _, _, [], _, [], hW', trodAll_mk1 (shut_bool Try.underlying4 _), (trodAll_cons_mk (Below.trod laidOut (by kernel_rfl) (of_decide_eq_true (by kernel_rfl)) k0 bel lt0) (trodAll_cons_mk (Below.trod laidOut (by kernel_rfl) (of_decide_eq_true (by kernel_rfl)) k1 bel lt1) trodAll_mk0)), rfl, bel.frame _, fun h => by cases h⟩

set_option maxRecDepth 100000 in
theorem closed : joinedFacts Try.pinned.checked.prog 10 Try.f10 Rows.frameTellsSpec Rows.frameTellsRow = true := by
  show joinedFacts Try.prog 10 Try.f10 Rows.frameTellsSpec Rows.frameTellsRow = true
  unfold joinedFacts
  simp only [enter_may, enter_lifts, enter_make]
  kernel_rfl

theorem over : Rows.frameTellsRow.holds Try.pinned (OpenSpec.ofChange Rows.frameTellsSpec) :=
  OpenClaim.holds_of_wide 10 Try.f10 rfl rfl rfl rfl rfl rfl rfl ⟨rfl, rfl, rfl, rfl, rfl⟩ rfl rfl rfl rfl rfl (by kernel_rfl) Try.func10 closed
    (of_decide_eq_true (by kernel_rfl)) (by unfold Func.isWrapper; first | (rw [if_pos (by decide +kernel)]; kernel_rfl) | (rw [if_neg (by decide +kernel)]; exact ⟨rfl, rfl⟩))
    (fun os started H enc _ => lifted os started H enc)

theorem proved : Rows.FrameTellsSaid := over

end Go.Proofs.Ytjmbhknokobnpaa.frameTells
