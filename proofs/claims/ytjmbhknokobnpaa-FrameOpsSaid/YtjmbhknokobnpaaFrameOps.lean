/- Claim FrameOps. Printed by mkframeops.py. -/
import Derived.Test.YtjmbhknokobnpaaEnter
import Derived.Test.YtjmbhknokobnpaaLaw22A
import Derived.Test.YtjmbhknokobnpaaWireX
import Derived.Test.YtjmbhknokobnpaaWireL
import Derived.Test.YtjmbhknokobnpaaWireU
import Derived.Test.YtjmbhknokobnpaaFrameW
set_option linter.unusedVariables false
set_option linter.unusedSimpArgs false
namespace Go.Proofs.Ytjmbhknokobnpaa.frameOps
open Go Go.RowKit Go.Kn Go.ChangeShapes Go.WideShapes Go.ChangeAt

set_option maxRecDepth 100000 in
set_option maxHeartbeats 16000000 in
theorem ops (v s k b c e : Int) (A : Option Addr) (n cp : Nat) (xs : List UInt8) (k2 v2 s2 b2 c2 e2 d2 : Int) (B : Option Addr) (m cq : Nat) (ys : List UInt8) (w : World) (hx : Bys w A n cp xs) (hy : Bys w B m cq ys) :
    Calls Try.prog 12 #[.int .i64 v, .int .i64 s, .agg #[.int .i64 k, .int .i64 b, .int .i64 c, .int .i64 e, .slice A n cp], .agg #[.int .i64 k2, .int .i64 v2, .int .i64 s2, .int .i64 b2, .int .i64 c2, .int .i64 e2, .int .i64 d2, .slice B m cq]] w fun en w' => en = .returned (.bool true) ∧ Only [] w w' := by
  have hcm := hy.cm
  have hcl := hy.le
  have hcn := hx.cm
  have hcx := hx.le
  unfold maxLen at hcm hcn
  have HX := Lib.hid hx
  have HY := Lib.hid hy
  clear hx hy
  by_cases h200 : n ≤ 200 ∧ m ≤ 200
  · obtain ⟨h200, h300⟩ := h200
    have hd2 : decide (200 < (n : Int)) = false := by simp; omega
    have hd3 : decide (200 < (m : Int)) = false := by simp; omega
    have hs1 : (w.alloc (.cells #[.int .i64 k, .int .i64 b, .int .i64 c, .int .i64 e, .slice A n cp] 78)).heap.size = w.heap.size + 1 := by simp
    have HBX := ((Boxes.nil w).new #[.int .i64 k, .int .i64 b, .int .i64 c, .int .i64 e, .slice A n cp] 78).new #[.int .i64 k2, .int .i64 v2, .int .i64 s2, .int .i64 b2, .int .i64 c2, .int .i64 e2, .int .i64 d2, .slice B m cq] 64
    rw [hs1] at HBX
    have HB0 := Lib.hid HBX
    have HO0 := Lib.hid (((Only.refl [] w).alloc (.cells #[.int .i64 k, .int .i64 b, .int .i64 c, .int .i64 e, .slice A n cp] 78)).alloc (.cells #[.int .i64 k2, .int .i64 v2, .int .i64 s2, .int .i64 b2, .int .i64 c2, .int .i64 e2, .int .i64 d2, .slice B m cq] 64))
    have HX0 := Lib.hid ((HX.out.alloc (.cells #[.int .i64 k, .int .i64 b, .int .i64 c, .int .i64 e, .slice A n cp] 78)).alloc (.cells #[.int .i64 k2, .int .i64 v2, .int .i64 s2, .int .i64 b2, .int .i64 c2, .int .i64 e2, .int .i64 d2, .slice B m cq] 64))
    have HY0 := Lib.hid ((HY.out.alloc (.cells #[.int .i64 k, .int .i64 b, .int .i64 c, .int .i64 e, .slice A n cp] 78)).alloc (.cells #[.int .i64 k2, .int .i64 v2, .int .i64 s2, .int .i64 b2, .int .i64 c2, .int .i64 e2, .int .i64 d2, .slice B m cq] 64))
    clear HBX hs1
    go_enter Try.func12, Try.ntmps12
    go_wp2_with fail
    refine (frame_for_any v s k b c e A n cp xs _ (by exact HX0.out) (by omega)).mono ?_
    rintro en w1 ⟨A1, n1, c1, rfl, hr1, hO1⟩
    generalize hff : frFor v s ⟨k, b, c, e, xs⟩ = ff at *
    obtain ⟨⟨z0, z1, z2, z3, z4, z5, z6, zs⟩, hzz⟩ : ∃ i, ff.getD frZero = i := ⟨_, rfl⟩
    obtain ⟨fb, hfb⟩ : ∃ x, ff.isSome = x := ⟨_, rfl⟩
    rw [hzz] at hr1 ⊢
    rw [hfb]
    dsimp only at hr1 ⊢
    have HFF := Lib.hid hff
    have HZZ := Lib.hid hzz
    have HFB := Lib.hid hfb
    have HB1 := Lib.hid ((HB0.out.keep0 hO1).new #[.int .i64 z0, .int .i64 z1, .int .i64 z2, .int .i64 z3, .int .i64 z4, .int .i64 z5, .int .i64 z6, .slice A1 n1 c1] 64)
    have HX1 := Lib.hid ((HX0.out.keep0 hO1).alloc (.cells #[.int .i64 z0, .int .i64 z1, .int .i64 z2, .int .i64 z3, .int .i64 z4, .int .i64 z5, .int .i64 z6, .slice A1 n1 c1] 64))
    have HY1 := Lib.hid ((HY0.out.keep0 hO1).alloc (.cells #[.int .i64 z0, .int .i64 z1, .int .i64 z2, .int .i64 z3, .int .i64 z4, .int .i64 z5, .int .i64 z6, .slice A1 n1 c1] 64))
    have HR11 := Lib.hid (hr1.alloc (.cells #[.int .i64 z0, .int .i64 z1, .int .i64 z2, .int .i64 z3, .int .i64 z4, .int .i64 z5, .int .i64 z6, .slice A1 n1 c1] 64))
    have HO1 := Lib.hid ((HO0.out.trans' hO1).alloc (.cells #[.int .i64 z0, .int .i64 z1, .int .i64 z2, .int .i64 z3, .int .i64 z4, .int .i64 z5, .int .i64 z6, .slice A1 n1 c1] 64))
    have hl1 : w.heap.size + 1 < w1.heap.size := (HB0.out.keep0 hO1 (w.heap.size + 1, [.int .i64 k2, .int .i64 v2, .int .i64 s2, .int .i64 b2, .int .i64 c2, .int .i64 e2, .int .i64 d2, .slice B m cq]) (by simp)).lt
    have hl0 : w.heap.size < w1.heap.size := by omega
    have hne1 : ¬ (w.heap.size = w1.heap.size) := by omega
    have hne2 : ¬ (w.heap.size + 1 = w1.heap.size) := by omega
    have o0 : w1.cell? ⟨w.heap.size, 0, none⟩ = some (.int .i64 k) := (HB0.out.keep0 hO1 (w.heap.size, [.int .i64 k, .int .i64 b, .int .i64 c, .int .i64 e, .slice A n cp]) (by simp)).cell 0 (by simp)
    have o1 : w1.cell? ⟨w.heap.size, 1, none⟩ = some (.int .i64 b) := (HB0.out.keep0 hO1 (w.heap.size, [.int .i64 k, .int .i64 b, .int .i64 c, .int .i64 e, .slice A n cp]) (by simp)).cell 1 (by simp)
    have o2 : w1.cell? ⟨w.heap.size, 2, none⟩ = some (.int .i64 c) := (HB0.out.keep0 hO1 (w.heap.size, [.int .i64 k, .int .i64 b, .int .i64 c, .int .i64 e, .slice A n cp]) (by simp)).cell 2 (by simp)
    have o3 : w1.cell? ⟨w.heap.size, 3, none⟩ = some (.int .i64 e) := (HB0.out.keep0 hO1 (w.heap.size, [.int .i64 k, .int .i64 b, .int .i64 c, .int .i64 e, .slice A n cp]) (by simp)).cell 3 (by simp)
    have o4 : w1.cell? ⟨w.heap.size, 4, none⟩ = some (.slice A n cp) := (HB0.out.keep0 hO1 (w.heap.size, [.int .i64 k, .int .i64 b, .int .i64 c, .int .i64 e, .slice A n cp]) (by simp)).cell 4 (by simp)
    clear hff hzz hfb hr1 hO1 HB0 HX0 HY0 HO0
    go_wp2_with fail
    refine (ref_frame_for_any v s k b c e A n cp xs _ (by exact HX1.out) (by omega)).mono ?_
    rintro en w2 ⟨A2, n2, c2', rfl, hr2, hO2⟩
    rw [HFF.out] at hr2 ⊢
    rw [HZZ.out] at hr2 ⊢
    rw [HFB.out]
    dsimp only at hr2 ⊢
    have HB2 := Lib.hid ((HB1.out.keep0 hO2).new #[.int .i64 z0, .int .i64 z1, .int .i64 z2, .int .i64 z3, .int .i64 z4, .int .i64 z5, .int .i64 z6, .slice A2 n2 c2'] 64)
    have HY2 := Lib.hid ((HY1.out.keep0 hO2).alloc (.cells #[.int .i64 z0, .int .i64 z1, .int .i64 z2, .int .i64 z3, .int .i64 z4, .int .i64 z5, .int .i64 z6, .slice A2 n2 c2'] 64))
    have HR12 := Lib.hid ((HR11.out.keep0 hO2).alloc (.cells #[.int .i64 z0, .int .i64 z1, .int .i64 z2, .int .i64 z3, .int .i64 z4, .int .i64 z5, .int .i64 z6, .slice A2 n2 c2'] 64))
    have HR22 := Lib.hid (hr2.alloc (.cells #[.int .i64 z0, .int .i64 z1, .int .i64 z2, .int .i64 z3, .int .i64 z4, .int .i64 z5, .int .i64 z6, .slice A2 n2 c2'] 64))
    have HO2 := Lib.hid ((HO1.out.trans' hO2).alloc (.cells #[.int .i64 z0, .int .i64 z1, .int .i64 z2, .int .i64 z3, .int .i64 z4, .int .i64 z5, .int .i64 z6, .slice A2 n2 c2'] 64))
    have HBB := HB1.out.keep0 hO2
    have Bf := HBB (w.heap.size + 1, [.int .i64 k2, .int .i64 v2, .int .i64 s2, .int .i64 b2, .int .i64 c2, .int .i64 e2, .int .i64 d2, .slice B m cq]) (by simp)
    have f0 := Bf.cell 0 (by simp)
    have f1 := Bf.cell 1 (by simp)
    have f2 := Bf.cell 2 (by simp)
    have f3 := Bf.cell 3 (by simp)
    have f4 := Bf.cell 4 (by simp)
    have f5 := Bf.cell 5 (by simp)
    have f6 := Bf.cell 6 (by simp)
    have f7 := Bf.cell 7 (by simp)
    simp only [List.getElem_cons_zero, List.getElem_cons_succ] at f0 f1 f2 f3 f4 f5 f6 f7
    have ltf := Bf.lt
    clear Bf
    clear hr2 hO2 HB1 HX1 HY1 HR11 HO1 HBB hne1 hne2 o0 o1 o2 o3 o4
    go_wp2_with fail
    refine (frame_op_any k2 v2 s2 b2 c2 e2 d2 B m cq ys _ (by exact HY2.out)).mono ?_
    rintro en w3 ⟨A3, n3, c3, rfl, hr3, hO3⟩
    generalize hgg : opOf ⟨k2, v2, s2, b2, c2, e2, d2, ys⟩ = gg at *
    obtain ⟨⟨y0, y1, y2, y3, yy⟩, hyy⟩ : ∃ i, gg.getD opZero = i := ⟨_, rfl⟩
    obtain ⟨gb, hgb⟩ : ∃ x, gg.isSome = x := ⟨_, rfl⟩
    rw [hyy] at hr3 ⊢
    rw [hgb]
    dsimp only at hr3 ⊢
    have HGG := Lib.hid hgg
    have HYY := Lib.hid hyy
    have HGB := Lib.hid hgb
    have HB3 := Lib.hid ((HB2.out.keep0 hO3).new #[.int .i64 y0, .int .i64 y1, .int .i64 y2, .int .i64 y3, .slice A3 n3 c3] 78)
    have HY3 := Lib.hid ((HY2.out.keep0 hO3).alloc (.cells #[.int .i64 y0, .int .i64 y1, .int .i64 y2, .int .i64 y3, .slice A3 n3 c3] 78))
    have HR13 := Lib.hid ((HR12.out.keep0 hO3).alloc (.cells #[.int .i64 y0, .int .i64 y1, .int .i64 y2, .int .i64 y3, .slice A3 n3 c3] 78))
    have HR23 := Lib.hid ((HR22.out.keep0 hO3).alloc (.cells #[.int .i64 y0, .int .i64 y1, .int .i64 y2, .int .i64 y3, .slice A3 n3 c3] 78))
    have HR33 := Lib.hid (hr3.alloc (.cells #[.int .i64 y0, .int .i64 y1, .int .i64 y2, .int .i64 y3, .slice A3 n3 c3] 78))
    have HO3 := Lib.hid ((HO2.out.trans' hO3).alloc (.cells #[.int .i64 y0, .int .i64 y1, .int .i64 y2, .int .i64 y3, .slice A3 n3 c3] 78))
    have HBB := HB2.out.keep0 hO3
    clear f0 f1 f2 f3 f4 f5 f6 f7 ltf
    have Bf := HBB (w.heap.size + 1, [.int .i64 k2, .int .i64 v2, .int .i64 s2, .int .i64 b2, .int .i64 c2, .int .i64 e2, .int .i64 d2, .slice B m cq]) (by simp)
    have f0 := Bf.cell 0 (by simp)
    have f1 := Bf.cell 1 (by simp)
    have f2 := Bf.cell 2 (by simp)
    have f3 := Bf.cell 3 (by simp)
    have f4 := Bf.cell 4 (by simp)
    have f5 := Bf.cell 5 (by simp)
    have f6 := Bf.cell 6 (by simp)
    have f7 := Bf.cell 7 (by simp)
    simp only [List.getElem_cons_zero, List.getElem_cons_succ] at f0 f1 f2 f3 f4 f5 f6 f7
    have ltf := Bf.lt
    clear Bf
    clear hgg hyy hgb hr3 hO3 HB2 HY2 HR12 HR22 HO2 HBB
    go_wp2_with fail
    refine (ref_op_any k2 v2 s2 b2 c2 e2 d2 B m cq ys _ (by exact HY3.out) (by omega)).mono ?_
    rintro en w4 ⟨A4, n4, c4, rfl, hr4, hO4⟩
    rw [HGG.out] at hr4 ⊢
    rw [HYY.out] at hr4 ⊢
    rw [HGB.out]
    dsimp only at hr4 ⊢
    have HB4 := Lib.hid ((HB3.out.keep0 hO4).new #[.int .i64 y0, .int .i64 y1, .int .i64 y2, .int .i64 y3, .slice A4 n4 c4] 78)
    have HR14 := Lib.hid ((HR13.out.keep0 hO4).alloc (.cells #[.int .i64 y0, .int .i64 y1, .int .i64 y2, .int .i64 y3, .slice A4 n4 c4] 78))
    have HR24 := Lib.hid ((HR23.out.keep0 hO4).alloc (.cells #[.int .i64 y0, .int .i64 y1, .int .i64 y2, .int .i64 y3, .slice A4 n4 c4] 78))
    have HR34 := Lib.hid ((HR33.out.keep0 hO4).alloc (.cells #[.int .i64 y0, .int .i64 y1, .int .i64 y2, .int .i64 y3, .slice A4 n4 c4] 78))
    have HR44 := Lib.hid (hr4.alloc (.cells #[.int .i64 y0, .int .i64 y1, .int .i64 y2, .int .i64 y3, .slice A4 n4 c4] 78))
    have HO4 := Lib.hid ((HO3.out.trans' hO4).alloc (.cells #[.int .i64 y0, .int .i64 y1, .int .i64 y2, .int .i64 y3, .slice A4 n4 c4] 78))
    have HBB := HB3.out.keep0 hO4
    clear f0 f1 f2 f3 f4 f5 f6 f7 ltf
    have Bf := HBB (w1.heap.size, [.int .i64 z0, .int .i64 z1, .int .i64 z2, .int .i64 z3, .int .i64 z4, .int .i64 z5, .int .i64 z6, .slice A1 n1 c1]) (by simp)
    have f0 := Bf.cell 0 (by simp)
    have f1 := Bf.cell 1 (by simp)
    have f2 := Bf.cell 2 (by simp)
    have f3 := Bf.cell 3 (by simp)
    have f4 := Bf.cell 4 (by simp)
    have f5 := Bf.cell 5 (by simp)
    have f6 := Bf.cell 6 (by simp)
    have f7 := Bf.cell 7 (by simp)
    simp only [List.getElem_cons_zero, List.getElem_cons_succ] at f0 f1 f2 f3 f4 f5 f6 f7
    have ltf := Bf.lt
    clear Bf
    have Bg := HBB (w2.heap.size, [.int .i64 z0, .int .i64 z1, .int .i64 z2, .int .i64 z3, .int .i64 z4, .int .i64 z5, .int .i64 z6, .slice A2 n2 c2']) (by simp)
    have g0 := Bg.cell 0 (by simp)
    have g1 := Bg.cell 1 (by simp)
    have g2 := Bg.cell 2 (by simp)
    have g3 := Bg.cell 3 (by simp)
    have g4 := Bg.cell 4 (by simp)
    have g5 := Bg.cell 5 (by simp)
    have g6 := Bg.cell 6 (by simp)
    have g7 := Bg.cell 7 (by simp)
    simp only [List.getElem_cons_zero, List.getElem_cons_succ] at g0 g1 g2 g3 g4 g5 g6 g7
    have ltg := Bg.lt
    clear Bg
    have hn1 : (fb == fb) = true := by simp
    have hn2 : (gb == gb) = true := by simp
    clear hr4 hO4 HB3 HY3 HR13 HR23 HR33 HO3 HBB
    go_wp2_with fail
    refine (alike_frame_any z0 z1 z2 z3 z4 z5 z6 A1 n1 c1 zs z0 z1 z2 z3 z4 z5 z6 A2 n2 c2' zs _ (by exact HR14.out) (by exact HR24.out)).mono ?_
    rintro en w5 ⟨rfl, hO5⟩
    have hdd : (z0 == z0 && z1 == z1 && z2 == z2 && z3 == z3 && z4 == z4 && z5 == z5 && z6 == z6 && decide (zs = zs)) = true := by simp
    rw [hdd]
    have HB5 := Lib.hid (HB4.out.keep0 hO5)
    have HR35 := Lib.hid (HR34.out.keep0 hO5)
    have HR45 := Lib.hid (HR44.out.keep0 hO5)
    have HO5 := Lib.hid (HO4.out.trans' hO5)
    clear hdd hO5 HB4 HR14 HR24 HR34 HR44 HO4 f0 f1 f2 f3 f4 f5 f6 f7 g0 g1 g2 g3 g4 g5 g6 g7 ltf ltg
    have Bf := HB5.out (w3.heap.size, [.int .i64 y0, .int .i64 y1, .int .i64 y2, .int .i64 y3, .slice A3 n3 c3]) (by simp)
    have f0 := Bf.cell 0 (by simp)
    have f1 := Bf.cell 1 (by simp)
    have f2 := Bf.cell 2 (by simp)
    have f3 := Bf.cell 3 (by simp)
    have f4 := Bf.cell 4 (by simp)
    simp only [List.getElem_cons_zero, List.getElem_cons_succ] at f0 f1 f2 f3 f4
    have ltf := Bf.lt
    clear Bf
    have Bg := HB5.out (w4.heap.size, [.int .i64 y0, .int .i64 y1, .int .i64 y2, .int .i64 y3, .slice A4 n4 c4]) (by simp)
    have g0 := Bg.cell 0 (by simp)
    have g1 := Bg.cell 1 (by simp)
    have g2 := Bg.cell 2 (by simp)
    have g3 := Bg.cell 3 (by simp)
    have g4 := Bg.cell 4 (by simp)
    simp only [List.getElem_cons_zero, List.getElem_cons_succ] at g0 g1 g2 g3 g4
    have ltg := Bg.lt
    clear Bg
    go_wp2_with fail
    refine (alike_op_any y0 y1 y2 y3 A3 n3 c3 yy y0 y1 y2 y3 A4 n4 c4 yy _ (by exact HR35.out) (by exact HR45.out)).mono ?_
    rintro en w6 ⟨rfl, hO6⟩
    have hdd : (y0 == y0 && y1 == y1 && y2 == y2 && y3 == y3 && decide (yy = yy)) = true := by simp
    rw [hdd]
    have HO6 := Lib.hid (HO5.out.trans' hO6)
    clear hdd hO6 HB5 HR35 HR45 HO5 f0 f1 f2 f3 f4 g0 g1 g2 g3 g4 ltf ltg
    go_wp2_with fail
    refine (awake22 _).mono ?_
    rintro en w7 ⟨rfl, hO7⟩
    have HO7 := Lib.hid (HO6.out.trans' hO7)
    go_wp2
    go_ret
    exact ⟨rfl, HO7.out⟩
  · have HOA := Lib.hid (((Only.refl [] w).alloc (.cells #[.int .i64 k, .int .i64 b, .int .i64 c, .int .i64 e, .slice A n cp] 78)).alloc (.cells #[.int .i64 k2, .int .i64 v2, .int .i64 s2, .int .i64 b2, .int .i64 c2, .int .i64 e2, .int .i64 d2, .slice B m cq] 64))
    have hne : ¬ (w.heap.size = w.heap.size + 1) := by omega
    by_cases h1 : n ≤ 200
    · have h2 : ¬ m ≤ 200 := fun h => h200 ⟨h1, h⟩
      have hd2 : decide (200 < (n : Int)) = false := by simp; omega
      have hd3 : decide (200 < (m : Int)) = true := by simp; omega
      go_enter Try.func12, Try.ntmps12
      go_wp2_with fail
      refine (awake22 _).mono ?_
      rintro en w7 ⟨rfl, hO7⟩
      have HO7 := Lib.hid (HOA.out.trans' hO7)
      go_wp2
      go_ret
      exact ⟨rfl, HO7.out⟩
    · have hd2 : decide (200 < (n : Int)) = true := by simp; omega
      go_enter Try.func12, Try.ntmps12
      go_wp2_with fail
      refine (awake22 _).mono ?_
      rintro en w7 ⟨rfl, hO7⟩
      have HO7 := Lib.hid (HOA.out.trans' hO7)
      go_wp2
      go_ret
      exact ⟨rfl, HO7.out⟩

theorem walk (a0 : Int) (a1 : Int) (a2_0 a2_1 a2_2 a2_3 : Int) (a2 : Option Addr) (len2 cap2 : Nat) (z2 : List Int) (a3_0 a3_1 a3_2 a3_3 a3_4 a3_5 a3_6 : Int) (a3 : Option Addr) (len3 cap3 : Nat) (z3 : List Int) (w : World) (w0 : (Lit.int .i64 a0).wf = true) (w1 : (Lit.int .i64 a1).wf = true) (w2_0 : (Lit.int .i64 a2_0).wf = true) (w2_1 : (Lit.int .i64 a2_1).wf = true) (w2_2 : (Lit.int .i64 a2_2).wf = true) (w2_3 : (Lit.int .i64 a2_3).wf = true) (w2_4 : IsRow .u8 w a2 len2 cap2 z2) (w3_0 : (Lit.int .i64 a3_0).wf = true) (w3_1 : (Lit.int .i64 a3_1).wf = true) (w3_2 : (Lit.int .i64 a3_2).wf = true) (w3_3 : (Lit.int .i64 a3_3).wf = true) (w3_4 : (Lit.int .i64 a3_4).wf = true) (w3_5 : (Lit.int .i64 a3_5).wf = true) (w3_6 : (Lit.int .i64 a3_6).wf = true) (w3_7 : IsRow .u8 w a3 len3 cap3 z3) : Calls Try.prog 12 #[.int .i64 a0, .int .i64 a1, .agg #[.int .i64 a2_0, .int .i64 a2_1, .int .i64 a2_2, .int .i64 a2_3, .slice a2 len2 cap2], .agg #[.int .i64 a3_0, .int .i64 a3_1, .int .i64 a3_2, .int .i64 a3_3, .int .i64 a3_4, .int .i64 a3_5, .int .i64 a3_6, .slice a3 len3 cap3]] w fun e w' => e = .returned (.bool true) ∧ Below w.heap.size w w' := by
  obtain ⟨xs, hx⟩ := w2_4.bys
  obtain ⟨ys, hy⟩ := w3_7.bys
  refine (ops a0 a1 a2_0 a2_1 a2_2 a2_3 a2 len2 cap2 xs a3_0 a3_1 a3_2 a3_3 a3_4 a3_5 a3_6 a3 len3 cap3 ys w hx hy).mono ?_
  rintro e w' ⟨rfl, hO⟩
  exact ⟨rfl, hO.below0⟩

set_option maxRecDepth 100000 in
theorem lifted (os : Os) (started : os.Started) (H : Type) (enc : TypeId × Value → H) :
    ReturnsInHanded {} Try.checked os 12 .any (Rows.frameOpsSpec.pre6 enc Try.prog Try.f12 Rows.frameOpsRow.domain false) (Rows.frameOpsSpec.post enc Try.prog Try.f12 false true false false) := by
  refine returnsInHanded_of_change (C := Try.checked) own started (by kernel_rfl) Try.func12
    (ChangeSpec.witness6 (enc := enc) (C := Try.checked) false ⟨#[], #[.int .i64 0, .int .i64 0, .agg #[.int .i64 0, .int .i64 0, .int .i64 0, .int .i64 0, .slice none 0 0], .agg #[.int .i64 0, .int .i64 0, .int .i64 0, .int .i64 0, .int .i64 0, .int .i64 0, .int .i64 0, .slice none 0 0]], []⟩ 8 (by kernel_rfl) (by kernel_rfl) (by kernel_rfl) (by kernel_rfl)) ?_
  intro W base args ds gs before hval0 hW hcnd _
  have hval : ∀ (j : Nat) t v, Try.f12.params[j]? = some t → args[j]? = some v → Value.okWide Try.prog W .any base t v := hval0
  have hW' := hW
  obtain ⟨p, q, hA0, hV, rfl, hfz, hnd⟩ := hW
  have hA : DataW.TrodAll enc Try.prog W 0 (fun _ => true) true Try.f12.params.toList args.toList ds p := hA0
  rw [Try.params12] at hA hval
  obtain ⟨v0, vs0, d0, ds0, p0, q0, hargs, rfl, rfl, h0, r0⟩ := trodAll_cons hA
  obtain ⟨v1, vs1, d1, ds1, p1, q1, rfl, rfl, rfl, h1, r1⟩ := trodAll_cons r0
  obtain ⟨v2, vs2, d2, ds2, p2, q2, rfl, rfl, rfl, h2, r2⟩ := trodAll_cons r1
  obtain ⟨v3, vs3, d3, ds3, p3, q3, rfl, rfl, rfl, h3, r3⟩ := trodAll_cons r2
  obtain ⟨rfl, rfl, rfl⟩ := trodAll_nil r3
  obtain rfl : args = #[v0, v1, v2, v3] := by cases args; simp_all
  obtain ⟨rfl, rfl⟩ := trodVars_none hV
  obtain ⟨a0, rfl, rfl, rfl, w0⟩ := open_int Try.underlying3 (hval 0 3 v0 rfl rfl) h0
  obtain ⟨a1, rfl, rfl, rfl, w1⟩ := open_int Try.underlying3 (hval 1 3 v1 rfl rfl) h1
  have k2 := h2
  have lt2 : ∀ x ∈ p2, x.block < W.heap.size := by obtain ⟨m, hm⟩ := k2; exact DataW.trod_lt m _ _ _ hm
  obtain ⟨a2_0, a2_1, a2_2, a2_3, a2, len2, cap2, z2, rfl, w2_0, w2_1, w2_2, w2_3, w2_4⟩ := open_op (okWide_struct Try.underlying78 (hval 2 78 v2 rfl rfl)) h2
  have k3 := h3
  have lt3 : ∀ x ∈ p3, x.block < W.heap.size := by obtain ⟨m, hm⟩ := k3; exact DataW.trod_lt m _ _ _ hm
  obtain ⟨a3_0, a3_1, a3_2, a3_3, a3_4, a3_5, a3_6, a3, len3, cap3, z3, rfl, w3_0, w3_1, w3_2, w3_3, w3_4, w3_5, w3_6, w3_7⟩ := open_frame (okWide_struct Try.underlying64 (hval 3 64 v3 rfl rfl)) h3
  clear hA0 hval0
  refine (walk a0 a1 a2_0 a2_1 a2_2 a2_3 a2 len2 cap2 z2 a3_0 a3_1 a3_2 a3_3 a3_4 a3_5 a3_6 a3 len3 cap3 z3 W w0 w1 w2_0 w2_1 w2_2 w2_3 w2_4 w3_0 w3_1 w3_2 w3_3 w3_4 w3_5 w3_6 w3_7).mono fun e W' ⟨he, bel⟩ => ?_
  subst he
  exact ⟨_, rfl, _, _, _, [], _, [], hW', trodAll_mk1 (shut_bool Try.underlying4 _), (trodAll_cons_mk (shut_int Try.underlying3 w0) (trodAll_cons_mk (shut_int Try.underlying3 w1) (trodAll_cons_mk (Below.trod laidOut (by kernel_rfl) (of_decide_eq_true (by kernel_rfl)) k2 bel lt2) (trodAll_cons_mk (Below.trod laidOut (by kernel_rfl) (of_decide_eq_true (by kernel_rfl)) k3 bel lt3) trodAll_mk0)))), rfl, bel.frame _, fun h => by cases h⟩

set_option maxRecDepth 100000 in
theorem closed : joinedFacts Try.pinned.checked.prog 12 Try.f12 Rows.frameOpsSpec Rows.frameOpsRow = true := by
  show joinedFacts Try.prog 12 Try.f12 Rows.frameOpsSpec Rows.frameOpsRow = true
  unfold joinedFacts
  simp only [enter_may, enter_lifts, enter_make]
  kernel_rfl

theorem over : Rows.frameOpsRow.holds Try.pinned (OpenSpec.ofChange Rows.frameOpsSpec) :=
  OpenClaim.holds_of_wide 12 Try.f12 rfl rfl rfl rfl rfl rfl rfl ⟨rfl, rfl, rfl, rfl, rfl⟩ rfl rfl rfl rfl rfl (by kernel_rfl) Try.func12 closed
    (of_decide_eq_true (by kernel_rfl)) (by unfold Func.isWrapper; first | (rw [if_pos (by decide +kernel)]; kernel_rfl) | (rw [if_neg (by decide +kernel)]; exact ⟨rfl, rfl⟩))
    (fun os started H enc _ => lifted os started H enc)

theorem proved : Rows.FrameOpsSaid := over

end Go.Proofs.Ytjmbhknokobnpaa.frameOps
