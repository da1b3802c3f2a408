/- Claim HeadFits. -/
import Derived.Test.YtcojleippbneoaaLaw8B
import Derived.Test.YtcojleippbneoaaFrameH
set_option linter.unusedVariables false
namespace Go.Kn
open Go Go.RowKit
theorem bits_and3 (z : Int) : bits .and .i64 z 3 = z % 4 := by
  have h1 : (BitVec.ofInt 64 (3 : Int)).toNat = 3 := by decide
  show IntKind.i64.wrap ((BitVec.ofInt 64 z &&& BitVec.ofInt 64 3).toNat : Int) = _
  rw [BitVec.toNat_and, h1, show 3 = 2 ^ 2 - 1 from rfl, Nat.and_two_pow_sub_one_eq_mod, BitVec.toNat_ofInt]
  rw [IntKind.wrap_i64]
  omega
end Go.Kn
namespace Go.Proofs.Ytcojleippbneoaa.headFits
open Go Go.RowKit Go.Kn Go.ChangeShapes Go.WideShapes Go.ChangeAt

set_option maxRecDepth 100000 in
set_option maxHeartbeats 8000000 in
theorem fits (z0 z1 z2 z3 wh by_ off : Int) (w : World) (h0 : (Lit.int .i64 z0).wf = true) (h1 : (Lit.int .i64 z1).wf = true) (h2 : (Lit.int .i64 z2).wf = true) (h3 : (Lit.int .i64 z3).wf = true) (hby : (Lit.int .i64 by_).wf = true) :
    Calls Try.prog 16 #[.agg #[.int .i64 z0, .int .i64 z1, .int .i64 z2, .int .i64 z3], .int .i64 wh, .int .i64 by_, .int .i64 off] w fun e w' => e = .returned (.bool true) ∧ Only [] w w' := by
  obtain ⟨⟨a, b, c, d⟩, hi⟩ : ∃ i, madeHead z0 z1 z2 z3 = i := ⟨_, rfl⟩
  have hmay := madeHead_may z0 z1 z2 z3
  rw [hi] at hmay
  obtain ⟨bs, hb1, hb2, hb3, hb4⟩ := head_back hmay
  obtain ⟨r0, r1, r2, r3⟩ := headMay_iff.1 hmay
  dsimp only at r0 r1 r2 r3
  have HV := Lib.hid hi
  have HB1 := Lib.hid hb1
  have HB2 := Lib.hid hb2
  have HB4 := Lib.hid hb4
  have HBY := Lib.hid hby
  have H0 := Lib.hid h0
  have H1 := Lib.hid h1
  have H2 := Lib.hid h2
  have H3 := Lib.hid h3
  have k0 : 0 ≤ by_ % 1000 := Int.emod_nonneg _ (by decide)
  have k1 : by_ % 1000 < 1000 := Int.emod_lt_of_pos _ (by decide)
  have m0 : 0 ≤ by_ % b := Int.emod_nonneg _ (by omega)
  have m1 : by_ % b < b := Int.emod_lt_of_pos _ (by omega)
  generalize hkk : by_ % 1000 = kk at *
  generalize hmm : by_ % b = mm at *
  have HKK := Lib.hid hkk
  have HMM := Lib.hid hmm
  have hsw : bits .and .i64 wh 3 = 0 ∨ bits .and .i64 wh 3 = 1 ∨ bits .and .i64 wh 3 = 2 ∨ bits .and .i64 wh 3 = 3 := by rw [bits_and3]; omega
  clear hi hmay hb1 hb2 hb3 hb4 h0 h1 h2 h3 hby hkk hmm
  rcases hsw with hsw | hsw | hsw | hsw
  · go_enter Try.func16, Try.ntmps16
    go_wp2_with fail
    refine (made8 z0 z1 z2 z3 _ H0.out H1.out H2.out H3.out).mono ?_
    rintro e w1 ⟨rfl, hO1⟩
    rw [HV.out]
    simp only [It.vals]
    have HO1 := Lib.hid (((Only.refl [] w).alloc (.cells #[.int .i64 z0, .int .i64 z1, .int .i64 z2, .int .i64 z3] 67)).trans' hO1)
    clear hO1
    go_wp2_with fail
    have HX1 := Lib.hid ((Boxes.nil w1).new #[.int .i64 a, .int .i64 b, .int .i64 c, .int .i64 d] 82)
    have HO2 := Lib.hid (HO1.out.alloc (.cells #[.int .i64 a, .int .i64 b, .int .i64 c, .int .i64 d] 82))
    refine (head_enc_any a b c d _).mono ?_
    rintro e w2 ⟨A2, c2, rfl, hx, _, hO2⟩
    rw [HB1.out] at hx
    rw [HB1.out]
    simp only [Option.getD_some, Option.isSome_some, if_true, HB2.out] at hx ⊢
    have HX2 := Lib.hid (HX1.out.keep0 hO2)
    have HY2 := Lib.hid hx
    have HO3 := Lib.hid (HO2.out.trans' hO2)
    obtain ⟨x0, x1, x2, x3, lx⟩ := HX2.out.at4 (b := w1.heap.size) (a0 := .int .i64 a) (a1 := .int .i64 b) (a2 := .int .i64 c) (a3 := .int .i64 d) (by simp)
    have lx1 : w1.heap.size < w2.heap.size + 1 := by omega
    have lx2 : w1.heap.size < w2.heap.size + 1 + 1 := by omega
    have ln1 : ¬ (w1.heap.size = w2.heap.size + 1) := by omega
    have ln2 : ¬ (w1.heap.size = w2.heap.size + 1 + 1) := by omega
    have ln0 : ¬ (w1.heap.size = w2.heap.size) := by omega
    clear hx hO2 HX1 HO1 HO2
    go_wp2_with fail
    refine (round_any by_ 1000 _ HBY.out (by decide) (by decide)).mono ?_
    rintro e w' ⟨rfl, rfl⟩
    rw [HKK.out]
    go_wp2_with fail
    refine (round_any by_ b _ HBY.out (by omega) (by omega)).mono ?_
    rintro e w' ⟨rfl, rfl⟩
    rw [HMM.out]
    clear x0 x1 x2 x3 lx lx1 lx2 ln0 ln1 ln2
    go_wp2_with fail
    have HX4 := Lib.hid ((((Boxes.nil w2).new #[.int .i64 a, .int .i64 off, .int .i64 c, .int .i64 d, .int .i64 b] 84).new #[.int .i64 (a + (1 + kk)), .int .i64 off, .int .i64 c, .int .i64 d, .int .i64 b] 84).new #[.int .i64 a, .int .i64 off, .int .i64 c, .int .i64 d, .int .i64 (1 + mm)] 84)
    have hs1 : (w2.alloc (.cells #[.int .i64 a, .int .i64 off, .int .i64 c, .int .i64 d, .int .i64 b] 84)).heap.size = w2.heap.size + 1 := by simp
    have hs2 : ((w2.alloc (.cells #[.int .i64 a, .int .i64 off, .int .i64 c, .int .i64 d, .int .i64 b] 84)).alloc (.cells #[.int .i64 (a + (1 + kk)), .int .i64 off, .int .i64 c, .int .i64 d, .int .i64 b] 84)).heap.size = w2.heap.size + 1 + 1 := by simp
    rw [hs1, hs2] at HX4
    have HY4 := Lib.hid (((HY2.out.alloc (.cells #[.int .i64 a, .int .i64 off, .int .i64 c, .int .i64 d, .int .i64 b] 84)).alloc (.cells #[.int .i64 (a + (1 + kk)), .int .i64 off, .int .i64 c, .int .i64 d, .int .i64 b] 84)).alloc (.cells #[.int .i64 a, .int .i64 off, .int .i64 c, .int .i64 d, .int .i64 (1 + mm)] 84))
    have HO4 := Lib.hid (((HO3.out.alloc (.cells #[.int .i64 a, .int .i64 off, .int .i64 c, .int .i64 d, .int .i64 b] 84)).alloc (.cells #[.int .i64 (a + (1 + kk)), .int .i64 off, .int .i64 c, .int .i64 d, .int .i64 b] 84)).alloc (.cells #[.int .i64 a, .int .i64 off, .int .i64 c, .int .i64 d, .int .i64 (1 + mm)] 84))
    clear hs1 hs2
    refine (head_fits_any A2 64 c2 bs a off c d b _ (by exact HY4.out) (by decide)).mono ?_
    rintro e w5 ⟨rfl, hO5⟩
    rw [HB4.out, show headFits (some ⟨a, b, c, d⟩) a c d b = true from by simp [headFits]]
    have HX5 := Lib.hid (HX4.out.keep0 hO5)
    have HY5 := Lib.hid (HY4.out.keep0 hO5)
    have HO5 := Lib.hid (HO4.out.trans' hO5)
    obtain ⟨y0, y1, y2, y3, y4, ly⟩ := HX5.out.at5 (b := w2.heap.size + 1 + 1) (a0 := .int .i64 a) (a1 := .int .i64 off) (a2 := .int .i64 c) (a3 := .int .i64 d) (a4 := .int .i64 (1 + mm)) (by simp)
    clear hO5 HX4 HY4 HO4 HO3 HX2 HY2
    go_wp2_with fail
    refine (head_fits_any A2 64 c2 bs a off c d (1 + mm) _ (by exact HY5.out) (by decide)).mono ?_
    rintro e w6 ⟨rfl, hO6⟩
    rw [HB4.out, show headFits (some ⟨a, b, c, d⟩) a c d (1 + mm) = true from by simp [headFits]; omega]
    have HX6 := Lib.hid (HX5.out.keep0 hO6)
    have HY6 := Lib.hid (HY5.out.keep0 hO6)
    have HO6 := Lib.hid (HO5.out.trans' hO6)
    clear y0 y1 y2 y3 y4 ly
    obtain ⟨y0, y1, y2, y3, y4, ly⟩ := HX6.out.at5 (b := w2.heap.size + 1) (a0 := .int .i64 (a + (1 + kk))) (a1 := .int .i64 off) (a2 := .int .i64 c) (a3 := .int .i64 d) (a4 := .int .i64 b) (by simp)
    clear hO6
    go_wp2_with fail
    refine (head_fits_any A2 64 c2 bs (a + (1 + kk)) off c d b _ (by exact HY6.out) (by decide)).mono ?_
    rintro e w7 ⟨rfl, hO7⟩
    rw [HB4.out, show headFits (some ⟨a, b, c, d⟩) (a + (1 + kk)) (c) (d) (b) = false from by simp [headFits]; omega]
    have HO7 := Lib.hid (HO6.out.trans' hO7)
    clear y0 y1 y2 y3 y4 ly
    go_wp2_with fail
    refine (awake8 _).mono ?_
    rintro e w8 ⟨rfl, hO8⟩
    have HO8 := Lib.hid (HO7.out.trans' hO8)
    go_wp2
    go_ret
    exact ⟨rfl, HO8.out⟩
  · go_enter Try.func16, Try.ntmps16
    go_wp2_with fail
    refine (made8 z0 z1 z2 z3 _ H0.out H1.out H2.out H3.out).mono ?_
    rintro e w1 ⟨rfl, hO1⟩
    rw [HV.out]
    simp only [It.vals]
    have HO1 := Lib.hid (((Only.refl [] w).alloc (.cells #[.int .i64 z0, .int .i64 z1, .int .i64 z2, .int .i64 z3] 67)).trans' hO1)
    clear hO1
    go_wp2_with fail
    have HX1 := Lib.hid ((Boxes.nil w1).new #[.int .i64 a, .int .i64 b, .int .i64 c, .int .i64 d] 82)
    have HO2 := Lib.hid (HO1.out.alloc (.cells #[.int .i64 a, .int .i64 b, .int .i64 c, .int .i64 d] 82))
    refine (head_enc_any a b c d _).mono ?_
    rintro e w2 ⟨A2, c2, rfl, hx, _, hO2⟩
    rw [HB1.out] at hx
    rw [HB1.out]
    simp only [Option.getD_some, Option.isSome_some, if_true, HB2.out] at hx ⊢
    have HX2 := Lib.hid (HX1.out.keep0 hO2)
    have HY2 := Lib.hid hx
    have HO3 := Lib.hid (HO2.out.trans' hO2)
    obtain ⟨x0, x1, x2, x3, lx⟩ := HX2.out.at4 (b := w1.heap.size) (a0 := .int .i64 a) (a1 := .int .i64 b) (a2 := .int .i64 c) (a3 := .int .i64 d) (by simp)
    have lx1 : w1.heap.size < w2.heap.size + 1 := by omega
    have lx2 : w1.heap.size < w2.heap.size + 1 + 1 := by omega
    have ln1 : ¬ (w1.heap.size = w2.heap.size + 1) := by omega
    have ln2 : ¬ (w1.heap.size = w2.heap.size + 1 + 1) := by omega
    have ln0 : ¬ (w1.heap.size = w2.heap.size) := by omega
    clear hx hO2 HX1 HO1 HO2
    go_wp2_with fail
    refine (round_any by_ 1000 _ HBY.out (by decide) (by decide)).mono ?_
    rintro e w' ⟨rfl, rfl⟩
    rw [HKK.out]
    go_wp2_with fail
    refine (round_any by_ b _ HBY.out (by omega) (by omega)).mono ?_
    rintro e w' ⟨rfl, rfl⟩
    rw [HMM.out]
    clear x0 x1 x2 x3 lx lx1 lx2 ln0 ln1 ln2
    go_wp2_with fail
    have HX4 := Lib.hid ((((Boxes.nil w2).new #[.int .i64 a, .int .i64 off, .int .i64 c, .int .i64 d, .int .i64 b] 84).new #[.int .i64 a, .int .i64 off, .int .i64 (c + (1 + kk)), .int .i64 d, .int .i64 b] 84).new #[.int .i64 a, .int .i64 off, .int .i64 c, .int .i64 d, .int .i64 (1 + mm)] 84)
    have hs1 : (w2.alloc (.cells #[.int .i64 a, .int .i64 off, .int .i64 c, .int .i64 d, .int .i64 b] 84)).heap.size = w2.heap.size + 1 := by simp
    have hs2 : ((w2.alloc (.cells #[.int .i64 a, .int .i64 off, .int .i64 c, .int .i64 d, .int .i64 b] 84)).alloc (.cells #[.int .i64 a, .int .i64 off, .int .i64 (c + (1 + kk)), .int .i64 d, .int .i64 b] 84)).heap.size = w2.heap.size + 1 + 1 := by simp
    rw [hs1, hs2] at HX4
    have HY4 := Lib.hid (((HY2.out.alloc (.cells #[.int .i64 a, .int .i64 off, .int .i64 c, .int .i64 d, .int .i64 b] 84)).alloc (.cells #[.int .i64 a, .int .i64 off, .int .i64 (c + (1 + kk)), .int .i64 d, .int .i64 b] 84)).alloc (.cells #[.int .i64 a, .int .i64 off, .int .i64 c, .int .i64 d, .int .i64 (1 + mm)] 84))
    have HO4 := Lib.hid (((HO3.out.alloc (.cells #[.int .i64 a, .int .i64 off, .int .i64 c, .int .i64 d, .int .i64 b] 84)).alloc (.cells #[.int .i64 a, .int .i64 off, .int .i64 (c + (1 + kk)), .int .i64 d, .int .i64 b] 84)).alloc (.cells #[.int .i64 a, .int .i64 off, .int .i64 c, .int .i64 d, .int .i64 (1 + mm)] 84))
    clear hs1 hs2
    refine (head_fits_any A2 64 c2 bs a off c d b _ (by exact HY4.out) (by decide)).mono ?_
    rintro e w5 ⟨rfl, hO5⟩
    rw [HB4.out, show headFits (some ⟨a, b, c, d⟩) a c d b = true from by simp [headFits]]
    have HX5 := Lib.hid (HX4.out.keep0 hO5)
    have HY5 := Lib.hid (HY4.out.keep0 hO5)
    have HO5 := Lib.hid (HO4.out.trans' hO5)
    obtain ⟨y0, y1, y2, y3, y4, ly⟩ := HX5.out.at5 (b := w2.heap.size + 1 + 1) (a0 := .int .i64 a) (a1 := .int .i64 off) (a2 := .int .i64 c) (a3 := .int .i64 d) (a4 := .int .i64 (1 + mm)) (by simp)
    clear hO5 HX4 HY4 HO4 HO3 HX2 HY2
    go_wp2_with fail
    refine (head_fits_any A2 64 c2 bs a off c d (1 + mm) _ (by exact HY5.out) (by decide)).mono ?_
    rintro e w6 ⟨rfl, hO6⟩
    rw [HB4.out, show headFits (some ⟨a, b, c, d⟩) a c d (1 + mm) = true from by simp [headFits]; omega]
    have HX6 := Lib.hid (HX5.out.keep0 hO6)
    have HY6 := Lib.hid (HY5.out.keep0 hO6)
    have HO6 := Lib.hid (HO5.out.trans' hO6)
    clear y0 y1 y2 y3 y4 ly
    obtain ⟨y0, y1, y2, y3, y4, ly⟩ := HX6.out.at5 (b := w2.heap.size + 1) (a0 := .int .i64 a) (a1 := .int .i64 off) (a2 := .int .i64 (c + (1 + kk))) (a3 := .int .i64 d) (a4 := .int .i64 b) (by simp)
    clear hO6
    go_wp2_with fail
    refine (head_fits_any A2 64 c2 bs a off (c + (1 + kk)) d b _ (by exact HY6.out) (by decide)).mono ?_
    rintro e w7 ⟨rfl, hO7⟩
    rw [HB4.out, show headFits (some ⟨a, b, c, d⟩) (a) (c + (1 + kk)) (d) (b) = false from by simp [headFits]; omega]
    have HO7 := Lib.hid (HO6.out.trans' hO7)
    clear y0 y1 y2 y3 y4 ly
    go_wp2_with fail
    refine (awake8 _).mono ?_
    rintro e w8 ⟨rfl, hO8⟩
    have HO8 := Lib.hid (HO7.out.trans' hO8)
    go_wp2
    go_ret
    exact ⟨rfl, HO8.out⟩
  · go_enter Try.func16, Try.ntmps16
    go_wp2_with fail
    refine (made8 z0 z1 z2 z3 _ H0.out H1.out H2.out H3.out).mono ?_
    rintro e w1 ⟨rfl, hO1⟩
    rw [HV.out]
    simp only [It.vals]
    have HO1 := Lib.hid (((Only.refl [] w).alloc (.cells #[.int .i64 z0, .int .i64 z1, .int .i64 z2, .int .i64 z3] 67)).trans' hO1)
    clear hO1
    go_wp2_with fail
    have HX1 := Lib.hid ((Boxes.nil w1).new #[.int .i64 a, .int .i64 b, .int .i64 c, .int .i64 d] 82)
    have HO2 := Lib.hid (HO1.out.alloc (.cells #[.int .i64 a, .int .i64 b, .int .i64 c, .int .i64 d] 82))
    refine (head_enc_any a b c d _).mono ?_
    rintro e w2 ⟨A2, c2, rfl, hx, _, hO2⟩
    rw [HB1.out] at hx
    rw [HB1.out]
    simp only [Option.getD_some, Option.isSome_some, if_true, HB2.out] at hx ⊢
    have HX2 := Lib.hid (HX1.out.keep0 hO2)
    have HY2 := Lib.hid hx
    have HO3 := Lib.hid (HO2.out.trans' hO2)
    obtain ⟨x0, x1, x2, x3, lx⟩ := HX2.out.at4 (b := w1.heap.size) (a0 := .int .i64 a) (a1 := .int .i64 b) (a2 := .int .i64 c) (a3 := .int .i64 d) (by simp)
    have lx1 : w1.heap.size < w2.heap.size + 1 := by omega
    have lx2 : w1.heap.size < w2.heap.size + 1 + 1 := by omega
    have ln1 : ¬ (w1.heap.size = w2.heap.size + 1) := by omega
    have ln2 : ¬ (w1.heap.size = w2.heap.size + 1 + 1) := by omega
    have ln0 : ¬ (w1.heap.size = w2.heap.size) := by omega
    clear hx hO2 HX1 HO1 HO2
    go_wp2_with fail
    refine (round_any by_ 1000 _ HBY.out (by decide) (by decide)).mono ?_
    rintro e w' ⟨rfl, rfl⟩
    rw [HKK.out]
    go_wp2_with fail
    refine (round_any by_ b _ HBY.out (by omega) (by omega)).mono ?_
    rintro e w' ⟨rfl, rfl⟩
    rw [HMM.out]
    clear x0 x1 x2 x3 lx lx1 lx2 ln0 ln1 ln2
    go_wp2_with fail
    have HX4 := Lib.hid ((((Boxes.nil w2).new #[.int .i64 a, .int .i64 off, .int .i64 c, .int .i64 d, .int .i64 b] 84).new #[.int .i64 a, .int .i64 off, .int .i64 c, .int .i64 (d - (1 + kk)), .int .i64 b] 84).new #[.int .i64 a, .int .i64 off, .int .i64 c, .int .i64 d, .int .i64 (1 + mm)] 84)
    have hs1 : (w2.alloc (.cells #[.int .i64 a, .int .i64 off, .int .i64 c, .int .i64 d, .int .i64 b] 84)).heap.size = w2.heap.size + 1 := by simp
    have hs2 : ((w2.alloc (.cells #[.int .i64 a, .int .i64 off, .int .i64 c, .int .i64 d, .int .i64 b] 84)).alloc (.cells #[.int .i64 a, .int .i64 off, .int .i64 c, .int .i64 (d - (1 + kk)), .int .i64 b] 84)).heap.size = w2.heap.size + 1 + 1 := by simp
    rw [hs1, hs2] at HX4
    have HY4 := Lib.hid (((HY2.out.alloc (.cells #[.int .i64 a, .int .i64 off, .int .i64 c, .int .i64 d, .int .i64 b] 84)).alloc (.cells #[.int .i64 a, .int .i64 off, .int .i64 c, .int .i64 (d - (1 + kk)), .int .i64 b] 84)).alloc (.cells #[.int .i64 a, .int .i64 off, .int .i64 c, .int .i64 d, .int .i64 (1 + mm)] 84))
    have HO4 := Lib.hid (((HO3.out.alloc (.cells #[.int .i64 a, .int .i64 off, .int .i64 c, .int .i64 d, .int .i64 b] 84)).alloc (.cells #[.int .i64 a, .int .i64 off, .int .i64 c, .int .i64 (d - (1 + kk)), .int .i64 b] 84)).alloc (.cells #[.int .i64 a, .int .i64 off, .int .i64 c, .int .i64 d, .int .i64 (1 + mm)] 84))
    clear hs1 hs2
    refine (head_fits_any A2 64 c2 bs a off c d b _ (by exact HY4.out) (by decide)).mono ?_
    rintro e w5 ⟨rfl, hO5⟩
    rw [HB4.out, show headFits (some ⟨a, b, c, d⟩) a c d b = true from by simp [headFits]]
    have HX5 := Lib.hid (HX4.out.keep0 hO5)
    have HY5 := Lib.hid (HY4.out.keep0 hO5)
    have HO5 := Lib.hid (HO4.out.trans' hO5)
    obtain ⟨y0, y1, y2, y3, y4, ly⟩ := HX5.out.at5 (b := w2.heap.size + 1 + 1) (a0 := .int .i64 a) (a1 := .int .i64 off) (a2 := .int .i64 c) (a3 := .int .i64 d) (a4 := .int .i64 (1 + mm)) (by simp)
    clear hO5 HX4 HY4 HO4 HO3 HX2 HY2
    go_wp2_with fail
    refine (head_fits_any A2 64 c2 bs a off c d (1 + mm) _ (by exact HY5.out) (by decide)).mono ?_
    rintro e w6 ⟨rfl, hO6⟩
    rw [HB4.out, show headFits (some ⟨a, b, c, d⟩) a c d (1 + mm) = true from by simp [headFits]; omega]
    have HX6 := Lib.hid (HX5.out.keep0 hO6)
    have HY6 := Lib.hid (HY5.out.keep0 hO6)
    have HO6 := Lib.hid (HO5.out.trans' hO6)
    clear y0 y1 y2 y3 y4 ly
    obtain ⟨y0, y1, y2, y3, y4, ly⟩ := HX6.out.at5 (b := w2.heap.size + 1) (a0 := .int .i64 a) (a1 := .int .i64 off) (a2 := .int .i64 c) (a3 := .int .i64 (d - (1 + kk))) (a4 := .int .i64 b) (by simp)
    clear hO6
    go_wp2_with fail
    refine (head_fits_any A2 64 c2 bs a off c (d - (1 + kk)) b _ (by exact HY6.out) (by decide)).mono ?_
    rintro e w7 ⟨rfl, hO7⟩
    rw [HB4.out, show headFits (some ⟨a, b, c, d⟩) (a) (c) (d - (1 + kk)) (b) = false from by simp [headFits]; omega]
    have HO7 := Lib.hid (HO6.out.trans' hO7)
    clear y0 y1 y2 y3 y4 ly
    go_wp2_with fail
    refine (awake8 _).mono ?_
    rintro e w8 ⟨rfl, hO8⟩
    have HO8 := Lib.hid (HO7.out.trans' hO8)
    go_wp2
    go_ret
    exact ⟨rfl, HO8.out⟩
  · go_enter Try.func16, Try.ntmps16
    go_wp2_with fail
    refine (made8 z0 z1 z2 z3 _ H0.out H1.out H2.out H3.out).mono ?_
    rintro e w1 ⟨rfl, hO1⟩
    rw [HV.out]
    simp only [It.vals]
    have HO1 := Lib.hid (((Only.refl [] w).alloc (.cells #[.int .i64 z0, .int .i64 z1, .int .i64 z2, .int .i64 z3] 67)).trans' hO1)
    clear hO1
    go_wp2_with fail
    have HX1 := Lib.hid ((Boxes.nil w1).new #[.int .i64 a, .int .i64 b, .int .i64 c, .int .i64 d] 82)
    have HO2 := Lib.hid (HO1.out.alloc (.cells #[.int .i64 a, .int .i64 b, .int .i64 c, .int .i64 d] 82))
    refine (head_enc_any a b c d _).mono ?_
    rintro e w2 ⟨A2, c2, rfl, hx, _, hO2⟩
    rw [HB1.out] at hx
    rw [HB1.out]
    simp only [Option.getD_some, Option.isSome_some, if_true, HB2.out] at hx ⊢
    have HX2 := Lib.hid (HX1.out.keep0 hO2)
    have HY2 := Lib.hid hx
    have HO3 := Lib.hid (HO2.out.trans' hO2)
    obtain ⟨x0, x1, x2, x3, lx⟩ := HX2.out.at4 (b := w1.heap.size) (a0 := .int .i64 a) (a1 := .int .i64 b) (a2 := .int .i64 c) (a3 := .int .i64 d) (by simp)
    have lx1 : w1.heap.size < w2.heap.size + 1 := by omega
    have lx2 : w1.heap.size < w2.heap.size + 1 + 1 := by omega
    have ln1 : ¬ (w1.heap.size = w2.heap.size + 1) := by omega
    have ln2 : ¬ (w1.heap.size = w2.heap.size + 1 + 1) := by omega
    have ln0 : ¬ (w1.heap.size = w2.heap.size) := by omega
    clear hx hO2 HX1 HO1 HO2
    go_wp2_with fail
    refine (round_any by_ 1000 _ HBY.out (by decide) (by decide)).mono ?_
    rintro e w' ⟨rfl, rfl⟩
    rw [HKK.out]
    go_wp2_with fail
    refine (round_any by_ b _ HBY.out (by omega) (by omega)).mono ?_
    rintro e w' ⟨rfl, rfl⟩
    rw [HMM.out]
    clear x0 x1 x2 x3 lx lx1 lx2 ln0 ln1 ln2
    go_wp2_with fail
    have HX4 := Lib.hid ((((Boxes.nil w2).new #[.int .i64 a, .int .i64 off, .int .i64 c, .int .i64 d, .int .i64 b] 84).new #[.int .i64 a, .int .i64 off, .int .i64 c, .int .i64 d, .int .i64 (b + (1 + kk))] 84).new #[.int .i64 a, .int .i64 off, .int .i64 c, .int .i64 d, .int .i64 (1 + mm)] 84)
    have hs1 : (w2.alloc (.cells #[.int .i64 a, .int .i64 off, .int .i64 c, .int .i64 d, .int .i64 b] 84)).heap.size = w2.heap.size + 1 := by simp
    have hs2 : ((w2.alloc (.cells #[.int .i64 a, .int .i64 off, .int .i64 c, .int .i64 d, .int .i64 b] 84)).alloc (.cells #[.int .i64 a, .int .i64 off, .int .i64 c, .int .i64 d, .int .i64 (b + (1 + kk))] 84)).heap.size = w2.heap.size + 1 + 1 := by simp
    rw [hs1, hs2] at HX4
    have HY4 := Lib.hid (((HY2.out.alloc (.cells #[.int .i64 a, .int .i64 off, .int .i64 c, .int .i64 d, .int .i64 b] 84)).alloc (.cells #[.int .i64 a, .int .i64 off, .int .i64 c, .int .i64 d, .int .i64 (b + (1 + kk))] 84)).alloc (.cells #[.int .i64 a, .int .i64 off, .int .i64 c, .int .i64 d, .int .i64 (1 + mm)] 84))
    have HO4 := Lib.hid (((HO3.out.alloc (.cells #[.int .i64 a, .int .i64 off, .int .i64 c, .int .i64 d, .int .i64 b] 84)).alloc (.cells #[.int .i64 a, .int .i64 off, .int .i64 c, .int .i64 d, .int .i64 (b + (1 + kk))] 84)).alloc (.cells #[.int .i64 a, .int .i64 off, .int .i64 c, .int .i64 d, .int .i64 (1 + mm)] 84))
    clear hs1 hs2
    refine (head_fits_any A2 64 c2 bs a off c d b _ (by exact HY4.out) (by decide)).mono ?_
    rintro e w5 ⟨rfl, hO5⟩
    rw [HB4.out, show headFits (some ⟨a, b, c, d⟩) a c d b = true from by simp [headFits]]
    have HX5 := Lib.hid (HX4.out.keep0 hO5)
    have HY5 := Lib.hid (HY4.out.keep0 hO5)
    have HO5 := Lib.hid (HO4.out.trans' hO5)
    obtain ⟨y0, y1, y2, y3, y4, ly⟩ := HX5.out.at5 (b := w2.heap.size + 1 + 1) (a0 := .int .i64 a) (a1 := .int .i64 off) (a2 := .int .i64 c) (a3 := .int .i64 d) (a4 := .int .i64 (1 + mm)) (by simp)
    clear hO5 HX4 HY4 HO4 HO3 HX2 HY2
    go_wp2_with fail
    refine (head_fits_any A2 64 c2 bs a off c d (1 + mm) _ (by exact HY5.out) (by decide)).mono ?_
    rintro e w6 ⟨rfl, hO6⟩
    rw [HB4.out, show headFits (some ⟨a, b, c, d⟩) a c d (1 + mm) = true from by simp [headFits]; omega]
    have HX6 := Lib.hid (HX5.out.keep0 hO6)
    have HY6 := Lib.hid (HY5.out.keep0 hO6)
    have HO6 := Lib.hid (HO5.out.trans' hO6)
    clear y0 y1 y2 y3 y4 ly
    obtain ⟨y0, y1, y2, y3, y4, ly⟩ := HX6.out.at5 (b := w2.heap.size + 1) (a0 := .int .i64 a) (a1 := .int .i64 off) (a2 := .int .i64 c) (a3 := .int .i64 d) (a4 := .int .i64 (b + (1 + kk))) (by simp)
    clear hO6
    go_wp2_with fail
    refine (head_fits_any A2 64 c2 bs a off c d (b + (1 + kk)) _ (by exact HY6.out) (by decide)).mono ?_
    rintro e w7 ⟨rfl, hO7⟩
    rw [HB4.out, show headFits (some ⟨a, b, c, d⟩) (a) (c) (d) (b + (1 + kk)) = false from by simp [headFits]; omega]
    have HO7 := Lib.hid (HO6.out.trans' hO7)
    clear y0 y1 y2 y3 y4 ly
    go_wp2_with fail
    refine (awake8 _).mono ?_
    rintro e w8 ⟨rfl, hO8⟩
    have HO8 := Lib.hid (HO7.out.trans' hO8)
    go_wp2
    go_ret
    exact ⟨rfl, HO8.out⟩

theorem walk (a0_0 a0_1 a0_2 a0_3 : Int) (a1 : Int) (a2 : Int) (a3 : Int) (w : World) (w0_0 : (Lit.int .i64 a0_0).wf = true) (w0_1 : (Lit.int .i64 a0_1).wf = true) (w0_2 : (Lit.int .i64 a0_2).wf = true) (w0_3 : (Lit.int .i64 a0_3).wf = true) (w1 : (Lit.int .i64 a1).wf = true) (w2 : (Lit.int .i64 a2).wf = true) (w3 : (Lit.int .i64 a3).wf = true) : Calls Try.prog 16 #[.agg #[.int .i64 a0_0, .int .i64 a0_1, .int .i64 a0_2, .int .i64 a0_3], .int .i64 a1, .int .i64 a2, .int .i64 a3] w fun e w' => e = .returned (.bool true) ∧ Below w.heap.size w w' := by
  refine (fits a0_0 a0_1 a0_2 a0_3 a1 a2 a3 w w0_0 w0_1 w0_2 w0_3 w2).mono ?_
  rintro e w' ⟨rfl, hO⟩
  exact ⟨rfl, hO.below0⟩

set_option maxRecDepth 100000 in
theorem lifted (os : Os) (started : os.Started) (H : Type) (enc : TypeId × Value → H) :
    ReturnsInHanded {} Try.checked os 16 .any (Rows.headFitsSpec.pre6 enc Try.prog Try.f16 Rows.headFitsRow.domain false) (Rows.headFitsSpec.post enc Try.prog Try.f16 false true false false) := by
  refine returnsInHanded_of_change (C := Try.checked) own started (by kernel_rfl) Try.func16
    (ChangeSpec.witness6 (enc := enc) (C := Try.checked) false ⟨#[], #[.agg #[.int .i64 0, .int .i64 0, .int .i64 0, .int .i64 0], .int .i64 0, .int .i64 0, .int .i64 0], []⟩ 8 (by kernel_rfl) (by kernel_rfl) (by kernel_rfl) (by kernel_rfl)) ?_
  intro W base args ds gs before hval0 hW hcnd _
  have hval : ∀ (j : Nat) t v, Try.f16.params[j]? = some t → args[j]? = some v → Value.okWide Try.prog W .any base t v := hval0
  have hW' := hW
  obtain ⟨p, q, hA0, hV, rfl, hfz, hnd⟩ := hW
  have hA : DataW.TrodAll enc Try.prog W 0 (fun _ => true) true Try.f16.params.toList args.toList ds p := hA0
  rw [Try.params16] at hA hval
  obtain ⟨v0, vs0, d0, ds0, p0, q0, hargs, rfl, rfl, h0, r0⟩ := trodAll_cons hA
  obtain ⟨v1, vs1, d1, ds1, p1, q1, rfl, rfl, rfl, h1, r1⟩ := trodAll_cons r0
  obtain ⟨v2, vs2, d2, ds2, p2, q2, rfl, rfl, rfl, h2, r2⟩ := trodAll_cons r1
  obtain ⟨v3, vs3, d3, ds3, p3, q3, rfl, rfl, rfl, h3, r3⟩ := trodAll_cons r2
  obtain ⟨rfl, rfl, rfl⟩ := trodAll_nil r3
  obtain rfl : args = #[v0, v1, v2, v3] := by cases args; simp_all
  obtain ⟨rfl, rfl⟩ := trodVars_none hV
  have k0 := h0
  have lt0 : ∀ x ∈ p0, x.block < W.heap.size := by obtain ⟨m, hm⟩ := k0; exact DataW.trod_lt m _ _ _ hm
  obtain ⟨a0_0, a0_1, a0_2, a0_3, rfl, w0_0, w0_1, w0_2, w0_3⟩ := open_arr4 (okWide_array Try.underlying67 (hval 0 67 v0 rfl rfl)) h0
  obtain ⟨a1, rfl, rfl, rfl, w1⟩ := open_int Try.underlying3 (hval 1 3 v1 rfl rfl) h1
  obtain ⟨a2, rfl, rfl, rfl, w2⟩ := open_int Try.underlying3 (hval 2 3 v2 rfl rfl) h2
  obtain ⟨a3, rfl, rfl, rfl, w3⟩ := open_int Try.underlying3 (hval 3 3 v3 rfl rfl) h3
  clear hA0 hval0
  refine (walk a0_0 a0_1 a0_2 a0_3 a1 a2 a3 W w0_0 w0_1 w0_2 w0_3 w1 w2 w3).mono fun e W' ⟨he, bel⟩ => ?_
  subst he
  exact ⟨_, rfl, _, _, _, [], _, [], hW', trodAll_mk1 (shut_bool Try.underlying4 _), (trodAll_cons_mk (Below.trod laidOut (by kernel_rfl) (of_decide_eq_true (by kernel_rfl)) k0 bel lt0) (trodAll_cons_mk (shut_int Try.underlying3 w1) (trodAll_cons_mk (shut_int Try.underlying3 w2) (trodAll_cons_mk (shut_int Try.underlying3 w3) trodAll_mk0)))), rfl, bel.frame _, fun h => by cases h⟩

theorem over : Rows.headFitsRow.holds Try.pinned (OpenSpec.ofChange Rows.headFitsSpec) :=
  OpenClaim.holds_of_wide 16 Try.f16 rfl rfl rfl rfl rfl rfl rfl ⟨rfl, rfl, rfl, rfl, rfl⟩ rfl rfl rfl rfl rfl (by kernel_rfl) Try.func16 (by kernel_rfl)
    (of_decide_eq_true (by kernel_rfl)) (by unfold Func.isWrapper; first | (rw [if_pos (by decide +kernel)]; kernel_rfl) | (rw [if_neg (by decide +kernel)]; exact ⟨rfl, rfl⟩))
    (fun os started H enc _ => lifted os started H enc)

theorem proved : Rows.HeadFitsSaid := over

end Go.Proofs.Ytcojleippbneoaa.headFits
