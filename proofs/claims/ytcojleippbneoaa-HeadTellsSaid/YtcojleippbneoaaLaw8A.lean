/- The law package of chapter 8: awake, made. -/
import Derived.Test.YtcojleippbneoaaHeadF
set_option linter.unusedVariables false
namespace Go.Kn
open Go Go.RowKit
def awakeH : List UInt8 := sealed (headRow ⟨3, 2, 9, 77⟩)
theorem awakeH_enc : encHead ⟨3, 2, 9, 77⟩ = some awakeH := by decide +kernel
theorem awakeH_length : awakeH.length = 64 := by decide +kernel
theorem awakeH_dec : decHead awakeH = some ⟨3, 2, 9, 77⟩ := decBy_back (encHead_of awakeH_enc) awakeH_enc
theorem awakeH_at : awakeH[1]? = some 72 := by decide +kernel
theorem zeros_head : decHead zeros64 = none := by decide +kernel
theorem bys_at {w : World} {g o n c i : Nat} {bs : List UInt8} {x : UInt8} (h : Bys w (some ⟨g, o, none⟩) n c bs) (hi : bs[i]? = some x) : w.cell? ⟨g, o + i, none⟩ = some (.int .u8 (x.toNat : Int)) := by
  obtain ⟨h1, h2⟩ := List.getElem?_eq_some_iff.1 hi
  have hl := h.len
  rw [bvs_length] at hl
  obtain ⟨g', o', e, hc⟩ := h.at_ (by omega)
  injection e with e
  injection e with e1 e2
  subst e1 e2
  have := hc i (by simpa using h1)
  rw [bvs_get, h2] at this
  exact this
/-- a head that may be, of four numbers -/
def madeHead (a b c d : Int) : It := ⟨a % 32, 1 + b % 2147483647, 1 + c % 2147483647, d % 4294967296⟩
theorem madeHead_may (a b c d : Int) : headMay (madeHead a b c d) = true := by
  rw [headMay_iff]
  show (0 ≤ a % 32 ∧ a % 32 ≤ 31) ∧ (1 ≤ 1 + b % 2147483647 ∧ 1 + b % 2147483647 ≤ 2147483647) ∧ (1 ≤ 1 + c % 2147483647 ∧ 1 + c % 2147483647 ≤ 2147483647) ∧ (0 ≤ d % 4294967296 ∧ d % 4294967296 ≤ 4294967295)
  omega
end Go.Kn
namespace Go.Proofs.Ytcojleippbneoaa
open Go Go.RowKit Go.Kn

set_option maxRecDepth 100000 in
set_option maxHeartbeats 4000000 in
theorem awake8 (w : World) : Calls Try.prog 54 #[] w fun e w' => e = .returned (.bool true) ∧ Only [] w w' := by
  have hmk : ∀ w : World, (Instr.makeSlice 29 (.int .i64 64) (.int .i64 64)).run Try.prog w = .ok (.slice (some ⟨w.heap.size, 0, none⟩) 64 64) (w.alloc (.cells (bvs (List.replicate 64 0)).toArray 5)) := make_bys 64 (by decide)
  go_enter Try.func54, Try.ntmps54
  go_wp2_with fail
  have HB0 := Lib.hid ((Boxes.nil w).new #[.int .i64 3, .int .i64 2, .int .i64 9, .int .i64 77] 82)
  refine (head_enc_any 3 2 9 77 _).mono ?_
  rintro e w1 ⟨A1, c1, rfl, hb1, _, hO1⟩
  rw [awakeH_enc] at hb1
  rw [awakeH_enc]
  simp only [Option.getD_some, Option.isSome_some, if_true, awakeH_length] at hb1 ⊢
  have HB1 := Lib.hid (HB0.out.keep0 hO1)
  have HX1 := Lib.hid hb1
  have HO1 := Lib.hid (((Only.refl [] w).alloc (.cells #[.int .i64 3, .int .i64 2, .int .i64 9, .int .i64 77] 82)).trans' hO1)
  clear hb1 hO1 HB0
  go_wp2_with fail
  refine (head_dec_any A1 64 c1 awakeH _ (by exact HX1.out) (by decide)).mono ?_
  rintro e w2 ⟨rfl, hO2⟩
  rw [awakeH_dec]
  simp only [Option.getD_some, Option.isSome_some, if_true, It.vals]
  have HB2 := Lib.hid ((HB1.out.keep0 hO2).new #[.int .i64 3, .int .i64 2, .int .i64 9, .int .i64 77] 82)
  have HX2 := Lib.hid ((HX1.out.keep0 hO2).alloc (.cells #[.int .i64 3, .int .i64 2, .int .i64 9, .int .i64 77] 82))
  have HO2 := Lib.hid ((HO1.out.trans' hO2).alloc (.cells #[.int .i64 3, .int .i64 2, .int .i64 9, .int .i64 77] 82))
  clear hO2 HB1 HX1 HO1
  go_wp2_with fail
  have hsz : (w2.alloc (.cells #[.int .i64 3, .int .i64 2, .int .i64 9, .int .i64 77] 82)).heap.size = w2.heap.size + 1 := by simp
  generalize w2.alloc (.cells #[.int .i64 3, .int .i64 2, .int .i64 9, .int .i64 77] 82) = w3 at *
  rw [← hsz]
  clear hsz
  have hzb : Bys (w3.alloc (.cells (bvs (List.replicate 64 0)).toArray 5)) (some ⟨w3.heap.size, 0, none⟩) 64 64 zeros64 := Row1.of_Own (Own.new w3 (bvs (List.replicate 64 0)).toArray 5) (by simp [zeros64]) (Nat.le_refl _) (by unfold maxLen; omega)
  refine (head_dec_any _ 64 64 zeros64 _ (by exact hzb) (by decide)).mono ?_
  rintro e w4 ⟨rfl, hO4⟩
  rw [zeros_head]
  simp only [Option.getD_none, Option.isSome_none, It.vals]
  have hO34 := ((Only.refl [] w3).alloc (.cells (bvs (List.replicate 64 0)).toArray 5)).trans' hO4
  have hb := HB2.out.keep0 hO34
  have hx := HX2.out.keep0 hO34
  have HO4 := Lib.hid (HO2.out.trans' hO34)
  obtain ⟨ga, oa, rfl, _⟩ := hx.at_ (by decide)
  have z1 : w4.cell? ⟨ga, oa + 1, none⟩ = some (.int .u8 72) := bys_at hx awakeH_at
  have b1 := hb (w2.heap.size, [.int .i64 3, .int .i64 2, .int .i64 9, .int .i64 77]) (by simp)
  have b0 := hb (w.heap.size, [.int .i64 3, .int .i64 2, .int .i64 9, .int .i64 77]) (by simp)
  have x0 : w4.cell? ⟨w2.heap.size, 0, none⟩ = some (.int .i64 3) := b1.cell 0 (by simp)
  have x1 : w4.cell? ⟨w2.heap.size, 1, none⟩ = some (.int .i64 2) := b1.cell 1 (by simp)
  have x2 : w4.cell? ⟨w2.heap.size, 2, none⟩ = some (.int .i64 9) := b1.cell 2 (by simp)
  have x3 : w4.cell? ⟨w2.heap.size, 3, none⟩ = some (.int .i64 77) := b1.cell 3 (by simp)
  have y0 : w4.cell? ⟨w.heap.size, 0, none⟩ = some (.int .i64 3) := b0.cell 0 (by simp)
  have y1 : w4.cell? ⟨w.heap.size, 1, none⟩ = some (.int .i64 2) := b0.cell 1 (by simp)
  have y2 : w4.cell? ⟨w.heap.size, 2, none⟩ = some (.int .i64 9) := b0.cell 2 (by simp)
  have y3 : w4.cell? ⟨w.heap.size, 3, none⟩ = some (.int .i64 77) := b0.cell 3 (by simp)
  have l2 : w2.heap.size < w4.heap.size := lt_of_cell x0
  have l0 : w.heap.size < w4.heap.size := lt_of_cell y0
  have lg : ga < w4.heap.size := lt_of_cell z1
  have HX4 := Lib.hid hx
  clear hO4 hO34 hzb hmk hb hx b0 b1 HB2 HX2 HO2
  go_wp2_with fail
  have HX5 := Lib.hid (HX4.out.alloc (.cells #[.int .i64 0, .int .i64 0, .int .i64 0, .int .i64 0] 82))
  have HO5 := Lib.hid (HO4.out.alloc (.cells #[.int .i64 0, .int .i64 0, .int .i64 0, .int .i64 0] 82))
  refine (head_fits_any (some ⟨ga, oa, none⟩) 64 c1 awakeH 3 5 9 77 1 _ (by exact HX5.out) (by decide)).mono ?_
  rintro e w5 ⟨rfl, hO5⟩
  rw [awakeH_dec, show headFits (some ⟨3, 2, 9, 77⟩) 3 9 77 1 = true from by decide]
  have HX6 := Lib.hid (HX5.out.keep0 hO5)
  have HO6 := Lib.hid (HO5.out.trans' hO5)
  clear hO5 x0 x1 x2 x3 y0 y1 y2 y3 z1
  go_wp2_with fail
  refine (head_fits_any (some ⟨ga, oa, none⟩) 64 c1 awakeH 3 0 8 77 1 _ (by exact HX6.out) (by decide)).mono ?_
  rintro e w6 ⟨rfl, hO6⟩
  rw [awakeH_dec, show headFits (some ⟨3, 2, 9, 77⟩) 3 8 77 1 = false from by decide]
  have HO7 := Lib.hid (HO6.out.trans' hO6)
  clear hO6
  go_wp2
  go_ret
  exact ⟨rfl, HO7.out⟩
end Go.Proofs.Ytcojleippbneoaa
