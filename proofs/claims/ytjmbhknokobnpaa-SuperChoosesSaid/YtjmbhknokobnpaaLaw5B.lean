/- The law package of chapter 5: awake. -/
import Derived.Test.YtjmbhknokobnpaaLaw5A
set_option linter.unusedVariables false
namespace Go.Kn
open Go Go.RowKit
def awakeS : List UInt8 := sealed (superRow ⟨3, 8, 24, 7, 3⟩)
theorem awakeS_enc : encSuper ⟨3, 8, 24, 7, 3⟩ = some awakeS := by decide +kernel
theorem awakeS_length : awakeS.length = 64 := by decide +kernel
theorem awakeS_dec : decSuper awakeS = some ⟨3, 8, 24, 7, 3⟩ := decBy_back (encSuper_of awakeS_enc) awakeS_enc
theorem awakeS_at : awakeS[0]? = some 75 ∧ awakeS[1]? = some 83 := by decide +kernel
theorem zeros_super : decSuper zeros64 = none := by decide +kernel
theorem nil_super : decSuper [] = none := by decide +kernel
theorem bys_at5 {w : World} {g o n c i : Nat} {bs : List UInt8} {x : UInt8} (h : Bys w (some ⟨g, o, none⟩) n c bs) (hi : bs[i]? = some x) : w.cell? ⟨g, o + i, none⟩ = some (.int .u8 (x.toNat : Int)) := by
  obtain ⟨h1, h2⟩ := List.getElem?_eq_some_iff.1 hi
  have hl := h.len
  rw [bvs_length] at hl
  obtain ⟨g', o', e, hc⟩ := h.at_ (by omega)
  injection e with e
  injection e with e1 e2
  subst e1 e2
  have := hc i (by simpa using h1)
  rw [bvs_get, h2] at this
  exact this
end Go.Kn
namespace Go.Proofs.Ytjmbhknokobnpaa
open Go Go.RowKit Go.Kn

set_option maxRecDepth 100000 in
set_option maxHeartbeats 4000000 in
theorem awake5 (w : World) : Calls Try.prog 27 #[] w fun e w' => e = .returned (.bool true) ∧ Only [] w w' := by
  have hmk : ∀ w : World, (Instr.makeSlice 24 (.int .i64 64) (.int .i64 64)).run Try.prog w = .ok (.slice (some ⟨w.heap.size, 0, none⟩) 64 64) (w.alloc (.cells (bvs (List.replicate 64 0)).toArray 5)) := make_bys 64 (by decide)
  go_enter Try.func27, Try.ntmps27
  go_wp2_with fail
  have HB0 := Lib.hid ((Boxes.nil w).new #[.int .i64 3, .int .i64 8, .int .i64 24, .int .i64 7, .int .i64 3] 31)
  refine (super_enc_any 3 8 24 7 3 _).mono ?_
  rintro e w1 ⟨A1, c1, rfl, hb1, _, hO1⟩
  rw [awakeS_enc] at hb1
  rw [awakeS_enc]
  simp only [Option.getD_some, Option.isSome_some, if_true, awakeS_length] at hb1 ⊢
  have HB1 := Lib.hid (HB0.out.keep0 hO1)
  have HX1 := Lib.hid hb1
  have HO1 := Lib.hid (((Only.refl [] w).alloc (.cells #[.int .i64 3, .int .i64 8, .int .i64 24, .int .i64 7, .int .i64 3] 31)).trans' hO1)
  have l01 : w.heap.size < w1.heap.size := by have := hO1.size; simp at this; omega
  clear hb1 hO1 HB0
  go_wp2_with fail
  refine (super_dec_any A1 64 c1 awakeS _ (by exact HX1.out) (by decide)).mono ?_
  rintro e w2 ⟨rfl, hO2⟩
  rw [awakeS_dec]
  simp only [Option.getD_some, Option.isSome_some, if_true, Su.vals]
  have HB2 := Lib.hid ((HB1.out.keep0 hO2).new #[.int .i64 3, .int .i64 8, .int .i64 24, .int .i64 7, .int .i64 3] 31)
  have HX2 := Lib.hid ((HX1.out.keep0 hO2).alloc (.cells #[.int .i64 3, .int .i64 8, .int .i64 24, .int .i64 7, .int .i64 3] 31))
  have HO2 := Lib.hid ((HO1.out.trans' hO2).alloc (.cells #[.int .i64 3, .int .i64 8, .int .i64 24, .int .i64 7, .int .i64 3] 31))
  clear hO2 HB1 HX1 HO1
  go_wp2_with fail
  have hsz : (w2.alloc (.cells #[.int .i64 3, .int .i64 8, .int .i64 24, .int .i64 7, .int .i64 3] 31)).heap.size = w2.heap.size + 1 := by simp
  have l23 : w2.heap.size < (w2.alloc (.cells #[.int .i64 3, .int .i64 8, .int .i64 24, .int .i64 7, .int .i64 3] 31)).heap.size := by omega
  generalize w2.alloc (.cells #[.int .i64 3, .int .i64 8, .int .i64 24, .int .i64 7, .int .i64 3] 31) = w3 at *
  rw [← hsz]
  clear hsz
  have hzb : Bys (w3.alloc (.cells (bvs (List.replicate 64 0)).toArray 5)) (some ⟨w3.heap.size, 0, none⟩) 64 64 zeros64 := Row1.of_Own (Own.new w3 (bvs (List.replicate 64 0)).toArray 5) (by simp [zeros64]) (Nat.le_refl _) (by unfold maxLen; omega)
  have HZB := Lib.hid hzb
  clear hzb
  refine (super_choose_any _ 64 64 zeros64 A1 64 c1 awakeS _ (by exact HZB.out) (by exact HX2.out.alloc _) (by decide) (by decide)).mono ?_
  rintro e w4 ⟨rfl, hO4⟩
  rw [zeros_super, awakeS_dec]
  simp only [superPick, Su.vals]
  have hO34 := ((Only.refl [] w3).alloc (.cells (bvs (List.replicate 64 0)).toArray 5)).trans' hO4
  have HB4 := Lib.hid ((HB2.out.keep0 hO34).new #[.int .i64 3, .int .i64 8, .int .i64 24, .int .i64 7, .int .i64 3] 31)
  have HX4 := Lib.hid ((HX2.out.keep0 hO34).alloc (.cells #[.int .i64 3, .int .i64 8, .int .i64 24, .int .i64 7, .int .i64 3] 31))
  have HO4 := Lib.hid ((HO2.out.trans' hO34).alloc (.cells #[.int .i64 3, .int .i64 8, .int .i64 24, .int .i64 7, .int .i64 3] 31))
  have l34 : w3.heap.size < w4.heap.size := by have := hO4.size; simp at this; omega
  clear hO4 hO34 HB2 HX2 HO2 HZB hmk
  go_wp2_with fail
  have hsz : (w4.alloc (.cells #[.int .i64 3, .int .i64 8, .int .i64 24, .int .i64 7, .int .i64 3] 31)).heap.size = w4.heap.size + 1 := by simp
  have l45 : w4.heap.size < (w4.alloc (.cells #[.int .i64 3, .int .i64 8, .int .i64 24, .int .i64 7, .int .i64 3] 31)).heap.size := by omega
  clear hsz
  generalize w4.alloc (.cells #[.int .i64 3, .int .i64 8, .int .i64 24, .int .i64 7, .int .i64 3] 31) = w5 at *
  refine (super_choose_any none 0 0 [] none 0 0 [] _ (by exact Row1.nil _) (by exact Row1.nil _) (by decide) (by decide)).mono ?_
  rintro e w6 ⟨rfl, hO6⟩
  rw [nil_super]
  simp only [superPick, Su.vals]
  have hb := HB4.out.keep0 hO6
  have hx := HX4.out.keep0 hO6
  have HO6 := Lib.hid (HO4.out.trans' hO6)
  have l56 : w5.heap.size ≤ w6.heap.size := hO6.size
  obtain ⟨ga, oa, rfl, _⟩ := hx.at_ (by decide)
  have z0 : w6.cell? ⟨ga, oa + 0, none⟩ = some (.int .u8 75) := bys_at5 hx awakeS_at.1
  have z1 : w6.cell? ⟨ga, oa + 1, none⟩ = some (.int .u8 83) := bys_at5 hx awakeS_at.2
  simp only [Nat.add_zero] at z0
  obtain ⟨x0, x1, x2, x3, x4, lx⟩ := hb.at5 (b := w.heap.size) (a0 := .int .i64 3) (a1 := .int .i64 8) (a2 := .int .i64 24) (a3 := .int .i64 7) (a4 := .int .i64 3) (by simp)
  obtain ⟨y0, y1, y2, y3, y4, ly⟩ := hb.at5 (b := w2.heap.size) (a0 := .int .i64 3) (a1 := .int .i64 8) (a2 := .int .i64 24) (a3 := .int .i64 7) (a4 := .int .i64 3) (by simp)
  obtain ⟨v0, v1, v2, v3, v4, lv⟩ := hb.at5 (b := w4.heap.size) (a0 := .int .i64 3) (a1 := .int .i64 8) (a2 := .int .i64 24) (a3 := .int .i64 7) (a4 := .int .i64 3) (by simp)
  have lg : ga < w6.heap.size := lt_of_cell z1
  clear hO6 hb hx HB4 HX4 HO4
  go_wp2_with fail
  have HO7 := Lib.hid (HO6.out.alloc (.cells #[.int .i64 0, .int .i64 0, .int .i64 0, .int .i64 0, .int .i64 0] 31))
  refine (super_may_any 3 8 24 7 3 _).mono ?_
  rintro e w7 ⟨rfl, hO7⟩
  rw [show superMay ⟨3, 8, 24, 7, 3⟩ = true from by decide]
  have HO8 := Lib.hid (HO7.out.trans' hO7)
  clear x0 x1 x2 x3 x4 y0 y1 y2 y3 y4 v0 v1 v2 v3 v4 z0 z1
  go_wp2
  go_ret
  exact ⟨rfl, HO8.out⟩
end Go.Proofs.Ytjmbhknokobnpaa
