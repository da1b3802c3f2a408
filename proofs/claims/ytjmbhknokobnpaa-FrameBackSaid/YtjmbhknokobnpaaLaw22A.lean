/- The law package of chapter 22: awake. -/
import Derived.Test.YtjmbhknokobnpaaWireB
import Derived.Test.YtjmbhknokobnpaaWireT
import Derived.Test.YtjmbhknokobnpaaWireL
import Derived.Test.YtjmbhknokobnpaaWireQ
set_option linter.unusedVariables false
set_option linter.unusedSimpArgs false
namespace Go.Kn
open Go Go.RowKit
def awF : Fr := ⟨1, 1, 2, 3, 0, 0, 0, fillB 4⟩
def awH : Fr := ⟨9, 7, 0, 0, 0, 0, 0, []⟩
theorem awF_may : frMay ⟨1, 1, 2, 3, 0, 0, 0, fillB 4⟩ = true := by decide +kernel
theorem awH_may : frMay ⟨9, 7, 0, 0, 0, 0, 0, []⟩ = true := by decide +kernel
theorem awF_len : (frBytes ⟨1, 1, 2, 3, 0, 0, 0, fillB 4⟩).length = 89 := by rw [frBytes_length, fillB_length]
theorem awH_len : (frBytes ⟨9, 7, 0, 0, 0, 0, 0, []⟩).length = 25 := by rw [frBytes_length]; rfl
theorem awH_at : (frBytes ⟨9, 7, 0, 0, 0, 0, 0, []⟩)[1]? = some 70 := by decide +kernel
theorem awF_op : opOf ⟨1, 1, 2, 3, 0, 0, 0, fillB 4⟩ = some ⟨1, 3, 0, 0, fillB 4⟩ := by unfold opOf; rw [if_pos ⟨awF_may, by decide, by decide⟩]
theorem awH_op : opOf ⟨9, 7, 0, 0, 0, 0, 0, []⟩ = none := by unfold opOf; rw [if_neg (by simp)]
theorem bys_at22 {w : World} {g o n c i : Nat} {bs : List UInt8} {x : UInt8} (h : Bys w (some ⟨g, o, none⟩) n c bs) (hi : bs[i]? = some x) : w.cell? ⟨g, o + i, none⟩ = some (.int .u8 (x.toNat : Int)) := by
  obtain ⟨h1, h2⟩ := List.getElem?_eq_some_iff.1 hi
  have hl := h.len
  rw [bvs_length] at hl
  obtain ⟨g', o', e, hc⟩ := h.at_ (by omega)
  injection e with e
  injection e with e1 e2
  subst e1 e2
  have := hc i (by simpa using h1)
  rw [bvs_get, h2] at this
  exact this
end Go.Kn
namespace Go.Proofs.Ytjmbhknokobnpaa
open Go Go.RowKit Go.Kn

set_option maxRecDepth 100000 in
set_option maxHeartbeats 8000000 in
theorem awake22 (w : World) : Calls Try.prog 42 #[] w fun e w' => e = .returned (.bool true) ∧ Only [] w w' := by
  go_enter Try.func42, Try.ntmps42
  go_wp2_with fail
  refine (fill_any 4 _ (by decide)).mono ?_
  rintro e w1 ⟨g, rfl, hg, ho, hO1⟩
  have HF1 : Hid (Bys w1 (some ⟨g, 0, none⟩) 64 64 (fillB 4)) := Lib.hid (Row1.of_Own ho (by simp [fillB]) (Nat.le_refl _) (by unfold maxLen; omega))
  have HO1 := Lib.hid hO1
  clear ho hO1
  go_wp2_with fail
  have HB1 := Lib.hid ((Boxes.nil w1).new #[.int .i64 1, .int .i64 1, .int .i64 2, .int .i64 3, .int .i64 0, .int .i64 0, .int .i64 0, .slice (some ⟨g, 0, none⟩) 64 64] 64)
  have HF2 := Lib.hid (HF1.out.alloc (.cells #[.int .i64 1, .int .i64 1, .int .i64 2, .int .i64 3, .int .i64 0, .int .i64 0, .int .i64 0, .slice (some ⟨g, 0, none⟩) 64 64] 64))
  have HO2 := Lib.hid (HO1.out.alloc (.cells #[.int .i64 1, .int .i64 1, .int .i64 2, .int .i64 3, .int .i64 0, .int .i64 0, .int .i64 0, .slice (some ⟨g, 0, none⟩) 64 64] 64))
  clear HF1 HO1
  refine (frame_enc_any 1 1 2 3 0 0 0 (some ⟨g, 0, none⟩) 64 64 (fillB 4) _ (by exact HF2.out)).mono ?_
  rintro e w2 ⟨A2, c2, rfl, hb2, _, hO2⟩
  rw [(fr_back awF_may).1] at hb2
  rw [(fr_back awF_may).1]
  simp only [Option.getD_some, Option.isSome_some, if_true, awF_len] at hb2 ⊢
  have HB2 := Lib.hid (HB1.out.keep0 hO2)
  have HF3 := Lib.hid (HF2.out.keep0 hO2)
  have HX2 := Lib.hid hb2
  have HO3 := Lib.hid (HO2.out.trans' hO2)
  clear hb2 hO2 HB1 HF2 HO2
  go_wp2_with fail
  refine (frame_dec_any A2 89 c2 _ _ (by exact HX2.out) (by decide)).mono ?_
  rintro e w3 ⟨A3, n3, c3, rfl, hb3, hO3⟩
  rw [(fr_back awF_may).2] at hb3
  rw [(fr_back awF_may).2]
  simp only [Option.getD_some, Option.isSome_some, if_true] at hb3 ⊢
  have HB3 := Lib.hid ((HB2.out.keep0 hO3).new #[.int .i64 1, .int .i64 1, .int .i64 2, .int .i64 3, .int .i64 0, .int .i64 0, .int .i64 0, .slice A3 n3 c3] 64)
  have HF4 := Lib.hid ((HF3.out.keep0 hO3).alloc (.cells #[.int .i64 1, .int .i64 1, .int .i64 2, .int .i64 3, .int .i64 0, .int .i64 0, .int .i64 0, .slice A3 n3 c3] 64))
  have HY3 := Lib.hid (hb3.alloc (.cells #[.int .i64 1, .int .i64 1, .int .i64 2, .int .i64 3, .int .i64 0, .int .i64 0, .int .i64 0, .slice A3 n3 c3] 64))
  have HO4 := Lib.hid ((HO3.out.trans' hO3).alloc (.cells #[.int .i64 1, .int .i64 1, .int .i64 2, .int .i64 3, .int .i64 0, .int .i64 0, .int .i64 0, .slice A3 n3 c3] 64))
  have l13 : w1.heap.size < w3.heap.size := by have h1 := (HB2.out (w1.heap.size, [.int .i64 1, .int .i64 1, .int .i64 2, .int .i64 3, .int .i64 0, .int .i64 0, .int .i64 0, .slice (some ⟨g, 0, none⟩) 64 64]) (by simp)).lt; have := hO3.size; omega
  clear hb3 hO3 HB2 HF3 HX2 HO3
  go_wp2_with fail
  refine (frame_enc_any 9 7 0 0 0 0 0 none 0 0 [] _ (by exact Row1.nil _)).mono ?_
  rintro e w4 ⟨A4, c4, rfl, hb4, _, hO4⟩
  rw [(fr_back awH_may).1] at hb4
  rw [(fr_back awH_may).1]
  simp only [Option.getD_some, Option.isSome_some, if_true, awH_len] at hb4 ⊢
  have HB4 := Lib.hid (HB3.out.keep0 hO4)
  have HF5 := Lib.hid (HF4.out.keep0 hO4)
  have HY4 := Lib.hid (HY3.out.keep0 hO4)
  have HX4 := Lib.hid hb4
  have HO5 := Lib.hid (HO4.out.trans' hO4)
  have hb1 := HB4.out (w1.heap.size, [.int .i64 1, .int .i64 1, .int .i64 2, .int .i64 3, .int .i64 0, .int .i64 0, .int .i64 0, .slice (some ⟨g, 0, none⟩) 64 64]) (by simp)
  have x0 := hb1.cell 0 (by simp)
  have x1 := hb1.cell 1 (by simp)
  have x2 := hb1.cell 2 (by simp)
  have x3 := hb1.cell 3 (by simp)
  have x4 := hb1.cell 4 (by simp)
  have x5 := hb1.cell 5 (by simp)
  have x6 := hb1.cell 6 (by simp)
  have x7 := hb1.cell 7 (by simp)
  simp only [List.getElem_cons_zero, List.getElem_cons_succ] at x0 x1 x2 x3 x4 x5 x6 x7
  clear hb4 hO4 HB3 HF4 HY3 HO4 hb1
  go_wp2_with fail
  refine (frame_op_any 1 1 2 3 0 0 0 (some ⟨g, 0, none⟩) 64 64 (fillB 4) _ (by exact HF5.out)).mono ?_
  rintro e w5 ⟨A5, n5, c5, rfl, _, hO5⟩
  rw [awF_op]
  simp only [Option.getD_some, Option.isSome_some]
  have HB5 := Lib.hid ((HB4.out.keep0 hO5).new #[.int .i64 1, .int .i64 3, .int .i64 0, .int .i64 0, .slice A5 n5 c5] 78)
  have HF6 := Lib.hid ((HF5.out.keep0 hO5).alloc (.cells #[.int .i64 1, .int .i64 3, .int .i64 0, .int .i64 0, .slice A5 n5 c5] 78))
  have HY5 := Lib.hid ((HY4.out.keep0 hO5).alloc (.cells #[.int .i64 1, .int .i64 3, .int .i64 0, .int .i64 0, .slice A5 n5 c5] 78))
  have HX5 := Lib.hid ((HX4.out.keep0 hO5).alloc (.cells #[.int .i64 1, .int .i64 3, .int .i64 0, .int .i64 0, .slice A5 n5 c5] 78))
  have HO6 := Lib.hid ((HO5.out.trans' hO5).alloc (.cells #[.int .i64 1, .int .i64 3, .int .i64 0, .int .i64 0, .slice A5 n5 c5] 78))
  clear hO5 HB4 HF5 HY4 HX4 HO5 x0 x1 x2 x3 x4 x5 x6 x7
  go_wp2_with fail
  refine (frame_op_any 9 7 0 0 0 0 0 none 0 0 [] _ (by exact Row1.nil _)).mono ?_
  rintro e w6 ⟨A6, n6, c6, rfl, _, hO6⟩
  rw [awH_op]
  simp only [Option.getD_none, Option.isSome_none, opZero]
  have hbx := HB5.out.keep0 hO6
  have hx6 := HX5.out.keep0 hO6
  have HF7 := Lib.hid ((HF6.out.keep0 hO6).alloc (.cells #[.int .i64 0, .int .i64 0, .int .i64 0, .int .i64 0, .slice A6 n6 c6] 78))
  have HY6 := Lib.hid ((HY5.out.keep0 hO6).alloc (.cells #[.int .i64 0, .int .i64 0, .int .i64 0, .int .i64 0, .slice A6 n6 c6] 78))
  have HO7 := Lib.hid ((HO6.out.trans' hO6).alloc (.cells #[.int .i64 0, .int .i64 0, .int .i64 0, .int .i64 0, .slice A6 n6 c6] 78))
  obtain ⟨ga, oa, rfl, _⟩ := hx6.at_ (by decide)
  have q1 : w6.cell? ⟨ga, oa + 1, none⟩ = some (.int .u8 70) := bys_at22 hx6 awH_at
  have hb1 := hbx (w1.heap.size, [.int .i64 1, .int .i64 1, .int .i64 2, .int .i64 3, .int .i64 0, .int .i64 0, .int .i64 0, .slice (some ⟨g, 0, none⟩) 64 64]) (by simp)
  have hb4 := hbx (w3.heap.size, [.int .i64 1, .int .i64 1, .int .i64 2, .int .i64 3, .int .i64 0, .int .i64 0, .int .i64 0, .slice A3 n3 c3]) (by simp)
  have hb8 := hbx (w5.heap.size, [.int .i64 1, .int .i64 3, .int .i64 0, .int .i64 0, .slice A5 n5 c5]) (by simp)
  have x0 := hb1.cell 0 (by simp)
  have y0 := hb4.cell 0 (by simp)
  have x1 := hb1.cell 1 (by simp)
  have y1 := hb4.cell 1 (by simp)
  have x2 := hb1.cell 2 (by simp)
  have y2 := hb4.cell 2 (by simp)
  have x3 := hb1.cell 3 (by simp)
  have y3 := hb4.cell 3 (by simp)
  have x4 := hb1.cell 4 (by simp)
  have y4 := hb4.cell 4 (by simp)
  have x5 := hb1.cell 5 (by simp)
  have y5 := hb4.cell 5 (by simp)
  have x6 := hb1.cell 6 (by simp)
  have y6 := hb4.cell 6 (by simp)
  have x7 := hb1.cell 7 (by simp)
  have y7 := hb4.cell 7 (by simp)
  have v1 := hb8.cell 1 (by simp)
  simp only [List.getElem_cons_zero, List.getElem_cons_succ] at x0 x1 x2 x3 x4 x5 x6 x7 y0 y1 y2 y3 y4 y5 y6 y7 v1
  have lx : w1.heap.size < w6.heap.size := hb1.lt
  have ly : w3.heap.size < w6.heap.size := hb4.lt
  have lv : w5.heap.size < w6.heap.size := hb8.lt
  have lg : ga < w6.heap.size := lt_of_cell q1
  clear hO6 hbx hx6 hb1 hb4 hb8 HB5 HF6 HY5 HX5 HO6
  have V1 := Lib.hid v1
  have Q1 := Lib.hid q1
  go_wp2_with fail
  refine (alike_frame_any 1 1 2 3 0 0 0 A3 n3 c3 (fillB 4) 1 1 2 3 0 0 0 (some ⟨g, 0, none⟩) 64 64 (fillB 4) _ (by exact HY6.out) (by exact HF7.out)).mono ?_
  rintro e w7 ⟨rfl, hO8⟩
  have hdd : ((1 : Int) == 1 && (1 : Int) == 1 && (2 : Int) == 2 && (3 : Int) == 3 && (0 : Int) == 0 && (0 : Int) == 0 && (0 : Int) == 0 && decide (fillB 4 = fillB 4)) = true := by simp
  rw [hdd]
  have q2 := (((Only.refl [] w6).alloc (.cells #[.int .i64 0, .int .i64 0, .int .i64 0, .int .i64 0, .slice A6 n6 c6] 78)).trans' hO8).cell Q1.out (by simp)
  have v2 := (((Only.refl [] w6).alloc (.cells #[.int .i64 0, .int .i64 0, .int .i64 0, .int .i64 0, .slice A6 n6 c6] 78)).trans' hO8).cell V1.out (by simp)
  have HO8 := Lib.hid (HO7.out.trans' hO8)
  clear hdd hO8 x0 x1 x2 x3 x4 x5 x6 x7 y0 y1 y2 y3 y4 y5 y6 y7 q1 v1
  go_wp2
  go_ret
  exact ⟨rfl, HO8.out⟩
end Go.Proofs.Ytjmbhknokobnpaa
