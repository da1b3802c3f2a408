/- FrameH, FrameU: joined by pack.py, without what the claim does not use. -/
import Derived.Test.YtgcfdjcpcclcjaaGreatScanPlaysH
set_option linter.unusedVariables false
set_option linter.unusedSimpArgs false
namespace Go.Proofs.YtgcfdjcpcclcjaaGreat
open Go.ChangeShapes Go.WideShapes Go.ChangeAt Go.RowKit Go.Kn Go.Deep
variable {H : Type} {enc : TypeId × Value → H}
theorem okWide_array {P : Program} {w : World} {r : Reach} {b0 : Nat} {t e : TypeId} {n : Nat} {v : Value} (ht : P.underlying t = some (.array n e)) (h : Value.okWide P w r b0 t v) : ∃ cs, v = .agg cs ∧ cs.size = P.cellsOf t := by
 simp only [Value.okWide, ht] at h
 obtain ⟨cs, h1, h2, _⟩ := h
 exact ⟨cs, h1, h2⟩
theorem open_pos {w : World} {base : Nat} {spare : Nat → Bool} {held : Bool} {v : Value} {d : DataW H} {p : List MemPlace} (hok : ∃ cs, v = .agg cs ∧ cs.size = Tryz.prog.cellsOf 32)
  (h : DataW.Trod enc Tryz.prog w base spare held 32 v d p) : ∃ z0 z1 z2 z3 z4 : Int, v = .agg #[.int .i64 z0, .int .i64 z1, .int .i64 z2, .int .i64 z3, .int .i64 z4] ∧ (Lit.int .i64 z0).wf = true ∧ (Lit.int .i64 z1).wf = true ∧ (Lit.int .i64 z2).wf = true ∧ (Lit.int .i64 z3).wf = true ∧ (Lit.int .i64 z4).wf = true := by
 obtain ⟨cs, rfl, hs⟩ := hok
 have hC : Tryz.prog.cellsOf 32 = 5 := by kernel_rfl
 rw [hC] at hs
 obtain ⟨c0, c1, c2, c3, c4, rfl⟩ : ∃ c0 c1 c2 c3 c4, cs = #[c0, c1, c2, c3, c4] := by
  match cs, hs with
  | ⟨[c0, c1, c2, c3, c4]⟩, _ => exact ⟨c0, c1, c2, c3, c4, rfl⟩
 obtain ⟨fuel, hf⟩ := h
 have hf' : DataW.trod enc Tryz.prog w base spare held fuel 32 [c0, c1, c2, c3, c4] = some (d, p) := hf
 obtain ⟨xs2, n2, _, _, _, hl2, hfs2⟩ := DataW.trod_struct Tryz.underlying32 hf'
 have hm2 : xs2.length = 5 := hl2
 obtain ⟨y2_0, y2_1, y2_2, y2_3, y2_4, rfl⟩ : ∃ y2_0 y2_1 y2_2 y2_3 y2_4, xs2 = [y2_0, y2_1, y2_2, y2_3, y2_4] := by
  match xs2, hm2 with
  | [y2_0, y2_1, y2_2, y2_3, y2_4], _ => exact ⟨y2_0, y2_1, y2_2, y2_3, y2_4, rfl⟩
 have e2_0 : DataW.trod enc Tryz.prog w base spare held n2 3 (([c0, c1, c2, c3, c4].drop 0).take (Tryz.prog.cellsOf 3)) = some y2_0 := hfs2 0 _ rfl
 rw [show Tryz.prog.cellsOf 3 = 1 from by kernel_rfl] at e2_0
 simp only [List.drop_zero, List.drop_succ_cons, List.take_succ_cons, List.take_zero] at e2_0
 have e2_1 : DataW.trod enc Tryz.prog w base spare held n2 3 (([c0, c1, c2, c3, c4].drop 1).take (Tryz.prog.cellsOf 3)) = some y2_1 := hfs2 1 _ rfl
 rw [show Tryz.prog.cellsOf 3 = 1 from by kernel_rfl] at e2_1
 simp only [List.drop_zero, List.drop_succ_cons, List.take_succ_cons, List.take_zero] at e2_1
 have e2_2 : DataW.trod enc Tryz.prog w base spare held n2 3 (([c0, c1, c2, c3, c4].drop 2).take (Tryz.prog.cellsOf 3)) = some y2_2 := hfs2 2 _ rfl
 rw [show Tryz.prog.cellsOf 3 = 1 from by kernel_rfl] at e2_2
 simp only [List.drop_zero, List.drop_succ_cons, List.take_succ_cons, List.take_zero] at e2_2
 have e2_3 : DataW.trod enc Tryz.prog w base spare held n2 3 (([c0, c1, c2, c3, c4].drop 3).take (Tryz.prog.cellsOf 3)) = some y2_3 := hfs2 3 _ rfl
 rw [show Tryz.prog.cellsOf 3 = 1 from by kernel_rfl] at e2_3
 simp only [List.drop_zero, List.drop_succ_cons, List.take_succ_cons, List.take_zero] at e2_3
 have e2_4 : DataW.trod enc Tryz.prog w base spare held n2 3 (([c0, c1, c2, c3, c4].drop 4).take (Tryz.prog.cellsOf 3)) = some y2_4 := hfs2 4 _ rfl
 rw [show Tryz.prog.cellsOf 3 = 1 from by kernel_rfl] at e2_4
 simp only [List.drop_zero, List.drop_succ_cons, List.take_succ_cons, List.take_zero] at e2_4
 obtain ⟨z_c0, rfl, w_c0⟩ := open_int1 (k := .i64) Tryz.underlying3 e2_0
 obtain ⟨z_c1, rfl, w_c1⟩ := open_int1 (k := .i64) Tryz.underlying3 e2_1
 obtain ⟨z_c2, rfl, w_c2⟩ := open_int1 (k := .i64) Tryz.underlying3 e2_2
 obtain ⟨z_c3, rfl, w_c3⟩ := open_int1 (k := .i64) Tryz.underlying3 e2_3
 obtain ⟨z_c4, rfl, w_c4⟩ := open_int1 (k := .i64) Tryz.underlying3 e2_4
 exact ⟨z_c0, z_c1, z_c2, z_c3, z_c4, rfl, w_c0, w_c1, w_c2, w_c3, w_c4⟩
end Go.Proofs.YtgcfdjcpcclcjaaGreat
namespace Go.Proofs.YtgcfdjcpcclcjaaGreat
open Go.ChangeShapes Go.WideShapes Go.ChangeAt Go.RowKit Go.Kn Go.Deep
variable {H : Type} {enc : TypeId × Value → H}
theorem open_arr3 {w : World} {base : Nat} {spare : Nat → Bool} {held : Bool} {v : Value} {d : DataW H} {p : List MemPlace} (hok : ∃ cs, v = .agg cs ∧ cs.size = Tryz.prog.cellsOf 71)
  (h : DataW.Trod enc Tryz.prog w base spare held 71 v d p) : ∃ z0 z1 z2 : Int, v = .agg #[.int .i64 z0, .int .i64 z1, .int .i64 z2] ∧ (Lit.int .i64 z0).wf = true ∧ (Lit.int .i64 z1).wf = true ∧ (Lit.int .i64 z2).wf = true := by
 obtain ⟨cs, rfl, hs⟩ := hok
 have hC : Tryz.prog.cellsOf 71 = 3 := by kernel_rfl
 rw [hC] at hs
 obtain ⟨c0, c1, c2, rfl⟩ : ∃ c0 c1 c2, cs = #[c0, c1, c2] := by
  match cs, hs with
  | ⟨[c0, c1, c2]⟩, _ => exact ⟨c0, c1, c2, rfl⟩
 obtain ⟨fuel, hf⟩ := h
 have hf' : DataW.trod enc Tryz.prog w base spare held fuel 71 [c0, c1, c2] = some (d, p) := hf
 obtain ⟨y0, y1, y2, n', _, t0, t1, t2⟩ := trod_array3 Tryz.underlying71 (by kernel_rfl) hf'
 obtain ⟨z_c0, rfl, w_c0⟩ := open_int1 (k := .i64) Tryz.underlying3 t0
 obtain ⟨z_c1, rfl, w_c1⟩ := open_int1 (k := .i64) Tryz.underlying3 t1
 obtain ⟨z_c2, rfl, w_c2⟩ := open_int1 (k := .i64) Tryz.underlying3 t2
 exact ⟨z_c0, z_c1, z_c2, rfl, w_c0, w_c1, w_c2⟩
end Go.Proofs.YtgcfdjcpcclcjaaGreat
