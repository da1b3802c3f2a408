/- Arguments by value: structs and arrays of ints. Printed by mkopen.py. -/
import Derived.Test.YtjmbhknokobnpaaFrame
import Derived.Laws.IdiomArrays
set_option linter.unusedVariables false
set_option linter.unusedSimpArgs false
namespace Go.Proofs.Ytjmbhknokobnpaa
open Go.ChangeShapes Go.WideShapes Go.ChangeAt Go.RowKit Go.Kn Go.Deep
variable {H : Type} {enc : TypeId × Value → H}

theorem okWide_array {P : Program} {w : World} {r : Reach} {b0 : Nat} {t e : TypeId} {n : Nat} {v : Value} (ht : P.underlying t = some (.array n e)) (h : Value.okWide P w r b0 t v) : ∃ cs, v = .agg cs ∧ cs.size = P.cellsOf t := by
  simp only [Value.okWide, ht] at h
  obtain ⟨cs, h1, h2, _⟩ := h
  exact ⟨cs, h1, h2⟩

theorem trod_array6 {P : Program} {w : World} {base : Nat} {spare : Nat → Bool} {held : Bool} {t e : TypeId} {fuel : Nat} {c0 c1 c2 c3 c4 c5 : Value} {x : DataW H × List MemPlace} (ht : P.underlying t = some (.array 6 e)) (hce : P.cellsOf e = 1)
    (h : DataW.trod enc P w base spare held fuel t [c0, c1, c2, c3, c4, c5] = some x) :
    ∃ y0 y1 y2 y3 y4 y5 n, True ∧ DataW.trod enc P w base spare held n e [c0] = some y0 ∧ DataW.trod enc P w base spare held n e [c1] = some y1 ∧ DataW.trod enc P w base spare held n e [c2] = some y2 ∧ DataW.trod enc P w base spare held n e [c3] = some y3 ∧ DataW.trod enc P w base spare held n e [c4] = some y4 ∧ DataW.trod enc P w base spare held n e [c5] = some y5 := by
  cases fuel with
  | zero => simp [DataW.trod] at h
  | succ n =>
    unfold DataW.trod at h
    rw [ht] at h
    have r6 : List.range 6 = [0, 1, 2, 3, 4, 5] := rfl
    simp [r6, hce] at h
    obtain ⟨_, h⟩ := h
    cases h0 : DataW.trod enc P w base spare held n e [c0] with
    | none => simp [h0] at h
    | some y0 =>
      cases h1 : DataW.trod enc P w base spare held n e [c1] with
      | none => simp [h0, h1] at h
      | some y1 =>
        cases h2 : DataW.trod enc P w base spare held n e [c2] with
        | none => simp [h0, h1, h2] at h
        | some y2 =>
          cases h3 : DataW.trod enc P w base spare held n e [c3] with
          | none => simp [h0, h1, h2, h3] at h
          | some y3 =>
            cases h4 : DataW.trod enc P w base spare held n e [c4] with
            | none => simp [h0, h1, h2, h3, h4] at h
            | some y4 =>
              cases h5 : DataW.trod enc P w base spare held n e [c5] with
              | none => simp [h0, h1, h2, h3, h4, h5] at h
              | some y5 =>
                exact ⟨y0, y1, y2, y3, y4, y5, n, trivial, h0, h1, h2, h3, h4, h5⟩
theorem open_frame {w : World} {base : Nat} {held : Bool} {v : Value} {d : DataW H} {p : List MemPlace} (hok : ∃ cs, v = .agg cs ∧ cs.size = Try.prog.cellsOf 64)
    (h : DataW.Trod enc Try.prog w base (fun _ => true) held 64 v d p) : ∃ z0 z1 z2 z3 z4 z5 z6 : Int, ∃ (a7 : Option Addr) (len7 cap7 : Nat) (r7 : List Int), v = .agg #[.int .i64 z0, .int .i64 z1, .int .i64 z2, .int .i64 z3, .int .i64 z4, .int .i64 z5, .int .i64 z6, .slice a7 len7 cap7] ∧ (Lit.int .i64 z0).wf = true ∧ (Lit.int .i64 z1).wf = true ∧ (Lit.int .i64 z2).wf = true ∧ (Lit.int .i64 z3).wf = true ∧ (Lit.int .i64 z4).wf = true ∧ (Lit.int .i64 z5).wf = true ∧ (Lit.int .i64 z6).wf = true ∧ IsRow .u8 w a7 len7 cap7 r7 := by
  obtain ⟨cs, rfl, hs⟩ := hok
  have hC : Try.prog.cellsOf 64 = 8 := by kernel_rfl
  rw [hC] at hs
  obtain ⟨c0, c1, c2, c3, c4, c5, c6, c7, rfl⟩ : ∃ c0 c1 c2 c3 c4 c5 c6 c7, cs = #[c0, c1, c2, c3, c4, c5, c6, c7] := by
    match cs, hs with
    | ⟨[c0, c1, c2, c3, c4, c5, c6, c7]⟩, _ => exact ⟨c0, c1, c2, c3, c4, c5, c6, c7, rfl⟩
  obtain ⟨fuel, hf⟩ := h
  have hf' : DataW.trod enc Try.prog w base (fun _ => true) held fuel 64 [c0, c1, c2, c3, c4, c5, c6, c7] = some (d, p) := hf
  obtain ⟨xs1, n1, _, _, _, hl1, hfs1⟩ := DataW.trod_struct Try.underlying64 hf'
  have hm1 : xs1.length = 8 := hl1
  obtain ⟨y1_0, y1_1, y1_2, y1_3, y1_4, y1_5, y1_6, y1_7, rfl⟩ : ∃ y1_0 y1_1 y1_2 y1_3 y1_4 y1_5 y1_6 y1_7, xs1 = [y1_0, y1_1, y1_2, y1_3, y1_4, y1_5, y1_6, y1_7] := by
    match xs1, hm1 with
    | [y1_0, y1_1, y1_2, y1_3, y1_4, y1_5, y1_6, y1_7], _ => exact ⟨y1_0, y1_1, y1_2, y1_3, y1_4, y1_5, y1_6, y1_7, rfl⟩
  have e1_0 : DataW.trod enc Try.prog w base (fun _ => true) held n1 3 (([c0, c1, c2, c3, c4, c5, c6, c7].drop 0).take (Try.prog.cellsOf 3)) = some y1_0 := hfs1 0 _ rfl
  rw [show Try.prog.cellsOf 3 = 1 from by kernel_rfl] at e1_0
  simp only [List.drop_zero, List.drop_succ_cons, List.take_succ_cons, List.take_zero] at e1_0
  have e1_1 : DataW.trod enc Try.prog w base (fun _ => true) held n1 3 (([c0, c1, c2, c3, c4, c5, c6, c7].drop 1).take (Try.prog.cellsOf 3)) = some y1_1 := hfs1 1 _ rfl
  rw [show Try.prog.cellsOf 3 = 1 from by kernel_rfl] at e1_1
  simp only [List.drop_zero, List.drop_succ_cons, List.take_succ_cons, List.take_zero] at e1_1
  have e1_2 : DataW.trod enc Try.prog w base (fun _ => true) held n1 3 (([c0, c1, c2, c3, c4, c5, c6, c7].drop 2).take (Try.prog.cellsOf 3)) = some y1_2 := hfs1 2 _ rfl
  rw [show Try.prog.cellsOf 3 = 1 from by kernel_rfl] at e1_2
  simp only [List.drop_zero, List.drop_succ_cons, List.take_succ_cons, List.take_zero] at e1_2
  have e1_3 : DataW.trod enc Try.prog w base (fun _ => true) held n1 3 (([c0, c1, c2, c3, c4, c5, c6, c7].drop 3).take (Try.prog.cellsOf 3)) = some y1_3 := hfs1 3 _ rfl
  rw [show Try.prog.cellsOf 3 = 1 from by kernel_rfl] at e1_3
  simp only [List.drop_zero, List.drop_succ_cons, List.take_succ_cons, List.take_zero] at e1_3
  have e1_4 : DataW.trod enc Try.prog w base (fun _ => true) held n1 3 (([c0, c1, c2, c3, c4, c5, c6, c7].drop 4).take (Try.prog.cellsOf 3)) = some y1_4 := hfs1 4 _ rfl
  rw [show Try.prog.cellsOf 3 = 1 from by kernel_rfl] at e1_4
  simp only [List.drop_zero, List.drop_succ_cons, List.take_succ_cons, List.take_zero] at e1_4
  have e1_5 : DataW.trod enc Try.prog w base (fun _ => true) held n1 3 (([c0, c1, c2, c3, c4, c5, c6, c7].drop 5).take (Try.prog.cellsOf 3)) = some y1_5 := hfs1 5 _ rfl
  rw [show Try.prog.cellsOf 3 = 1 from by kernel_rfl] at e1_5
  simp only [List.drop_zero, List.drop_succ_cons, List.take_succ_cons, List.take_zero] at e1_5
  have e1_6 : DataW.trod enc Try.prog w base (fun _ => true) held n1 3 (([c0, c1, c2, c3, c4, c5, c6, c7].drop 6).take (Try.prog.cellsOf 3)) = some y1_6 := hfs1 6 _ rfl
  rw [show Try.prog.cellsOf 3 = 1 from by kernel_rfl] at e1_6
  simp only [List.drop_zero, List.drop_succ_cons, List.take_succ_cons, List.take_zero] at e1_6
  have e1_7 : DataW.trod enc Try.prog w base (fun _ => true) held n1 24 (([c0, c1, c2, c3, c4, c5, c6, c7].drop 7).take (Try.prog.cellsOf 24)) = some y1_7 := hfs1 7 _ rfl
  rw [show Try.prog.cellsOf 24 = 1 from by kernel_rfl] at e1_7
  simp only [List.drop_zero, List.drop_succ_cons, List.take_succ_cons, List.take_zero] at e1_7
  obtain ⟨z_c0, rfl, w_c0⟩ := open_int1 (k := .i64) Try.underlying3 e1_0
  obtain ⟨z_c1, rfl, w_c1⟩ := open_int1 (k := .i64) Try.underlying3 e1_1
  obtain ⟨z_c2, rfl, w_c2⟩ := open_int1 (k := .i64) Try.underlying3 e1_2
  obtain ⟨z_c3, rfl, w_c3⟩ := open_int1 (k := .i64) Try.underlying3 e1_3
  obtain ⟨z_c4, rfl, w_c4⟩ := open_int1 (k := .i64) Try.underlying3 e1_4
  obtain ⟨z_c5, rfl, w_c5⟩ := open_int1 (k := .i64) Try.underlying3 e1_5
  obtain ⟨z_c6, rfl, w_c6⟩ := open_int1 (k := .i64) Try.underlying3 e1_6
  obtain ⟨a_c7, l_c7, k_c7, z_c7, rfl, w_c7⟩ := open_row Try.underlying24 Try.underlying5 (by kernel_rfl) e1_7
  exact ⟨z_c0, z_c1, z_c2, z_c3, z_c4, z_c5, z_c6, a_c7, l_c7, k_c7, z_c7, rfl, w_c0, w_c1, w_c2, w_c3, w_c4, w_c5, w_c6, w_c7⟩
theorem open_op {w : World} {base : Nat} {held : Bool} {v : Value} {d : DataW H} {p : List MemPlace} (hok : ∃ cs, v = .agg cs ∧ cs.size = Try.prog.cellsOf 78)
    (h : DataW.Trod enc Try.prog w base (fun _ => true) held 78 v d p) : ∃ z0 z1 z2 z3 : Int, ∃ (a4 : Option Addr) (len4 cap4 : Nat) (r4 : List Int), v = .agg #[.int .i64 z0, .int .i64 z1, .int .i64 z2, .int .i64 z3, .slice a4 len4 cap4] ∧ (Lit.int .i64 z0).wf = true ∧ (Lit.int .i64 z1).wf = true ∧ (Lit.int .i64 z2).wf = true ∧ (Lit.int .i64 z3).wf = true ∧ IsRow .u8 w a4 len4 cap4 r4 := by
  obtain ⟨cs, rfl, hs⟩ := hok
  have hC : Try.prog.cellsOf 78 = 5 := by kernel_rfl
  rw [hC] at hs
  obtain ⟨c0, c1, c2, c3, c4, rfl⟩ : ∃ c0 c1 c2 c3 c4, cs = #[c0, c1, c2, c3, c4] := by
    match cs, hs with
    | ⟨[c0, c1, c2, c3, c4]⟩, _ => exact ⟨c0, c1, c2, c3, c4, rfl⟩
  obtain ⟨fuel, hf⟩ := h
  have hf' : DataW.trod enc Try.prog w base (fun _ => true) held fuel 78 [c0, c1, c2, c3, c4] = some (d, p) := hf
  obtain ⟨xs2, n2, _, _, _, hl2, hfs2⟩ := DataW.trod_struct Try.underlying78 hf'
  have hm2 : xs2.length = 5 := hl2
  obtain ⟨y2_0, y2_1, y2_2, y2_3, y2_4, rfl⟩ : ∃ y2_0 y2_1 y2_2 y2_3 y2_4, xs2 = [y2_0, y2_1, y2_2, y2_3, y2_4] := by
    match xs2, hm2 with
    | [y2_0, y2_1, y2_2, y2_3, y2_4], _ => exact ⟨y2_0, y2_1, y2_2, y2_3, y2_4, rfl⟩
  have e2_0 : DataW.trod enc Try.prog w base (fun _ => true) held n2 3 (([c0, c1, c2, c3, c4].drop 0).take (Try.prog.cellsOf 3)) = some y2_0 := hfs2 0 _ rfl
  rw [show Try.prog.cellsOf 3 = 1 from by kernel_rfl] at e2_0
  simp only [List.drop_zero, List.drop_succ_cons, List.take_succ_cons, List.take_zero] at e2_0
  have e2_1 : DataW.trod enc Try.prog w base (fun _ => true) held n2 3 (([c0, c1, c2, c3, c4].drop 1).take (Try.prog.cellsOf 3)) = some y2_1 := hfs2 1 _ rfl
  rw [show Try.prog.cellsOf 3 = 1 from by kernel_rfl] at e2_1
  simp only [List.drop_zero, List.drop_succ_cons, List.take_succ_cons, List.take_zero] at e2_1
  have e2_2 : DataW.trod enc Try.prog w base (fun _ => true) held n2 3 (([c0, c1, c2, c3, c4].drop 2).take (Try.prog.cellsOf 3)) = some y2_2 := hfs2 2 _ rfl
  rw [show Try.prog.cellsOf 3 = 1 from by kernel_rfl] at e2_2
  simp only [List.drop_zero, List.drop_succ_cons, List.take_succ_cons, List.take_zero] at e2_2
  have e2_3 : DataW.trod enc Try.prog w base (fun _ => true) held n2 3 (([c0, c1, c2, c3, c4].drop 3).take (Try.prog.cellsOf 3)) = some y2_3 := hfs2 3 _ rfl
  rw [show Try.prog.cellsOf 3 = 1 from by kernel_rfl] at e2_3
  simp only [List.drop_zero, List.drop_succ_cons, List.take_succ_cons, List.take_zero] at e2_3
  have e2_4 : DataW.trod enc Try.prog w base (fun _ => true) held n2 24 (([c0, c1, c2, c3, c4].drop 4).take (Try.prog.cellsOf 24)) = some y2_4 := hfs2 4 _ rfl
  rw [show Try.prog.cellsOf 24 = 1 from by kernel_rfl] at e2_4
  simp only [List.drop_zero, List.drop_succ_cons, List.take_succ_cons, List.take_zero] at e2_4
  obtain ⟨z_c0, rfl, w_c0⟩ := open_int1 (k := .i64) Try.underlying3 e2_0
  obtain ⟨z_c1, rfl, w_c1⟩ := open_int1 (k := .i64) Try.underlying3 e2_1
  obtain ⟨z_c2, rfl, w_c2⟩ := open_int1 (k := .i64) Try.underlying3 e2_2
  obtain ⟨z_c3, rfl, w_c3⟩ := open_int1 (k := .i64) Try.underlying3 e2_3
  obtain ⟨a_c4, l_c4, k_c4, z_c4, rfl, w_c4⟩ := open_row Try.underlying24 Try.underlying5 (by kernel_rfl) e2_4
  exact ⟨z_c0, z_c1, z_c2, z_c3, a_c4, l_c4, k_c4, z_c4, rfl, w_c0, w_c1, w_c2, w_c3, w_c4⟩
theorem open_arr6 {w : World} {base : Nat} {spare : Nat → Bool} {held : Bool} {v : Value} {d : DataW H} {p : List MemPlace} (hok : ∃ cs, v = .agg cs ∧ cs.size = Try.prog.cellsOf 74)
    (h : DataW.Trod enc Try.prog w base spare held 74 v d p) : ∃ z0 z1 z2 z3 z4 z5 : Int, v = .agg #[.int .i64 z0, .int .i64 z1, .int .i64 z2, .int .i64 z3, .int .i64 z4, .int .i64 z5] ∧ (Lit.int .i64 z0).wf = true ∧ (Lit.int .i64 z1).wf = true ∧ (Lit.int .i64 z2).wf = true ∧ (Lit.int .i64 z3).wf = true ∧ (Lit.int .i64 z4).wf = true ∧ (Lit.int .i64 z5).wf = true := by
  obtain ⟨cs, rfl, hs⟩ := hok
  have hC : Try.prog.cellsOf 74 = 6 := by kernel_rfl
  rw [hC] at hs
  obtain ⟨c0, c1, c2, c3, c4, c5, rfl⟩ : ∃ c0 c1 c2 c3 c4 c5, cs = #[c0, c1, c2, c3, c4, c5] := by
    match cs, hs with
    | ⟨[c0, c1, c2, c3, c4, c5]⟩, _ => exact ⟨c0, c1, c2, c3, c4, c5, rfl⟩
  obtain ⟨fuel, hf⟩ := h
  have hf' : DataW.trod enc Try.prog w base spare held fuel 74 [c0, c1, c2, c3, c4, c5] = some (d, p) := hf
  obtain ⟨y0, y1, y2, y3, y4, y5, n', _, t0, t1, t2, t3, t4, t5⟩ := trod_array6 Try.underlying74 (by kernel_rfl) hf'
  obtain ⟨z_c0, rfl, w_c0⟩ := open_int1 (k := .i64) Try.underlying3 t0
  obtain ⟨z_c1, rfl, w_c1⟩ := open_int1 (k := .i64) Try.underlying3 t1
  obtain ⟨z_c2, rfl, w_c2⟩ := open_int1 (k := .i64) Try.underlying3 t2
  obtain ⟨z_c3, rfl, w_c3⟩ := open_int1 (k := .i64) Try.underlying3 t3
  obtain ⟨z_c4, rfl, w_c4⟩ := open_int1 (k := .i64) Try.underlying3 t4
  obtain ⟨z_c5, rfl, w_c5⟩ := open_int1 (k := .i64) Try.underlying3 t5
  exact ⟨z_c0, z_c1, z_c2, z_c3, z_c4, z_c5, rfl, w_c0, w_c1, w_c2, w_c3, w_c4, w_c5⟩
end Go.Proofs.Ytjmbhknokobnpaa
