/- What the row's frame hands to a walk: an item by value; writing an item into a slice. -/
import Derived.Test.YtcojleippbneoaaFrameQ
import Derived.Test.YtcojleippbneoaaItemQ
set_option linter.unusedVariables false
namespace Go.Kn
open Go Go.RowKit
theorem GathN.own {w : World} {base e n : Nat} {v : Value} {xs : List Value} (h : GathN w base e 4 v n xs) (hn : 0 < n) : ∃ g c, v = .slice (some ⟨g, 0, none⟩) n c ∧ base ≤ g ∧ ∀ i, w.frozen? ⟨g, i, none⟩ = false := by
  obtain ⟨⟨h1, h2⟩, hb⟩ := h
  rcases h2 with ⟨rfl, rfl⟩ | ⟨g, cap, cur, rfl, hb', hh, _, hm, hs, ht⟩
  · exact absurd hn (by omega)
  · refine ⟨g, cap, rfl, hb', fun i => ?_⟩
    have ho : Own w g (cur.toList.take 0) := ⟨cur, e, hh, by simp⟩
    exact ho.frozen i
theorem Its.put {w : World} {g o n c : Nat} {l : List It} (h : Its w (some ⟨g, o, none⟩) n c l) (k : Nat) (hk : k < n) (x : It) :
    Its ((((w.setCell ⟨g, o + k * 4, none⟩ (.int .i64 x.k)).setCell ⟨g, o + k * 4 + 1, none⟩ (.int .i64 x.b)).setCell ⟨g, o + k * 4 + 2, none⟩ (.int .i64 x.c)).setCell ⟨g, o + k * 4 + 3, none⟩ (.int .i64 x.v)) (some ⟨g, o, none⟩) n c (l.set k x) := by
  refine ⟨by rw [List.length_set]; exact h.len, h.le, h.cm, fun hn => ⟨g, o, rfl, fun i hi => ?_⟩⟩
  obtain ⟨g', o', e, hc⟩ := h.at_ hn
  injection e with e
  injection e with e1 e2
  subst e1 e2
  rw [List.length_set] at hi
  obtain ⟨p0, p1, p2, p3⟩ := hc i hi
  have ne : ∀ {a b : Nat}, a ≠ b → (⟨g, a, none⟩ : Addr) ≠ ⟨g, b, none⟩ := fun h1 h2 => h1 (by injection h2)
  by_cases hik : i = k
  · subst hik
    simp only [List.getElem_set_self]
    refine ⟨?_, ?_, ?_, ?_⟩
    · exact cell_set_ne (ne (by omega)) (cell_set_ne (ne (by omega)) (cell_set_ne (ne (by omega)) (World.cell?_setCell_same _ _ _ p0) _) _) _
    · exact cell_set_ne (ne (by omega)) (cell_set_ne (ne (by omega)) (World.cell?_setCell_same _ _ _ (cell_set_ne (ne (by omega)) p1 _)) _) _
    · exact cell_set_ne (ne (by omega)) (World.cell?_setCell_same _ _ _ (cell_set_ne (ne (by omega)) (cell_set_ne (ne (by omega)) p2 _) _)) _
    · exact World.cell?_setCell_same _ _ _ (cell_set_ne (ne (by omega)) (cell_set_ne (ne (by omega)) (cell_set_ne (ne (by omega)) p3 _) _) _)
  · rw [List.getElem_set_ne (Ne.symm hik)]
    refine ⟨?_, ?_, ?_, ?_⟩
    · exact cell_set_ne (ne (by omega)) (cell_set_ne (ne (by omega)) (cell_set_ne (ne (by omega)) (cell_set_ne (ne (by omega)) p0 _) _) _) _
    · exact cell_set_ne (ne (by omega)) (cell_set_ne (ne (by omega)) (cell_set_ne (ne (by omega)) (cell_set_ne (ne (by omega)) p1 _) _) _) _
    · exact cell_set_ne (ne (by omega)) (cell_set_ne (ne (by omega)) (cell_set_ne (ne (by omega)) (cell_set_ne (ne (by omega)) p2 _) _) _) _
    · exact cell_set_ne (ne (by omega)) (cell_set_ne (ne (by omega)) (cell_set_ne (ne (by omega)) (cell_set_ne (ne (by omega)) p3 _) _) _) _
end Go.Kn
namespace Go.Proofs.Ytcojleippbneoaa
open Go.ChangeShapes Go.WideShapes Go.ChangeAt Go.RowKit Go.Kn Go.Deep
variable {H : Type} {enc : TypeId × Value → H}
theorem open_item {w : World} {base : Nat} {spare : Nat → Bool} {held : Bool} {v : Value} {d : DataW H} {p : List MemPlace} (hok : ∃ cs, v = .agg cs ∧ cs.size = Try.prog.cellsOf 53)
    (h : DataW.Trod enc Try.prog w base spare held 53 v d p) : ∃ i : It, v = .agg i.vals ∧ Wf4 i := by
  obtain ⟨cs, rfl, hs⟩ := hok
  have hC : Try.prog.cellsOf 53 = 4 := by kernel_rfl
  rw [hC] at hs
  obtain ⟨c0, c1, c2, c3, rfl⟩ : ∃ c0 c1 c2 c3, cs = #[c0, c1, c2, c3] := by
    match cs, hs with
    | ⟨[c0, c1, c2, c3]⟩, _ => exact ⟨c0, c1, c2, c3, rfl⟩
  obtain ⟨fuel, hf⟩ := h
  have hf' : DataW.trod enc Try.prog w base spare held fuel 53 [c0, c1, c2, c3] = some (d, p) := hf
  obtain ⟨xs, n, _, _, _, hl, hfs⟩ := DataW.trod_struct Try.underlying53 hf'
  have h1 : Try.prog.cellsOf 3 = 1 := by kernel_rfl
  have hl4 : xs.length = 4 := hl
  obtain ⟨y0, y1, y2, y3, rfl⟩ : ∃ y0 y1 y2 y3, xs = [y0, y1, y2, y3] := by
    match xs, hl4 with
    | [y0, y1, y2, y3], _ => exact ⟨y0, y1, y2, y3, rfl⟩
  have e0 : DataW.trod enc Try.prog w base spare held n 3 (([c0, c1, c2, c3].drop 0).take (Try.prog.cellsOf 3)) = some y0 := hfs 0 _ rfl
  have e1 : DataW.trod enc Try.prog w base spare held n 3 (([c0, c1, c2, c3].drop 1).take (Try.prog.cellsOf 3)) = some y1 := hfs 1 _ rfl
  have e2 : DataW.trod enc Try.prog w base spare held n 3 (([c0, c1, c2, c3].drop 2).take (Try.prog.cellsOf 3)) = some y2 := hfs 2 _ rfl
  have e3 : DataW.trod enc Try.prog w base spare held n 3 (([c0, c1, c2, c3].drop 3).take (Try.prog.cellsOf 3)) = some y3 := hfs 3 _ rfl
  rw [h1] at e0 e1 e2 e3
  simp only [List.drop_zero, List.drop_succ_cons, List.take_succ_cons, List.take_zero] at e0 e1 e2 e3
  obtain ⟨z0, rfl, w0⟩ := open_int1 (k := .i64) Try.underlying3 e0
  obtain ⟨z1, rfl, w1⟩ := open_int1 (k := .i64) Try.underlying3 e1
  obtain ⟨z2, rfl, w2⟩ := open_int1 (k := .i64) Try.underlying3 e2
  obtain ⟨z3, rfl, w3⟩ := open_int1 (k := .i64) Try.underlying3 e3
  exact ⟨⟨z0, z1, z2, z3⟩, rfl, w0, w1, w2, w3⟩
end Go.Proofs.Ytcojleippbneoaa
