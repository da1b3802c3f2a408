
/- Contract of geom.May; alike.Config; law9's kept; geom.New. -/
import Derived.Test.YtkpagiokjihmhaaGeoA
import Derived.Test.YtkpagiokjihmhaaLeaf
import Derived.BigQuiet
set_option linter.unusedVariables false
set_option linter.unusedSimpArgs false
namespace Go.Kn
open Go Go.RowKit
theorem bool5 (b1 b2 b3 b4 b5 : Bool) : b1 = false ∨ (b1 = true ∧ b2 = false) ∨ (b1 = true ∧ b2 = true ∧ b3 = false) ∨ (b1 = true ∧ b2 = true ∧ b3 = true ∧ b4 = false) ∨ (b1 = true ∧ b2 = true ∧ b3 = true ∧ b4 = true ∧ b5 = false) ∨ (b1 = true ∧ b2 = true ∧ b3 = true ∧ b4 = true ∧ b5 = true) := by
  cases b1 <;> cases b2 <;> cases b3 <;> cases b4 <;> cases b5 <;> simp
end Go.Kn
namespace Go.Proofs.Ytkpagiokjihmhaa
open Go Go.RowKit Go.Kn

set_option maxRecDepth 100000 in
set_option maxHeartbeats 16000000 in
theorem geom_may_any (p : Nat) (b s l ps po pl pp pm : Int) (w : World) (hg : GeoAt w p b s l) (hb : CfOk b s l) :
    Calls Try.prog 107 #[.pointer (some ⟨p, 0, none⟩), .agg #[.int .i64 ps, .int .i64 po, .int .i64 pl, .int .i64 pp, .int .i64 pm]] w fun e w' => e = .returned (.bool (posMay s l ps po pl pp pm)) ∧ Only [] w w' := by
  have hs : (8 ≤ s ∧ s ≤ 32) ∧ 24 ≤ l ∧ l ≤ 64 := ⟨hb.2.1, hb.2.2⟩
  have hw2 := IntWalk.i64_in (l - 1) (by omega)
  have HB := Lib.hid hb
  have hg2 := hg.c2
  have hlt := hg.lt
  have HG := Lib.hid hg
  obtain ⟨b1, h1⟩ : ∃ x, decide (0 ≤ ps ∧ ps ≤ s - 1) = x := ⟨_, rfl⟩
  obtain ⟨b2, h2⟩ : ∃ x, decide (0 ≤ po ∧ po ≤ l - 1) = x := ⟨_, rfl⟩
  obtain ⟨b3, h3⟩ : ∃ x, decide (1 ≤ pl ∧ pl ≤ 2147483647) = x := ⟨_, rfl⟩
  obtain ⟨b4, h4⟩ : ∃ x, decide (1 ≤ pm ∧ pm ≤ 2147483647) = x := ⟨_, rfl⟩
  obtain ⟨b5, h5⟩ : ∃ x, decide (0 ≤ pp ∧ pp ≤ 4294967295) = x := ⟨_, rfl⟩
  have hE : posMay s l ps po pl pp pm = (b1 && (b2 && (b3 && (b4 && b5)))) := by unfold posMay; rw [h1, h2, h3, h4, h5]
  have HE := Lib.hid hE
  have HK1 : Hid (∀ W : World, GeoAt W p b s l → Calls Try.prog 125 #[.pointer (some ⟨p, 0, none⟩), .int .i64 ps] W fun e w' => e = .returned (.bool b1) ∧ w' = W) := Lib.hid fun W hW => (geom_has_any p b s l ps W hW hb).mono fun e w' h => ⟨by rw [h.1, h1], h.2.symm⟩
  have HK2 : Hid (∀ W : World, Calls Try.prog 92 #[.int .i64 po, .int .i64 0, .int .i64 (l - 1)] W fun e w' => e = .returned (.bool b2) ∧ w' = W) := Lib.hid fun W => (geom_within_any _ _ _ W).mono fun e w' h => ⟨by rw [h.1, h2], h.2.symm⟩
  have HK3 : Hid (∀ W : World, Calls Try.prog 92 #[.int .i64 pl, .int .i64 1, .int .i64 2147483647] W fun e w' => e = .returned (.bool b3) ∧ w' = W) := Lib.hid fun W => (geom_within_any _ _ _ W).mono fun e w' h => ⟨by rw [h.1, h3], h.2.symm⟩
  have HK4 : Hid (∀ W : World, Calls Try.prog 92 #[.int .i64 pm, .int .i64 1, .int .i64 2147483647] W fun e w' => e = .returned (.bool b4) ∧ w' = W) := Lib.hid fun W => (geom_within_any _ _ _ W).mono fun e w' h => ⟨by rw [h.1, h4], h.2.symm⟩
  have HK5 : Hid (∀ W : World, Calls Try.prog 92 #[.int .i64 pp, .int .i64 0, .int .i64 4294967295] W fun e w' => e = .returned (.bool b5) ∧ w' = W) := Lib.hid fun W => (geom_within_any _ _ _ W).mono fun e w' h => ⟨by rw [h.1, h5], h.2.symm⟩
  clear hb hs hg hE h1 h2 h3 h4 h5
  rcases bool5 b1 b2 b3 b4 b5 with rfl | ⟨rfl, rfl⟩ | ⟨rfl, rfl, rfl⟩ | ⟨rfl, rfl, rfl, rfl⟩ | ⟨rfl, rfl, rfl, rfl, rfl⟩ | ⟨rfl, rfl, rfl, rfl, rfl⟩
  all_goals
    go_enter Try.func107, Try.ntmps107
    go_wp2_with fail
    have hO := (Only.refl [] w).alloc (.cells #[.int .i64 ps, .int .i64 po, .int .i64 pl, .int .i64 pp, .int .i64 pm] 49)
    have hX := Own.new w #[.int .i64 ps, .int .i64 po, .int .i64 pl, .int .i64 pp, .int .i64 pm] 49
    have c0 := hX.cell 0 (by simp)
    have c1 := hX.cell 1 (by simp)
    have c2 := hX.cell 2 (by simp)
    have c3 := hX.cell 3 (by simp)
    have c4 := hX.cell 4 (by simp)
    simp only [List.getElem_cons_zero, List.getElem_cons_succ] at c0 c1 c2 c3 c4
    have d2 := hO.cell hg2 (by simp)
    have HG' := Lib.hid (HG.out.keep0 hO)
    have hl2 := hX.lt
    have hlt2 : p < (w.alloc (.cells #[.int .i64 ps, .int .i64 po, .int .i64 pl, .int .i64 pp, .int .i64 pm] 49)).heap.size := by have := hO.size; omega
    generalize w.alloc (.cells #[.int .i64 ps, .int .i64 po, .int .i64 pl, .int .i64 pp, .int .i64 pm] 49) = wb at *
    have HO := Lib.hid hO
    clear hO hX
    go_big_quiet ((first
      | (go_at_call 125; exact Calls.quiet_of_same (HK1.out _ (HG'.out.keep0 ((Only.refl _ _).drewN _))))
      | (go_at_call 92; first | with_reducible exact Calls.quiet_of_same (HK2.out _) | with_reducible exact Calls.quiet_of_same (HK3.out _) | with_reducible exact Calls.quiet_of_same (HK4.out _) | with_reducible exact Calls.quiet_of_same (HK5.out _))))
    go_wp2
    go_ret
    exact ⟨by rw [HE.out]; rfl, HO.out.drewN _⟩
end Go.Proofs.Ytkpagiokjihmhaa
