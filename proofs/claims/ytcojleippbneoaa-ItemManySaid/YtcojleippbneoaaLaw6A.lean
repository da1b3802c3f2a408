/- The law package of chapter 6: awake. -/
import Derived.Test.YtcojleippbneoaaItemD
set_option linter.unusedVariables false
namespace Go.Kn
open Go Go.RowKit
theorem Its.of_Own {w : World} {g n : Nat} {l : List It} (h : Own w g (itsV l)) (hn : l.length = n) (hm : n ≤ maxLen) : Its w (some ⟨g, 0, none⟩) n n l := by
  refine ⟨hn, Nat.le_refl _, hm, fun _ => ⟨g, 0, rfl, fun i hi => ?_⟩⟩
  obtain ⟨c0, c1, c2, c3⟩ := itsV_get l i hi
  have hc : ∀ (a : Nat) (u : Value), (itsV l)[a]? = some u → w.cell? ⟨g, a, none⟩ = some u := by
    intro a u hu
    obtain ⟨h1, h2⟩ := List.getElem?_eq_some_iff.1 hu
    rw [← h2]
    exact h.cell a h1
  simp only [Nat.zero_add]
  exact ⟨hc _ _ c0, hc _ _ c1, hc _ _ c2, hc _ _ c3⟩
def awakeL : List It := [⟨1, 3, 0, 0⟩, ⟨2, 1, 2, 0⟩, ⟨7, 0, 0, 2⟩]
def awakeB : List UInt8 := [1, 3, 0, 0, 0, 0, 0, 2, 1, 2, 0, 0, 0, 0, 7, 0, 0, 2, 0, 0, 0]
theorem awake_enc : encItems awakeL = some awakeB := by decide
theorem awake_dec : decItems awakeB = some awakeL := by decide
end Go.Kn
namespace Go.Proofs.Ytcojleippbneoaa
open Go Go.RowKit Go.Kn

set_option maxRecDepth 100000 in
set_option maxHeartbeats 4000000 in
theorem awake6 (w : World) : Calls Try.prog 36 #[] w fun e w' => e = .returned (.bool true) ∧ Only [] w w' := by
  go_enter Try.func36, Try.ntmps36
  go_wp2_with fail
  have ho0 := Own.new w #[.int .i64 1, .int .i64 3, .int .i64 0, .int .i64 0, .int .i64 2, .int .i64 1, .int .i64 2, .int .i64 0, .int .i64 7, .int .i64 0, .int .i64 0, .int .i64 2] 53
  have hi0 : Its _ (some ⟨w.heap.size, 0, none⟩) 3 3 awakeL := Its.of_Own ho0 rfl (by simp [maxLen])
  have hO0 := (Only.refl [] w).alloc (.cells #[.int .i64 1, .int .i64 3, .int .i64 0, .int .i64 0, .int .i64 2, .int .i64 1, .int .i64 2, .int .i64 0, .int .i64 7, .int .i64 0, .int .i64 0, .int .i64 2] 53)
  generalize w.alloc (.cells #[.int .i64 1, .int .i64 3, .int .i64 0, .int .i64 0, .int .i64 2, .int .i64 1, .int .i64 2, .int .i64 0, .int .i64 7, .int .i64 0, .int .i64 0, .int .i64 2] 53) = w1 at *
  generalize w.heap.size = s0 at *
  have HI0 := Lib.hid hi0
  have HO0 := Lib.hid hO0
  clear ho0 hi0 hO0
  refine (item_enc_any _ 3 3 awakeL _ (by exact HI0.out)).mono ?_
  rintro e w2 ⟨A2, c2, rfl, hb2, hn2, hO2⟩
  rw [awake_enc] at hb2
  rw [awake_enc]
  obtain ⟨g2, o2, rfl, hc2⟩ := hb2.at_ (by decide)
  have z0 := hc2 0 (by decide)
  have z1 := hc2 1 (by decide)
  have z2 := hc2 16 (by decide)
  have z3 := hc2 17 (by decide)
  have HI2 := Lib.hid (HI0.out.keep0 hO2)
  have HO2 := Lib.hid (HO0.out.trans' hO2)
  have HB2 := Lib.hid hb2
  clear hc2 hn2 hO2 hb2 HI0 HO0
  go_wp2_with fail
  refine (item_dec_all _ 21 c2 awakeB _ (by exact HB2.out)).mono ?_
  rintro e w3 ⟨A3, c3, rfl, hx3, hn3, hO3⟩
  rw [awake_dec] at hx3
  rw [awake_dec]
  replace z0 := hO3.cell z0 (by simp)
  replace z1 := hO3.cell z1 (by simp)
  replace z2 := hO3.cell z2 (by simp)
  replace z3 := hO3.cell z3 (by simp)
  have HI3 := Lib.hid (HI2.out.keep0 hO3)
  have HO3 := Lib.hid (HO2.out.trans' hO3)
  have HX3 := Lib.hid hx3
  clear hn3 hO3 hx3 HI2 HO2 HB2
  obtain ⟨gq, oq, hq, hcq⟩ := HI3.out.at_ (by decide)
  injection hq with hq
  injection hq with hq1 hq2
  subst hq1 hq2
  obtain ⟨p0, p1, p2, p3⟩ := hcq 0 (by decide)
  obtain ⟨q0, q1, q2, q3⟩ := hcq 1 (by decide)
  clear hcq
  replace z0 : w3.cell? ⟨g2, o2, none⟩ = some (.int .u8 1) := z0
  replace z1 : w3.cell? ⟨g2, o2 + 1, none⟩ = some (.int .u8 3) := z1
  replace z2 : w3.cell? ⟨g2, o2 + 16, none⟩ = some (.int .u8 0) := z2
  replace z3 : w3.cell? ⟨g2, o2 + 17, none⟩ = some (.int .u8 2) := z3
  replace p0 : w3.cell? ⟨s0, 0, none⟩ = some (.int .i64 1) := p0
  replace p1 : w3.cell? ⟨s0, 1, none⟩ = some (.int .i64 3) := p1
  replace p2 : w3.cell? ⟨s0, 2, none⟩ = some (.int .i64 0) := p2
  replace p3 : w3.cell? ⟨s0, 3, none⟩ = some (.int .i64 0) := p3
  replace q0 : w3.cell? ⟨s0, 4, none⟩ = some (.int .i64 2) := q0
  replace q1 : w3.cell? ⟨s0, 5, none⟩ = some (.int .i64 1) := q1
  replace q2 : w3.cell? ⟨s0, 6, none⟩ = some (.int .i64 2) := q2
  replace q3 : w3.cell? ⟨s0, 7, none⟩ = some (.int .i64 0) := q3
  have hBl : awakeB.length = 21 := rfl
  have hLl : awakeL.length = 3 := rfl
  go_wp2_with fail
  refine (alike_items_any A3 3 c3 awakeL _ 3 3 awakeL _ (by exact HX3.out) (by exact HI3.out)).mono ?_
  rintro e w4 ⟨rfl, k4, rfl⟩
  have hdd : decide (awakeL = awakeL) = true := by simp
  rw [hdd]
  clear hdd
  go_wp2_with fail
  refine (item_loaded_any 1 3 0 0 _).mono ?_
  rintro e w5 ⟨rfl, hO5⟩
  rw [show It.loaded ⟨1, 3, 0, 0⟩ = true from by decide]
  have hO35 := ((Only.refl [] w3).drewN k4).trans' hO5
  replace q0 := hO35.cell q0 (by simp)
  replace q1 := hO35.cell q1 (by simp)
  replace q2 := hO35.cell q2 (by simp)
  replace q3 := hO35.cell q3 (by simp)
  have HO5 := Lib.hid (HO3.out.trans' hO35)
  clear hO35 hO5 z0 z1 z2 z3 p0 p1 p2 p3
  go_wp2_with fail
  refine (item_loaded_any 2 1 2 0 _).mono ?_
  rintro e w6 ⟨rfl, hO6⟩
  rw [show It.loaded ⟨2, 1, 2, 0⟩ = false from by decide]
  have HO6 := Lib.hid (HO5.out.trans' hO6)
  clear hO6
  go_wp2_with fail
  refine (item_may_any 2 60 5 0 _).mono ?_
  rintro e w7 ⟨rfl, hO7⟩
  rw [show It.may ⟨2, 60, 5, 0⟩ = false from by decide]
  have HO7 := Lib.hid (HO6.out.trans' hO7)
  clear hO7
  go_wp2
  go_ret
  exact ⟨rfl, HO7.out⟩
end Go.Proofs.Ytcojleippbneoaa
