/- Contract of the reference's RegionMay. Printed by mkrefmay.py. -/
import Derived.Test.YtjmbhknokobnpaaRegB
import Derived.BigQuiet
set_option linter.unusedVariables false
set_option linter.unusedSimpArgs false
namespace Go.Kn
open Go Go.RowKit
theorem bool6 (b1 b2 b3 b4 b5 b6 : Bool) : (b1 = false ∨ (b1 = true ∧ b2 = false) ∨ (b1 = true ∧ b2 = true ∧ b3 = false) ∨ (b1 = true ∧ b2 = true ∧ b3 = true ∧ b4 = false) ∨ (b1 = true ∧ b2 = true ∧ b3 = true ∧ b4 = true ∧ b5 = false) ∨ (b1 = true ∧ b2 = true ∧ b3 = true ∧ b4 = true ∧ b5 = true ∧ b6 = false)) ∨ (b1 = true ∧ b2 = true ∧ b3 = true ∧ b4 = true ∧ b5 = true ∧ b6 = true) := by
  cases b1 <;> cases b2 <;> cases b3 <;> cases b4 <;> cases b5 <;> cases b6 <;> simp
end Go.Kn
namespace Go.Proofs.Ytjmbhknokobnpaa
open Go Go.RowKit Go.Kn

set_option maxRecDepth 100000 in
set_option maxHeartbeats 16000000 in
theorem ref_region_may_any (b s l : Int) (g v m e sq d ps po pl pp pm : Int) (bA : Option Addr) (bn bc : Nat) (base : List Int) (oA : Option Addr) (on oc : Nat) (over : List Int) (sA : Option Addr) (sn sc : Nat) (segs : List (Int × Int)) (w : World)
    (hc : CfOk b s l) (hr : RgAt w ⟨g, v, m, e, sq, d, ps, po, pl, pp, pm, base, over, segs⟩ (bA, bn, bc) (oA, on, oc) (sA, sn, sc)) :
    Calls Try.prog 61 #[.agg #[.int .i64 b, .int .i64 s, .int .i64 l], .agg #[.int .i64 g, .int .i64 v, .int .i64 m, .int .i64 e, .int .i64 sq, .int .i64 d, .int .i64 ps, .int .i64 po, .int .i64 pl, .int .i64 pp, .int .i64 pm, .slice bA bn bc, .slice oA on oc, .slice sA sn sc]] w fun en w' => en = .returned (.bool (rgMay b s l ⟨g, v, m, e, sq, d, ps, po, pl, pp, pm, base, over, segs⟩)) ∧ Only [] w w' := by
  have hsl := hr.segs.len
  have hscm := hr.segs.cm
  have hscl := hr.segs.le
  dsimp only at hsl hscm hscl
  unfold maxLen at hscm
  have HSL := Lib.hid hsl
  obtain ⟨n1, m1⟩ : ∃ x, decide (1 ≤ g ∧ g ≤ 2147483647) = x := ⟨_, rfl⟩
  obtain ⟨n2, m2⟩ : ∃ x, decide (1 ≤ v ∧ v ≤ 2147483647) = x := ⟨_, rfl⟩
  obtain ⟨n3, m3⟩ : ∃ x, decide (1 ≤ m ∧ m ≤ 2) = x := ⟨_, rfl⟩
  obtain ⟨n4, m4⟩ : ∃ x, decide (0 ≤ e ∧ e ≤ 2147483647) = x := ⟨_, rfl⟩
  obtain ⟨n5, m5⟩ : ∃ x, decide (0 ≤ sq ∧ sq ≤ 2147483647) = x := ⟨_, rfl⟩
  obtain ⟨n6, m6⟩ : ∃ x, decide (0 ≤ d ∧ d ≤ sq) = x := ⟨_, rfl⟩
  obtain ⟨q2, h2⟩ : ∃ x, posMay s l ps po pl pp pm = x := ⟨_, rfl⟩
  obtain ⟨q3, h3⟩ : ∃ x, slotsOk (pgs b) base = x := ⟨_, rfl⟩
  obtain ⟨q4, h4⟩ : ∃ x, slotsOk (pgs b) over = x := ⟨_, rfl⟩
  obtain ⟨q5, h5⟩ : ∃ x, decide ((sn : Int) = s) = x := ⟨_, rfl⟩
  have hE : rgMay b s l ⟨g, v, m, e, sq, d, ps, po, pl, pp, pm, base, over, segs⟩ = ((n1 && (n2 && (n3 && (n4 && (n5 && n6))))) && (q2 && (q3 && (q4 && (q5 && segsOk ps segs))))) := by
    unfold rgMay numOk
    dsimp only
    rw [m1, m2, m3, m4, m5, m6, h2, h3, h4, hsl, h5]
  have HE := Lib.hid hE
  have hne : ((sn : Int) != s) = !q5 := by
    rw [← h5]
    by_cases hh : (sn : Int) = s <;> simp [hh]
  have HM1 := Lib.hid m1
  have HM2 := Lib.hid m2
  have HM3 := Lib.hid m3
  have HM4 := Lib.hid m4
  have HM5 := Lib.hid m5
  have HM6 := Lib.hid m6
  have HK2 : Hid (∀ W : World, Calls Try.prog 126 #[.agg #[.int .i64 b, .int .i64 s, .int .i64 l], .agg #[.int .i64 ps, .int .i64 po, .int .i64 pl, .int .i64 pp, .int .i64 pm]] W fun en w' => en = .returned (.bool q2) ∧ Only [] W w') := Lib.hid fun W => by
    have h := ref_posmay_any b s l ps po pl pp pm W hc
    rw [h2] at h
    exact h
  have HK3 : Hid (∀ W : World, Ins W bA bn bc base → Calls Try.prog 127 #[.agg #[.int .i64 b, .int .i64 s, .int .i64 l], .slice bA bn bc] W fun en w' => en = .returned (.bool q3) ∧ Only [] W w') := Lib.hid fun W hW => (ref_slots_any b s l bA bn bc base W hW hc).mono fun en w' h => ⟨by rw [h.1, h3], h.2⟩
  have HK4 : Hid (∀ W : World, Ins W oA on oc over → Calls Try.prog 127 #[.agg #[.int .i64 b, .int .i64 s, .int .i64 l], .slice oA on oc] W fun en w' => en = .returned (.bool q4) ∧ Only [] W w') := Lib.hid fun W hW => (ref_slots_any b s l oA on oc over W hW hc).mono fun en w' h => ⟨by rw [h.1, h4], h.2⟩
  have HRB := Lib.hid hr.base
  have HRO := Lib.hid hr.over
  have HRS := Lib.hid hr.segs
  clear hE h2 h3 h4 h5 hr hsl hc m1 m2 m3 m4 m5 m6
  dsimp only at HRB HRO HRS
  have hW2 : Only [] w ((w.alloc (.cells #[.int .i64 b, .int .i64 s, .int .i64 l] 29)).alloc (.cells #[.int .i64 g, .int .i64 v, .int .i64 m, .int .i64 e, .int .i64 sq, .int .i64 d, .int .i64 ps, .int .i64 po, .int .i64 pl, .int .i64 pp, .int .i64 pm, .slice bA bn bc, .slice oA on oc, .slice sA sn sc] 90)) := ((Only.refl _ _).alloc _).alloc _
  have HW2 := Lib.hid hW2
  clear hW2
  rcases bool6 n1 n2 n3 n4 n5 n6 with hF | ⟨rfl, rfl, rfl, rfl, rfl, rfl⟩
  · rcases hF with rfl | ⟨rfl, rfl⟩ | ⟨rfl, rfl, rfl⟩ | ⟨rfl, rfl, rfl, rfl⟩ | ⟨rfl, rfl, rfl, rfl, rfl⟩ | ⟨rfl, rfl, rfl, rfl, rfl, rfl⟩
    all_goals
      go_enter Try.func61, Try.ntmps61
      go_wp2_with (first | (go_at_call 105; refine (within_any _ _ _ _).mono ?_; rintro en w' ⟨rfl, rfl⟩; first | rw [HM1.out] | rw [HM2.out] | rw [HM3.out] | rw [HM4.out] | rw [HM5.out] | rw [HM6.out]))
      go_ret
      exact ⟨by rw [HE.out]; rfl, HW2.out⟩
  · have hB := Own.new (w.alloc (.cells #[.int .i64 b, .int .i64 s, .int .i64 l] 29)) #[.int .i64 g, .int .i64 v, .int .i64 m, .int .i64 e, .int .i64 sq, .int .i64 d, .int .i64 ps, .int .i64 po, .int .i64 pl, .int .i64 pp, .int .i64 pm, .slice bA bn bc, .slice oA on oc, .slice sA sn sc] 90
    have hs1 : (w.alloc (.cells #[.int .i64 b, .int .i64 s, .int .i64 l] 29)).heap.size = w.heap.size + 1 := by simp
    rw [hs1] at hB
    have hC := (Own.new w #[.int .i64 b, .int .i64 s, .int .i64 l] 29).alloc (.cells #[.int .i64 g, .int .i64 v, .int .i64 m, .int .i64 e, .int .i64 sq, .int .i64 d, .int .i64 ps, .int .i64 po, .int .i64 pl, .int .i64 pp, .int .i64 pm, .slice bA bn bc, .slice oA on oc, .slice sA sn sc] 90)
    go_enter Try.func61, Try.ntmps61
    go_upto_region 3 with (first | (go_at_call 105; refine (within_any _ _ _ _).mono ?_; rintro en w' ⟨rfl, rfl⟩; first | rw [HM1.out] | rw [HM2.out] | rw [HM3.out] | rw [HM4.out] | rw [HM5.out] | rw [HM6.out]))
    generalize (w.alloc (.cells #[.int .i64 b, .int .i64 s, .int .i64 l] 29)).alloc (.cells #[.int .i64 g, .int .i64 v, .int .i64 m, .int .i64 e, .int .i64 sq, .int .i64 d, .int .i64 ps, .int .i64 po, .int .i64 pl, .int .i64 pp, .int .i64 pm, .slice bA bn bc, .slice oA on oc, .slice sA sn sc] 90) = w0 at *
    generalize hf : w.heap.size + 1 = f at *
    have HB0 := Lib.hid hB
    have HC0 := Lib.hid hC
    have HO0 := HW2
    clear hB hC hs1 hf
    have hq : q2 = false ∨ (q2 = true ∧ q3 = false) ∨ (q2 = true ∧ q3 = true ∧ q4 = false) ∨ (q2 = true ∧ q3 = true ∧ q4 = true ∧ q5 = false) ∨ (q2 = true ∧ q3 = true ∧ q4 = true ∧ q5 = true) := by
      cases q2 <;> cases q3 <;> cases q4 <;> cases q5 <;> simp
    rcases hq with rfl | ⟨rfl, rfl⟩ | ⟨rfl, rfl, rfl⟩ | ⟨rfl, rfl, rfl, rfl⟩ | ⟨rfl, rfl, rfl, rfl⟩
    · have c0 := HC0.out.cell 0 (by simp)
      have c1 := HC0.out.cell 1 (by simp)
      have c2 := HC0.out.cell 2 (by simp)
      have x6 := HB0.out.cell 6 (by simp)
      have x7 := HB0.out.cell 7 (by simp)
      have x8 := HB0.out.cell 8 (by simp)
      have x9 := HB0.out.cell 9 (by simp)
      have x10 := HB0.out.cell 10 (by simp)
      have x11 := HB0.out.cell 11 (by simp)
      have x12 := HB0.out.cell 12 (by simp)
      have x13 := HB0.out.cell 13 (by simp)
      simp only [List.getElem_cons_zero, List.getElem_cons_succ] at c0 c1 c2 x6 x7 x8 x9 x10 x11 x12 x13
      have hlc := HC0.out.lt
      have hlb := HB0.out.lt
      go_wp2_with fail
      refine (HK2.out _).mono ?_
      rintro en v1 ⟨rfl, hO⟩
      have HB1 := Lib.hid (HB0.out.keep0 hO)
      have HC1 := Lib.hid (HC0.out.keep0 hO)
      have HO1 := Lib.hid (HO0.out.trans' hO)
      clear hO
      clear c0 c1 c2 x6 x7 x8 x9 x10 x11 x12 x13 hlc hlb
      have c0 := HC1.out.cell 0 (by simp)
      have c1 := HC1.out.cell 1 (by simp)
      have c2 := HC1.out.cell 2 (by simp)
      have x6 := HB1.out.cell 6 (by simp)
      have x7 := HB1.out.cell 7 (by simp)
      have x8 := HB1.out.cell 8 (by simp)
      have x9 := HB1.out.cell 9 (by simp)
      have x10 := HB1.out.cell 10 (by simp)
      have x11 := HB1.out.cell 11 (by simp)
      have x12 := HB1.out.cell 12 (by simp)
      have x13 := HB1.out.cell 13 (by simp)
      simp only [List.getElem_cons_zero, List.getElem_cons_succ] at c0 c1 c2 x6 x7 x8 x9 x10 x11 x12 x13
      have hlc := HC1.out.lt
      have hlb := HB1.out.lt
      go_wp2
      go_ret
      exact ⟨by rw [HE.out]; rfl, HO1.out⟩
    · have c0 := HC0.out.cell 0 (by simp)
      have c1 := HC0.out.cell 1 (by simp)
      have c2 := HC0.out.cell 2 (by simp)
      have x6 := HB0.out.cell 6 (by simp)
      have x7 := HB0.out.cell 7 (by simp)
      have x8 := HB0.out.cell 8 (by simp)
      have x9 := HB0.out.cell 9 (by simp)
      have x10 := HB0.out.cell 10 (by simp)
      have x11 := HB0.out.cell 11 (by simp)
      have x12 := HB0.out.cell 12 (by simp)
      have x13 := HB0.out.cell 13 (by simp)
      simp only [List.getElem_cons_zero, List.getElem_cons_succ] at c0 c1 c2 x6 x7 x8 x9 x10 x11 x12 x13
      have hlc := HC0.out.lt
      have hlb := HB0.out.lt
      go_wp2_with fail
      refine (HK2.out _).mono ?_
      rintro en v1 ⟨rfl, hO⟩
      have HB1 := Lib.hid (HB0.out.keep0 hO)
      have HC1 := Lib.hid (HC0.out.keep0 hO)
      have HO1 := Lib.hid (HO0.out.trans' hO)
      clear hO
      clear c0 c1 c2 x6 x7 x8 x9 x10 x11 x12 x13 hlc hlb
      have c0 := HC1.out.cell 0 (by simp)
      have c1 := HC1.out.cell 1 (by simp)
      have c2 := HC1.out.cell 2 (by simp)
      have x6 := HB1.out.cell 6 (by simp)
      have x7 := HB1.out.cell 7 (by simp)
      have x8 := HB1.out.cell 8 (by simp)
      have x9 := HB1.out.cell 9 (by simp)
      have x10 := HB1.out.cell 10 (by simp)
      have x11 := HB1.out.cell 11 (by simp)
      have x12 := HB1.out.cell 12 (by simp)
      have x13 := HB1.out.cell 13 (by simp)
      simp only [List.getElem_cons_zero, List.getElem_cons_succ] at c0 c1 c2 x6 x7 x8 x9 x10 x11 x12 x13
      have hlc := HC1.out.lt
      have hlb := HB1.out.lt
      go_wp2_with fail
      refine (HK3.out _ (HRB.out.keep0 HO1.out)).mono ?_
      rintro en v2 ⟨rfl, hO⟩
      have HB2 := Lib.hid (HB1.out.keep0 hO)
      have HC2 := Lib.hid (HC1.out.keep0 hO)
      have HO2 := Lib.hid (HO1.out.trans' hO)
      clear hO
      clear c0 c1 c2 x6 x7 x8 x9 x10 x11 x12 x13 hlc hlb
      have c0 := HC2.out.cell 0 (by simp)
      have c1 := HC2.out.cell 1 (by simp)
      have c2 := HC2.out.cell 2 (by simp)
      have x6 := HB2.out.cell 6 (by simp)
      have x7 := HB2.out.cell 7 (by simp)
      have x8 := HB2.out.cell 8 (by simp)
      have x9 := HB2.out.cell 9 (by simp)
      have x10 := HB2.out.cell 10 (by simp)
      have x11 := HB2.out.cell 11 (by simp)
      have x12 := HB2.out.cell 12 (by simp)
      have x13 := HB2.out.cell 13 (by simp)
      simp only [List.getElem_cons_zero, List.getElem_cons_succ] at c0 c1 c2 x6 x7 x8 x9 x10 x11 x12 x13
      have hlc := HC2.out.lt
      have hlb := HB2.out.lt
      go_wp2
      go_ret
      exact ⟨by rw [HE.out]; rfl, HO2.out⟩
    · have c0 := HC0.out.cell 0 (by simp)
      have c1 := HC0.out.cell 1 (by simp)
      have c2 := HC0.out.cell 2 (by simp)
      have x6 := HB0.out.cell 6 (by simp)
      have x7 := HB0.out.cell 7 (by simp)
      have x8 := HB0.out.cell 8 (by simp)
      have x9 := HB0.out.cell 9 (by simp)
      have x10 := HB0.out.cell 10 (by simp)
      have x11 := HB0.out.cell 11 (by simp)
      have x12 := HB0.out.cell 12 (by simp)
      have x13 := HB0.out.cell 13 (by simp)
      simp only [List.getElem_cons_zero, List.getElem_cons_succ] at c0 c1 c2 x6 x7 x8 x9 x10 x11 x12 x13
      have hlc := HC0.out.lt
      have hlb := HB0.out.lt
      go_wp2_with fail
      refine (HK2.out _).mono ?_
      rintro en v1 ⟨rfl, hO⟩
      have HB1 := Lib.hid (HB0.out.keep0 hO)
      have HC1 := Lib.hid (HC0.out.keep0 hO)
      have HO1 := Lib.hid (HO0.out.trans' hO)
      clear hO
      clear c0 c1 c2 x6 x7 x8 x9 x10 x11 x12 x13 hlc hlb
      have c0 := HC1.out.cell 0 (by simp)
      have c1 := HC1.out.cell 1 (by simp)
      have c2 := HC1.out.cell 2 (by simp)
      have x6 := HB1.out.cell 6 (by simp)
      have x7 := HB1.out.cell 7 (by simp)
      have x8 := HB1.out.cell 8 (by simp)
      have x9 := HB1.out.cell 9 (by simp)
      have x10 := HB1.out.cell 10 (by simp)
      have x11 := HB1.out.cell 11 (by simp)
      have x12 := HB1.out.cell 12 (by simp)
      have x13 := HB1.out.cell 13 (by simp)
      simp only [List.getElem_cons_zero, List.getElem_cons_succ] at c0 c1 c2 x6 x7 x8 x9 x10 x11 x12 x13
      have hlc := HC1.out.lt
      have hlb := HB1.out.lt
      go_wp2_with fail
      refine (HK3.out _ (HRB.out.keep0 HO1.out)).mono ?_
      rintro en v2 ⟨rfl, hO⟩
      have HB2 := Lib.hid (HB1.out.keep0 hO)
      have HC2 := Lib.hid (HC1.out.keep0 hO)
      have HO2 := Lib.hid (HO1.out.trans' hO)
      clear hO
      clear c0 c1 c2 x6 x7 x8 x9 x10 x11 x12 x13 hlc hlb
      have c0 := HC2.out.cell 0 (by simp)
      have c1 := HC2.out.cell 1 (by simp)
      have c2 := HC2.out.cell 2 (by simp)
      have x6 := HB2.out.cell 6 (by simp)
      have x7 := HB2.out.cell 7 (by simp)
      have x8 := HB2.out.cell 8 (by simp)
      have x9 := HB2.out.cell 9 (by simp)
      have x10 := HB2.out.cell 10 (by simp)
      have x11 := HB2.out.cell 11 (by simp)
      have x12 := HB2.out.cell 12 (by simp)
      have x13 := HB2.out.cell 13 (by simp)
      simp only [List.getElem_cons_zero, List.getElem_cons_succ] at c0 c1 c2 x6 x7 x8 x9 x10 x11 x12 x13
      have hlc := HC2.out.lt
      have hlb := HB2.out.lt
      go_wp2_with fail
      refine (HK4.out _ (HRO.out.keep0 HO2.out)).mono ?_
      rintro en v3 ⟨rfl, hO⟩
      have HB3 := Lib.hid (HB2.out.keep0 hO)
      have HC3 := Lib.hid (HC2.out.keep0 hO)
      have HO3 := Lib.hid (HO2.out.trans' hO)
      clear hO
      clear c0 c1 c2 x6 x7 x8 x9 x10 x11 x12 x13 hlc hlb
      have c0 := HC3.out.cell 0 (by simp)
      have c1 := HC3.out.cell 1 (by simp)
      have c2 := HC3.out.cell 2 (by simp)
      have x6 := HB3.out.cell 6 (by simp)
      have x7 := HB3.out.cell 7 (by simp)
      have x8 := HB3.out.cell 8 (by simp)
      have x9 := HB3.out.cell 9 (by simp)
      have x10 := HB3.out.cell 10 (by simp)
      have x11 := HB3.out.cell 11 (by simp)
      have x12 := HB3.out.cell 12 (by simp)
      have x13 := HB3.out.cell 13 (by simp)
      simp only [List.getElem_cons_zero, List.getElem_cons_succ] at c0 c1 c2 x6 x7 x8 x9 x10 x11 x12 x13
      have hlc := HC3.out.lt
      have hlb := HB3.out.lt
      go_wp2
      go_ret
      exact ⟨by rw [HE.out]; rfl, HO3.out⟩
    · have c0 := HC0.out.cell 0 (by simp)
      have c1 := HC0.out.cell 1 (by simp)
      have c2 := HC0.out.cell 2 (by simp)
      have x6 := HB0.out.cell 6 (by simp)
      have x7 := HB0.out.cell 7 (by simp)
      have x8 := HB0.out.cell 8 (by simp)
      have x9 := HB0.out.cell 9 (by simp)
      have x10 := HB0.out.cell 10 (by simp)
      have x11 := HB0.out.cell 11 (by simp)
      have x12 := HB0.out.cell 12 (by simp)
      have x13 := HB0.out.cell 13 (by simp)
      simp only [List.getElem_cons_zero, List.getElem_cons_succ] at c0 c1 c2 x6 x7 x8 x9 x10 x11 x12 x13
      have hlc := HC0.out.lt
      have hlb := HB0.out.lt
      go_wp2_with fail
      refine (HK2.out _).mono ?_
      rintro en v1 ⟨rfl, hO⟩
      have HB1 := Lib.hid (HB0.out.keep0 hO)
      have HC1 := Lib.hid (HC0.out.keep0 hO)
      have HO1 := Lib.hid (HO0.out.trans' hO)
      clear hO
      clear c0 c1 c2 x6 x7 x8 x9 x10 x11 x12 x13 hlc hlb
      have c0 := HC1.out.cell 0 (by simp)
      have c1 := HC1.out.cell 1 (by simp)
      have c2 := HC1.out.cell 2 (by simp)
      have x6 := HB1.out.cell 6 (by simp)
      have x7 := HB1.out.cell 7 (by simp)
      have x8 := HB1.out.cell 8 (by simp)
      have x9 := HB1.out.cell 9 (by simp)
      have x10 := HB1.out.cell 10 (by simp)
      have x11 := HB1.out.cell 11 (by simp)
      have x12 := HB1.out.cell 12 (by simp)
      have x13 := HB1.out.cell 13 (by simp)
      simp only [List.getElem_cons_zero, List.getElem_cons_succ] at c0 c1 c2 x6 x7 x8 x9 x10 x11 x12 x13
      have hlc := HC1.out.lt
      have hlb := HB1.out.lt
      go_wp2_with fail
      refine (HK3.out _ (HRB.out.keep0 HO1.out)).mono ?_
      rintro en v2 ⟨rfl, hO⟩
      have HB2 := Lib.hid (HB1.out.keep0 hO)
      have HC2 := Lib.hid (HC1.out.keep0 hO)
      have HO2 := Lib.hid (HO1.out.trans' hO)
      clear hO
      clear c0 c1 c2 x6 x7 x8 x9 x10 x11 x12 x13 hlc hlb
      have c0 := HC2.out.cell 0 (by simp)
      have c1 := HC2.out.cell 1 (by simp)
      have c2 := HC2.out.cell 2 (by simp)
      have x6 := HB2.out.cell 6 (by simp)
      have x7 := HB2.out.cell 7 (by simp)
      have x8 := HB2.out.cell 8 (by simp)
      have x9 := HB2.out.cell 9 (by simp)
      have x10 := HB2.out.cell 10 (by simp)
      have x11 := HB2.out.cell 11 (by simp)
      have x12 := HB2.out.cell 12 (by simp)
      have x13 := HB2.out.cell 13 (by simp)
      simp only [List.getElem_cons_zero, List.getElem_cons_succ] at c0 c1 c2 x6 x7 x8 x9 x10 x11 x12 x13
      have hlc := HC2.out.lt
      have hlb := HB2.out.lt
      go_wp2_with fail
      refine (HK4.out _ (HRO.out.keep0 HO2.out)).mono ?_
      rintro en v3 ⟨rfl, hO⟩
      have HB3 := Lib.hid (HB2.out.keep0 hO)
      have HC3 := Lib.hid (HC2.out.keep0 hO)
      have HO3 := Lib.hid (HO2.out.trans' hO)
      clear hO
      clear c0 c1 c2 x6 x7 x8 x9 x10 x11 x12 x13 hlc hlb
      have c0 := HC3.out.cell 0 (by simp)
      have c1 := HC3.out.cell 1 (by simp)
      have c2 := HC3.out.cell 2 (by simp)
      have x6 := HB3.out.cell 6 (by simp)
      have x7 := HB3.out.cell 7 (by simp)
      have x8 := HB3.out.cell 8 (by simp)
      have x9 := HB3.out.cell 9 (by simp)
      have x10 := HB3.out.cell 10 (by simp)
      have x11 := HB3.out.cell 11 (by simp)
      have x12 := HB3.out.cell 12 (by simp)
      have x13 := HB3.out.cell 13 (by simp)
      simp only [List.getElem_cons_zero, List.getElem_cons_succ] at c0 c1 c2 x6 x7 x8 x9 x10 x11 x12 x13
      have hlc := HC3.out.lt
      have hlb := HB3.out.lt
      go_wp2
      go_ret
      exact ⟨by rw [HE.out]; rfl, HO3.out⟩
    · have c0 := HC0.out.cell 0 (by simp)
      have c1 := HC0.out.cell 1 (by simp)
      have c2 := HC0.out.cell 2 (by simp)
      have x6 := HB0.out.cell 6 (by simp)
      have x7 := HB0.out.cell 7 (by simp)
      have x8 := HB0.out.cell 8 (by simp)
      have x9 := HB0.out.cell 9 (by simp)
      have x10 := HB0.out.cell 10 (by simp)
      have x11 := HB0.out.cell 11 (by simp)
      have x12 := HB0.out.cell 12 (by simp)
      have x13 := HB0.out.cell 13 (by simp)
      simp only [List.getElem_cons_zero, List.getElem_cons_succ] at c0 c1 c2 x6 x7 x8 x9 x10 x11 x12 x13
      have hlc := HC0.out.lt
      have hlb := HB0.out.lt
      go_wp2_with fail
      refine (HK2.out _).mono ?_
      rintro en v1 ⟨rfl, hO⟩
      have HB1 := Lib.hid (HB0.out.keep0 hO)
      have HC1 := Lib.hid (HC0.out.keep0 hO)
      have HO1 := Lib.hid (HO0.out.trans' hO)
      clear hO
      clear c0 c1 c2 x6 x7 x8 x9 x10 x11 x12 x13 hlc hlb
      have c0 := HC1.out.cell 0 (by simp)
      have c1 := HC1.out.cell 1 (by simp)
      have c2 := HC1.out.cell 2 (by simp)
      have x6 := HB1.out.cell 6 (by simp)
      have x7 := HB1.out.cell 7 (by simp)
      have x8 := HB1.out.cell 8 (by simp)
      have x9 := HB1.out.cell 9 (by simp)
      have x10 := HB1.out.cell 10 (by simp)
      have x11 := HB1.out.cell 11 (by simp)
      have x12 := HB1.out.cell 12 (by simp)
      have x13 := HB1.out.cell 13 (by simp)
      simp only [List.getElem_cons_zero, List.getElem_cons_succ] at c0 c1 c2 x6 x7 x8 x9 x10 x11 x12 x13
      have hlc := HC1.out.lt
      have hlb := HB1.out.lt
      go_wp2_with fail
      refine (HK3.out _ (HRB.out.keep0 HO1.out)).mono ?_
      rintro en v2 ⟨rfl, hO⟩
      have HB2 := Lib.hid (HB1.out.keep0 hO)
      have HC2 := Lib.hid (HC1.out.keep0 hO)
      have HO2 := Lib.hid (HO1.out.trans' hO)
      clear hO
      clear c0 c1 c2 x6 x7 x8 x9 x10 x11 x12 x13 hlc hlb
      have c0 := HC2.out.cell 0 (by simp)
      have c1 := HC2.out.cell 1 (by simp)
      have c2 := HC2.out.cell 2 (by simp)
      have x6 := HB2.out.cell 6 (by simp)
      have x7 := HB2.out.cell 7 (by simp)
      have x8 := HB2.out.cell 8 (by simp)
      have x9 := HB2.out.cell 9 (by simp)
      have x10 := HB2.out.cell 10 (by simp)
      have x11 := HB2.out.cell 11 (by simp)
      have x12 := HB2.out.cell 12 (by simp)
      have x13 := HB2.out.cell 13 (by simp)
      simp only [List.getElem_cons_zero, List.getElem_cons_succ] at c0 c1 c2 x6 x7 x8 x9 x10 x11 x12 x13
      have hlc := HC2.out.lt
      have hlb := HB2.out.lt
      go_wp2_with fail
      refine (HK4.out _ (HRO.out.keep0 HO2.out)).mono ?_
      rintro en v3 ⟨rfl, hO⟩
      have HB3 := Lib.hid (HB2.out.keep0 hO)
      have HC3 := Lib.hid (HC2.out.keep0 hO)
      have HO3 := Lib.hid (HO2.out.trans' hO)
      clear hO
      clear c0 c1 c2 x6 x7 x8 x9 x10 x11 x12 x13 hlc hlb
      have hbw : w.heap.size ≤ v3.heap.size := HO3.out.size
      have c0 := HC3.out.cell 0 (by simp)
      have c1 := HC3.out.cell 1 (by simp)
      have c2 := HC3.out.cell 2 (by simp)
      have x6 := HB3.out.cell 6 (by simp)
      have x7 := HB3.out.cell 7 (by simp)
      have x8 := HB3.out.cell 8 (by simp)
      have x9 := HB3.out.cell 9 (by simp)
      have x10 := HB3.out.cell 10 (by simp)
      have x11 := HB3.out.cell 11 (by simp)
      have x12 := HB3.out.cell 12 (by simp)
      have x13 := HB3.out.cell 13 (by simp)
      simp only [List.getElem_cons_zero, List.getElem_cons_succ] at c0 c1 c2 x6 x7 x8 x9 x10 x11 x12 x13
      have hlc := HC3.out.lt
      have hlb := HB3.out.lt
      go_wp2_with fail
      go_loopg [5] sn (fun r i wr => ∃ j : Nat, j + r = sn ∧ i = .int .i64 j ∧ Only [] v3 wr ∧ ∀ q (hq : q < segs.length), q < j → segOk ps q segs[q] = true)
      case atStart => exact ⟨0, by omega, rfl, Only.refl _ _, fun q _ h => absurd h (by omega)⟩
      obtain ⟨j, hj, rfl, hO, hal⟩ := hrel
      have HO := Lib.hid hO
      have HAL := Lib.hid hal
      have x6' := hO.cell x6 (by simp)
      have x13' := hO.cell x13 (by simp)
      have hlb' : f < wr.heap.size := lt_of_cell x6'
      clear hO hal c0 c1 c2 x7 x8 x9 x10 x11 x12 x6 x13 hlc hlb
      by_cases hlt : j < sn
      · have hjz : j < segs.length := by rw [HSL.out]; exact hlt
        obtain ⟨a, o, rfl, hcc⟩ := HRS.out.at_ (by omega)
        obtain ⟨u0, u1⟩ := hcc j hjz
        have c0 := (HO3.out.trans' HO.out).cell u0 (by simp)
        have c1 := (HO3.out.trans' HO.out).cell u1 (by simp)
        have hso : segOk ps j segs[j] = (decide (0 ≤ segs[j].1 ∧ segs[j].1 ≤ 2) && (decide (0 ≤ segs[j].2 ∧ segs[j].2 ≤ 2147483647) && ((segs[j].1 == 1) == ((j : Int) == ps)))) := rfl
        clear hcc u0 u1
        obtain ⟨k1, e1⟩ : ∃ x, decide (0 ≤ segs[j].1 ∧ segs[j].1 ≤ 2) = x := ⟨_, rfl⟩
        obtain ⟨k2, e2⟩ : ∃ x, decide (0 ≤ segs[j].2 ∧ segs[j].2 ≤ 2147483647) = x := ⟨_, rfl⟩
        obtain ⟨k3, e3⟩ : ∃ x, (segs[j].1 == 1) = x := ⟨_, rfl⟩
        obtain ⟨k4, e4⟩ : ∃ x, ((j : Int) == ps) = x := ⟨_, rfl⟩
        rw [e1, e2, e3, e4] at hso
        have HSO := Lib.hid hso
        have HW1 : Hid (∀ W : World, Calls Try.prog 105 #[.int .i64 segs[j].1, .int .i64 0, .int .i64 2] W fun en w' => en = .returned (.bool k1) ∧ w' = W) := Lib.hid fun W => (within_any _ _ _ W).mono fun en w' h => ⟨by rw [h.1, e1], h.2.symm⟩
        have HWW2 : Hid (∀ W : World, Calls Try.prog 105 #[.int .i64 segs[j].2, .int .i64 0, .int .i64 2147483647] W fun en w' => en = .returned (.bool k2) ∧ w' = W) := Lib.hid fun W => (within_any _ _ _ W).mono fun en w' h => ⟨by rw [h.1, e2], h.2.symm⟩
        clear hso e1 e2
        generalize hst : segs[j].1 = st at *
        generalize hsp : segs[j].2 = sp at *
        clear hst hsp
        have hlt2 : (j : Int) < (sn : Int) := by omega
        have hge : 0 ≤ (j : Int) := by omega
        have htn : ((j : Int)).toNat = j := by omega
        have hcases : (k1 = false ∨ (k1 = true ∧ k2 = false) ∨ (k1 = true ∧ k2 = true ∧ k3 = true ∧ k4 = false) ∨ (k1 = true ∧ k2 = true ∧ k3 = false ∧ k4 = true)) ∨ ((k1 = true ∧ k2 = true ∧ k3 = true ∧ k4 = true) ∨ (k1 = true ∧ k2 = true ∧ k3 = false ∧ k4 = false)) := by
          cases k1 <;> cases k2 <;> cases k3 <;> cases k4 <;> simp
        rcases hcases with hF | hT
        · have hno : segOk ps j segs[j] = false := by
            rw [HSO.out]
            rcases hF with rfl | ⟨rfl, rfl⟩ | ⟨rfl, rfl, rfl, rfl⟩ | ⟨rfl, rfl, rfl, rfl⟩ <;> rfl
          have HNO := Lib.hid (segsOk_no hjz hno)
          clear hno
          rcases hF with rfl | ⟨rfl, rfl⟩ | ⟨rfl, rfl, rfl, rfl⟩ | ⟨rfl, rfl, rfl, rfl⟩
          all_goals
            go_wp2_with fail
            go_big_quiet ((go_at_call 105; first | with_reducible exact Calls.quiet_of_same (HW1.out _) | with_reducible exact Calls.quiet_of_same (HWW2.out _)))
            go_wp2
            go_ret
            exact ⟨by rw [HE.out, HNO.out]; rfl, (HO3.out.trans' HO.out).drewN _⟩
        · have hyes : segOk ps j segs[j] = true := by
            rw [HSO.out]
            rcases hT with ⟨rfl, rfl, rfl, rfl⟩ | ⟨rfl, rfl, rfl, rfl⟩ <;> rfl
          have HYES := Lib.hid hyes
          clear hyes
          rcases hT with ⟨rfl, rfl, rfl, rfl⟩ | ⟨rfl, rfl, rfl, rfl⟩
          all_goals
            go_wp2_with fail
            go_big_quiet ((go_at_call 105; first | with_reducible exact Calls.quiet_of_same (HW1.out _) | with_reducible exact Calls.quiet_of_same (HWW2.out _)))
            go_wp2
            go_roundg (gk - 1)
            case measure => omega
            case rel =>
              refine ⟨j + 1, by omega, by go_num, HO.out.drewN _, fun q hq h => ?_⟩
              rcases Nat.lt_succ_iff_lt_or_eq.1 h with h | h
              · exact HAL.out q hq h
              · subst h
                exact HYES.out
      · obtain rfl : j = sn := by omega
        have hyes := segsOk_yes (fun i hi => HAL.out i hi (by rw [HSL.out] at hi; exact hi))
        have HYES := Lib.hid hyes
        clear hyes
        go_wp2
        go_ret
        exact ⟨by rw [HE.out, HYES.out]; rfl, HO3.out.trans' HO.out⟩
end Go.Proofs.Ytjmbhknokobnpaa
