/- Contract of super.Encode. Printed by mkcodec.py. -/
import Derived.Test.YtjmbhknokobnpaaRefD
import Derived.Test.YtjmbhknokobnpaaCrcB
import Derived.Test.YtjmbhknokobnpaaItemB
import Derived.Test.YtjmbhknokobnpaaSuperM
set_option linter.unusedVariables false
set_option linter.unusedSimpArgs false
namespace Go.Proofs.Ytjmbhknokobnpaa
open Go Go.RowKit Go.Kn

set_option maxRecDepth 100000 in
set_option maxHeartbeats 4000000 in
theorem super_enc_own (f0 f1 f2 f3 f4 : Int) (w : World) :
    Calls Try.prog 23 #[.agg #[.int .i64 f0, .int .i64 f1, .int .i64 f2, .int .i64 f3, .int .i64 f4]] w (EncOwn w (encSuper ⟨f0, f1, f2, f3, f4⟩)) := by
  cases hm : superMay ⟨f0, f1, f2, f3, f4⟩
  · have HM := Lib.hid hm
    clear hm
    go_enter Try.func23, Try.ntmps23
    go_wp2_with fail
    refine (super_may_any f0 f1 f2 f3 f4 _).mono ?_
    rintro e w1 ⟨rfl, hO1⟩
    rw [HM.out]
    go_wp2
    go_ret2
    exact EncOwn.no (by unfold encSuper; rw [HM.out]; rfl) (((Only.refl _ _).alloc _).trans' hO1)
  · have HM := Lib.hid hm
    have HF0 : Hid (Fit 1 [75, 83, f0, f1, f2]) := Lib.hid (by have := superMay_iff.1 hm; simp only [fit_cons, fit_nil, Int.reducePow, and_true] at *; omega)
    have HF1 : Hid (Fit 4 [f3, f4]) := Lib.hid (by have := superMay_iff.1 hm; simp only [fit_cons, fit_nil, Int.reducePow, and_true] at *; omega)
    have HE : Hid (encSuper ⟨f0, f1, f2, f3, f4⟩ = some (sealed (superRow ⟨f0, f1, f2, f3, f4⟩))) := Lib.hid (by unfold encSuper; rw [if_pos hm])
    have HLR := Lib.hid (superRow_length ⟨f0, f1, f2, f3, f4⟩)
    clear hm
    go_enter Try.func23, Try.ntmps23
    go_wp2_with fail
    refine (super_may_any f0 f1 f2 f3 f4 _).mono ?_
    rintro e w1 ⟨rfl, hO1⟩
    rw [HM.out]
    have HB1 := Lib.hid ((Own.new w #[.int .i64 f0, .int .i64 f1, .int .i64 f2, .int .i64 f3, .int .i64 f4] 31).keep0 hO1)
    have HO1 := Lib.hid (((Only.refl [] w).alloc (.cells #[.int .i64 f0, .int .i64 f1, .int .i64 f2, .int .i64 f3, .int .i64 f4] 31)).trans' hO1)
    have HSZ : Hid (w.heap.size ≤ w.heap.size) := Lib.hid (Nat.le_refl _)
    clear hO1
    go_wp2_with fail
    generalize hbb : w.heap.size = b at HB1 HSZ ⊢
    have HBB := Lib.hid hbb
    clear hbb
    refine (new_any 64 _ (by decide) (by decide)).mono ?_
    rintro e w2 ⟨p, g, rfl, hp, hg, hr, hO⟩
    have HS : Hid (Encs w w2 p g 0 b zeros64 [.int .i64 f0, .int .i64 f1, .int .i64 f2, .int .i64 f3, .int .i64 f4]) := Lib.hid (Encs.start HB1.out HO1.out hp hg hr hO)
    have hgg : b < w1.heap.size := HB1.out.lt
    clear hr hO HB1
    have x0 := HS.out.box.cell 0 (by simp)
    have x1 := HS.out.box.cell 1 (by simp)
    have x2 := HS.out.box.cell 2 (by simp)
    have x3 := HS.out.box.cell 3 (by simp)
    have x4 := HS.out.box.cell 4 (by simp)
    simp only [List.getElem_cons_zero, List.getElem_cons_succ] at x0 x1 x2 x3 x4
    go_wp2_with fail
    have LX : zeros64.length = 64 := by first | rfl | (simp [lay_length, zeros64]) | (rw [lay_length _ _ _ (by simp [lay_length, zeros64])]; simp [lay_length, zeros64])
    refine (put_any p g 0 zeros64 1 _ 5 5 [75, 83, f0, f1, f2] _ (by exact HS.out.row.alloc _) (by exact ins_built _ [75, 83, f0, f1, f2] _ 5 rfl (by omega)) (by exact ne_built HS.out.row) (by decide) (by rw [LX]; decide) HF0.out).mono ?_
    rintro e w3 ⟨rfl, hr, hO⟩
    have HS0 : Hid (Encs w w3 p g 5 b (lay zeros64 0 (les 1 [75, 83, f0, f1, f2])) [.int .i64 f0, .int .i64 f1, .int .i64 f2, .int .i64 f3, .int .i64 f4]) := Lib.hid ((HS.out.alloc _).put hr hO)
    clear hr hO LX HS x0 x1 x2 x3 x4
    have HS := HS0
    clear HS0
    have x0 := HS.out.box.cell 0 (by simp)
    have x1 := HS.out.box.cell 1 (by simp)
    have x2 := HS.out.box.cell 2 (by simp)
    have x3 := HS.out.box.cell 3 (by simp)
    have x4 := HS.out.box.cell 4 (by simp)
    simp only [List.getElem_cons_zero, List.getElem_cons_succ] at x0 x1 x2 x3 x4
    go_wp2_with fail
    have LX : (lay zeros64 0 (les 1 [75, 83, f0, f1, f2])).length = 64 := by first | rfl | (simp [lay_length, zeros64]) | (rw [lay_length _ _ _ (by simp [lay_length, zeros64])]; simp [lay_length, zeros64])
    refine (put_any p g 5 (lay zeros64 0 (les 1 [75, 83, f0, f1, f2])) 4 _ 2 2 [f3, f4] _ (by exact HS.out.row.alloc _) (by exact ins_built _ [f3, f4] _ 2 rfl (by omega)) (by exact ne_built HS.out.row) (by decide) (by rw [LX]; decide) HF1.out).mono ?_
    rintro e w4 ⟨rfl, hr, hO⟩
    have HS1 : Hid (Encs w w4 p g 13 b (lay (lay zeros64 0 (les 1 [75, 83, f0, f1, f2])) 5 (les 4 [f3, f4])) [.int .i64 f0, .int .i64 f1, .int .i64 f2, .int .i64 f3, .int .i64 f4]) := Lib.hid ((HS.out.alloc _).put hr hO)
    clear hr hO LX HS x0 x1 x2 x3 x4
    have HS := HS1
    clear HS1
    go_wp2_with fail
    have HX : Hid ((lay (lay zeros64 0 (les 1 [75, 83, f0, f1, f2])) 5 (les 4 [f3, f4])) = superRow ⟨f0, f1, f2, f3, f4⟩) := Lib.hid rfl
    rw [HX.out] at HS
    generalize superRow ⟨f0, f1, f2, f3, f4⟩ = X at *
    clear HX
    refine (bytes_any p g 13 X _ (by exact HS.out.row)).mono ?_
    rintro e w8 ⟨A4, c4, rfl, hc4, hm4, hpos4, hO4⟩
    obtain ⟨g4, rfl, hg4, ho4⟩ := hpos4 (by rw [HLR.out]; decide)
    rw [HLR.out] at hc4 ⊢
    have HO4 := Lib.hid (HS.out.only.trans' hO4)
    have HW4 := Lib.hid ho4
    have hgw : w.heap.size ≤ g4 := Nat.le_trans HS.out.only.size hg4
    clear hpos4 hO4 ho4 HS
    go_wp2_with fail
    refine (crc_seal_any g4 c4 X 60 _ HLR.out hc4 hm4 (by exact HW4.out)).mono ?_
    rintro e w9 ⟨rfl, ho5, hO5⟩
    have HO5 := Lib.hid (HO4.out.trans hO5 (by simpa using hgw) : Only [] w w9)
    have HW5 := Lib.hid ho5
    clear ho5 hO5
    go_wp2
    go_ret2
    have hl := sealed_length X HLR.out
    exact EncOwn.yes HE.out hl hc4 hm4 hgw HW5.out HO5.out
theorem super_enc_any (f0 f1 f2 f3 f4 : Int) (w : World) :
    Calls Try.prog 23 #[.agg #[.int .i64 f0, .int .i64 f1, .int .i64 f2, .int .i64 f3, .int .i64 f4]] w (EncSays w (encSuper ⟨f0, f1, f2, f3, f4⟩)) :=
  (super_enc_own f0 f1 f2 f3 f4 w).mono fun _ _ h => h.says

end Go.Proofs.Ytjmbhknokobnpaa
