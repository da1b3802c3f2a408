/- Contracts of the reference's SuperBytes and SuperOf. Printed by mkcodec.py. -/
import Derived.Test.YtcojleippbneoaaCrcD
import Derived.Test.YtcojleippbneoaaSuperE
import Derived.Test.YtcojleippbneoaaSuperN
set_option linter.unusedVariables false
set_option linter.unusedSimpArgs false
namespace Go.Proofs.Ytcojleippbneoaa
open Go Go.RowKit Go.Kn

set_option maxRecDepth 100000 in
set_option maxHeartbeats 4000000 in
theorem ref_super_enc_any (f0 f1 f2 f3 f4 : Int) (w : World) :
    Calls Try.prog 66 #[.agg #[.int .i64 f0, .int .i64 f1, .int .i64 f2, .int .i64 f3, .int .i64 f4]] w (EncSays w (encSuper ⟨f0, f1, f2, f3, f4⟩)) := by
  cases hm : superMay ⟨f0, f1, f2, f3, f4⟩
  · have HM := Lib.hid hm
    clear hm
    go_enter Try.func66, Try.ntmps66
    go_wp2_with fail
    refine (ref_super_may_any f0 f1 f2 f3 f4 _).mono ?_
    rintro e w1 ⟨rfl, hO1⟩
    rw [HM.out]
    go_wp2
    go_ret2
    exact EncSays.no (by unfold encSuper; rw [HM.out]; rfl) (((Only.refl _ _).alloc _).trans' hO1)
  · have HM := Lib.hid hm
    have HF0 : Hid (Fit 1 [f0, f1, f2]) := Lib.hid (by have := superMay_iff.1 hm; simp only [fit_cons, fit_nil, Int.reducePow, and_true] at *; omega)
    have HF1 : Hid (Fit 4 [f3, f4]) := Lib.hid (by have := superMay_iff.1 hm; simp only [fit_cons, fit_nil, Int.reducePow, and_true] at *; omega)
    have HE : Hid (encSuper ⟨f0, f1, f2, f3, f4⟩ = some (sealed (superRow ⟨f0, f1, f2, f3, f4⟩))) := Lib.hid (by unfold encSuper; rw [if_pos hm])
    have HLR := Lib.hid (superRow_length ⟨f0, f1, f2, f3, f4⟩)
    clear hm
    go_enter Try.func66, Try.ntmps66
    go_wp2_with fail
    refine (ref_super_may_any f0 f1 f2 f3 f4 _).mono ?_
    rintro e w1 ⟨rfl, hO1⟩
    rw [HM.out]
    have HB1 := Lib.hid ((Own.new w #[.int .i64 f0, .int .i64 f1, .int .i64 f2, .int .i64 f3, .int .i64 f4] 100).keep0 hO1)
    have HO1 := Lib.hid (((Only.refl [] w).alloc (.cells #[.int .i64 f0, .int .i64 f1, .int .i64 f2, .int .i64 f3, .int .i64 f4] 100)).trans' hO1)
    have HSZ : Hid (w.heap.size ≤ w.heap.size) := Lib.hid (Nat.le_refl _)
    clear hO1
    go_wp2_with fail
    generalize hbb : w.heap.size = b at HB1 HSZ ⊢
    have HBB := Lib.hid hbb
    clear hbb
    refine (ref_begun_any 64 75 83 75 83 _ rfl rfl (by decide) (by decide)).mono ?_
    rintro e w2 ⟨p, g, rfl, hp, hg, hr, hO⟩
    have HS : Hid (Encs w w2 p g 2 b (lay zeros64 0 [75, 83]) [.int .i64 f0, .int .i64 f1, .int .i64 f2, .int .i64 f3, .int .i64 f4]) := Lib.hid (Encs.start HB1.out HO1.out hp hg hr hO)
    have hgg : b < w1.heap.size := HB1.out.lt
    clear hr hO HB1
    have x0 := HS.out.box.cell 0 (by simp)
    have x1 := HS.out.box.cell 1 (by simp)
    have x2 := HS.out.box.cell 2 (by simp)
    have x3 := HS.out.box.cell 3 (by simp)
    have x4 := HS.out.box.cell 4 (by simp)
    simp only [List.getElem_cons_zero, List.getElem_cons_succ] at x0 x1 x2 x3 x4
    go_wp2_with fail
    have LX : (lay zeros64 0 [75, 83]).length = 64 := by first | rfl | (simp [lay_length, zeros64]) | (rw [lay_length _ _ _ (by simp [lay_length, zeros64])]; simp [lay_length, zeros64])
    refine (ref_put_any p g 2 (lay zeros64 0 [75, 83]) 1 _ 3 3 [f0, f1, f2] _ (by exact HS.out.row.alloc _) (by exact ins_built _ [f0, f1, f2] _ 3 rfl (by omega)) (by exact ne_built HS.out.row) (by decide) (by rw [LX]; decide) HF0.out).mono ?_
    rintro e w3 ⟨rfl, hr, hO⟩
    have HS0 : Hid (Encs w w3 p g 5 b (lay (lay zeros64 0 [75, 83]) 2 (les 1 [f0, f1, f2])) [.int .i64 f0, .int .i64 f1, .int .i64 f2, .int .i64 f3, .int .i64 f4]) := Lib.hid ((HS.out.alloc _).put hr hO)
    clear hr hO LX HS x0 x1 x2 x3 x4
    have HS := HS0
    clear HS0
    have x0 := HS.out.box.cell 0 (by simp)
    have x1 := HS.out.box.cell 1 (by simp)
    have x2 := HS.out.box.cell 2 (by simp)
    have x3 := HS.out.box.cell 3 (by simp)
    have x4 := HS.out.box.cell 4 (by simp)
    simp only [List.getElem_cons_zero, List.getElem_cons_succ] at x0 x1 x2 x3 x4
    go_wp2_with fail
    have LX : (lay (lay zeros64 0 [75, 83]) 2 (les 1 [f0, f1, f2])).length = 64 := by first | rfl | (simp [lay_length, zeros64]) | (rw [lay_length _ _ _ (by simp [lay_length, zeros64])]; simp [lay_length, zeros64])
    refine (ref_put_any p g 5 (lay (lay zeros64 0 [75, 83]) 2 (les 1 [f0, f1, f2])) 4 _ 2 2 [f3, f4] _ (by exact HS.out.row.alloc _) (by exact ins_built _ [f3, f4] _ 2 rfl (by omega)) (by exact ne_built HS.out.row) (by decide) (by rw [LX]; decide) HF1.out).mono ?_
    rintro e w4 ⟨rfl, hr, hO⟩
    have HS1 : Hid (Encs w w4 p g 13 b (lay (lay (lay zeros64 0 [75, 83]) 2 (les 1 [f0, f1, f2])) 5 (les 4 [f3, f4])) [.int .i64 f0, .int .i64 f1, .int .i64 f2, .int .i64 f3, .int .i64 f4]) := Lib.hid ((HS.out.alloc _).put hr hO)
    clear hr hO LX HS x0 x1 x2 x3 x4
    have HS := HS1
    clear HS1
    go_wp2_with fail
    have HX : Hid ((lay (lay (lay zeros64 0 [75, 83]) 2 (les 1 [f0, f1, f2])) 5 (les 4 [f3, f4])) = superRow ⟨f0, f1, f2, f3, f4⟩) := Lib.hid (superRow_ref ⟨f0, f1, f2, f3, f4⟩)
    rw [HX.out] at HS
    generalize superRow ⟨f0, f1, f2, f3, f4⟩ = X at *
    clear HX
    refine (ref_closed_any p g 13 X _ (by exact HS.out.row) HLR.out).mono ?_
    rintro e w8 ⟨c4, rfl, hc4, hm4, ho5, hO5⟩
    have hgw : w.heap.size ≤ g := HS.out.hg
    have HO5 := Lib.hid (HS.out.only.trans hO5 (by simp [HS.out.hg, HS.out.hp]) : Only [] w w8)
    have HW5 := Lib.hid ho5
    clear ho5 hO5 HS
    go_wp2
    go_ret2
    have hl := sealed_length X HLR.out
    refine ⟨some ⟨g, 0, none⟩, c4, by simp [HE.out, hl], ?_, ?_, HO5.out⟩
    · rw [HE.out]
      simp only [Option.getD_some, hl]
      exact Row1.of_Own HW5.out (by simpa [sealed] using hl) hc4 hm4
    · intro _ a ha
      injection ha with ha
      subst ha
      exact hgw

set_option maxRecDepth 100000 in
set_option maxHeartbeats 4000000 in
theorem ref_super_dec_any (A : Option Addr) (n c : Nat) (bs : List UInt8) (w : World) (hi : Bys w A n c bs) (hn : n ≤ 65536) :
    Calls Try.prog 68 #[.slice A n c] w (SuperSays w (decSuper bs) 2) := by
  have hlen := hi.len
  rw [bvs_length] at hlen
  have HI := Lib.hid hi
  have HL := Lib.hid hlen
  clear hi hlen
  have hres : Try.f68.results = #[.cell 2 100, .tmp 3] := by kernel_rfl
  have HRES := Lib.hid hres
  clear hres
  by_cases hst : bs.length = 64 ∧ bs[0]? = some 75 ∧ bs[1]? = some 83
  case neg =>
    have HNO := Lib.hid (decSuper_signs hst)
    have HD0 : Hid (decide (bs.length = 64 ∧ bs[0]? = some 75 ∧ bs[1]? = some 83) = false) := Lib.hid (decide_eq_false hst)
    clear hst
    go_enter Try.func68, Try.ntmps68
    go_wp2_with fail
    refine (ref_starts_any A n c bs 64 75 83 64 75 83 _ (by exact (HI.out.alloc _).alloc _) rfl rfl rfl (by decide)).mono ?_
    rintro e w' ⟨rfl, rfl⟩
    rw [HD0.out]
    go_wp2
    (try simp only [Exit.inBlock, Exit.then])
    refine bodyPost_ret (v := .tuple #[.agg #[.int .i64 0, .int .i64 0, .int .i64 0, .int .i64 0, .int .i64 0], .int .i64 2]) ?_ rfl ?_
    · simp only [results, HRES.out]
      go_simp
    · rw [HNO.out]
      exact ⟨rfl, by first | exact ((Only.refl _ _).alloc _).alloc _ | exact ((((((Only.refl [] w).alloc _).alloc _).set (.inr (by simp)) _).set (.inr (by simp)) _).set (.inr (by simp)) _).set (.inr (by simp)) _ | exact (((((((Only.refl [] w).alloc _).alloc _).set (.inr (by simp)) _).set (.inr (by simp)) _).set (.inr (by simp)) _).set (.inr (by simp)) _).set (.inr (by simp)) _⟩
  have h64 : n = 64 := by rw [← HL.out]; exact hst.1
  subst h64
  have HD0 : Hid (decide (bs.length = 64 ∧ bs[0]? = some 75 ∧ bs[1]? = some 83) = true) := Lib.hid (decide_eq_true hst)
  clear hst
  go_enter Try.func68, Try.ntmps68
  go_wp2_with fail
  refine (ref_starts_any A 64 c bs 64 75 83 64 75 83 _ (by exact (HI.out.alloc _).alloc _) rfl rfl rfl (by decide)).mono ?_
  rintro e w' ⟨rfl, rfl⟩
  rw [HD0.out]
  have HRC : Hid (Own ((w.alloc (.cells #[.int .i64 0, .int .i64 0, .int .i64 0, .int .i64 0, .int .i64 0] 100)).alloc (.cells #[.int .i64 0, .int .i64 0, .int .i64 0, .int .i64 0, .int .i64 0] 100)) w.heap.size [.int .i64 0, .int .i64 0, .int .i64 0, .int .i64 0, .int .i64 0]) := Lib.hid ((Own.new w #[.int .i64 0, .int .i64 0, .int .i64 0, .int .i64 0, .int .i64 0] 100).alloc (.cells #[.int .i64 0, .int .i64 0, .int .i64 0, .int .i64 0, .int .i64 0] 100))
  have HF0 := Lib.hid (Own.new (w.alloc (.cells #[.int .i64 0, .int .i64 0, .int .i64 0, .int .i64 0, .int .i64 0] 100)) #[.int .i64 0, .int .i64 0, .int .i64 0, .int .i64 0, .int .i64 0] 100)
  have HO0 := Lib.hid (((Only.refl [] w).alloc (.cells #[.int .i64 0, .int .i64 0, .int .i64 0, .int .i64 0, .int .i64 0] 100)).alloc (.cells #[.int .i64 0, .int .i64 0, .int .i64 0, .int .i64 0, .int .i64 0] 100))
  have HI0 := Lib.hid ((HI.out.alloc (.cells #[.int .i64 0, .int .i64 0, .int .i64 0, .int .i64 0, .int .i64 0] 100)).alloc (.cells #[.int .i64 0, .int .i64 0, .int .i64 0, .int .i64 0, .int .i64 0] 100))
  generalize (w.alloc (.cells #[.int .i64 0, .int .i64 0, .int .i64 0, .int .i64 0, .int .i64 0] 100)).alloc (.cells #[.int .i64 0, .int .i64 0, .int .i64 0, .int .i64 0, .int .i64 0] 100) = w0 at *
  have hfs : (w.alloc (.cells #[.int .i64 0, .int .i64 0, .int .i64 0, .int .i64 0, .int .i64 0] 100)).heap.size = w.heap.size + 1 := by simp
  rw [hfs] at HF0
  clear hfs
  go_wp2_with fail
  generalize hf : w.heap.size + 1 = f at HF0 ⊢
  have HFF := Lib.hid hf
  clear hf
  refine (ref_from_any A 64 c bs _ HI0.out (by decide)).mono ?_
  rintro e w1 ⟨p, g, rfl, hp, hg, hr, hO⟩
  have HRC1 := Lib.hid (HRC.out.keep0 hO)
  have HD := Lib.hid (Decs.start HF0.out (by have := HFF.out; omega) HO0.out hp hg hr hO)
  have hfg : f < w0.heap.size := HF0.out.lt
  have hwg : w.heap.size < w0.heap.size := HRC.out.lt
  have hpz := HD.out.row.pz 1
  have hpk := HD.out.row.fk
  have hcz := HD.out.row.lp
  clear hr hO HF0 HRC
  go_wp2_with fail
  have HD1 := Lib.hid (HD.out.place (k' := 2) (by rw [HL.out]; decide))
  have HRC2 := Lib.hid (HRC1.out.far (p := ⟨p, 1, none⟩) (by show p ≠ w.heap.size; omega) (.int .i64 ((2 : Nat) : Int)))
  have e2 : ((2 : Nat) : Int) = 2 := rfl
  rw [e2] at HD1 HRC2
  clear HD HRC1 hpz hpk hcz e2
  have HD := HD1
  have HRC := HRC2
  clear HD1 HRC2
  refine (ref_num_any p g 2 bs 1 _ (by exact HD.out.row) (by decide) (by rw [HL.out]; decide)).mono ?_
  rintro e v0 ⟨rfl, hr, hO⟩
  have hn := HD.out.got hr hO
  have hrc := HRC.out.keep hO (by simp; omega)
  generalize hx : ((num ((bs.drop 2).take 1) : Nat) : Int) = x0 at *
  have HX0 : Hid (x0 = rd bs 2 1) := Lib.hid hx.symm
  have q0 := hn.box.cell 0 (by simp)
  have z0 := hn.box.frozen 0
  simp only [List.getElem_cons_zero, List.getElem_cons_succ] at q0
  have hm := hn.put 0 (.int .i64 x0)
  simp only [List.set_cons_zero, List.set_cons_succ] at hm
  have HD1 := Lib.hid hm
  have HRC1 := Lib.hid (hrc.far (p := ⟨f, 0, none⟩) (by have := HFF.out; show f ≠ w.heap.size; omega) (.int .i64 x0))
  clear hr hO hx hn hm HD HRC hrc
  have HD := HD1
  have HRC := HRC1
  clear HD1 HRC1
  go_wp2_with fail
  clear q0 z0
  refine (ref_num_any p g 3 bs 1 _ (by exact HD.out.row) (by decide) (by rw [HL.out]; decide)).mono ?_
  rintro e v1 ⟨rfl, hr, hO⟩
  have hn := HD.out.got hr hO
  have hrc := HRC.out.keep hO (by simp; omega)
  generalize hx : ((num ((bs.drop 3).take 1) : Nat) : Int) = x1 at *
  have HX1 : Hid (x1 = rd bs 3 1) := Lib.hid hx.symm
  have q0 := hn.box.cell 1 (by simp)
  have z0 := hn.box.frozen 1
  simp only [List.getElem_cons_zero, List.getElem_cons_succ] at q0
  have hm := hn.put 1 (.int .i64 x1)
  simp only [List.set_cons_zero, List.set_cons_succ] at hm
  have HD1 := Lib.hid hm
  have HRC1 := Lib.hid (hrc.far (p := ⟨f, 1, none⟩) (by have := HFF.out; show f ≠ w.heap.size; omega) (.int .i64 x1))
  clear hr hO hx hn hm HD HRC hrc
  have HD := HD1
  have HRC := HRC1
  clear HD1 HRC1
  go_wp2_with fail
  clear q0 z0
  refine (ref_num_any p g 4 bs 1 _ (by exact HD.out.row) (by decide) (by rw [HL.out]; decide)).mono ?_
  rintro e v2 ⟨rfl, hr, hO⟩
  have hn := HD.out.got hr hO
  have hrc := HRC.out.keep hO (by simp; omega)
  generalize hx : ((num ((bs.drop 4).take 1) : Nat) : Int) = x2 at *
  have HX2 : Hid (x2 = rd bs 4 1) := Lib.hid hx.symm
  have q0 := hn.box.cell 2 (by simp)
  have z0 := hn.box.frozen 2
  simp only [List.getElem_cons_zero, List.getElem_cons_succ] at q0
  have hm := hn.put 2 (.int .i64 x2)
  simp only [List.set_cons_zero, List.set_cons_succ] at hm
  have HD1 := Lib.hid hm
  have HRC1 := Lib.hid (hrc.far (p := ⟨f, 2, none⟩) (by have := HFF.out; show f ≠ w.heap.size; omega) (.int .i64 x2))
  clear hr hO hx hn hm HD HRC hrc
  have HD := HD1
  have HRC := HRC1
  clear HD1 HRC1
  go_wp2_with fail
  clear q0 z0
  refine (ref_num_any p g 5 bs 4 _ (by exact HD.out.row) (by decide) (by rw [HL.out]; decide)).mono ?_
  rintro e v3 ⟨rfl, hr, hO⟩
  have hn := HD.out.got hr hO
  have hrc := HRC.out.keep hO (by simp; omega)
  generalize hx : ((num ((bs.drop 5).take 4) : Nat) : Int) = x3 at *
  have HX3 : Hid (x3 = rd bs 5 4) := Lib.hid hx.symm
  have q0 := hn.box.cell 3 (by simp)
  have z0 := hn.box.frozen 3
  simp only [List.getElem_cons_zero, List.getElem_cons_succ] at q0
  have hm := hn.put 3 (.int .i64 x3)
  simp only [List.set_cons_zero, List.set_cons_succ] at hm
  have HD1 := Lib.hid hm
  have HRC1 := Lib.hid (hrc.far (p := ⟨f, 3, none⟩) (by have := HFF.out; show f ≠ w.heap.size; omega) (.int .i64 x3))
  clear hr hO hx hn hm HD HRC hrc
  have HD := HD1
  have HRC := HRC1
  clear HD1 HRC1
  go_wp2_with fail
  clear q0 z0
  refine (ref_num_any p g 9 bs 4 _ (by exact HD.out.row) (by decide) (by rw [HL.out]; decide)).mono ?_
  rintro e v4 ⟨rfl, hr, hO⟩
  have hn := HD.out.got hr hO
  have hrc := HRC.out.keep hO (by simp; omega)
  generalize hx : ((num ((bs.drop 9).take 4) : Nat) : Int) = x4 at *
  have HX4 : Hid (x4 = rd bs 9 4) := Lib.hid hx.symm
  have q0 := hn.box.cell 4 (by simp)
  have z0 := hn.box.frozen 4
  simp only [List.getElem_cons_zero, List.getElem_cons_succ] at q0
  have hm := hn.put 4 (.int .i64 x4)
  simp only [List.set_cons_zero, List.set_cons_succ] at hm
  have HD1 := Lib.hid hm
  have HRC1 := Lib.hid (hrc.far (p := ⟨f, 4, none⟩) (by have := HFF.out; show f ≠ w.heap.size; omega) (.int .i64 x4))
  clear hr hO hx hn hm HD HRC hrc
  have HD := HD1
  have HRC := HRC1
  clear HD1 HRC1
  generalize hwl : v4.setCell ⟨f, 4, none⟩ (.int .i64 x4) = wl at *
  have y0 := HD.out.box.cell 0 (by simp)
  have y1 := HD.out.box.cell 1 (by simp)
  have y2 := HD.out.box.cell 2 (by simp)
  have y3 := HD.out.box.cell 3 (by simp)
  have y4 := HD.out.box.cell 4 (by simp)
  simp only [List.getElem_cons_zero, List.getElem_cons_succ] at y0 y1 y2 y3 y4
  go_wp2_with fail
  clear hwl
  have HDS : Hid ((if encSuper ⟨x0, x1, x2, x3, x4⟩ = some bs then some ⟨x0, x1, x2, x3, x4⟩ else none) = decSuper bs) := Lib.hid (by
    have e : (⟨x0, x1, x2, x3, x4⟩ : Su) = superOf bs := by
      unfold superOf
      rw [HX0.out, HX1.out, HX2.out, HX3.out, HX4.out]
    rw [e]
    rfl)
  clear q0 z0 HX0 HX1 HX2 HX3 HX4
  refine (ref_super_enc_any x0 x1 x2 x3 x4 _).mono ?_
  rintro e w8 ⟨A3, c3, rfl, hb3, _, hO3⟩
  have HB := Lib.hid (HI.out.keep0 (HD.out.only.trans' hO3))
  have HD3 := Lib.hid (HD.out.keep hO3)
  have HRC3 := Lib.hid (HRC.out.keep0 hO3)
  clear hO3 HD y0 y1 y2 y3 y4 HRC
  have HSB : Hid (w.heap.size ≤ w.heap.size) := Lib.hid (Nat.le_refl _)
  cases hen : encSuper ⟨x0, x1, x2, x3, x4⟩ with
  | none =>
    have HNO : Hid (decSuper bs = none) := Lib.hid (by rw [← HDS.out, hen]; rfl)
    rw [hen] at hb3
    clear hb3 hen HDS
    have y0 := HD3.out.box.cell 0 (by simp)
    have y1 := HD3.out.box.cell 1 (by simp)
    have y2 := HD3.out.box.cell 2 (by simp)
    have y3 := HD3.out.box.cell 3 (by simp)
    have y4 := HD3.out.box.cell 4 (by simp)
    simp only [List.getElem_cons_zero, List.getElem_cons_succ] at y0 y1 y2 y3 y4
    have r0 := HRC3.out.cell 0 (by simp)
    have r1 := HRC3.out.cell 1 (by simp)
    have r2 := HRC3.out.cell 2 (by simp)
    have r3 := HRC3.out.cell 3 (by simp)
    have r4 := HRC3.out.cell 4 (by simp)
    simp only [List.getElem_cons_zero, List.getElem_cons_succ] at r0 r1 r2 r3 r4
    have z0 := HRC3.out.frozen 0
    have z1 := HRC3.out.frozen 1
    have z2 := HRC3.out.frozen 2
    have z3 := HRC3.out.frozen 3
    have z4 := HRC3.out.frozen 4
    simp only [Option.getD_none, Option.isSome_none, List.length_nil]
    go_wp2
    (try simp only [Exit.inBlock, Exit.then])
    refine bodyPost_ret (v := .tuple #[.agg #[.int .i64 0, .int .i64 0, .int .i64 0, .int .i64 0, .int .i64 0], .int .i64 2]) ?_ rfl ?_
    · simp only [results, HRES.out]
      go_simp
    · rw [HNO.out]
      exact ⟨rfl, (((((HD3.out.only.set (.inr HSB.out) _).set (.inr HSB.out) _).set (.inr HSB.out) _).set (.inr HSB.out) _).set (.inr HSB.out) _)⟩
  | some ys =>
    rw [hen] at hb3
    simp only [Option.getD_some] at hb3
    have HB3 := Lib.hid hb3
    have HEN := Lib.hid hen
    clear hb3 hen
    simp only [Option.getD_some, Option.isSome_some, if_true]
    go_wp2_with fail
    refine (equal_any A3 ys.length c3 ys A 64 c bs _ (by exact HB3.out) (by exact HB.out)).mono ?_
    rintro e w9 ⟨rfl, k9, rfl⟩
    have HD4 := Lib.hid (HD3.out.keep ((Only.refl _ _).drewN k9))
    have HRC4 := Lib.hid (HRC3.out.drewN k9)
    generalize w8.drewN k9 = w10 at *
    clear HD3 HRC3
    have HD3 := HD4
    have HRC3 := HRC4
    clear HD4 HRC4
    by_cases hyb : ys = bs
    · have hd : decide (ys = bs) = true := by simp [hyb]
      have HYES : Hid (decSuper bs = some ⟨x0, x1, x2, x3, x4⟩) := Lib.hid (by rw [← HDS.out, HEN.out, hyb, if_pos rfl])
      rw [hd]
      clear hd hyb HEN HDS
      have y0 := HD3.out.box.cell 0 (by simp)
      have y1 := HD3.out.box.cell 1 (by simp)
      have y2 := HD3.out.box.cell 2 (by simp)
      have y3 := HD3.out.box.cell 3 (by simp)
      have y4 := HD3.out.box.cell 4 (by simp)
      simp only [List.getElem_cons_zero, List.getElem_cons_succ] at y0 y1 y2 y3 y4
      have r0 := HRC3.out.cell 0 (by simp)
      have r1 := HRC3.out.cell 1 (by simp)
      have r2 := HRC3.out.cell 2 (by simp)
      have r3 := HRC3.out.cell 3 (by simp)
      have r4 := HRC3.out.cell 4 (by simp)
      simp only [List.getElem_cons_zero, List.getElem_cons_succ] at r0 r1 r2 r3 r4
      have z0 := HRC3.out.frozen 0
      have z1 := HRC3.out.frozen 1
      have z2 := HRC3.out.frozen 2
      have z3 := HRC3.out.frozen 3
      have z4 := HRC3.out.frozen 4
      go_wp2
      (try simp only [Exit.inBlock, Exit.then])
      refine bodyPost_ret (v := .tuple #[.agg #[.int .i64 x0, .int .i64 x1, .int .i64 x2, .int .i64 x3, .int .i64 x4], .int .i64 0]) ?_ rfl ?_
      · simp only [results, HRES.out]
        go_simp
      · rw [HYES.out]
        exact ⟨rfl, (((((HD3.out.only.set (.inr HSB.out) _).set (.inr HSB.out) _).set (.inr HSB.out) _).set (.inr HSB.out) _).set (.inr HSB.out) _)⟩
    · have hd : decide (ys = bs) = false := by simp [hyb]
      have HYES : Hid (decSuper bs = none) := Lib.hid (by rw [← HDS.out, HEN.out, if_neg (by intro h; injection h with h; exact hyb h)])
      rw [hd]
      clear hd hyb HEN HDS
      have y0 := HD3.out.box.cell 0 (by simp)
      have y1 := HD3.out.box.cell 1 (by simp)
      have y2 := HD3.out.box.cell 2 (by simp)
      have y3 := HD3.out.box.cell 3 (by simp)
      have y4 := HD3.out.box.cell 4 (by simp)
      simp only [List.getElem_cons_zero, List.getElem_cons_succ] at y0 y1 y2 y3 y4
      have r0 := HRC3.out.cell 0 (by simp)
      have r1 := HRC3.out.cell 1 (by simp)
      have r2 := HRC3.out.cell 2 (by simp)
      have r3 := HRC3.out.cell 3 (by simp)
      have r4 := HRC3.out.cell 4 (by simp)
      simp only [List.getElem_cons_zero, List.getElem_cons_succ] at r0 r1 r2 r3 r4
      have z0 := HRC3.out.frozen 0
      have z1 := HRC3.out.frozen 1
      have z2 := HRC3.out.frozen 2
      have z3 := HRC3.out.frozen 3
      have z4 := HRC3.out.frozen 4
      go_wp2
      (try simp only [Exit.inBlock, Exit.then])
      refine bodyPost_ret (v := .tuple #[.agg #[.int .i64 0, .int .i64 0, .int .i64 0, .int .i64 0, .int .i64 0], .int .i64 2]) ?_ rfl ?_
      · simp only [results, HRES.out]
        go_simp
      · rw [HYES.out]
        exact ⟨rfl, (((((HD3.out.only.set (.inr HSB.out) _).set (.inr HSB.out) _).set (.inr HSB.out) _).set (.inr HSB.out) _).set (.inr HSB.out) _)⟩

end Go.Proofs.Ytcojleippbneoaa
