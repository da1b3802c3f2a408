/- Claim HeadBack. -/
import Derived.Test.YtcojleippbneoaaLaw8B
import Derived.Test.YtcojleippbneoaaTurnW
import Derived.Test.YtcojleippbneoaaFrameH
set_option linter.unusedVariables false
namespace Go.Proofs.Ytcojleippbneoaa.headBack
open Go Go.RowKit Go.Kn Go.ChangeShapes Go.WideShapes Go.ChangeAt

set_option maxRecDepth 100000 in
set_option maxHeartbeats 4000000 in
theorem back (z0 z1 z2 z3 at_ : Int) (pat : Nat) (w : World) (h0 : (Lit.int .i64 z0).wf = true) (h1 : (Lit.int .i64 z1).wf = true) (h2 : (Lit.int .i64 z2).wf = true) (h3 : (Lit.int .i64 z3).wf = true) (ha : (Lit.int .i64 at_).wf = true) (hp : pat < 4294967296) :
    Calls Try.prog 15 #[.agg #[.int .i64 z0, .int .i64 z1, .int .i64 z2, .int .i64 z3], .int .i64 at_, .int .u32 pat] w fun e w' => e = .returned (.bool true) ∧ Only [] w w' := by
  obtain ⟨⟨a, b, c, d⟩, hi⟩ : ∃ i, madeHead z0 z1 z2 z3 = i := ⟨_, rfl⟩
  have hmay := madeHead_may z0 z1 z2 z3
  rw [hi] at hmay
  obtain ⟨bs, hb1, hb2, hb3, hb4⟩ := head_back hmay
  have HV := Lib.hid hi
  have HM := Lib.hid hmay
  have HB1 := Lib.hid hb1
  have HB2 := Lib.hid hb2
  have HB3 := Lib.hid hb3
  have HB4 := Lib.hid hb4
  have HA := Lib.hid ha
  have hf : at_ % ((8 * 60 : Nat) : Int) = (at_ % 480).toNat := by
    have h0 : 0 ≤ at_ % 480 := Int.emod_nonneg _ (by decide)
    have h1 : ((8 * 60 : Nat) : Int) = 480 := rfl
    rw [h1]
    omega
  generalize (at_ % 480).toNat = first at *
  have HF := Lib.hid hf
  have H0 := Lib.hid h0
  have H1 := Lib.hid h1
  have H2 := Lib.hid h2
  have H3 := Lib.hid h3
  clear hi hmay hb1 hb2 hb3 hb4 hf h0 h1 h2 h3 ha
  go_enter Try.func15, Try.ntmps15
  go_wp2_with fail
  refine (made8 z0 z1 z2 z3 _ H0.out H1.out H2.out H3.out).mono ?_
  rintro e w1 ⟨rfl, hO1⟩
  rw [HV.out]
  simp only [It.vals]
  have HO1 := Lib.hid (((Only.refl [] w).alloc (.cells #[.int .i64 z0, .int .i64 z1, .int .i64 z2, .int .i64 z3] 67)).trans' hO1)
  clear hO1
  go_wp2_with fail
  have HX1 := Lib.hid ((Boxes.nil w1).new #[.int .i64 a, .int .i64 b, .int .i64 c, .int .i64 d] 82)
  have HO2 := Lib.hid (HO1.out.alloc (.cells #[.int .i64 a, .int .i64 b, .int .i64 c, .int .i64 d] 82))
  refine (head_enc_any a b c d _).mono ?_
  rintro e w2 ⟨A2, c2, rfl, hx, _, hO2⟩
  rw [HB1.out] at hx
  rw [HB1.out]
  simp only [Option.getD_some, Option.isSome_some, if_true, HB2.out] at hx ⊢
  have HX2 := Lib.hid (HX1.out.keep0 hO2)
  have HY2 := Lib.hid hx
  have HO3 := Lib.hid (HO2.out.trans' hO2)
  clear hx hO2 HX1 HO1 HO2
  go_wp2_with fail
  refine (head_dec_any A2 64 c2 bs _ (by exact HY2.out) (by decide)).mono ?_
  rintro e w3 ⟨rfl, hO3⟩
  rw [HB4.out]
  simp only [Option.getD_some, Option.isSome_some, if_true, It.vals]
  have HX3 := Lib.hid ((HX2.out.keep0 hO3).new #[.int .i64 a, .int .i64 b, .int .i64 c, .int .i64 d] 82)
  have HY3 := Lib.hid ((HY2.out.keep0 hO3).alloc (.cells #[.int .i64 a, .int .i64 b, .int .i64 c, .int .i64 d] 82))
  have HO4 := Lib.hid ((HO3.out.trans' hO3).alloc (.cells #[.int .i64 a, .int .i64 b, .int .i64 c, .int .i64 d] 82))
  clear hO3 HX2 HY2 HO3
  go_wp2_with fail
  refine (turned_any A2 64 c2 bs 60 at_ first pat _ (by exact HY3.out) (by decide) (by decide) (by decide) HA.out HF.out hp).mono ?_
  rintro e w4 ⟨g4, rfl, hg4, ho4, hO4⟩
  have HT : Hid (Bys w4 (some ⟨g4, 0, none⟩) 64 64 (turnB bs first (8 * 60) pat 32)) := Lib.hid (Row1.of_Own ho4 (by rw [bvs_length, turnB_length]; exact HB2.out) (Nat.le_refl _) (by unfold maxLen; omega))
  have HX4 := Lib.hid (HX3.out.keep0 hO4)
  have HO5 := Lib.hid (HO4.out.trans' hO4)
  clear ho4 hO4 HX3 HY3 HO4
  cases hany : turnA first (8 * 60) pat 32
  · have hY := turnB_none bs first (8 * 60) pat 32 hany
    have HD : Hid (decHead (turnB bs first (8 * 60) pat 32) = some ⟨a, b, c, d⟩) := Lib.hid (by rw [hY]; exact HB4.out)
    clear hY
    generalize turnB bs first (8 * 60) pat 32 = Y at *
    go_wp2_with fail
    refine (head_dec_any _ 64 64 Y _ (by exact HT.out) (by decide)).mono ?_
    rintro e w5 ⟨rfl, hO5⟩
    rw [HD.out]
    simp only [Option.getD_some, Option.isSome_some, if_true, It.vals]
    have HX5 := Lib.hid (HX4.out.keep0 hO5)
    have HO6 := Lib.hid (HO5.out.trans' hO5)
    obtain ⟨x0, x1, x2, x3, lx⟩ := HX5.out.at4 (b := w1.heap.size) (a0 := .int .i64 a) (a1 := .int .i64 b) (a2 := .int .i64 c) (a3 := .int .i64 d) (by simp)
    clear hO5 HX4 HO5
    go_wp2_with fail
    have HX6 := Lib.hid (HX5.out.alloc (.cells #[.int .i64 a, .int .i64 b, .int .i64 c, .int .i64 d] 82))
    have HO7 := Lib.hid (HO6.out.alloc (.cells #[.int .i64 a, .int .i64 b, .int .i64 c, .int .i64 d] 82))
    refine (head_may_any a b c d _).mono ?_
    rintro e w6 ⟨rfl, hO6⟩
    rw [HM.out]
    have HO8 := Lib.hid (HO7.out.trans' hO6)
    have HX7 := Lib.hid (HX6.out.keep0 hO6)
    clear x0 x1 x2 x3 lx hO6
    obtain ⟨x0, x1, x2, x3, lx⟩ := HX7.out.at4 (b := w1.heap.size) (a0 := .int .i64 a) (a1 := .int .i64 b) (a2 := .int .i64 c) (a3 := .int .i64 d) (by simp)
    obtain ⟨y0, y1, y2, y3, ly⟩ := HX7.out.at4 (b := w3.heap.size) (a0 := .int .i64 a) (a1 := .int .i64 b) (a2 := .int .i64 c) (a3 := .int .i64 d) (by simp)
    go_wp2_with fail
    refine (awake8 _).mono ?_
    rintro e w7 ⟨rfl, hO7⟩
    have HO9 := Lib.hid (HO8.out.trans' hO7)
    go_wp2
    go_ret
    exact ⟨rfl, HO9.out⟩
  · have HD : Hid (decHead (turnB bs first (8 * 60) pat 32) = none) := Lib.hid (head_turned HB2.out HB3.out hany)
    generalize turnB bs first (8 * 60) pat 32 = Y at *
    go_wp2_with fail
    refine (head_dec_any _ 64 64 Y _ (by exact HT.out) (by decide)).mono ?_
    rintro e w5 ⟨rfl, hO5⟩
    rw [HD.out]
    simp only [Option.getD_none, Option.isSome_none, It.vals]
    have HX5 := Lib.hid (HX4.out.keep0 hO5)
    have HO6 := Lib.hid (HO5.out.trans' hO5)
    obtain ⟨x0, x1, x2, x3, lx⟩ := HX5.out.at4 (b := w1.heap.size) (a0 := .int .i64 a) (a1 := .int .i64 b) (a2 := .int .i64 c) (a3 := .int .i64 d) (by simp)
    clear hO5 HX4 HO5
    go_wp2_with fail
    have HX6 := Lib.hid (HX5.out.alloc (.cells #[.int .i64 0, .int .i64 0, .int .i64 0, .int .i64 0] 82))
    have HO7 := Lib.hid (HO6.out.alloc (.cells #[.int .i64 0, .int .i64 0, .int .i64 0, .int .i64 0] 82))
    refine (head_may_any a b c d _).mono ?_
    rintro e w6 ⟨rfl, hO6⟩
    rw [HM.out]
    have HO8 := Lib.hid (HO7.out.trans' hO6)
    have HX7 := Lib.hid (HX6.out.keep0 hO6)
    clear x0 x1 x2 x3 lx hO6
    obtain ⟨x0, x1, x2, x3, lx⟩ := HX7.out.at4 (b := w1.heap.size) (a0 := .int .i64 a) (a1 := .int .i64 b) (a2 := .int .i64 c) (a3 := .int .i64 d) (by simp)
    obtain ⟨y0, y1, y2, y3, ly⟩ := HX7.out.at4 (b := w3.heap.size) (a0 := .int .i64 a) (a1 := .int .i64 b) (a2 := .int .i64 c) (a3 := .int .i64 d) (by simp)
    go_wp2_with fail
    refine (awake8 _).mono ?_
    rintro e w7 ⟨rfl, hO7⟩
    have HO9 := Lib.hid (HO8.out.trans' hO7)
    go_wp2
    go_ret
    exact ⟨rfl, HO9.out⟩

theorem walk (a0_0 a0_1 a0_2 a0_3 : Int) (a1 : Int) (a2 : Int) (w : World) (w0_0 : (Lit.int .i64 a0_0).wf = true) (w0_1 : (Lit.int .i64 a0_1).wf = true) (w0_2 : (Lit.int .i64 a0_2).wf = true) (w0_3 : (Lit.int .i64 a0_3).wf = true) (w1 : (Lit.int .i64 a1).wf = true) (w2 : (Lit.int .u32 a2).wf = true) : Calls Try.prog 15 #[.agg #[.int .i64 a0_0, .int .i64 a0_1, .int .i64 a0_2, .int .i64 a0_3], .int .i64 a1, .int .u32 a2] w fun e w' => e = .returned (.bool true) ∧ Below w.heap.size w w' := by
  have hx : 0 ≤ a2 ∧ a2 ≤ 4294967295 := by simpa [Lit.wf, IntKind.min, IntKind.max, IntKind.signed, IntKind.bits] using w2
  obtain ⟨p, rfl⟩ : ∃ p : Nat, a2 = p := ⟨a2.toNat, by omega⟩
  refine (back a0_0 a0_1 a0_2 a0_3 a1 p w w0_0 w0_1 w0_2 w0_3 w1 (by omega)).mono ?_
  rintro e w' ⟨rfl, hO⟩
  exact ⟨rfl, hO.below0⟩

set_option maxRecDepth 100000 in
theorem lifted (os : Os) (started : os.Started) (H : Type) (enc : TypeId × Value → H) :
    ReturnsInHanded {} Try.checked os 15 .any (Rows.headBackSpec.pre6 enc Try.prog Try.f15 Rows.headBackRow.domain false) (Rows.headBackSpec.post enc Try.prog Try.f15 false true false false) := by
  refine returnsInHanded_of_change (C := Try.checked) own started (by kernel_rfl) Try.func15
    (ChangeSpec.witness6 (enc := enc) (C := Try.checked) false ⟨#[], #[.agg #[.int .i64 0, .int .i64 0, .int .i64 0, .int .i64 0], .int .i64 0, .int .u32 0], []⟩ 8 (by kernel_rfl) (by kernel_rfl) (by kernel_rfl) (by kernel_rfl)) ?_
  intro W base args ds gs before hval0 hW hcnd _
  have hval : ∀ (j : Nat) t v, Try.f15.params[j]? = some t → args[j]? = some v → Value.okWide Try.prog W .any base t v := hval0
  have hW' := hW
  obtain ⟨p, q, hA0, hV, rfl, hfz, hnd⟩ := hW
  have hA : DataW.TrodAll enc Try.prog W 0 (fun _ => true) true Try.f15.params.toList args.toList ds p := hA0
  rw [Try.params15] at hA hval
  obtain ⟨v0, vs0, d0, ds0, p0, q0, hargs, rfl, rfl, h0, r0⟩ := trodAll_cons hA
  obtain ⟨v1, vs1, d1, ds1, p1, q1, rfl, rfl, rfl, h1, r1⟩ := trodAll_cons r0
  obtain ⟨v2, vs2, d2, ds2, p2, q2, rfl, rfl, rfl, h2, r2⟩ := trodAll_cons r1
  obtain ⟨rfl, rfl, rfl⟩ := trodAll_nil r2
  obtain rfl : args = #[v0, v1, v2] := by cases args; simp_all
  obtain ⟨rfl, rfl⟩ := trodVars_none hV
  have k0 := h0
  have lt0 : ∀ x ∈ p0, x.block < W.heap.size := by obtain ⟨m, hm⟩ := k0; exact DataW.trod_lt m _ _ _ hm
  obtain ⟨a0_0, a0_1, a0_2, a0_3, rfl, w0_0, w0_1, w0_2, w0_3⟩ := open_arr4 (okWide_array Try.underlying67 (hval 0 67 v0 rfl rfl)) h0
  obtain ⟨a1, rfl, rfl, rfl, w1⟩ := open_int Try.underlying3 (hval 1 3 v1 rfl rfl) h1
  obtain ⟨a2, rfl, rfl, rfl, w2⟩ := open_int Try.underlying78 (hval 2 78 v2 rfl rfl) h2
  clear hA0 hval0
  refine (walk a0_0 a0_1 a0_2 a0_3 a1 a2 W w0_0 w0_1 w0_2 w0_3 w1 w2).mono fun e W' ⟨he, bel⟩ => ?_
  subst he
  exact ⟨_, rfl, _, _, _, [], _, [], hW', trodAll_mk1 (shut_bool Try.underlying4 _), (trodAll_cons_mk (Below.trod laidOut (by kernel_rfl) (of_decide_eq_true (by kernel_rfl)) k0 bel lt0) (trodAll_cons_mk (shut_int Try.underlying3 w1) (trodAll_cons_mk (shut_int Try.underlying78 w2) trodAll_mk0))), rfl, bel.frame _, fun h => by cases h⟩

theorem over : Rows.headBackRow.holds Try.pinned (OpenSpec.ofChange Rows.headBackSpec) :=
  OpenClaim.holds_of_wide 15 Try.f15 rfl rfl rfl rfl rfl rfl rfl ⟨rfl, rfl, rfl, rfl, rfl⟩ rfl rfl rfl rfl rfl (by kernel_rfl) Try.func15 (by kernel_rfl)
    (of_decide_eq_true (by kernel_rfl)) (by unfold Func.isWrapper; first | (rw [if_pos (by decide +kernel)]; kernel_rfl) | (rw [if_neg (by decide +kernel)]; exact ⟨rfl, rfl⟩))
    (fun os started H enc _ => lifted os started H enc)

theorem proved : Rows.HeadBackSaid := over

end Go.Proofs.Ytcojleippbneoaa.headBack
