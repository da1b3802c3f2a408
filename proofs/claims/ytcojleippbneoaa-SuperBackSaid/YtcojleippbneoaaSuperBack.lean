/- Claim SuperBack. -/
import Derived.Test.YtcojleippbneoaaLaw5B
import Derived.Test.YtcojleippbneoaaFrameU
set_option linter.unusedVariables false
namespace Go.Proofs.Ytcojleippbneoaa.superBack
open Go Go.RowKit Go.Kn Go.ChangeShapes Go.WideShapes Go.ChangeAt

set_option maxRecDepth 100000 in
set_option maxHeartbeats 4000000 in
theorem back (z0 z1 z2 id_ mo : Int) (w : World) (h0 : (Lit.int .i64 z0).wf = true) (h1 : (Lit.int .i64 z1).wf = true) (h2 : (Lit.int .i64 z2).wf = true) (h3 : (Lit.int .i64 id_).wf = true) (h4 : (Lit.int .i64 mo).wf = true) :
    Calls Try.prog 18 #[.agg #[.int .i64 z0, .int .i64 z1, .int .i64 z2], .int .i64 id_, .int .i64 mo] w fun e w' => e = .returned (.bool true) ∧ Only [] w w' := by
  obtain ⟨⟨b, s, l, i, m⟩, hi⟩ : ∃ x, madeSuper z0 z1 z2 id_ mo = x := ⟨_, rfl⟩
  have hmay := madeSuper_may z0 z1 z2 id_ mo
  rw [hi] at hmay
  obtain ⟨bs, hb1, hb2, hb3, hb4⟩ := super_back hmay
  have HV := Lib.hid hi
  have HM := Lib.hid hmay
  have HB1 := Lib.hid hb1
  have HB2 := Lib.hid hb2
  have HB4 := Lib.hid hb4
  have H0 := Lib.hid h0
  have H1 := Lib.hid h1
  have H2 := Lib.hid h2
  have H3 := Lib.hid h3
  have H4 := Lib.hid h4
  clear hi hmay hb1 hb2 hb3 hb4 h0 h1 h2 h3 h4
  go_enter Try.func18, Try.ntmps18
  go_wp2_with fail
  refine (made5 z0 z1 z2 id_ mo _ H0.out H1.out H2.out H3.out H4.out).mono ?_
  rintro e w1 ⟨rfl, hO1⟩
  rw [HV.out]
  simp only [Su.vals]
  have HO1 := Lib.hid (((Only.refl [] w).alloc (.cells #[.int .i64 z0, .int .i64 z1, .int .i64 z2] 109)).trans' hO1)
  clear hO1
  go_wp2_with fail
  have HX1 := Lib.hid ((Boxes.nil w1).new #[.int .i64 b, .int .i64 s, .int .i64 l, .int .i64 i, .int .i64 m] 100)
  have HO2 := Lib.hid (HO1.out.alloc (.cells #[.int .i64 b, .int .i64 s, .int .i64 l, .int .i64 i, .int .i64 m] 100))
  refine (super_enc_any b s l i m _).mono ?_
  rintro e w2 ⟨A2, c2, rfl, hx, _, hO2⟩
  rw [HB1.out] at hx
  rw [HB1.out]
  simp only [Option.getD_some, Option.isSome_some, if_true, HB2.out] at hx ⊢
  have HX2 := Lib.hid (HX1.out.keep0 hO2)
  have HY2 := Lib.hid hx
  have HO3 := Lib.hid (HO2.out.trans' hO2)
  clear hx hO2 HX1 HO1 HO2
  go_wp2_with fail
  refine (super_dec_any A2 64 c2 bs _ (by exact HY2.out) (by decide)).mono ?_
  rintro e w3 ⟨rfl, hO3⟩
  rw [HB4.out]
  simp only [Option.getD_some, Option.isSome_some, if_true, Su.vals]
  have HX3 := Lib.hid (HX2.out.keep0 hO3)
  have HO4 := Lib.hid (HO3.out.trans' hO3)
  obtain ⟨x0, x1, x2, x3, x4, lx⟩ := HX3.out.at5 (b := w1.heap.size) (a0 := .int .i64 b) (a1 := .int .i64 s) (a2 := .int .i64 l) (a3 := .int .i64 i) (a4 := .int .i64 m) (by simp)
  clear hO3 HX2 HY2 HO3
  go_wp2_with fail
  have HX4 := Lib.hid (HX3.out.new #[.int .i64 b, .int .i64 s, .int .i64 l, .int .i64 i, .int .i64 m] 100)
  have HO5 := Lib.hid (HO4.out.alloc (.cells #[.int .i64 b, .int .i64 s, .int .i64 l, .int .i64 i, .int .i64 m] 100))
  refine (super_may_any b s l i m _).mono ?_
  rintro e w6 ⟨rfl, hO6⟩
  rw [HM.out]
  have HO8 := Lib.hid (HO5.out.trans' hO6)
  have HX7 := Lib.hid (HX4.out.keep0 hO6)
  clear x0 x1 x2 x3 x4 lx hO6
  obtain ⟨x0, x1, x2, x3, x4, lx⟩ := HX7.out.at5 (b := w1.heap.size) (a0 := .int .i64 b) (a1 := .int .i64 s) (a2 := .int .i64 l) (a3 := .int .i64 i) (a4 := .int .i64 m) (by simp)
  obtain ⟨y0, y1, y2, y3, y4, ly⟩ := HX7.out.at5 (b := w3.heap.size) (a0 := .int .i64 b) (a1 := .int .i64 s) (a2 := .int .i64 l) (a3 := .int .i64 i) (a4 := .int .i64 m) (by simp)
  go_wp2_with fail
  refine (awake5 _).mono ?_
  rintro e w7 ⟨rfl, hO7⟩
  have HO9 := Lib.hid (HO8.out.trans' hO7)
  go_wp2
  go_ret
  exact ⟨rfl, HO9.out⟩

theorem walk (a0_0 a0_1 a0_2 : Int) (a1 : Int) (a2 : Int) (w : World) (w0_0 : (Lit.int .i64 a0_0).wf = true) (w0_1 : (Lit.int .i64 a0_1).wf = true) (w0_2 : (Lit.int .i64 a0_2).wf = true) (w1 : (Lit.int .i64 a1).wf = true) (w2 : (Lit.int .i64 a2).wf = true) : Calls Try.prog 18 #[.agg #[.int .i64 a0_0, .int .i64 a0_1, .int .i64 a0_2], .int .i64 a1, .int .i64 a2] w fun e w' => e = .returned (.bool true) ∧ Below w.heap.size w w' := by
  refine (back a0_0 a0_1 a0_2 a1 a2 w w0_0 w0_1 w0_2 w1 w2).mono ?_
  rintro e w' ⟨rfl, hO⟩
  exact ⟨rfl, hO.below0⟩

set_option maxRecDepth 100000 in
theorem lifted (os : Os) (started : os.Started) (H : Type) (enc : TypeId × Value → H) :
    ReturnsInHanded {} Try.checked os 18 .any (Rows.superBackSpec.pre6 enc Try.prog Try.f18 Rows.superBackRow.domain false) (Rows.superBackSpec.post enc Try.prog Try.f18 false true false false) := by
  refine returnsInHanded_of_change (C := Try.checked) own started (by kernel_rfl) Try.func18
    (ChangeSpec.witness6 (enc := enc) (C := Try.checked) false ⟨#[], #[.agg #[.int .i64 0, .int .i64 0, .int .i64 0], .int .i64 0, .int .i64 0], []⟩ 8 (by kernel_rfl) (by kernel_rfl) (by kernel_rfl) (by kernel_rfl)) ?_
  intro W base args ds gs before hval0 hW hcnd _
  have hval : ∀ (j : Nat) t v, Try.f18.params[j]? = some t → args[j]? = some v → Value.okWide Try.prog W .any base t v := hval0
  have hW' := hW
  obtain ⟨p, q, hA0, hV, rfl, hfz, hnd⟩ := hW
  have hA : DataW.TrodAll enc Try.prog W 0 (fun _ => true) true Try.f18.params.toList args.toList ds p := hA0
  rw [Try.params18] at hA hval
  obtain ⟨v0, vs0, d0, ds0, p0, q0, hargs, rfl, rfl, h0, r0⟩ := trodAll_cons hA
  obtain ⟨v1, vs1, d1, ds1, p1, q1, rfl, rfl, rfl, h1, r1⟩ := trodAll_cons r0
  obtain ⟨v2, vs2, d2, ds2, p2, q2, rfl, rfl, rfl, h2, r2⟩ := trodAll_cons r1
  obtain ⟨rfl, rfl, rfl⟩ := trodAll_nil r2
  obtain rfl : args = #[v0, v1, v2] := by cases args; simp_all
  obtain ⟨rfl, rfl⟩ := trodVars_none hV
  have k0 := h0
  have lt0 : ∀ x ∈ p0, x.block < W.heap.size := by obtain ⟨m, hm⟩ := k0; exact DataW.trod_lt m _ _ _ hm
  obtain ⟨a0_0, a0_1, a0_2, rfl, w0_0, w0_1, w0_2⟩ := open_arr3 (okWide_array Try.underlying109 (hval 0 109 v0 rfl rfl)) h0
  obtain ⟨a1, rfl, rfl, rfl, w1⟩ := open_int Try.underlying3 (hval 1 3 v1 rfl rfl) h1
  obtain ⟨a2, rfl, rfl, rfl, w2⟩ := open_int Try.underlying3 (hval 2 3 v2 rfl rfl) h2
  clear hA0 hval0
  refine (walk a0_0 a0_1 a0_2 a1 a2 W w0_0 w0_1 w0_2 w1 w2).mono fun e W' ⟨he, bel⟩ => ?_
  subst he
  exact ⟨_, rfl, _, _, _, [], _, [], hW', trodAll_mk1 (shut_bool Try.underlying4 _), (trodAll_cons_mk (Below.trod laidOut (by kernel_rfl) (of_decide_eq_true (by kernel_rfl)) k0 bel lt0) (trodAll_cons_mk (shut_int Try.underlying3 w1) (trodAll_cons_mk (shut_int Try.underlying3 w2) trodAll_mk0))), rfl, bel.frame _, fun h => by cases h⟩

theorem over : Rows.superBackRow.holds Try.pinned (OpenSpec.ofChange Rows.superBackSpec) :=
  OpenClaim.holds_of_wide 18 Try.f18 rfl rfl rfl rfl rfl rfl rfl ⟨rfl, rfl, rfl, rfl, rfl⟩ rfl rfl rfl rfl rfl (by kernel_rfl) Try.func18 (by kernel_rfl)
    (of_decide_eq_true (by kernel_rfl)) (by unfold Func.isWrapper; first | (rw [if_pos (by decide +kernel)]; kernel_rfl) | (rw [if_neg (by decide +kernel)]; exact ⟨rfl, rfl⟩))
    (fun os started H enc _ => lifted os started H enc)

theorem proved : Rows.SuperBackSaid := over

end Go.Proofs.Ytcojleippbneoaa.superBack
