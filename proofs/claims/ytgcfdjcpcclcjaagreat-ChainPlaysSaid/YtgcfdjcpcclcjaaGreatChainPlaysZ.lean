
import Derived.Test.YtgcfdjcpcclcjaaGreatChainPlaysI
set_option linter.unusedVariables false
set_option linter.unusedSimpArgs false
set_option maxHeartbeats 16000000
set_option maxRecDepth 100000
namespace Go.Proofs.YtgcfdjcpcclcjaaGreat.chainPlays
open Go Go.RowKit Go.Kn Go.ChangeShapes Go.WideShapes Go.ChangeAt
theorem walk (a0_0 a0_1 a0_2 : Int) (a1_0 a1_1 a1_2 a1_3 a1_4 : Int) (a2 : Option Addr) (len2 cap2 : Nat) (l2 : List PR) (ss2 : List ((Option Addr × Nat × Nat) × List (Option Addr × Nat × Nat))) (a3 : Int) (a4 : Int) (w : World) (w0_0 : (Lit.int .i64 a0_0).wf = true) (w0_1 : (Lit.int .i64 a0_1).wf = true) (w0_2 : (Lit.int .i64 a0_2).wf = true) (w1_0 : (Lit.int .i64 a1_0).wf = true) (w1_1 : (Lit.int .i64 a1_1).wf = true) (w1_2 : (Lit.int .i64 a1_2).wf = true) (w1_3 : (Lit.int .i64 a1_3).wf = true) (w1_4 : (Lit.int .i64 a1_4).wf = true) (w2 : Prts w a2 len2 cap2 l2 ss2 ∧ ∀ x ∈ l2, WfP x) (w3 : (Lit.int .i64 a3).wf = true) (w4 : (Lit.int .i64 a4).wf = true) : Calls Tryz.prog 10 #[.agg #[.int .i64 a0_0, .int .i64 a0_1, .int .i64 a0_2], .agg #[.int .i64 a1_0, .int .i64 a1_1, .int .i64 a1_2, .int .i64 a1_3, .int .i64 a1_4], .slice a2 len2 cap2, .int .i64 a3, .int .i64 a4] w fun e w' => e = .returned (.bool true) ∧ Below w.heap.size w w' := by
 refine (plays a0_0 a0_1 a0_2 ⟨a1_0, a1_1, a1_2, a1_3, a1_4⟩ a2 len2 cap2 l2 ss2 a3 a4 w w0_0 w0_1 w0_2 ⟨w1_0, w1_2, w1_3, w1_4⟩ w2.1 (fun x hx => ⟨fun e he => ⟨((w2.2 x hx).rs e he).ks, ((w2.2 x hx).rs e he).f, ((w2.2 x hx).rs e he).t⟩, (w2.2 x hx).n⟩) w3 w4).mono ?_
 rintro e w' ⟨rfl, hO⟩
 exact ⟨rfl, hO.below0⟩
theorem lifted (os : Os) (started : os.Started) (H : Type) (enc : TypeId × Value → H) :
  ReturnsInHanded {} Tryz.checked os 10 .any (Rows.chainPlaysSpec.pre6 enc Tryz.prog Tryz.f10 Rows.chainPlaysRow.domain false) (Rows.chainPlaysSpec.post enc Tryz.prog Tryz.f10 false true false false) := by
 refine returnsInHanded_of_change (C := Tryz.checked) own started (by kernel_rfl) Tryz.func10
  (ChangeSpec.witness6 (enc := enc) (C := Tryz.checked) false ⟨#[], #[.agg #[.int .i64 0, .int .i64 0, .int .i64 0], .agg #[.int .i64 0, .int .i64 0, .int .i64 0, .int .i64 0, .int .i64 0], .slice none 0 0, .int .i64 0, .int .i64 0], []⟩ 8 (by kernel_rfl) (by kernel_rfl) (by kernel_rfl) (by kernel_rfl)) ?_
 intro W base args ds gs before hval0 hW hcnd _
 have hval : ∀ (j : Nat) t v, Tryz.f10.params[j]? = some t → args[j]? = some v → Value.okWide Tryz.prog W .any base t v := hval0
 have hW' := hW
 obtain ⟨p, q, hA0, hV, rfl, hfz, hnd⟩ := hW
 have hA : DataW.TrodAll enc Tryz.prog W 0 (fun _ => true) true Tryz.f10.params.toList args.toList ds p := hA0
 rw [Tryz.params10] at hA hval
 obtain ⟨v0, vs0, d0, ds0, p0, q0, hargs, rfl, rfl, h0, r0⟩ := trodAll_cons hA
 obtain ⟨v1, vs1, d1, ds1, p1, q1, rfl, rfl, rfl, h1, r1⟩ := trodAll_cons r0
 obtain ⟨v2, vs2, d2, ds2, p2, q2, rfl, rfl, rfl, h2, r2⟩ := trodAll_cons r1
 obtain ⟨v3, vs3, d3, ds3, p3, q3, rfl, rfl, rfl, h3, r3⟩ := trodAll_cons r2
 obtain ⟨v4, vs4, d4, ds4, p4, q4, rfl, rfl, rfl, h4, r4⟩ := trodAll_cons r3
 obtain ⟨rfl, rfl, rfl⟩ := trodAll_nil r4
 obtain rfl : args = #[v0, v1, v2, v3, v4] := by cases args; simp_all
 obtain ⟨rfl, rfl⟩ := trodVars_none hV
 have k0 := h0
 have lt0 : ∀ x ∈ p0, x.block < W.heap.size := by obtain ⟨m, hm⟩ := k0; exact DataW.trod_lt m _ _ _ hm
 obtain ⟨a0_0, a0_1, a0_2, rfl, w0_0, w0_1, w0_2⟩ := open_arr3 (okWide_array Tryz.underlying71 (hval 0 71 v0 rfl rfl)) h0
 have k1 := h1
 have lt1 : ∀ x ∈ p1, x.block < W.heap.size := by obtain ⟨m, hm⟩ := k1; exact DataW.trod_lt m _ _ _ hm
 obtain ⟨a1_0, a1_1, a1_2, a1_3, a1_4, rfl, w1_0, w1_1, w1_2, w1_3, w1_4⟩ := open_pos (okWide_struct Tryz.underlying32 (hval 1 32 v1 rfl rfl)) h1
 obtain ⟨a2, len2, cap2, rfl⟩ := okWide_slice Tryz.underlying122 (hval 2 122 v2 rfl rfl)
 have k2 := h2
 have lt2 : ∀ x ∈ p2, x.block < W.heap.size := by obtain ⟨m, hm⟩ := k2; exact DataW.trod_lt m _ _ _ hm
 obtain ⟨l2, ss2, w2⟩ : ∃ l ss, Prts W a2 len2 cap2 l ss ∧ ∀ x ∈ l, WfP x := by
  obtain ⟨fuel, hf⟩ := h2
  exact open_prts hf
 obtain ⟨a3, rfl, rfl, rfl, w3⟩ := open_int Tryz.underlying3 (hval 3 3 v3 rfl rfl) h3
 obtain ⟨a4, rfl, rfl, rfl, w4⟩ := open_int Tryz.underlying3 (hval 4 3 v4 rfl rfl) h4
 clear hA0 hval0
 refine (walk a0_0 a0_1 a0_2 a1_0 a1_1 a1_2 a1_3 a1_4 a2 len2 cap2 l2 ss2 a3 a4 W w0_0 w0_1 w0_2 w1_0 w1_1 w1_2 w1_3 w1_4 w2 w3 w4).mono fun e W' ⟨he, bel⟩ => ?_
 subst he
 exact ⟨_, rfl, _, _, _, [], _, [], hW', trodAll_mk1 (shut_bool Tryz.underlying4 _), (trodAll_cons_mk (Below.trod laidOut (by kernel_rfl) (of_decide_eq_true (by kernel_rfl)) k0 bel lt0) (trodAll_cons_mk (Below.trod laidOut (by kernel_rfl) (of_decide_eq_true (by kernel_rfl)) k1 bel lt1) (trodAll_cons_mk (Below.trod laidOut (by kernel_rfl) (of_decide_eq_true (by kernel_rfl)) k2 bel lt2) (trodAll_cons_mk (shut_int Tryz.underlying3 w3) (trodAll_cons_mk (shut_int Tryz.underlying3 w4) trodAll_mk0))))), rfl, bel.frame _, fun h => by cases h⟩
theorem closed : joinedFacts Tryz.pinned.checked.prog 10 Tryz.f10 Rows.chainPlaysSpec Rows.chainPlaysRow = true := by
 show joinedFacts Tryz.prog 10 Tryz.f10 Rows.chainPlaysSpec Rows.chainPlaysRow = true
 unfold joinedFacts
 simp only [enter_may, enter_lifts, enter_make]
 kernel_rfl
theorem over : Rows.chainPlaysRow.holds Tryz.pinned (OpenSpec.ofChange Rows.chainPlaysSpec) :=
 OpenClaim.holds_of_wide 10 Tryz.f10 rfl rfl rfl rfl rfl rfl rfl ⟨rfl, rfl, rfl, rfl, rfl⟩ rfl rfl rfl rfl rfl (by kernel_rfl) Tryz.func10 closed
  (of_decide_eq_true (by kernel_rfl)) (by unfold Func.isWrapper; first | (rw [if_pos (by decide +kernel)]; kernel_rfl) | (rw [if_neg (by decide +kernel)]; exact ⟨rfl, rfl⟩))
  (fun os started H enc _ => lifted os started H enc)
theorem proved : Rows.ChainPlaysSaid := over
end Go.Proofs.YtgcfdjcpcclcjaaGreat.chainPlays
