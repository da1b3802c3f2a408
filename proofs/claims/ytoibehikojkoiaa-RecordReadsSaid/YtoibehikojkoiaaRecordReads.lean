/- Claim RecordReads. -/
import Derived.Test.YtoibehikojkoiaaEnter
import Derived.Test.YtoibehikojkoiaaLaw7A
import Derived.Test.YtoibehikojkoiaaFrameR
import Derived.Test.YtoibehikojkoiaaRecG
import Derived.Test.YtoibehikojkoiaaRecH
set_option linter.unusedVariables false
set_option linter.unusedSimpArgs false
namespace Go.Proofs.Ytoibehikojkoiaa.recordReads
open Go Go.RowKit Go.Kn Go.ChangeShapes Go.WideShapes Go.ChangeAt

set_option maxRecDepth 100000 in
set_option maxHeartbeats 16000000 in
theorem reads (A : Option Addr) (n c : Nat) (bs : List UInt8) (w : World) (hb : Bys w A n c bs) :
    Calls Try.prog 5 #[.slice A n c] w fun en w' => en = .returned (.bool true) ∧ Only [] w w' := by
  have hnc := hb.le
  have hcm := hb.cm
  have hcm' := hcm
  unfold maxLen at hcm'
  by_cases hsm : n ≤ 600
  · have hd : decide (600 < (n : Int)) = false := by simp; omega
    obtain ⟨r, s, er, hO⟩ : ∃ r s er, ((decRc bs).map (·.1)).getD rcZ = r ∧ ((decRc bs).map (·.2)).getD 0 = s ∧ (if (decRc bs).isSome then (0 : Int) else 2) = er := ⟨_, _, _, rfl, rfl, rfl⟩
    have HO := Lib.hid hO
    have HD0 := Lib.hid ((Wc.start w).old (f := fun W => Bys W A n c bs) (Row1.fc hb (by simp)))
    clear hO hb
    have hn3 : (er == er) = true := by simp
    have hn4 : ((s : Int) == (s : Int)) = true := by simp
    have hn5 : ((sizeRc bs : Int) == (sizeRc bs : Int)) = true := by simp
    go_enter Try.func5, Try.ntmps5
    go_wp2_with fail
    refine (rec_dec_any A n c bs _ (HD0.out.fi 0 rfl) (by omega)).mono ?_
    intro en w1 he
    obtain ⟨s1, t1, rfl, hw⟩ := HD0.out.rcSays he
    rw [HO.out.1] at hw
    rw [HO.out.1, HO.out.2.1, HO.out.2.2]
    rcases s1 with ⟨sA, sn, sc⟩
    rcases t1 with ⟨tA, tn, tc⟩
    have HD1 := Lib.hid (hw.newF (r.cells (sA, sn, sc) (tA, tn, tc)) 47 rfl)
    rw [show r.cells (sA, sn, sc) (tA, tn, tc) = #[.int .i64 r.m, .int .i64 r.n, .int .i64 r.p, .slice sA sn sc, .slice tA tn tc] from rfl] at HD1 ⊢
    clear HD0 he hw
    go_upto_region 4 with fail
    generalize w1.alloc (.cells #[.int .i64 r.m, .int .i64 r.n, .int .i64 r.p, .slice sA sn sc, .slice tA tn tc] 47) = w2 at *
    generalize w1.heap.size = rb at *
    go_wp2_with fail
    refine (ref_rec_dec_any A n c bs _ (HD1.out.fi 2 rfl) (by omega)).mono ?_
    intro en w3 he
    obtain ⟨s2, t2, rfl, hw⟩ := HD1.out.rcSays he
    rw [HO.out.1] at hw
    rw [HO.out.1, HO.out.2.1, HO.out.2.2]
    rcases s2 with ⟨uA, un, uc⟩
    rcases t2 with ⟨vA, vn, vc⟩
    have HD2 := Lib.hid (hw.newF (r.cells (uA, un, uc) (vA, vn, vc)) 47 rfl)
    rw [show r.cells (uA, un, uc) (vA, vn, vc) = #[.int .i64 r.m, .int .i64 r.n, .int .i64 r.p, .slice uA un uc, .slice vA vn vc] from rfl] at HD2 ⊢
    clear HD1 he hw
    go_upto_region 5 with fail
    generalize w3.alloc (.cells #[.int .i64 r.m, .int .i64 r.n, .int .i64 r.p, .slice uA un uc, .slice vA vn vc] 47) = w4 at *
    generalize w3.heap.size = xb at *
    obtain ⟨x0, x1, x2, x3, x4, xl⟩ := cells5 (show Kn.Own w4 rb _ from HD2.out.fi 2 rfl)
    obtain ⟨y0, y1, y2, y3, y4, yl⟩ := cells5 (show Kn.Own w4 xb _ from HD2.out.fi 0 rfl)
    go_wp2_with fail
    refine (alike_record_any r.m r.n r.p sA sn sc r.its tA tn tc r.bl r.m r.n r.p uA un uc r.its vA vn vc r.bl _ (HD2.out.fi 3 rfl).1 (HD2.out.fi 3 rfl).2 (HD2.out.fi 1 rfl).1 (HD2.out.fi 1 rfl).2).mono ?_
    rintro en w5 ⟨rfl, hO⟩
    rw [decide_eq_true (rfl : (⟨r.m, r.n, r.p, r.its, r.bl⟩ : Rc) = ⟨r.m, r.n, r.p, r.its, r.bl⟩)]
    have HD3 := Lib.hid (HD2.out.keep0 hO)
    clear HD2 hO x0 x1 x2 x3 x4 xl y0 y1 y2 y3 y4 yl
    go_wp2_with fail
    refine (rec_size_any A n c bs _ (HD3.out.fi 4 rfl) (by omega)).mono ?_
    rintro en w6 ⟨rfl, hO⟩
    have HD4 := Lib.hid (HD3.out.keep0 hO)
    clear HD3 hO
    go_wp2_with fail
    refine (ref_rec_size_any A n c bs _ (HD4.out.fi 4 rfl)).mono ?_
    rintro en w7 ⟨rfl, hO⟩
    have HD5 := Lib.hid (HD4.out.keep0 hO)
    clear HD4 hO
    go_wp2_with fail
    refine (awake7 _).mono ?_
    rintro en w8 ⟨rfl, hO⟩
    have HD6 := Lib.hid (HD5.out.keep0 hO)
    clear HD5 hO
    go_wp2
    go_ret
    exact ⟨rfl, HD6.out.only⟩
  · have hd : decide (600 < (n : Int)) = true := by simp; omega
    go_enter Try.func5, Try.ntmps5
    go_wp2_with fail
    refine (awake7 _).mono ?_
    rintro en w7 ⟨rfl, hO⟩
    go_wp2
    go_ret
    exact ⟨rfl, hO⟩
theorem walk (a0 : Option Addr) (len0 cap0 : Nat) (z0 : List Int) (w : World) (w0 : IsRow .u8 w a0 len0 cap0 z0) : Calls Try.prog 5 #[.slice a0 len0 cap0] w fun e w' => e = .returned (.bool true) ∧ Below w.heap.size w w' := by
  obtain ⟨bs, hbs⟩ := w0.bys
  refine (reads a0 len0 cap0 bs w hbs).mono ?_
  rintro e w' ⟨rfl, hO⟩
  exact ⟨rfl, hO.below0⟩

set_option maxRecDepth 100000 in
theorem lifted (os : Os) (started : os.Started) (H : Type) (enc : TypeId × Value → H) :
    ReturnsInHanded {} Try.checked os 5 .any (Rows.recordReadsSpec.pre6 enc Try.prog Try.f5 Rows.recordReadsRow.domain false) (Rows.recordReadsSpec.post enc Try.prog Try.f5 false true false false) := by
  refine returnsInHanded_of_change (C := Try.checked) own started (by kernel_rfl) Try.func5
    (ChangeSpec.witness6 (enc := enc) (C := Try.checked) false ⟨#[], #[.slice none 0 0], []⟩ 8 (by kernel_rfl) (by kernel_rfl) (by kernel_rfl) (by kernel_rfl)) ?_
  intro W base args ds gs before hval0 hW hcnd _
  have hval : ∀ (j : Nat) t v, Try.f5.params[j]? = some t → args[j]? = some v → Value.okWide Try.prog W .any base t v := hval0
  have hW' := hW
  obtain ⟨p, q, hA0, hV, rfl, hfz, hnd⟩ := hW
  have hA : DataW.TrodAll enc Try.prog W 0 (fun _ => true) true Try.f5.params.toList args.toList ds p := hA0
  rw [Try.params5] at hA hval
  obtain ⟨v0, vs0, d0, ds0, p0, q0, hargs, rfl, rfl, h0, r0⟩ := trodAll_cons hA
  obtain ⟨rfl, rfl, rfl⟩ := trodAll_nil r0
  obtain rfl : args = #[v0] := by cases args; simp_all
  obtain ⟨rfl, rfl⟩ := trodVars_none hV
  obtain ⟨a0, len0, cap0, rfl⟩ := okWide_slice Try.underlying35 (hval 0 35 v0 rfl rfl)
  have k0 := h0
  have lt0 : ∀ x ∈ p0, x.block < W.heap.size := by obtain ⟨m, hm⟩ := k0; exact DataW.trod_lt m _ _ _ hm
  obtain ⟨z0, w0⟩ : ∃ zs, IsRow .u8 W a0 len0 cap0 zs := by
    obtain ⟨fuel, hf⟩ := h0
    rcases open_ints Try.underlying35 Try.underlying5 (by kernel_rfl) hf with ⟨hcs, _⟩ | ⟨x, l, c, zs, hcs, _, hl, hm, hz, _, hcell, hwz⟩
    · simp [Value.cells] at hcs
      obtain ⟨rfl, rfl, rfl⟩ := hcs
      exact ⟨[], .inl ⟨rfl, rfl, rfl, rfl⟩⟩
    · simp [Value.cells] at hcs
      obtain ⟨rfl, rfl, rfl⟩ := hcs
      exact ⟨zs, .inr ⟨_, rfl, hl, hm, by simpa using hz, hcell, hwz⟩⟩
  clear hA0 hval0
  refine (walk a0 len0 cap0 z0 W w0).mono fun e W' ⟨he, bel⟩ => ?_
  subst he
  exact ⟨_, rfl, _, _, _, [], _, [], hW', trodAll_mk1 (shut_bool Try.underlying4 _), (trodAll_cons_mk (Below.trod laidOut (by kernel_rfl) (of_decide_eq_true (by kernel_rfl)) k0 bel lt0) trodAll_mk0), rfl, bel.frame _, fun h => by cases h⟩

set_option maxRecDepth 100000 in
theorem closed : joinedFacts Try.pinned.checked.prog 5 Try.f5 Rows.recordReadsSpec Rows.recordReadsRow = true := by
  show joinedFacts Try.prog 5 Try.f5 Rows.recordReadsSpec Rows.recordReadsRow = true
  unfold joinedFacts
  simp only [enter_may, enter_lifts, enter_make]
  kernel_rfl

theorem over : Rows.recordReadsRow.holds Try.pinned (OpenSpec.ofChange Rows.recordReadsSpec) :=
  OpenClaim.holds_of_wide 5 Try.f5 rfl rfl rfl rfl rfl rfl rfl ⟨rfl, rfl, rfl, rfl, rfl⟩ rfl rfl rfl rfl rfl (by kernel_rfl) Try.func5 closed
    (of_decide_eq_true (by kernel_rfl)) (by unfold Func.isWrapper; first | (rw [if_pos (by decide +kernel)]; kernel_rfl) | (rw [if_neg (by decide +kernel)]; exact ⟨rfl, rfl⟩))
    (fun os started H enc _ => lifted os started H enc)

theorem proved : Rows.RecordReadsSaid := over

end Go.Proofs.Ytoibehikojkoiaa.recordReads
