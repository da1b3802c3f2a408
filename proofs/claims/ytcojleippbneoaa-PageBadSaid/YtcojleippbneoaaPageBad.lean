/- Claim PageBad. -/
import Derived.Test.YtcojleippbneoaaLaw10A
import Derived.Test.YtcojleippbneoaaFrame
set_option linter.unusedVariables false
namespace Go.Proofs.Ytcojleippbneoaa.pageBad
open Go Go.RowKit Go.Kn Go.ChangeShapes Go.WideShapes Go.ChangeAt

/-- make([]int, n) -/
theorem make_ins (n : Nat) (hn : n ≤ 1000000) (w : World) : (Instr.makeSlice 22 (.int .i64 n) (.int .i64 n)).run Try.prog w = .ok (.slice (some ⟨w.heap.size, 0, none⟩) n n) (w.alloc (.cells (ivs (List.replicate n 0)).toArray 3)) := by
  obtain ⟨i0, hi, hz0, hz1, hz2⟩ := info_parts Try.infoInt
  have h := run_make (P := Try.prog) w 22 3 i0 (.int .i64 0) Try.underlying22 hi hz0 .i64 .i64 n n (by omega) (by omega) (by rw [hz2]; omega) (by omega)
  rw [h]
  have e : madeCells (Value.int IntKind.i64 0).cells ((n : Int).toNat * i0.size) = (ivs (List.replicate n 0)).toArray := by
    rw [hz1, Nat.mul_one]
    have := toList_madeCells_one (Value.int IntKind.i64 0) n
    rw [Int.toNat_natCast]
    have e2 : (madeCells (Value.int IntKind.i64 0).cells n).toList = ivs (List.replicate n 0) := by
      show (madeCells #[Value.int IntKind.i64 0] n).toList = _
      rw [this, ivs, List.map_replicate]
    rw [← e2]
  rw [e]
  rfl

set_option maxRecDepth 100000 in
set_option maxHeartbeats 4000000 in
theorem bad_any (n at_ bad : Int) (w : World) (h0 : (Lit.int .i64 n).wf = true) (h1 : (Lit.int .i64 at_).wf = true) (h2 : (Lit.int .i64 bad).wf = true) :
    Calls Try.prog 13 #[.int .i64 n, .int .i64 at_, .int .i64 bad] w fun e w' => e = .returned (.bool true) ∧ Only [] w w' := by
  by_cases hm : -1 ≤ bad ∧ bad < 4096
  · obtain ⟨hm1, hm2⟩ := hm
    go_enter Try.func13, Try.ntmps13
    go_wp2_with fail
    refine (awake10 _).mono ?_
    rintro e w7 ⟨rfl, hO7⟩
    go_wp2
    go_ret
    exact ⟨rfl, hO7⟩
  · have hrm : refMay bad = false := by unfold refMay; exact decide_eq_false (by omega)
    have HRM := Lib.hid hrm
    clear hrm
    have hk0 : 0 ≤ n % 15 ∧ n % 15 < 15 := by omega
    obtain ⟨k, hk⟩ : ∃ k : Nat, n % 15 = k := ⟨(n % 15).toNat, by omega⟩
    have hmk1 : ∀ w : World, (Instr.makeSlice 22 (.int .i64 (1 + (k : Int))) (.int .i64 (1 + (k : Int)))).run Try.prog w = .ok (.slice (some ⟨w.heap.size, 0, none⟩) (k + 1) (k + 1)) (w.alloc (.cells (ivs (List.replicate (k + 1) 0)).toArray 3)) := by
      have := make_ins (k + 1) (by omega)
      rw [show ((k + 1 : Nat) : Int) = 1 + (k : Int) from by omega] at this
      exact this
    have hmk2 : ∀ w : World, (Instr.makeSlice 22 (.int .i64 16) (.int .i64 16)).run Try.prog w = .ok (.slice (some ⟨w.heap.size, 0, none⟩) 16 16) (w.alloc (.cells (ivs (List.replicate 16 0)).toArray 3)) := make_ins 16 (by decide)
    by_cases hlow : bad < -1
    all_goals
      go_enter Try.func13, Try.ntmps13
      go_wp2_with fail
      refine (round_any n 15 _ h0 (by decide) (by decide)).mono ?_
      rintro e w' ⟨rfl, rfl⟩
      rw [hk]
      go_wp2_with fail
      refine (round_any at_ ((k : Int) + 1) _ h1 (by omega) (by omega)).mono ?_
      rintro e w' ⟨rfl, rfl⟩
      have ha0 : 0 ≤ at_ % ((k : Int) + 1) := Int.emod_nonneg _ (by omega)
      have ha1 : at_ % ((k : Int) + 1) < (k : Int) + 1 := Int.emod_lt_of_pos _ (by omega)
      generalize at_ % ((k : Int) + 1) = tz at *
      obtain ⟨t, rfl⟩ : ∃ t : Nat, tz = t := ⟨tz.toNat, by omega⟩
      have htk : t < k + 1 := by omega
      have ho := Own.new w (ivs (List.replicate (k + 1) 0)).toArray 3
      rw [List.toList_toArray] at ho
      have hO1 := (Only.refl [] w).alloc (.cells (ivs (List.replicate (k + 1) 0)).toArray 3)
      have hgw : w.heap.size ≤ w.heap.size := Nat.le_refl _
      generalize w.alloc (.cells (ivs (List.replicate (k + 1) 0)).toArray 3) = w1 at *
      generalize hG : w.heap.size = g at ho ⊢
      have hbl : (ivs (List.replicate (k + 1) 0)).length = k + 1 := by simp
      have q0 := ho.cell t (by omega)
      have f0 := ho.frozen t
      generalize (ivs (List.replicate (k + 1) 0))[t] = old at *
      have ho2 := ho.set t (.int .i64 bad)
      have hins : Ins (w1.setCell ⟨g, t, none⟩ (.int .i64 bad)) (some ⟨g, 0, none⟩) (k + 1) (k + 1) ((List.replicate (k + 1) 0).set t bad) := by
        have e : (ivs (List.replicate (k + 1) 0)).set t (.int .i64 bad) = ivs ((List.replicate (k + 1) 0).set t bad) := by rw [ivs, ivs, List.map_set]
        rw [e] at ho2
        exact Row1.of_Own ho2 (by simp) (Nat.le_refl _) (by unfold maxLen; omega)
      have hpb : encPage ((List.replicate (k + 1) 0).set t bad) = none := page_bad (j := t) (by simpa using htk) (by simpa using HRM.out)
      have hO2 : Only [] w (w1.setCell ⟨g, t, none⟩ (.int .i64 bad)) := hO1.set (.inr (by simp [hG])) _
      have HINS := Lib.hid hins
      have HPB := Lib.hid hpb
      have HO2 := Lib.hid hO2
      have hti : ((t : Int)).toNat = t := by omega
      have hti0 : 0 ≤ (t : Int) := by omega
      clear ho ho2 hins hpb hO2 hO1 hbl hgw
      go_wp2_with fail
      refine (page_enc_any _ (k + 1) (k + 1) _ _ (by exact HINS.out)).mono ?_
      rintro e w3 ⟨A3, c3, rfl, _, _, hO3⟩
      rw [HPB.out]
      simp only [Option.getD_none, Option.isSome_none, List.length_nil]
      have HO3 := Lib.hid (HO2.out.trans' hO3)
      clear hO3 q0 f0 hmk1
      go_wp2_with fail
      have hz16 : Ins (w3.alloc (.cells (ivs (List.replicate 16 0)).toArray 3)) (some ⟨w3.heap.size, 0, none⟩) 16 16 (List.replicate 16 0) := Row1.of_Own (Own.new w3 (ivs (List.replicate 16 0)).toArray 3) (by simp) (Nat.le_refl _) (by unfold maxLen; omega)
      refine (page_enc_any _ 16 16 _ _ (by exact hz16)).mono ?_
      rintro e w4 ⟨A4, c4, rfl, _, _, hO4⟩
      rw [show encPage (List.replicate 16 0) = none from by decide]
      simp only [Option.getD_none, Option.isSome_none, List.length_nil]
      have HO4 := Lib.hid ((HO3.out.alloc (.cells (ivs (List.replicate 16 0)).toArray 3)).trans' hO4)
      clear hO4 hz16
      go_wp2_with fail
      refine (awake10 _).mono ?_
      rintro e w7 ⟨rfl, hO7⟩
      have HO7 := Lib.hid (HO4.out.trans' hO7)
      go_wp2
      go_ret
      exact ⟨rfl, HO7.out⟩

theorem walk (a0 a1 a2 : Int) (w : World) (w0 : (Lit.int .i64 a0).wf = true) (w1 : (Lit.int .i64 a1).wf = true) (w2 : (Lit.int .i64 a2).wf = true) : Calls Try.prog 13 #[.int .i64 a0, .int .i64 a1, .int .i64 a2] w fun e w' => e = .returned (.bool true) ∧ Below w.heap.size w w' := by
  refine (bad_any a0 a1 a2 w w0 w1 w2).mono ?_
  rintro e w' ⟨rfl, hO⟩
  exact ⟨rfl, hO.below0⟩
-- FRAME: walk : (a0 : Int) (a1 : Int) (a2 : Int) (w : World) (w0 : (Lit.int .i64 a0).wf = true) (w1 : (Lit.int .i64 a1).wf = true) (w2 : (Lit.int .i64 a2).wf = true) : Calls Try.prog 13 #[.int .i64 a0, .int .i64 a1, .int .i64 a2] w fun e w' => e = .returned (.bool true) ∧ Below w.heap.size w w'

set_option maxRecDepth 100000 in
theorem lifted (os : Os) (started : os.Started) (H : Type) (enc : TypeId × Value → H) :
    ReturnsInHanded {} Try.checked os 13 .any (Rows.pageBadSpec.pre6 enc Try.prog Try.f13 Rows.pageBadRow.domain false) (Rows.pageBadSpec.post enc Try.prog Try.f13 false true false false) := by
  refine returnsInHanded_of_change (C := Try.checked) own started (by kernel_rfl) Try.func13
    (ChangeSpec.witness6 (enc := enc) (C := Try.checked) false ⟨#[], #[.int .i64 0, .int .i64 0, .int .i64 0], []⟩ 8 (by kernel_rfl) (by kernel_rfl) (by kernel_rfl) (by kernel_rfl)) ?_
  intro W base args ds gs before hval0 hW hcnd _
  have hval : ∀ (j : Nat) t v, Try.f13.params[j]? = some t → args[j]? = some v → Value.okWide Try.prog W .any base t v := hval0
  have hW' := hW
  obtain ⟨p, q, hA0, hV, rfl, hfz, hnd⟩ := hW
  have hA : DataW.TrodAll enc Try.prog W 0 (fun _ => true) true Try.f13.params.toList args.toList ds p := hA0
  rw [Try.params13] at hA hval
  obtain ⟨v0, vs0, d0, ds0, p0, q0, hargs, rfl, rfl, h0, r0⟩ := trodAll_cons hA
  obtain ⟨v1, vs1, d1, ds1, p1, q1, rfl, rfl, rfl, h1, r1⟩ := trodAll_cons r0
  obtain ⟨v2, vs2, d2, ds2, p2, q2, rfl, rfl, rfl, h2, r2⟩ := trodAll_cons r1
  obtain ⟨rfl, rfl, rfl⟩ := trodAll_nil r2
  obtain rfl : args = #[v0, v1, v2] := by cases args; simp_all
  obtain ⟨rfl, rfl⟩ := trodVars_none hV
  obtain ⟨a0, rfl, rfl, rfl, w0⟩ := open_int Try.underlying3 (hval 0 3 v0 rfl rfl) h0
  obtain ⟨a1, rfl, rfl, rfl, w1⟩ := open_int Try.underlying3 (hval 1 3 v1 rfl rfl) h1
  obtain ⟨a2, rfl, rfl, rfl, w2⟩ := open_int Try.underlying3 (hval 2 3 v2 rfl rfl) h2
  clear hA0 hval0
  refine (walk a0 a1 a2 W w0 w1 w2).mono fun e W' ⟨he, bel⟩ => ?_
  subst he
  exact ⟨_, rfl, _, _, _, [], _, [], hW', trodAll_mk1 (shut_bool Try.underlying4 _), (trodAll_cons_mk (shut_int Try.underlying3 w0) (trodAll_cons_mk (shut_int Try.underlying3 w1) (trodAll_cons_mk (shut_int Try.underlying3 w2) trodAll_mk0))), rfl, bel.frame _, fun h => by cases h⟩

theorem over : Rows.pageBadRow.holds Try.pinned (OpenSpec.ofChange Rows.pageBadSpec) :=
  OpenClaim.holds_of_wide 13 Try.f13 rfl rfl rfl rfl rfl rfl rfl ⟨rfl, rfl, rfl, rfl, rfl⟩ rfl rfl rfl rfl rfl (by kernel_rfl) Try.func13 (by kernel_rfl)
    (of_decide_eq_true (by kernel_rfl)) (by unfold Func.isWrapper; first | (rw [if_pos (by decide +kernel)]; kernel_rfl) | (rw [if_neg (by decide +kernel)]; exact ⟨rfl, rfl⟩))
    (fun os started H enc _ => lifted os started H enc)

theorem proved : Rows.PageBadSaid := over

end Go.Proofs.Ytcojleippbneoaa.pageBad
