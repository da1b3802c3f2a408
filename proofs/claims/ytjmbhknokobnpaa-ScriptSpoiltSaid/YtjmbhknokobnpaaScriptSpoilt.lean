/- Claim ScriptSpoilt. -/
import Derived.Test.YtjmbhknokobnpaaEnter
import Derived.Test.YtjmbhknokobnpaaLaw30B
import Derived.Test.YtjmbhknokobnpaaTurnW
import Derived.Test.YtjmbhknokobnpaaRefA
set_option linter.unusedVariables false
set_option linter.unusedSimpArgs false
namespace Go.Proofs.Ytjmbhknokobnpaa.scriptSpoilt
open Go Go.RowKit Go.Kn Go.ChangeShapes Go.WideShapes Go.ChangeAt

set_option maxRecDepth 100000 in
set_option maxHeartbeats 8000000 in
theorem spoilt (A : Option Addr) (n c : Nat) (l : List Ev) (at_ : Int) (pat : Nat) (w : World) (hi : Evs w A n c l) (hw : ∀ e ∈ l, WfE e) (ha : (Lit.int .i64 at_).wf = true) (hp : pat < 4294967296) :
    Calls Try.prog 7 #[.slice A n c, .int .i64 at_, .int .u32 (pat : Nat)] w fun e w' => e = .returned (.bool true) ∧ Only [] w w' := by
  have hlen := hi.len
  have hcm := hi.cm
  have hcl := hi.le
  unfold maxLen at hcm
  have HI := Lib.hid hi
  have HW := Lib.hid hw
  have HA := Lib.hid ha
  clear hi hw ha
  by_cases h100 : 100 < n
  · go_enter Try.func7, Try.ntmps7
    go_wp2_with fail
    refine (awake30 _).mono ?_
    rintro e w6 ⟨rfl, hO6⟩
    go_wp2
    go_ret
    exact ⟨rfl, hO6⟩
  cases hf : fewB l with
  | false =>
    have HF := Lib.hid hf
    clear hf
    go_enter Try.func7, Try.ntmps7
    go_wp2_with fail
    refine (few_any A n c l _ (by exact HI.out)).mono ?_
    rintro e w1 ⟨rfl, rfl⟩
    rw [HF.out]
    go_wp2_with fail
    refine (awake30 _).mono ?_
    rintro e w6 ⟨rfl, hO6⟩
    go_wp2
    go_ret
    exact ⟨rfl, hO6⟩
  | true =>
    have HF := Lib.hid hf
    clear hf
    obtain ⟨X, hX⟩ : ∃ X, l.map madeEv = X := ⟨_, rfl⟩
    have hXl : X.length = n := by rw [← hX, List.length_map, hlen]
    have hXm : X.all Ev.may = true := by rw [← hX]; exact madeEvs_may l
    obtain ⟨bs, hbs⟩ : ∃ bs, scrBytes X = bs := ⟨_, rfl⟩
    have HX := Lib.hid hX
    have HXE : Hid (encEvs X = some bs) := Lib.hid (by rw [← hbs]; exact encEvs_good (by omega) hXm)
    have HXD : Hid (decEvs bs = some X) := Lib.hid (by rw [← hbs]; exact evs_back (by omega) hXm)
    have hEl := evsW_le hXm
    obtain ⟨B, hB⟩ : ∃ B, B = 4 + evsW X := ⟨_, rfl⟩
    have hLb : bs.length = B + 4 := by rw [← hbs, scrBytes_length]; omega
    have hB1 : 4 ≤ B := by omega
    have hB2 : B ≤ 20000 := by omega
    have HLB := Lib.hid hLb
    have HCL : Hid (Closed bs (bs.length - 4)) := Lib.hid (by rw [← hbs]; exact scrBytes_closed X)
    have HXL := Lib.hid hXl
    clear hX hXl hXm hbs hEl hB hLb
    obtain ⟨first, hfirst⟩ : ∃ first : Nat, at_ % (((8 * B : Nat)) : Int) = (first : Int) := ⟨(at_ % (((8 * B : Nat)) : Int)).toNat, by have := Int.emod_nonneg at_ (show (((8 * B : Nat)) : Int) ≠ 0 by omega); omega⟩
    have HFI := Lib.hid hfirst
    clear hfirst
    go_enter Try.func7, Try.ntmps7
    go_wp2_with fail
    refine (few_any A n c l _ (by exact HI.out)).mono ?_
    rintro e w1 ⟨rfl, rfl⟩
    rw [HF.out]
    go_wp2_with fail
    refine (made30_any A n c l _ (by exact HI.out) HW.out (by omega)).mono ?_
    rintro e w1 ⟨A1, c1, rfl, hev1, hO1⟩
    rw [HX.out] at hev1
    have HE1 := Lib.hid hev1
    have HO1 := Lib.hid hO1
    clear hev1 hO1
    go_wp2_with fail
    refine (script_enc_any A1 n c1 X _ (by exact HE1.out)).mono ?_
    rintro e w2 ⟨A2, c2, rfl, hb2, _, hO2⟩
    rw [HXE.out] at hb2
    rw [HXE.out]
    simp only [Option.getD_some, Option.isSome_some, if_true, HLB.out] at hb2 ⊢
    have HB2 := Lib.hid hb2
    have HO2 := Lib.hid (HO1.out.trans' hO2)
    clear hb2 hO2 HO1 HE1
    go_wp2_with fail
    refine (turned_any A2 (B + 4) c2 bs B at_ first pat _ (by exact HB2.out) (by omega) (by omega) (by omega) HA.out HFI.out hp).mono ?_
    rintro e w4 ⟨g4, rfl, hg4, ho4, hO4⟩
    have HT : Hid (Bys w4 (some ⟨g4, 0, none⟩) (B + 4) (B + 4) (turnB bs first (8 * B) pat 32)) := Lib.hid (Row1.of_Own ho4 (by simp [HLB.out]) (Nat.le_refl _) (by unfold maxLen; omega))
    have HB4 := Lib.hid (HB2.out.keep0 hO4)
    have HO4 := Lib.hid (HO2.out.trans' hO4)
    clear ho4 hO4 HB2 HO2 hg4
    cases hany : turnA first (8 * B) pat 32
    · have hY := turnB_none bs first (8 * B) pat 32 hany
      have HD : Hid (decEvs (turnB bs first (8 * B) pat 32) = some X) := Lib.hid (by rw [hY]; exact HXD.out)
      have HE : Hid (decide (turnB bs first (8 * B) pat 32 = bs) = true) := Lib.hid (by rw [hY]; simp)
      clear hY
      generalize turnB bs first (8 * B) pat 32 = Y at *
      go_wp2_with fail
      refine (script_dec_any _ (B + 4) (B + 4) Y _ (by exact HT.out) (by omega)).mono ?_
      rintro e w5 ⟨A5, c5, rfl, _, hO5⟩
      rw [HD.out]
      simp only [Option.getD_some, Option.isSome_some, if_true]
      have HT5 := Lib.hid (HT.out.keep0 hO5)
      have HB5 := Lib.hid (HB4.out.keep0 hO5)
      have HO5 := Lib.hid (HO4.out.trans' hO5)
      clear hO5 HT HB4 HO4
      go_wp2_with fail
      refine (equal_any (some ⟨g4, 0, none⟩) (B + 4) (B + 4) Y A2 (B + 4) c2 bs _ (by exact HT5.out) (by exact HB5.out)).mono ?_
      rintro e w6 ⟨rfl, k6, rfl⟩
      rw [HE.out]
      have HO6 := Lib.hid (HO5.out.drewN k6)
      go_wp2_with fail
      refine (awake30 _).mono ?_
      rintro e w7 ⟨rfl, hO7⟩
      have HO7 := Lib.hid (HO6.out.trans' hO7)
      go_wp2
      go_ret
      exact ⟨rfl, HO7.out⟩
    · have HD : Hid (decEvs (turnB bs first (8 * B) pat 32) = none) := Lib.hid (by
        have h9 := evs_turned (b := bs) (first := first) (pat := pat) (by rw [HLB.out]; omega) HCL.out (by rw [HLB.out]; exact hany)
        rwa [HLB.out] at h9)
      have HE : Hid (decide (turnB bs first (8 * B) pat 32 = bs) = false) := Lib.hid (decide_eq_false (turned_ne bs first B pat (by rw [HLB.out]; omega) hany))
      generalize turnB bs first (8 * B) pat 32 = Y at *
      go_wp2_with fail
      refine (script_dec_any _ (B + 4) (B + 4) Y _ (by exact HT.out) (by omega)).mono ?_
      rintro e w5 ⟨A5, c5, rfl, _, hO5⟩
      rw [HD.out]
      simp only [Option.getD_none, Option.isSome_none, Bool.false_eq_true, if_false, List.length_nil]
      have HT5 := Lib.hid (HT.out.keep0 hO5)
      have HB5 := Lib.hid (HB4.out.keep0 hO5)
      have HO5 := Lib.hid (HO4.out.trans' hO5)
      clear hO5 HT HB4 HO4
      go_wp2_with fail
      refine (equal_any (some ⟨g4, 0, none⟩) (B + 4) (B + 4) Y A2 (B + 4) c2 bs _ (by exact HT5.out) (by exact HB5.out)).mono ?_
      rintro e w6 ⟨rfl, k6, rfl⟩
      rw [HE.out]
      have HO6 := Lib.hid (HO5.out.drewN k6)
      go_wp2_with fail
      refine (awake30 _).mono ?_
      rintro e w7 ⟨rfl, hO7⟩
      have HO7 := Lib.hid (HO6.out.trans' hO7)
      go_wp2
      go_ret
      exact ⟨rfl, HO7.out⟩

theorem walk (a0 : Option Addr) (len0 cap0 : Nat) (l0 : List Ev) (a1 : Int) (a2 : Int) (w : World) (w0 : Evs w a0 len0 cap0 l0 ∧ ∀ e ∈ l0, WfE e) (w1 : (Lit.int .i64 a1).wf = true) (w2 : (Lit.int .u32 a2).wf = true) : Calls Try.prog 7 #[.slice a0 len0 cap0, .int .i64 a1, .int .u32 a2] w fun e w' => e = .returned (.bool true) ∧ Below w.heap.size w w' := by
  have hx : 0 ≤ a2 ∧ a2 ≤ 4294967295 := by simpa [Lit.wf, IntKind.min, IntKind.max, IntKind.signed, IntKind.bits] using w2
  obtain ⟨p, rfl⟩ : ∃ p : Nat, a2 = p := ⟨a2.toNat, by omega⟩
  refine (spoilt a0 len0 cap0 l0 a1 p w w0.1 w0.2 w1 (by omega)).mono ?_
  rintro e w' ⟨rfl, hO⟩
  exact ⟨rfl, hO.below0⟩

set_option maxRecDepth 100000 in
theorem lifted (os : Os) (started : os.Started) (H : Type) (enc : TypeId × Value → H) :
    ReturnsInHanded {} Try.checked os 7 .any (Rows.scriptSpoiltSpec.pre6 enc Try.prog Try.f7 Rows.scriptSpoiltRow.domain false) (Rows.scriptSpoiltSpec.post enc Try.prog Try.f7 false true false false) := by
  refine returnsInHanded_of_change (C := Try.checked) own started (by kernel_rfl) Try.func7
    (ChangeSpec.witness6 (enc := enc) (C := Try.checked) false ⟨#[], #[.slice none 0 0, .int .i64 0, .int .u32 0], []⟩ 8 (by kernel_rfl) (by kernel_rfl) (by kernel_rfl) (by kernel_rfl)) ?_
  intro W base args ds gs before hval0 hW hcnd _
  have hval : ∀ (j : Nat) t v, Try.f7.params[j]? = some t → args[j]? = some v → Value.okWide Try.prog W .any base t v := hval0
  have hW' := hW
  obtain ⟨p, q, hA0, hV, rfl, hfz, hnd⟩ := hW
  have hA : DataW.TrodAll enc Try.prog W 0 (fun _ => true) true Try.f7.params.toList args.toList ds p := hA0
  rw [Try.params7] at hA hval
  obtain ⟨v0, vs0, d0, ds0, p0, q0, hargs, rfl, rfl, h0, r0⟩ := trodAll_cons hA
  obtain ⟨v1, vs1, d1, ds1, p1, q1, rfl, rfl, rfl, h1, r1⟩ := trodAll_cons r0
  obtain ⟨v2, vs2, d2, ds2, p2, q2, rfl, rfl, rfl, h2, r2⟩ := trodAll_cons r1
  obtain ⟨rfl, rfl, rfl⟩ := trodAll_nil r2
  obtain rfl : args = #[v0, v1, v2] := by cases args; simp_all
  obtain ⟨rfl, rfl⟩ := trodVars_none hV
  obtain ⟨a0, len0, cap0, rfl⟩ := okWide_slice Try.underlying42 (hval 0 42 v0 rfl rfl)
  have k0 := h0
  have lt0 : ∀ x ∈ p0, x.block < W.heap.size := by obtain ⟨m, hm⟩ := k0; exact DataW.trod_lt m _ _ _ hm
  obtain ⟨l0, w0⟩ : ∃ l, Evs W a0 len0 cap0 l ∧ ∀ e ∈ l, WfE e := by
    obtain ⟨fuel, hf⟩ := h0
    exact open_events hf
  obtain ⟨a1, rfl, rfl, rfl, w1⟩ := open_int Try.underlying3 (hval 1 3 v1 rfl rfl) h1
  obtain ⟨a2, rfl, rfl, rfl, w2⟩ := open_int Try.underlying23 (hval 2 23 v2 rfl rfl) h2
  clear hA0 hval0
  refine (walk a0 len0 cap0 l0 a1 a2 W w0 w1 w2).mono fun e W' ⟨he, bel⟩ => ?_
  subst he
  exact ⟨_, rfl, _, _, _, [], _, [], hW', trodAll_mk1 (shut_bool Try.underlying4 _), (trodAll_cons_mk (Below.trod laidOut (by kernel_rfl) (of_decide_eq_true (by kernel_rfl)) k0 bel lt0) (trodAll_cons_mk (shut_int Try.underlying3 w1) (trodAll_cons_mk (shut_int Try.underlying23 w2) trodAll_mk0))), rfl, bel.frame _, fun h => by cases h⟩

set_option maxRecDepth 100000 in
theorem closed : joinedFacts Try.pinned.checked.prog 7 Try.f7 Rows.scriptSpoiltSpec Rows.scriptSpoiltRow = true := by
  show joinedFacts Try.prog 7 Try.f7 Rows.scriptSpoiltSpec Rows.scriptSpoiltRow = true
  unfold joinedFacts
  simp only [enter_may, enter_lifts, enter_make]
  kernel_rfl

theorem over : Rows.scriptSpoiltRow.holds Try.pinned (OpenSpec.ofChange Rows.scriptSpoiltSpec) :=
  OpenClaim.holds_of_wide 7 Try.f7 rfl rfl rfl rfl rfl rfl rfl ⟨rfl, rfl, rfl, rfl, rfl⟩ rfl rfl rfl rfl rfl (by kernel_rfl) Try.func7 closed
    (of_decide_eq_true (by kernel_rfl)) (by unfold Func.isWrapper; first | (rw [if_pos (by decide +kernel)]; kernel_rfl) | (rw [if_neg (by decide +kernel)]; exact ⟨rfl, rfl⟩))
    (fun os started H enc _ => lifted os started H enc)

theorem proved : Rows.ScriptSpoiltSaid := over

end Go.Proofs.Ytjmbhknokobnpaa.scriptSpoilt
