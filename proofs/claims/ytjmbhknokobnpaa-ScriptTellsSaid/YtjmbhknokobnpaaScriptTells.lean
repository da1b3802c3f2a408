/- Claim ScriptTells. -/
import Derived.Test.YtjmbhknokobnpaaEnter
import Derived.Test.YtjmbhknokobnpaaLaw30A
import Derived.Test.YtjmbhknokobnpaaFrameE
import Derived.Deep.RegionHeld3
set_option linter.unusedVariables false
set_option linter.unusedSimpArgs false
namespace Go.Proofs.Ytjmbhknokobnpaa.scriptTells
open Go Go.RowKit Go.Kn Go.ChangeShapes Go.WideShapes Go.ChangeAt

set_option maxRecDepth 100000 in
set_option maxHeartbeats 8000000 in
theorem tells (A : Option Addr) (n c : Nat) (l : List Ev) (B : Option Addr) (m d : Nat) (bs : List UInt8) (w : World) (hi : Evs w A n c l) (hb : Bys w B m d bs) :
    Calls Try.prog 5 #[.slice A n c, .slice B m d] w fun e w' => e = .returned (.bool true) ∧ Only [] w w' := by
  have hlen := hi.len
  have hcm := hi.cm
  have hcl := hi.le
  have hbl := hb.len
  have hbc := hb.le
  have hbm := hb.cm
  unfold maxLen at hcm hbm
  have HI := Lib.hid hi
  have HB := Lib.hid hb
  have HL := Lib.hid hlen
  clear hi hlen hb
  cases hf : fewB l with
  | false =>
    have HF := Lib.hid hf
    clear hf
    go_enter Try.func5, Try.ntmps5
    go_wp2_with fail
    refine (few_any A n c l _ (by exact HI.out)).mono ?_
    rintro e w1 ⟨rfl, rfl⟩
    rw [HF.out]
    go_wp2_with fail
    refine (awake30 _).mono ?_
    rintro e w6 ⟨rfl, hO6⟩
    go_wp2
    go_ret
    exact ⟨rfl, hO6⟩
  | true =>
    have HF := Lib.hid hf
    clear hf
    by_cases h50 : 5000 < m
    · go_enter Try.func5, Try.ntmps5
      go_wp2_with fail
      refine (few_any A n c l _ (by exact HI.out)).mono ?_
      rintro e w1 ⟨rfl, rfl⟩
      rw [HF.out]
      go_wp2_with fail
      refine (awake30 _).mono ?_
      rintro e w6 ⟨rfl, hO6⟩
      go_wp2
      go_ret
      exact ⟨rfl, hO6⟩
    · go_enter Try.func5, Try.ntmps5
      go_wp2_with fail
      refine (few_any A n c l _ (by exact HI.out)).mono ?_
      rintro e w1 ⟨rfl, rfl⟩
      rw [HF.out]
      go_wp2_with fail
      refine (script_enc_any A n c l _ (by exact HI.out)).mono ?_
      rintro e w3 ⟨A3, c3, rfl, hb3, hn3, hO3⟩
      generalize hbs : (encEvs l).getD [] = xs at *
      generalize her : (if (encEvs l).isSome = true then (0 : Int) else 1) = er at *
      have HBS := Lib.hid hbs
      have HER := Lib.hid her
      have HO3 := Lib.hid hO3
      have HB3 := Lib.hid hb3
      clear hO3 hb3 hn3 hbs her
      go_wp2_with fail
      refine (ref_script_enc_any A n c l _ (by exact HI.out.keep0 HO3.out)).mono ?_
      rintro e w4 ⟨A4, c4, rfl, hb4, hn4, hO4⟩
      rw [HBS.out] at hb4
      rw [HBS.out, HER.out]
      have HB34 := Lib.hid (HB3.out.keep0 hO4)
      have HO4 := Lib.hid (HO3.out.trans' hO4)
      have HB4 := Lib.hid hb4
      clear hO4 hb4 hn4 HB3 HO3
      go_wp2_with fail
      refine (script_dec_any B m d bs _ (by exact HB.out.keep0 HO4.out) (by omega)).mono ?_
      rintro e w5 ⟨A5, c5, rfl, hb5, hO5⟩
      generalize hbs : (decEvs bs).getD [] = ys at *
      generalize her : (if (decEvs bs).isSome = true then (0 : Int) else 2) = es at *
      have HYS := Lib.hid hbs
      have HES := Lib.hid her
      have HB35 := Lib.hid (HB34.out.keep0 hO5)
      have HB45 := Lib.hid (HB4.out.keep0 hO5)
      have HO5 := Lib.hid (HO4.out.trans' hO5)
      have HB5 := Lib.hid hb5
      clear hO5 hb5 hbs her HB34 HB4 HO4
      go_wp2_with fail
      refine (ref_script_dec_any B m d bs _ (by exact HB.out.keep0 HO5.out)).mono ?_
      rintro e w6 ⟨A6, c6, rfl, hb6, hO6⟩
      rw [HYS.out] at hb6
      rw [HYS.out, HES.out]
      have HB36 := Lib.hid (HB35.out.keep0 hO6)
      have HB46 := Lib.hid (HB45.out.keep0 hO6)
      have HB56 := Lib.hid (HB5.out.keep0 hO6)
      have HO6 := Lib.hid (HO5.out.trans' hO6)
      have HB6 := Lib.hid hb6
      have HM : Hid (∀ e ∈ l, Ev.may e = Ev.may e) := Lib.hid (fun _ _ => rfl)
      clear hO6 hb6 HB35 HB45 HB5 HO5
      go_wp2_with fail
      go_loopg [13] n (fun r i wr => ∃ j : Nat, j + r = n ∧ i = .int .i64 j ∧ Only [] w6 wr)
      case atStart => exact ⟨0, by omega, rfl, Only.refl _ _⟩
      obtain ⟨j, hj, rfl, hO⟩ := hrel
      have HO := Lib.hid hO
      clear hO
      by_cases hlt : j < n
      · have hjz : j < l.length := by rw [HL.out]; exact hlt
        obtain ⟨a, o, rfl, hc⟩ := HI.out.at_ (by omega)
        obtain ⟨q0, q1, q2, q3, PB, pm, pd, q4, hps⟩ := hc j hjz
        have hO7 := HO6.out.trans' HO.out
        have c0 := hO7.cell q0 (by simp)
        have c1 := hO7.cell q1 (by simp)
        have c2 := hO7.cell q2 (by simp)
        have c3 := hO7.cell q3 (by simp)
        have c4 := hO7.cell q4 (by simp)
        have HPS := Lib.hid (hps.keep0 hO7)
        clear hc q0 q1 q2 q3 q4 hps hO7
        generalize l[j].k = ik at *
        generalize l[j].a = ia at *
        generalize l[j].b = ib at *
        generalize l[j].y = iy at *
        generalize l[j].ps = ip at *
        generalize hmm : Ev.may ⟨ik, ia, ib, iy, ip⟩ = mm
        have HMM := Lib.hid hmm
        clear hmm
        have hn1 : (mm != mm) = false := by simp
        have hlt2 : (j : Int) < (n : Int) := by omega
        have hge : 0 ≤ (j : Int) := by omega
        have htn : ((j : Int)).toNat = j := by omega
        go_wp2_with fail
        go_region_held3 (fun w' => w'.cell? ⟨a, o + j * 5, none⟩ = some (.int .i64 ik) ∧ w'.cell? ⟨a, o + j * 5 + 1, none⟩ = some (.int .i64 ia) ∧ w'.cell? ⟨a, o + j * 5 + 2, none⟩ = some (.int .i64 ib) ∧ w'.cell? ⟨a, o + j * 5 + 3, none⟩ = some (.int .i64 iy) ∧ w'.cell? ⟨a, o + j * 5 + 4, none⟩ = some (.slice PB pm pd))
          (first | exact ⟨c0, c1, c2, c3, c4⟩ | exact ⟨d0, d1, d2, d3, d4⟩ | exact ⟨e0, e1, e2, e3, e4⟩)
          (first
          | (go_at_call 35; refine (script_may_any ik ia ib iy PB pm pd ip _ (by exact HPS.out.drew)).mono ?_
             rintro e v3 ⟨rfl, hO3⟩
             rw [HMM.out]
             have hO3' := ((Only.refl [] wr).drew).trans' hO3
             have d0 := hO3'.cell c0 (by simp)
             have d1 := hO3'.cell c1 (by simp)
             have d2 := hO3'.cell c2 (by simp)
             have d3 := hO3'.cell c3 (by simp)
             have d4 := hO3'.cell c4 (by simp)
             have HPS3 := Lib.hid (HPS.out.keep0 hO3')
             have HV3 := Lib.hid hO3'
             clear hO3 hO3')
          | (go_at_call 36; refine (ref_event_may_any ik ia ib iy PB pm pd ip _ (by exact HPS3.out)).mono ?_
             rintro e v4 ⟨rfl, hO4⟩
             rw [HMM.out]
             have e0 := hO4.cell d0 (by simp)
             have e1 := hO4.cell d1 (by simp)
             have e2 := hO4.cell d2 (by simp)
             have e3 := hO4.cell d3 (by simp)
             have e4 := hO4.cell d4 (by simp)
             have HV4 := Lib.hid (HV3.out.trans' hO4)
             clear hO4))
        go_wp2
        go_roundg (gk - 1)
        case measure => omega
        case rel => exact ⟨j + 1, by omega, by go_num, HO.out.trans' HV4.out⟩
      · obtain rfl : j = n := by omega
        have HX1 := Lib.hid (HB36.out.keep0 HO.out)
        have HX2 := Lib.hid (HB46.out.keep0 HO.out)
        have HX3 := Lib.hid (HB56.out.keep0 HO.out)
        have HX4 := Lib.hid (HB6.out.keep0 HO.out)
        have HO7 := Lib.hid (HO6.out.trans' HO.out)
        clear HB36 HB46 HB56 HB6 HO6 HO
        have hee : (er == er) = true := by simp
        have hes : (es == es) = true := by simp
        go_wp2_with fail
        refine (alike_bytes_any A3 xs.length c3 xs A4 xs.length c4 xs _ (by exact HX1.out) (by exact HX2.out)).mono ?_
        rintro e v5 ⟨rfl, k5, rfl⟩
        have hdd : decide (xs = xs) = true := by simp
        rw [hdd]
        clear hdd
        go_wp2_with fail
        refine (alike_events_any A5 ys.length c5 ys A6 ys.length c6 ys _ (by exact HX3.out.keep0 ((Only.refl _ _).drewN _)) (by exact HX4.out.keep0 ((Only.refl _ _).drewN _))).mono ?_
        rintro e v6 ⟨rfl, k6, rfl⟩
        have hdd : decide (ys = ys) = true := by simp
        rw [hdd]
        clear hdd
        go_wp2_with fail
        refine (awake30 _).mono ?_
        rintro e v7 ⟨rfl, hO7⟩
        have HO8 := Lib.hid ((HO7.out.drewN (k5 + k6)).trans' hO7)
        go_wp2
        go_ret
        exact ⟨rfl, HO8.out⟩

theorem walk (a0 : Option Addr) (len0 cap0 : Nat) (l0 : List Ev) (a1 : Option Addr) (len1 cap1 : Nat) (z1 : List Int) (w : World) (w0 : Evs w a0 len0 cap0 l0 ∧ ∀ e ∈ l0, WfE e) (w1 : IsRow .u8 w a1 len1 cap1 z1) : Calls Try.prog 5 #[.slice a0 len0 cap0, .slice a1 len1 cap1] w fun e w' => e = .returned (.bool true) ∧ Below w.heap.size w w' := by
  obtain ⟨bs, hb⟩ := w1.bys
  refine (tells a0 len0 cap0 l0 a1 len1 cap1 bs w w0.1 hb).mono ?_
  rintro e w' ⟨rfl, hO⟩
  exact ⟨rfl, hO.below0⟩

set_option maxRecDepth 100000 in
theorem lifted (os : Os) (started : os.Started) (H : Type) (enc : TypeId × Value → H) :
    ReturnsInHanded {} Try.checked os 5 .any (Rows.scriptTellsSpec.pre6 enc Try.prog Try.f5 Rows.scriptTellsRow.domain false) (Rows.scriptTellsSpec.post enc Try.prog Try.f5 false true false false) := by
  refine returnsInHanded_of_change (C := Try.checked) own started (by kernel_rfl) Try.func5
    (ChangeSpec.witness6 (enc := enc) (C := Try.checked) false ⟨#[], #[.slice none 0 0, .slice none 0 0], []⟩ 8 (by kernel_rfl) (by kernel_rfl) (by kernel_rfl) (by kernel_rfl)) ?_
  intro W base args ds gs before hval0 hW hcnd _
  have hval : ∀ (j : Nat) t v, Try.f5.params[j]? = some t → args[j]? = some v → Value.okWide Try.prog W .any base t v := hval0
  have hW' := hW
  obtain ⟨p, q, hA0, hV, rfl, hfz, hnd⟩ := hW
  have hA : DataW.TrodAll enc Try.prog W 0 (fun _ => true) true Try.f5.params.toList args.toList ds p := hA0
  rw [Try.params5] at hA hval
  obtain ⟨v0, vs0, d0, ds0, p0, q0, hargs, rfl, rfl, h0, r0⟩ := trodAll_cons hA
  obtain ⟨v1, vs1, d1, ds1, p1, q1, rfl, rfl, rfl, h1, r1⟩ := trodAll_cons r0
  obtain ⟨rfl, rfl, rfl⟩ := trodAll_nil r1
  obtain rfl : args = #[v0, v1] := by cases args; simp_all
  obtain ⟨rfl, rfl⟩ := trodVars_none hV
  obtain ⟨a0, len0, cap0, rfl⟩ := okWide_slice Try.underlying42 (hval 0 42 v0 rfl rfl)
  have k0 := h0
  have lt0 : ∀ x ∈ p0, x.block < W.heap.size := by obtain ⟨m, hm⟩ := k0; exact DataW.trod_lt m _ _ _ hm
  obtain ⟨l0, w0⟩ : ∃ l, Evs W a0 len0 cap0 l ∧ ∀ e ∈ l, WfE e := by
    obtain ⟨fuel, hf⟩ := h0
    exact open_events hf
  obtain ⟨a1, len1, cap1, rfl⟩ := okWide_slice Try.underlying24 (hval 1 24 v1 rfl rfl)
  have k1 := h1
  have lt1 : ∀ x ∈ p1, x.block < W.heap.size := by obtain ⟨m, hm⟩ := k1; exact DataW.trod_lt m _ _ _ hm
  obtain ⟨z1, w1⟩ : ∃ zs, IsRow .u8 W a1 len1 cap1 zs := by
    obtain ⟨fuel, hf⟩ := h1
    rcases open_ints Try.underlying24 Try.underlying5 (by kernel_rfl) hf with ⟨hcs, _⟩ | ⟨x, l, c, zs, hcs, _, hl, hm, hz, _, hcell, hwz⟩
    · simp [Value.cells] at hcs
      obtain ⟨rfl, rfl, rfl⟩ := hcs
      exact ⟨[], .inl ⟨rfl, rfl, rfl, rfl⟩⟩
    · simp [Value.cells] at hcs
      obtain ⟨rfl, rfl, rfl⟩ := hcs
      exact ⟨zs, .inr ⟨_, rfl, hl, hm, by simpa using hz, hcell, hwz⟩⟩
  clear hA0 hval0
  refine (walk a0 len0 cap0 l0 a1 len1 cap1 z1 W w0 w1).mono fun e W' ⟨he, bel⟩ => ?_
  subst he
  exact ⟨_, rfl, _, _, _, [], _, [], hW', trodAll_mk1 (shut_bool Try.underlying4 _), (trodAll_cons_mk (Below.trod laidOut (by kernel_rfl) (of_decide_eq_true (by kernel_rfl)) k0 bel lt0) (trodAll_cons_mk (Below.trod laidOut (by kernel_rfl) (of_decide_eq_true (by kernel_rfl)) k1 bel lt1) trodAll_mk0)), rfl, bel.frame _, fun h => by cases h⟩

set_option maxRecDepth 100000 in
theorem closed : joinedFacts Try.pinned.checked.prog 5 Try.f5 Rows.scriptTellsSpec Rows.scriptTellsRow = true := by
  show joinedFacts Try.prog 5 Try.f5 Rows.scriptTellsSpec Rows.scriptTellsRow = true
  unfold joinedFacts
  simp only [enter_may, enter_lifts, enter_make]
  kernel_rfl

theorem over : Rows.scriptTellsRow.holds Try.pinned (OpenSpec.ofChange Rows.scriptTellsSpec) :=
  OpenClaim.holds_of_wide 5 Try.f5 rfl rfl rfl rfl rfl rfl rfl ⟨rfl, rfl, rfl, rfl, rfl⟩ rfl rfl rfl rfl rfl (by kernel_rfl) Try.func5 closed
    (of_decide_eq_true (by kernel_rfl)) (by unfold Func.isWrapper; first | (rw [if_pos (by decide +kernel)]; kernel_rfl) | (rw [if_neg (by decide +kernel)]; exact ⟨rfl, rfl⟩))
    (fun os started H enc _ => lifted os started H enc)

theorem proved : Rows.ScriptTellsSaid := over

end Go.Proofs.Ytjmbhknokobnpaa.scriptTells
