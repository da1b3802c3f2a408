/- Claim ItemTells. -/
import Derived.Test.YtcojleippbneoaaLaw6A
import Derived.Test.YtcojleippbneoaaFrameI
import Derived.Deep.RegionHeld3
set_option linter.unusedVariables false
namespace Go.Proofs.Ytcojleippbneoaa.itemTells
open Go Go.RowKit Go.Kn Go.ChangeShapes Go.WideShapes Go.ChangeAt

set_option maxRecDepth 100000 in
set_option maxHeartbeats 4000000 in
theorem tells (A : Option Addr) (n c : Nat) (l : List It) (w : World) (hi : Its w A n c l) (hle : n ≤ c) (hcm : c ≤ maxLen) (hlen : l.length = n) :
    Calls Try.prog 7 #[.slice A n c] w fun e w' => e = .returned (.bool true) ∧ Only [] w w' := by
  unfold maxLen at hcm
  have HI := Lib.hid hi
  have HL := Lib.hid hlen
  clear hi hlen
  by_cases h20 : n ≤ 20
  · have hd20 : decide (20 < (n : Int)) = false := by simp; omega
    go_enter Try.func7, Try.ntmps7
    go_wp2_with fail
    go_loopg [3] n (fun r i wr => ∃ j : Nat, j + r = n ∧ i = .int .i64 j ∧ Only [] w wr)
    case atStart => exact ⟨0, by omega, rfl, Only.refl _ _⟩
    obtain ⟨j, hj, rfl, hO⟩ := hrel
    have HO := Lib.hid hO
    clear hO
    by_cases hlt : j < n
    · have hjz : j < l.length := by rw [HL.out]; exact hlt
      obtain ⟨a, o, rfl, hc⟩ := HI.out.at_ (by omega)
      obtain ⟨q0, q1, q2, q3⟩ := hc j hjz
      have c0 := HO.out.cell q0 (by simp)
      have c1 := HO.out.cell q1 (by simp)
      have c2 := HO.out.cell q2 (by simp)
      have c3 := HO.out.cell q3 (by simp)
      clear hc q0 q1 q2 q3
      generalize l[j].k = ik at *
      generalize l[j].b = ib at *
      generalize l[j].c = ic at *
      generalize l[j].v = iv at *
      generalize hmm : It.may ⟨ik, ib, ic, iv⟩ = mm
      generalize hml : It.loaded ⟨ik, ib, ic, iv⟩ = ml
      have HM := Lib.hid hmm
      have HML := Lib.hid hml
      clear hmm hml
      have hn1 : (mm != mm) = false := by simp
      have hn2 : (ml != ml) = false := by simp
      have hlt2 : (j : Int) < (n : Int) := by omega
      have hge : 0 ≤ (j : Int) := by omega
      have htn : ((j : Int)).toNat = j := by omega
      go_wp2_with fail
      go_region_held3 (fun w' => w'.cell? ⟨a, o + j * 4, none⟩ = some (.int .i64 ik) ∧ w'.cell? ⟨a, o + j * 4 + 1, none⟩ = some (.int .i64 ib) ∧ w'.cell? ⟨a, o + j * 4 + 2, none⟩ = some (.int .i64 ic) ∧ w'.cell? ⟨a, o + j * 4 + 3, none⟩ = some (.int .i64 iv))
        (first | exact ⟨c0, c1, c2, c3⟩ | exact ⟨d0, d1, d2, d3⟩ | exact ⟨e0, e1, e2, e3⟩ | exact ⟨f0, f1, f2, f3⟩ | exact ⟨g0, g1, g2, g3⟩)
        (first
        | (go_at_call 37; refine (item_may_any ik ib ic iv _).mono ?_
           rintro e w3 ⟨rfl, hO3⟩
           rw [HM.out]
           have hO3' := ((Only.refl [] wr).drew).trans' hO3
           have d0 := hO3'.cell c0 (by simp)
           have d1 := hO3'.cell c1 (by simp)
           have d2 := hO3'.cell c2 (by simp)
           have d3 := hO3'.cell c3 (by simp)
           have HO3 := Lib.hid hO3'
           clear hO3 hO3')
        | (go_at_call 38; refine (ref_item_may_any ik ib ic iv _).mono ?_
           rintro e w4 ⟨rfl, hO4⟩
           rw [HM.out]
           have e0 := hO4.cell d0 (by simp)
           have e1 := hO4.cell d1 (by simp)
           have e2 := hO4.cell d2 (by simp)
           have e3 := hO4.cell d3 (by simp)
           have HO4 := Lib.hid (HO3.out.trans' hO4)
           clear hO4)
        | (go_at_call 39; refine (item_loaded_any ik ib ic iv _).mono ?_
           rintro e w5 ⟨rfl, hO5⟩
           rw [HML.out]
           have f0 := hO5.cell e0 (by simp)
           have f1 := hO5.cell e1 (by simp)
           have f2 := hO5.cell e2 (by simp)
           have f3 := hO5.cell e3 (by simp)
           have HO5 := Lib.hid (HO4.out.trans' hO5)
           clear hO5)
        | (go_at_call 40; refine (ref_item_loaded_any ik ib ic iv _).mono ?_
           rintro e w6 ⟨rfl, hO6⟩
           rw [HML.out]
           have g0 := hO6.cell f0 (by simp)
           have g1 := hO6.cell f1 (by simp)
           have g2 := hO6.cell f2 (by simp)
           have g3 := hO6.cell f3 (by simp)
           have HO6 := Lib.hid (HO5.out.trans' hO6)
           clear hO6))
      go_wp2
      go_roundg (gk - 1)
      case measure => omega
      case rel => exact ⟨j + 1, by omega, by go_num, HO.out.trans' HO6.out⟩
    · obtain rfl : j = n := by omega
      go_wp2_with fail
      refine (item_enc_any A j c l _ (by exact HI.out.keep0 HO.out)).mono ?_
      rintro e w3 ⟨A3, c3, rfl, hb3, hn3, hO3⟩
      generalize hbs : (encItems l).getD [] = bs at *
      generalize her : (if (encItems l).isSome = true then (0 : Int) else 1) = er at *
      have HBS := Lib.hid hbs
      have HER := Lib.hid her
      clear hbs her
      have HO3 := Lib.hid (HO.out.trans' hO3)
      have HB3 := Lib.hid hb3
      clear hO3 hb3 hn3
      go_wp2_with fail
      refine (ref_item_enc_any A j c l _ (by exact HI.out.keep0 HO3.out)).mono ?_
      rintro e w4 ⟨A4, c4, rfl, hb4, hn4, hO4⟩
      rw [HBS.out] at hb4
      rw [HBS.out, HER.out]
      have HO4 := Lib.hid (HO3.out.trans' hO4)
      have HB4 := Lib.hid hb4
      have HB34 := Lib.hid (HB3.out.keep0 hO4)
      clear hO4 hb4 hn4
      go_wp2_with fail
      refine (alike_bytes_any A3 bs.length c3 bs A4 bs.length c4 bs _ (by exact HB34.out) (by exact HB4.out)).mono ?_
      rintro e w5 ⟨rfl, k5, rfl⟩
      have hdd : decide (bs = bs) = true := by simp
      rw [hdd]
      clear hdd
      go_wp2_with fail
      refine (awake6 _).mono ?_
      rintro e w6 ⟨rfl, hO6⟩
      have HO6 := Lib.hid ((HO4.out.drewN k5).trans' hO6)
      go_wp2
      go_ret
      exact ⟨rfl, HO6.out⟩
  · have hd20 : decide (20 < (n : Int)) = true := by simp; omega
    go_enter Try.func7, Try.ntmps7
    go_wp2_with fail
    refine (awake6 _).mono ?_
    rintro e w6 ⟨rfl, hO6⟩
    go_wp2
    go_ret
    exact ⟨rfl, hO6⟩

theorem walk (a0 : Option Addr) (len0 cap0 : Nat) (l0 : List It) (w : World) (w0 : Its w a0 len0 cap0 l0) : Calls Try.prog 7 #[.slice a0 len0 cap0] w fun e w' => e = .returned (.bool true) ∧ Below w.heap.size w w' := by
  refine (tells a0 len0 cap0 l0 w w0 w0.le w0.cm w0.len).mono ?_
  rintro e w' ⟨rfl, hO⟩
  exact ⟨rfl, hO.below0⟩
-- FRAME: walk : (a0 : Option Addr) (len0 cap0 : Nat) (l0 : List It) (w : World) (w0 : Its w a0 len0 cap0 l0) : Calls Try.prog 7 #[.slice a0 len0 cap0] w fun e w' => e = .returned (.bool true) ∧ Below w.heap.size w w'

set_option maxRecDepth 100000 in
theorem lifted (os : Os) (started : os.Started) (H : Type) (enc : TypeId × Value → H) :
    ReturnsInHanded {} Try.checked os 7 .any (Rows.itemTellsSpec.pre6 enc Try.prog Try.f7 Rows.itemTellsRow.domain false) (Rows.itemTellsSpec.post enc Try.prog Try.f7 false true false false) := by
  refine returnsInHanded_of_change (C := Try.checked) own started (by kernel_rfl) Try.func7
    (ChangeSpec.witness6 (enc := enc) (C := Try.checked) false ⟨#[], #[.slice none 0 0], []⟩ 8 (by kernel_rfl) (by kernel_rfl) (by kernel_rfl) (by kernel_rfl)) ?_
  intro W base args ds gs before hval0 hW hcnd _
  have hval : ∀ (j : Nat) t v, Try.f7.params[j]? = some t → args[j]? = some v → Value.okWide Try.prog W .any base t v := hval0
  have hW' := hW
  obtain ⟨p, q, hA0, hV, rfl, hfz, hnd⟩ := hW
  have hA : DataW.TrodAll enc Try.prog W 0 (fun _ => true) true Try.f7.params.toList args.toList ds p := hA0
  rw [Try.params7] at hA hval
  obtain ⟨v0, vs0, d0, ds0, p0, q0, hargs, rfl, rfl, h0, r0⟩ := trodAll_cons hA
  obtain ⟨rfl, rfl, rfl⟩ := trodAll_nil r0
  obtain rfl : args = #[v0] := by cases args; simp_all
  obtain ⟨rfl, rfl⟩ := trodVars_none hV
  obtain ⟨a0, len0, cap0, rfl⟩ := okWide_slice Try.underlying50 (hval 0 50 v0 rfl rfl)
  have k0 := h0
  have lt0 : ∀ x ∈ p0, x.block < W.heap.size := by obtain ⟨m, hm⟩ := k0; exact DataW.trod_lt m _ _ _ hm
  obtain ⟨l0, w0⟩ : ∃ l, Its W a0 len0 cap0 l := by
    obtain ⟨fuel, hf⟩ := h0
    exact open_items hf
  clear hA0 hval0
  refine (walk a0 len0 cap0 l0 W w0).mono fun e W' ⟨he, bel⟩ => ?_
  subst he
  exact ⟨_, rfl, _, _, _, [], _, [], hW', trodAll_mk1 (shut_bool Try.underlying4 _), (trodAll_cons_mk (Below.trod laidOut (by kernel_rfl) (of_decide_eq_true (by kernel_rfl)) k0 bel lt0) trodAll_mk0), rfl, bel.frame _, fun h => by cases h⟩

theorem over : Rows.itemTellsRow.holds Try.pinned (OpenSpec.ofChange Rows.itemTellsSpec) :=
  OpenClaim.holds_of_wide 7 Try.f7 rfl rfl rfl rfl rfl rfl rfl ⟨rfl, rfl, rfl, rfl, rfl⟩ rfl rfl rfl rfl rfl (by kernel_rfl) Try.func7 (by kernel_rfl)
    (of_decide_eq_true (by kernel_rfl)) (by unfold Func.isWrapper; first | (rw [if_pos (by decide +kernel)]; kernel_rfl) | (rw [if_neg (by decide +kernel)]; exact ⟨rfl, rfl⟩))
    (fun os started H enc _ => lifted os started H enc)

theorem proved : Rows.ItemTellsSaid := over

end Go.Proofs.Ytcojleippbneoaa.itemTells
