/- Claim PageTells. -/
import Derived.Test.YtcojleippbneoaaLaw10A
import Derived.Test.YtcojleippbneoaaFrame
set_option linter.unusedVariables false
namespace Go.Proofs.Ytcojleippbneoaa.pageTells
open Go Go.RowKit Go.Kn Go.ChangeShapes Go.WideShapes Go.ChangeAt

set_option maxRecDepth 100000 in
set_option maxHeartbeats 4000000 in
theorem tells (A : Option Addr) (n c : Nat) (zs : List Int) (B : Option Addr) (m d : Nat) (bs : List UInt8) (w : World) (hi : Ins w A n c zs) (hwf : ∀ z ∈ zs, (Lit.int .i64 z).wf = true) (hb : Bys w B m d bs) :
    Calls Try.prog 11 #[.slice A n c, .slice B m d] w fun e w' => e = .returned (.bool true) ∧ Only [] w w' := by
  have hcm := hi.cm
  have hcl := hi.le
  have hdm := hb.cm
  have hdl := hb.le
  unfold maxLen at hcm hdm
  have HI := Lib.hid hi
  have HBB := Lib.hid hb
  have HWF := Lib.hid hwf
  clear hi hb hwf
  by_cases hbig : n ≤ 40 ∧ m ≤ 200
  · obtain ⟨h40, h200⟩ := hbig
    have hd1 : decide (40 < (n : Int)) = false := by simp; omega
    have hd2 : decide (200 < (m : Int)) = false := by simp; omega
    go_enter Try.func11, Try.ntmps11
    go_wp2_with fail
    refine (page_enc_any A n c zs _ (by exact HI.out)).mono ?_
    rintro e w1 ⟨A1, c1, rfl, hb1, _, hO1⟩
    generalize hbs : (encPage zs).getD [] = xs at *
    generalize her : (if (encPage zs).isSome = true then (0 : Int) else 1) = er at *
    have HBS := Lib.hid hbs
    have HER := Lib.hid her
    have HB1 := Lib.hid hb1
    have HO1 := Lib.hid hO1
    clear hbs her hb1 hO1
    go_wp2_with fail
    refine (ref_page_bytes_any A n c zs _ (by exact HI.out.keep0 HO1.out) HWF.out).mono ?_
    rintro e w2 ⟨A2, c2, rfl, hb2, _, hO2⟩
    rw [HBS.out] at hb2
    rw [HBS.out, HER.out]
    have HB2 := Lib.hid hb2
    have HB12 := Lib.hid (HB1.out.keep0 hO2)
    have HO2 := Lib.hid (HO1.out.trans' hO2)
    clear hb2 hO2
    go_wp2_with fail
    refine (page_dec_any B m d bs _ (by exact HBB.out.keep0 HO2.out) (by omega)).mono ?_
    rintro e w3 ⟨A3, c3, rfl, hb3, hO3⟩
    generalize hls : (decPage bs).getD [] = ls at *
    generalize hes : (if (decPage bs).isSome = true then (0 : Int) else 2) = es at *
    have HLS := Lib.hid hls
    have HES := Lib.hid hes
    have HB3 := Lib.hid hb3
    have HB13 := Lib.hid (HB12.out.keep0 hO3)
    have HB23 := Lib.hid (HB2.out.keep0 hO3)
    have HO3 := Lib.hid (HO2.out.trans' hO3)
    clear hls hes hb3 hO3
    go_wp2_with fail
    refine (ref_page_of_any B m d bs _ (by exact HBB.out.keep0 HO3.out)).mono ?_
    rintro e w4 ⟨A4, c4, rfl, hb4, hO4⟩
    rw [HLS.out] at hb4
    rw [HLS.out, HES.out]
    have HB4 := Lib.hid hb4
    have HB14 := Lib.hid (HB13.out.keep0 hO4)
    have HB24 := Lib.hid (HB23.out.keep0 hO4)
    have HB34 := Lib.hid (HB3.out.keep0 hO4)
    have HO4 := Lib.hid (HO3.out.trans' hO4)
    clear hb4 hO4
    go_wp2_with fail
    refine (alike_bytes_any A1 xs.length c1 xs A2 xs.length c2 xs _ (by exact HB14.out) (by exact HB24.out)).mono ?_
    rintro e w5 ⟨rfl, k5, rfl⟩
    have hdd : decide (xs = xs) = true := by simp
    rw [hdd]
    clear hdd
    go_wp2_with fail
    refine (alike_ints_any A3 ls.length c3 ls A4 ls.length c4 ls _ (by exact HB34.out.drewN k5) (by exact HB4.out.drewN k5)).mono ?_
    rintro e w6 ⟨rfl, k6, rfl⟩
    have hdd : decide (ls = ls) = true := by simp
    rw [hdd]
    clear hdd
    have HO6 := Lib.hid ((HO4.out.drewN k5).drewN k6)
    rw [World.drewN_drewN] at HO6
    go_wp2_with fail
    refine (awake10 _).mono ?_
    rintro e w7 ⟨rfl, hO7⟩
    have HO7 := Lib.hid (HO6.out.trans' hO7)
    go_wp2
    go_ret
    exact ⟨rfl, HO7.out⟩
  · by_cases h40 : n ≤ 40
    · have hd1 : decide (40 < (n : Int)) = false := by simp; omega
      have hd2 : decide (200 < (m : Int)) = true := by simp; omega
      go_enter Try.func11, Try.ntmps11
      go_wp2_with fail
      refine (awake10 _).mono ?_
      rintro e w7 ⟨rfl, hO7⟩
      go_wp2
      go_ret
      exact ⟨rfl, hO7⟩
    · have hd1 : decide (40 < (n : Int)) = true := by simp; omega
      go_enter Try.func11, Try.ntmps11
      go_wp2_with fail
      refine (awake10 _).mono ?_
      rintro e w7 ⟨rfl, hO7⟩
      go_wp2
      go_ret
      exact ⟨rfl, hO7⟩

theorem walk (a0 : Option Addr) (len0 cap0 : Nat) (z0 : List Int) (a1 : Option Addr) (len1 cap1 : Nat) (z1 : List Int) (w : World) (w0 : IsRow .i64 w a0 len0 cap0 z0) (w1 : IsRow .u8 w a1 len1 cap1 z1) : Calls Try.prog 11 #[.slice a0 len0 cap0, .slice a1 len1 cap1] w fun e w' => e = .returned (.bool true) ∧ Below w.heap.size w w' := by
  obtain ⟨bs, hb⟩ := w1.bys
  refine (tells a0 len0 cap0 (z0.take len0) a1 len1 cap1 bs w w0.ins w0.wf hb).mono ?_
  rintro e w' ⟨rfl, hO⟩
  exact ⟨rfl, hO.below0⟩
-- FRAME: walk : (a0 : Option Addr) (len0 cap0 : Nat) (z0 : List Int) (a1 : Option Addr) (len1 cap1 : Nat) (z1 : List Int) (w : World) (w0 : IsRow .i64 w a0 len0 cap0 z0) (w1 : IsRow .u8 w a1 len1 cap1 z1) : Calls Try.prog 11 #[.slice a0 len0 cap0, .slice a1 len1 cap1] w fun e w' => e = .returned (.bool true) ∧ Below w.heap.size w w'

set_option maxRecDepth 100000 in
theorem lifted (os : Os) (started : os.Started) (H : Type) (enc : TypeId × Value → H) :
    ReturnsInHanded {} Try.checked os 11 .any (Rows.pageTellsSpec.pre6 enc Try.prog Try.f11 Rows.pageTellsRow.domain false) (Rows.pageTellsSpec.post enc Try.prog Try.f11 false true false false) := by
  refine returnsInHanded_of_change (C := Try.checked) own started (by kernel_rfl) Try.func11
    (ChangeSpec.witness6 (enc := enc) (C := Try.checked) false ⟨#[], #[.slice none 0 0, .slice none 0 0], []⟩ 8 (by kernel_rfl) (by kernel_rfl) (by kernel_rfl) (by kernel_rfl)) ?_
  intro W base args ds gs before hval0 hW hcnd _
  have hval : ∀ (j : Nat) t v, Try.f11.params[j]? = some t → args[j]? = some v → Value.okWide Try.prog W .any base t v := hval0
  have hW' := hW
  obtain ⟨p, q, hA0, hV, rfl, hfz, hnd⟩ := hW
  have hA : DataW.TrodAll enc Try.prog W 0 (fun _ => true) true Try.f11.params.toList args.toList ds p := hA0
  rw [Try.params11] at hA hval
  obtain ⟨v0, vs0, d0, ds0, p0, q0, hargs, rfl, rfl, h0, r0⟩ := trodAll_cons hA
  obtain ⟨v1, vs1, d1, ds1, p1, q1, rfl, rfl, rfl, h1, r1⟩ := trodAll_cons r0
  obtain ⟨rfl, rfl, rfl⟩ := trodAll_nil r1
  obtain rfl : args = #[v0, v1] := by cases args; simp_all
  obtain ⟨rfl, rfl⟩ := trodVars_none hV
  obtain ⟨a0, len0, cap0, rfl⟩ := okWide_slice Try.underlying22 (hval 0 22 v0 rfl rfl)
  have k0 := h0
  have lt0 : ∀ x ∈ p0, x.block < W.heap.size := by obtain ⟨m, hm⟩ := k0; exact DataW.trod_lt m _ _ _ hm
  obtain ⟨z0, w0⟩ : ∃ zs, IsRow .i64 W a0 len0 cap0 zs := by
    obtain ⟨fuel, hf⟩ := h0
    rcases open_ints Try.underlying22 Try.underlying3 (by kernel_rfl) hf with ⟨hcs, _⟩ | ⟨x, l, c, zs, hcs, _, hl, hm, hz, _, hcell, hwz⟩
    · simp [Value.cells] at hcs
      obtain ⟨rfl, rfl, rfl⟩ := hcs
      exact ⟨[], .inl ⟨rfl, rfl, rfl, rfl⟩⟩
    · simp [Value.cells] at hcs
      obtain ⟨rfl, rfl, rfl⟩ := hcs
      exact ⟨zs, .inr ⟨_, rfl, hl, hm, by simpa using hz, hcell, hwz⟩⟩
  obtain ⟨a1, len1, cap1, rfl⟩ := okWide_slice Try.underlying29 (hval 1 29 v1 rfl rfl)
  have k1 := h1
  have lt1 : ∀ x ∈ p1, x.block < W.heap.size := by obtain ⟨m, hm⟩ := k1; exact DataW.trod_lt m _ _ _ hm
  obtain ⟨z1, w1⟩ : ∃ zs, IsRow .u8 W a1 len1 cap1 zs := by
    obtain ⟨fuel, hf⟩ := h1
    rcases open_ints Try.underlying29 Try.underlying5 (by kernel_rfl) hf with ⟨hcs, _⟩ | ⟨x, l, c, zs, hcs, _, hl, hm, hz, _, hcell, hwz⟩
    · simp [Value.cells] at hcs
      obtain ⟨rfl, rfl, rfl⟩ := hcs
      exact ⟨[], .inl ⟨rfl, rfl, rfl, rfl⟩⟩
    · simp [Value.cells] at hcs
      obtain ⟨rfl, rfl, rfl⟩ := hcs
      exact ⟨zs, .inr ⟨_, rfl, hl, hm, by simpa using hz, hcell, hwz⟩⟩
  clear hA0 hval0
  refine (walk a0 len0 cap0 z0 a1 len1 cap1 z1 W w0 w1).mono fun e W' ⟨he, bel⟩ => ?_
  subst he
  exact ⟨_, rfl, _, _, _, [], _, [], hW', trodAll_mk1 (shut_bool Try.underlying4 _), (trodAll_cons_mk (Below.trod laidOut (by kernel_rfl) (of_decide_eq_true (by kernel_rfl)) k0 bel lt0) (trodAll_cons_mk (Below.trod laidOut (by kernel_rfl) (of_decide_eq_true (by kernel_rfl)) k1 bel lt1) trodAll_mk0)), rfl, bel.frame _, fun h => by cases h⟩

theorem over : Rows.pageTellsRow.holds Try.pinned (OpenSpec.ofChange Rows.pageTellsSpec) :=
  OpenClaim.holds_of_wide 11 Try.f11 rfl rfl rfl rfl rfl rfl rfl ⟨rfl, rfl, rfl, rfl, rfl⟩ rfl rfl rfl rfl rfl (by kernel_rfl) Try.func11 (by kernel_rfl)
    (of_decide_eq_true (by kernel_rfl)) (by unfold Func.isWrapper; first | (rw [if_pos (by decide +kernel)]; kernel_rfl) | (rw [if_neg (by decide +kernel)]; exact ⟨rfl, rfl⟩))
    (fun os started H enc _ => lifted os started H enc)

theorem proved : Rows.PageTellsSaid := over

end Go.Proofs.Ytcojleippbneoaa.pageTells
