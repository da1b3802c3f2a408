/- Claim SuperTells. -/
import Derived.Test.YtcojleippbneoaaLaw5B
import Derived.Test.YtcojleippbneoaaSuperR
import Derived.Test.YtcojleippbneoaaFrameU
import Derived.Deep.RegionHeld3
set_option linter.unusedVariables false
namespace Go.Kn
open Go Go.RowKit
theorem cells15 {w : World} {b2 b9 b11 : Nat} {k0 k1 k2 k3 k4 z0 z1 z2 z3 z4 : Value} (h : Boxes w [(b11, [z0, z1, z2, z3, z4]), (b9, [z0, z1, z2, z3, z4]), (b2, [k0, k1, k2, k3, k4])]) :
    w.cell? ⟨b2, 0, none⟩ = some k0 ∧ w.cell? ⟨b2, 1, none⟩ = some k1 ∧ w.cell? ⟨b2, 2, none⟩ = some k2 ∧ w.cell? ⟨b2, 3, none⟩ = some k3 ∧ w.cell? ⟨b2, 4, none⟩ = some k4 ∧
    w.cell? ⟨b9, 0, none⟩ = some z0 ∧ w.cell? ⟨b9, 1, none⟩ = some z1 ∧ w.cell? ⟨b9, 2, none⟩ = some z2 ∧ w.cell? ⟨b9, 3, none⟩ = some z3 ∧ w.cell? ⟨b9, 4, none⟩ = some z4 ∧
    w.cell? ⟨b11, 0, none⟩ = some z0 ∧ w.cell? ⟨b11, 1, none⟩ = some z1 ∧ w.cell? ⟨b11, 2, none⟩ = some z2 ∧ w.cell? ⟨b11, 3, none⟩ = some z3 ∧ w.cell? ⟨b11, 4, none⟩ = some z4 := by
  obtain ⟨a0, a1, a2, a3, a4, _⟩ := h.at5 (b := b11) (a0 := z0) (a1 := z1) (a2 := z2) (a3 := z3) (a4 := z4) (by simp)
  obtain ⟨c0, c1, c2, c3, c4, _⟩ := h.at5 (b := b9) (a0 := z0) (a1 := z1) (a2 := z2) (a3 := z3) (a4 := z4) (by simp)
  obtain ⟨d0, d1, d2, d3, d4, _⟩ := h.at5 (b := b2) (a0 := k0) (a1 := k1) (a2 := k2) (a3 := k3) (a4 := k4) (by simp)
  exact ⟨d0, d1, d2, d3, d4, c0, c1, c2, c3, c4, a0, a1, a2, a3, a4⟩
end Go.Kn
namespace Go.Proofs.Ytcojleippbneoaa.superTells
open Go Go.RowKit Go.Kn Go.ChangeShapes Go.WideShapes Go.ChangeAt

set_option maxRecDepth 100000 in
set_option maxHeartbeats 8000000 in
theorem tells (b s l i m : Int) (A : Option Addr) (n cp : Nat) (bs : List UInt8) (w : World) (hb : Bys w A n cp bs) :
    Calls Try.prog 17 #[.agg #[.int .i64 b, .int .i64 s, .int .i64 l, .int .i64 i, .int .i64 m], .slice A n cp] w fun e w' => e = .returned (.bool true) ∧ Only [] w w' := by
  have hcm := hb.cm
  have hcl := hb.le
  unfold maxLen at hcm
  have HBB := Lib.hid hb
  clear hb
  by_cases h200 : n ≤ 200
  · have hd2 : decide (200 < (n : Int)) = false := by simp; omega
    go_enter Try.func17, Try.ntmps17
    go_wp2_with fail
    have HS0 := Lib.hid ((Boxes.nil w).new #[.int .i64 b, .int .i64 s, .int .i64 l, .int .i64 i, .int .i64 m] 100)
    have HO0 := Lib.hid ((Only.refl [] w).alloc (.cells #[.int .i64 b, .int .i64 s, .int .i64 l, .int .i64 i, .int .i64 m] 100))
    have HB0 := Lib.hid (HBB.out.alloc (.cells #[.int .i64 b, .int .i64 s, .int .i64 l, .int .i64 i, .int .i64 m] 100))
    refine (super_enc_any b s l i m _).mono ?_
    rintro e w1 ⟨A1, c1, rfl, hb1, _, hO1⟩
    generalize hbs : (encSuper ⟨b, s, l, i, m⟩).getD [] = xs at *
    generalize her : (if (encSuper ⟨b, s, l, i, m⟩).isSome = true then (0 : Int) else 1) = er at *
    have HBS := Lib.hid hbs
    have HER := Lib.hid her
    have HX1 := Lib.hid hb1
    have HS1 := Lib.hid (HS0.out.keep0 hO1)
    have HB1 := Lib.hid (HB0.out.keep0 hO1)
    have HO1 := Lib.hid (HO0.out.trans' hO1)
    obtain ⟨x0, x1, x2, x3, x4, lx⟩ := HS1.out.at5 (b := w.heap.size) (a0 := .int .i64 b) (a1 := .int .i64 s) (a2 := .int .i64 l) (a3 := .int .i64 i) (a4 := .int .i64 m) (by simp)
    clear hbs her hb1 hO1 HS0 HB0 HO0
    go_wp2_with fail
    refine (ref_super_enc_any b s l i m _).mono ?_
    rintro e w2 ⟨A2, c2, rfl, hb2, _, hO2⟩
    rw [HBS.out] at hb2
    rw [HBS.out, HER.out]
    have HX2 := Lib.hid hb2
    have HX12 := Lib.hid (HX1.out.keep0 hO2)
    have HS2 := Lib.hid (HS1.out.keep0 hO2)
    have HB2 := Lib.hid (HB1.out.keep0 hO2)
    have HO2 := Lib.hid (HO1.out.trans' hO2)
    clear hb2 hO2 HS1 HB1 HO1 HX1 x0 x1 x2 x3 x4 lx
    go_wp2_with fail
    refine (super_dec_any A n cp bs _ (by exact HB2.out) (by omega)).mono ?_
    rintro e w3 ⟨rfl, hO3⟩
    obtain ⟨⟨z0, z1, z2, z3, z4⟩, hzz⟩ : ∃ x, (decSuper bs).getD ⟨0, 0, 0, 0, 0⟩ = x := ⟨_, rfl⟩
    generalize hes : (if (decSuper bs).isSome = true then (0 : Int) else 2) = es at *
    rw [hzz]
    have HZZ := Lib.hid hzz
    have HES := Lib.hid hes
    simp only [Su.vals]
    have HX13 := Lib.hid ((HX12.out.keep0 hO3).alloc (.cells #[.int .i64 z0, .int .i64 z1, .int .i64 z2, .int .i64 z3, .int .i64 z4] 100))
    have HX23 := Lib.hid ((HX2.out.keep0 hO3).alloc (.cells #[.int .i64 z0, .int .i64 z1, .int .i64 z2, .int .i64 z3, .int .i64 z4] 100))
    have HS3 := Lib.hid ((HS2.out.keep0 hO3).new #[.int .i64 z0, .int .i64 z1, .int .i64 z2, .int .i64 z3, .int .i64 z4] 100)
    have HB3 := Lib.hid ((HB2.out.keep0 hO3).alloc (.cells #[.int .i64 z0, .int .i64 z1, .int .i64 z2, .int .i64 z3, .int .i64 z4] 100))
    have HO3 := Lib.hid ((HO2.out.trans' hO3).alloc (.cells #[.int .i64 z0, .int .i64 z1, .int .i64 z2, .int .i64 z3, .int .i64 z4] 100))
    clear hO3 hzz hes HS2 HB2 HO2 HX12 HX2
    go_wp2_with fail
    refine (ref_super_dec_any A n cp bs _ (by exact HB3.out) (by omega)).mono ?_
    rintro e w4 ⟨rfl, hO4⟩
    rw [HZZ.out, HES.out]
    simp only [Su.vals]
    have HX14 := Lib.hid ((HX13.out.keep0 hO4).alloc (.cells #[.int .i64 z0, .int .i64 z1, .int .i64 z2, .int .i64 z3, .int .i64 z4] 100))
    have HX24 := Lib.hid ((HX23.out.keep0 hO4).alloc (.cells #[.int .i64 z0, .int .i64 z1, .int .i64 z2, .int .i64 z3, .int .i64 z4] 100))
    have HS4 := Lib.hid ((HS3.out.keep0 hO4).new #[.int .i64 z0, .int .i64 z1, .int .i64 z2, .int .i64 z3, .int .i64 z4] 100)
    have HO4 := Lib.hid ((HO3.out.trans' hO4).alloc (.cells #[.int .i64 z0, .int .i64 z1, .int .i64 z2, .int .i64 z3, .int .i64 z4] 100))
    clear hO4 HS3 HB3 HO3 HX13 HX23
    obtain ⟨mm, hmm⟩ : ∃ mm, superMay ⟨b, s, l, i, m⟩ = mm := ⟨_, rfl⟩
    have HM := Lib.hid hmm
    have hn1 : (mm == mm) = true := by simp
    have hn3 : (er == er) = true := by simp
    have hn4 : (es == es) = true := by simp
    clear hmm
    go_wp2_with fail
    generalize hW : w4.alloc (.cells #[.int .i64 z0, .int .i64 z1, .int .i64 z2, .int .i64 z3, .int .i64 z4] 100) = W at *
    clear hW
    go_region_held3 (fun w' =>
      w'.cell? ⟨w.heap.size, 0, none⟩ = some (.int .i64 b) ∧ w'.cell? ⟨w.heap.size, 1, none⟩ = some (.int .i64 s) ∧ w'.cell? ⟨w.heap.size, 2, none⟩ = some (.int .i64 l) ∧ w'.cell? ⟨w.heap.size, 3, none⟩ = some (.int .i64 i) ∧ w'.cell? ⟨w.heap.size, 4, none⟩ = some (.int .i64 m) ∧
      w'.cell? ⟨w3.heap.size, 0, none⟩ = some (.int .i64 z0) ∧ w'.cell? ⟨w3.heap.size, 1, none⟩ = some (.int .i64 z1) ∧ w'.cell? ⟨w3.heap.size, 2, none⟩ = some (.int .i64 z2) ∧ w'.cell? ⟨w3.heap.size, 3, none⟩ = some (.int .i64 z3) ∧ w'.cell? ⟨w3.heap.size, 4, none⟩ = some (.int .i64 z4) ∧
      w'.cell? ⟨w4.heap.size, 0, none⟩ = some (.int .i64 z0) ∧ w'.cell? ⟨w4.heap.size, 1, none⟩ = some (.int .i64 z1) ∧ w'.cell? ⟨w4.heap.size, 2, none⟩ = some (.int .i64 z2) ∧ w'.cell? ⟨w4.heap.size, 3, none⟩ = some (.int .i64 z3) ∧ w'.cell? ⟨w4.heap.size, 4, none⟩ = some (.int .i64 z4))
      (first | exact cells15 HS4.out | exact cells15 HS5.out | exact cells15 HS6.out | exact cells15 HS7.out | exact cells15 HS10.out)
      (first
      | (go_at_call 69; refine (super_may_any b s l i m _).mono ?_
         rintro e w5 ⟨rfl, hO5⟩
         rw [HM.out]
         have hO5' := ((Only.refl [] W).drew).trans' hO5
         have HS5 := Lib.hid (HS4.out.keep0 hO5')
         have HX15 := Lib.hid (HX14.out.keep0 hO5')
         have HX25 := Lib.hid (HX24.out.keep0 hO5')
         have HO5 := Lib.hid (HO4.out.trans' hO5')
         clear hO5 hO5')
      | (go_at_call 70; refine (ref_super_may_any b s l i m _).mono ?_
         rintro e w6 ⟨rfl, hO6⟩
         rw [HM.out]
         have HS6 := Lib.hid (HS5.out.keep0 hO6)
         have HX16 := Lib.hid (HX15.out.keep0 hO6)
         have HX26 := Lib.hid (HX25.out.keep0 hO6)
         have HO6 := Lib.hid (HO5.out.trans' hO6)
         clear hO6)
      | (go_at_call 34; refine (alike_bytes_any A1 xs.length c1 xs A2 xs.length c2 xs _ (by exact HX16.out) (by exact HX26.out)).mono ?_
         rintro e w7 ⟨rfl, k7, rfl⟩
         have hdd : decide (xs = xs) = true := by simp
         rw [hdd]
         clear hdd
         have hO7 := (Only.refl [] w6).drewN k7
         have HS7 := Lib.hid (HS6.out.keep0 hO7)
         have HO7 := Lib.hid (HO6.out.trans' hO7)
         clear hO7)
      | (go_at_call 64; refine (awake5 _).mono ?_
         rintro e w10 ⟨rfl, hO10⟩
         have HS10 := Lib.hid (HS7.out.keep0 hO10)
         have HO10 := Lib.hid (HO7.out.trans' hO10)
         clear hO10))
    go_wp2
    go_ret
    exact ⟨rfl, HO10.out⟩
  · have hd2 : decide (200 < (n : Int)) = true := by simp; omega
    go_enter Try.func17, Try.ntmps17
    go_wp2_with fail
    refine (awake5 _).mono ?_
    rintro e w7 ⟨rfl, hO7⟩
    have HO7 := Lib.hid (((Only.refl [] w).alloc (.cells #[.int .i64 b, .int .i64 s, .int .i64 l, .int .i64 i, .int .i64 m] 100)).trans' hO7)
    go_wp2
    go_ret
    exact ⟨rfl, HO7.out⟩

theorem walk (a0_0 a0_1 a0_2 a0_3 a0_4 : Int) (a1 : Option Addr) (len1 cap1 : Nat) (z1 : List Int) (w : World) (w0_0 : (Lit.int .i64 a0_0).wf = true) (w0_1 : (Lit.int .i64 a0_1).wf = true) (w0_2 : (Lit.int .i64 a0_2).wf = true) (w0_3 : (Lit.int .i64 a0_3).wf = true) (w0_4 : (Lit.int .i64 a0_4).wf = true) (w1 : IsRow .u8 w a1 len1 cap1 z1) : Calls Try.prog 17 #[.agg #[.int .i64 a0_0, .int .i64 a0_1, .int .i64 a0_2, .int .i64 a0_3, .int .i64 a0_4], .slice a1 len1 cap1] w fun e w' => e = .returned (.bool true) ∧ Below w.heap.size w w' := by
  obtain ⟨bs, hb⟩ := w1.bys
  refine (tells a0_0 a0_1 a0_2 a0_3 a0_4 a1 len1 cap1 bs w hb).mono ?_
  rintro e w' ⟨rfl, hO⟩
  exact ⟨rfl, hO.below0⟩

set_option maxRecDepth 100000 in
theorem lifted (os : Os) (started : os.Started) (H : Type) (enc : TypeId × Value → H) :
    ReturnsInHanded {} Try.checked os 17 .any (Rows.superTellsSpec.pre6 enc Try.prog Try.f17 Rows.superTellsRow.domain false) (Rows.superTellsSpec.post enc Try.prog Try.f17 false true false false) := by
  refine returnsInHanded_of_change (C := Try.checked) own started (by kernel_rfl) Try.func17
    (ChangeSpec.witness6 (enc := enc) (C := Try.checked) false ⟨#[], #[.agg #[.int .i64 0, .int .i64 0, .int .i64 0, .int .i64 0, .int .i64 0], .slice none 0 0], []⟩ 8 (by kernel_rfl) (by kernel_rfl) (by kernel_rfl) (by kernel_rfl)) ?_
  intro W base args ds gs before hval0 hW hcnd _
  have hval : ∀ (j : Nat) t v, Try.f17.params[j]? = some t → args[j]? = some v → Value.okWide Try.prog W .any base t v := hval0
  have hW' := hW
  obtain ⟨p, q, hA0, hV, rfl, hfz, hnd⟩ := hW
  have hA : DataW.TrodAll enc Try.prog W 0 (fun _ => true) true Try.f17.params.toList args.toList ds p := hA0
  rw [Try.params17] at hA hval
  obtain ⟨v0, vs0, d0, ds0, p0, q0, hargs, rfl, rfl, h0, r0⟩ := trodAll_cons hA
  obtain ⟨v1, vs1, d1, ds1, p1, q1, rfl, rfl, rfl, h1, r1⟩ := trodAll_cons r0
  obtain ⟨rfl, rfl, rfl⟩ := trodAll_nil r1
  obtain rfl : args = #[v0, v1] := by cases args; simp_all
  obtain ⟨rfl, rfl⟩ := trodVars_none hV
  have k0 := h0
  have lt0 : ∀ x ∈ p0, x.block < W.heap.size := by obtain ⟨m, hm⟩ := k0; exact DataW.trod_lt m _ _ _ hm
  obtain ⟨a0_0, a0_1, a0_2, a0_3, a0_4, rfl, w0_0, w0_1, w0_2, w0_3, w0_4⟩ := open_super (okWide_struct Try.underlying100 (hval 0 100 v0 rfl rfl)) h0
  obtain ⟨a1, len1, cap1, rfl⟩ := okWide_slice Try.underlying29 (hval 1 29 v1 rfl rfl)
  have k1 := h1
  have lt1 : ∀ x ∈ p1, x.block < W.heap.size := by obtain ⟨m, hm⟩ := k1; exact DataW.trod_lt m _ _ _ hm
  obtain ⟨z1, w1⟩ : ∃ zs, IsRow .u8 W a1 len1 cap1 zs := by
    obtain ⟨fuel, hf⟩ := h1
    rcases open_ints Try.underlying29 Try.underlying5 (by kernel_rfl) hf with ⟨hcs, _⟩ | ⟨x, l, c, zs, hcs, _, hl, hm, hz, _, hcell, hwz⟩
    · simp [Value.cells] at hcs
      obtain ⟨rfl, rfl, rfl⟩ := hcs
      exact ⟨[], .inl ⟨rfl, rfl, rfl, rfl⟩⟩
    · simp [Value.cells] at hcs
      obtain ⟨rfl, rfl, rfl⟩ := hcs
      exact ⟨zs, .inr ⟨_, rfl, hl, hm, by simpa using hz, hcell, hwz⟩⟩
  clear hA0 hval0
  refine (walk a0_0 a0_1 a0_2 a0_3 a0_4 a1 len1 cap1 z1 W w0_0 w0_1 w0_2 w0_3 w0_4 w1).mono fun e W' ⟨he, bel⟩ => ?_
  subst he
  exact ⟨_, rfl, _, _, _, [], _, [], hW', trodAll_mk1 (shut_bool Try.underlying4 _), (trodAll_cons_mk (Below.trod laidOut (by kernel_rfl) (of_decide_eq_true (by kernel_rfl)) k0 bel lt0) (trodAll_cons_mk (Below.trod laidOut (by kernel_rfl) (of_decide_eq_true (by kernel_rfl)) k1 bel lt1) trodAll_mk0)), rfl, bel.frame _, fun h => by cases h⟩

theorem over : Rows.superTellsRow.holds Try.pinned (OpenSpec.ofChange Rows.superTellsSpec) :=
  OpenClaim.holds_of_wide 17 Try.f17 rfl rfl rfl rfl rfl rfl rfl ⟨rfl, rfl, rfl, rfl, rfl⟩ rfl rfl rfl rfl rfl (by kernel_rfl) Try.func17 (by kernel_rfl)
    (of_decide_eq_true (by kernel_rfl)) (by unfold Func.isWrapper; first | (rw [if_pos (by decide +kernel)]; kernel_rfl) | (rw [if_neg (by decide +kernel)]; exact ⟨rfl, rfl⟩))
    (fun os started H enc _ => lifted os started H enc)

theorem proved : Rows.SuperTellsSaid := over

end Go.Proofs.Ytcojleippbneoaa.superTells
