/- Claim HeadTells. -/
import Derived.Test.YtcojleippbneoaaLaw8A
import Derived.Test.YtcojleippbneoaaFrameH
import Derived.Deep.RegionHeld3
set_option linter.unusedVariables false
namespace Go.Kn
open Go Go.RowKit
theorem cells17 {w : World} {b3 b5 b11 b13 : Nat} {k0 k1 k2 k3 p0 p1 p2 p3 p4 z0 z1 z2 z3 : Value} (h : Boxes w [(b13, [z0, z1, z2, z3]), (b11, [z0, z1, z2, z3]), (b5, [p0, p1, p2, p3, p4]), (b3, [k0, k1, k2, k3])]) :
    w.cell? ⟨b3, 0, none⟩ = some k0 ∧ w.cell? ⟨b3, 1, none⟩ = some k1 ∧ w.cell? ⟨b3, 2, none⟩ = some k2 ∧ w.cell? ⟨b3, 3, none⟩ = some k3 ∧
    w.cell? ⟨b5, 0, none⟩ = some p0 ∧ w.cell? ⟨b5, 1, none⟩ = some p1 ∧ w.cell? ⟨b5, 2, none⟩ = some p2 ∧ w.cell? ⟨b5, 3, none⟩ = some p3 ∧ w.cell? ⟨b5, 4, none⟩ = some p4 ∧
    w.cell? ⟨b11, 0, none⟩ = some z0 ∧ w.cell? ⟨b11, 1, none⟩ = some z1 ∧ w.cell? ⟨b11, 2, none⟩ = some z2 ∧ w.cell? ⟨b11, 3, none⟩ = some z3 ∧
    w.cell? ⟨b13, 0, none⟩ = some z0 ∧ w.cell? ⟨b13, 1, none⟩ = some z1 ∧ w.cell? ⟨b13, 2, none⟩ = some z2 ∧ w.cell? ⟨b13, 3, none⟩ = some z3 := by
  obtain ⟨a0, a1, a2, a3, _⟩ := h.at4 (b := b13) (a0 := z0) (a1 := z1) (a2 := z2) (a3 := z3) (by simp)
  obtain ⟨c0, c1, c2, c3, _⟩ := h.at4 (b := b11) (a0 := z0) (a1 := z1) (a2 := z2) (a3 := z3) (by simp)
  obtain ⟨d0, d1, d2, d3, _⟩ := h.at4 (b := b3) (a0 := k0) (a1 := k1) (a2 := k2) (a3 := k3) (by simp)
  obtain ⟨e0, e1, e2, e3, e4, _⟩ := h.at5 (b := b5) (a0 := p0) (a1 := p1) (a2 := p2) (a3 := p3) (a4 := p4) (by simp)
  exact ⟨d0, d1, d2, d3, e0, e1, e2, e3, e4, c0, c1, c2, c3, a0, a1, a2, a3⟩
end Go.Kn
namespace Go.Proofs.Ytcojleippbneoaa.headTells
open Go Go.RowKit Go.Kn Go.ChangeShapes Go.WideShapes Go.ChangeAt

set_option maxRecDepth 100000 in
set_option maxHeartbeats 8000000 in
theorem tells (k b c v : Int) (A : Option Addr) (n cp : Nat) (bs : List UInt8) (s off l pv m : Int) (w : World) (hb : Bys w A n cp bs) :
    Calls Try.prog 14 #[.agg #[.int .i64 k, .int .i64 b, .int .i64 c, .int .i64 v], .slice A n cp, .agg #[.int .i64 s, .int .i64 off, .int .i64 l, .int .i64 pv, .int .i64 m]] w fun e w' => e = .returned (.bool true) ∧ Only [] w w' := by
  have hcm := hb.cm
  have hcl := hb.le
  unfold maxLen at hcm
  have HBB := Lib.hid hb
  clear hb
  by_cases h200 : n ≤ 200
  · have hd2 : decide (200 < (n : Int)) = false := by simp; omega
    go_enter Try.func14, Try.ntmps14
    go_wp2_with fail
    have HS0 := Lib.hid (((Boxes.nil w).new #[.int .i64 k, .int .i64 b, .int .i64 c, .int .i64 v] 82).new #[.int .i64 s, .int .i64 off, .int .i64 l, .int .i64 pv, .int .i64 m] 84)
    have hs1 : (w.alloc (.cells #[.int .i64 k, .int .i64 b, .int .i64 c, .int .i64 v] 82)).heap.size = w.heap.size + 1 := by simp
    rw [hs1] at HS0
    clear hs1
    have HO0 := Lib.hid (((Only.refl [] w).alloc (.cells #[.int .i64 k, .int .i64 b, .int .i64 c, .int .i64 v] 82)).alloc (.cells #[.int .i64 s, .int .i64 off, .int .i64 l, .int .i64 pv, .int .i64 m] 84))
    have HB0 := Lib.hid ((HBB.out.alloc (.cells #[.int .i64 k, .int .i64 b, .int .i64 c, .int .i64 v] 82)).alloc (.cells #[.int .i64 s, .int .i64 off, .int .i64 l, .int .i64 pv, .int .i64 m] 84))
    refine (head_enc_any k b c v _).mono ?_
    rintro e w1 ⟨A1, c1, rfl, hb1, _, hO1⟩
    generalize hbs : (encHead ⟨k, b, c, v⟩).getD [] = xs at *
    generalize her : (if (encHead ⟨k, b, c, v⟩).isSome = true then (0 : Int) else 1) = er at *
    have HBS := Lib.hid hbs
    have HER := Lib.hid her
    have HX1 := Lib.hid hb1
    have HS1 := Lib.hid (HS0.out.keep0 hO1)
    have HB1 := Lib.hid (HB0.out.keep0 hO1)
    have HO1 := Lib.hid (HO0.out.trans' hO1)
    obtain ⟨x0, x1, x2, x3, lx⟩ := HS1.out.at4 (b := w.heap.size) (a0 := .int .i64 k) (a1 := .int .i64 b) (a2 := .int .i64 c) (a3 := .int .i64 v) (by simp)
    clear hbs her hb1 hO1 HS0 HB0 HO0
    go_wp2_with fail
    refine (ref_head_enc_any k b c v _).mono ?_
    rintro e w2 ⟨A2, c2, rfl, hb2, _, hO2⟩
    rw [HBS.out] at hb2
    rw [HBS.out, HER.out]
    have HX2 := Lib.hid hb2
    have HX12 := Lib.hid (HX1.out.keep0 hO2)
    have HS2 := Lib.hid (HS1.out.keep0 hO2)
    have HB2 := Lib.hid (HB1.out.keep0 hO2)
    have HO2 := Lib.hid (HO1.out.trans' hO2)
    clear hb2 hO2 HS1 HB1 HO1 HX1 x0 x1 x2 x3 lx
    go_wp2_with fail
    refine (head_dec_any A n cp bs _ (by exact HB2.out) (by omega)).mono ?_
    rintro e w3 ⟨rfl, hO3⟩
    obtain ⟨⟨z0, z1, z2, z3⟩, hzz⟩ : ∃ i, (decHead bs).getD ⟨0, 0, 0, 0⟩ = i := ⟨_, rfl⟩
    generalize hes : (if (decHead bs).isSome = true then (0 : Int) else 2) = es at *
    rw [hzz]
    have HZZ := Lib.hid hzz
    have HES := Lib.hid hes
    simp only [It.vals]
    have HX13 := Lib.hid ((HX12.out.keep0 hO3).alloc (.cells #[.int .i64 z0, .int .i64 z1, .int .i64 z2, .int .i64 z3] 82))
    have HX23 := Lib.hid ((HX2.out.keep0 hO3).alloc (.cells #[.int .i64 z0, .int .i64 z1, .int .i64 z2, .int .i64 z3] 82))
    have HS3 := Lib.hid ((HS2.out.keep0 hO3).new #[.int .i64 z0, .int .i64 z1, .int .i64 z2, .int .i64 z3] 82)
    have HB3 := Lib.hid ((HB2.out.keep0 hO3).alloc (.cells #[.int .i64 z0, .int .i64 z1, .int .i64 z2, .int .i64 z3] 82))
    have HO3 := Lib.hid ((HO2.out.trans' hO3).alloc (.cells #[.int .i64 z0, .int .i64 z1, .int .i64 z2, .int .i64 z3] 82))
    clear hO3 hzz hes HS2 HB2 HO2 HX12 HX2
    go_wp2_with fail
    refine (ref_head_dec_any A n cp bs _ (by exact HB3.out) (by omega)).mono ?_
    rintro e w4 ⟨rfl, hO4⟩
    rw [HZZ.out, HES.out]
    simp only [It.vals]
    have HX14 := Lib.hid ((HX13.out.keep0 hO4).alloc (.cells #[.int .i64 z0, .int .i64 z1, .int .i64 z2, .int .i64 z3] 82))
    have HX24 := Lib.hid ((HX23.out.keep0 hO4).alloc (.cells #[.int .i64 z0, .int .i64 z1, .int .i64 z2, .int .i64 z3] 82))
    have HS4 := Lib.hid ((HS3.out.keep0 hO4).new #[.int .i64 z0, .int .i64 z1, .int .i64 z2, .int .i64 z3] 82)
    have HB4 := Lib.hid ((HB3.out.keep0 hO4).alloc (.cells #[.int .i64 z0, .int .i64 z1, .int .i64 z2, .int .i64 z3] 82))
    have HO4 := Lib.hid ((HO3.out.trans' hO4).alloc (.cells #[.int .i64 z0, .int .i64 z1, .int .i64 z2, .int .i64 z3] 82))
    clear hO4 HS3 HB3 HO3 HX13 HX23
    obtain ⟨mm, hmm⟩ : ∃ mm, headMay ⟨k, b, c, v⟩ = mm := ⟨_, rfl⟩
    obtain ⟨fb, hfb⟩ : ∃ fb, headFits (decHead bs) s l pv m = fb := ⟨_, rfl⟩
    have HM := Lib.hid hmm
    have HFB := Lib.hid hfb
    have hn1 : (mm == mm) = true := by simp
    have hn2 : (fb == fb) = true := by simp
    have hn3 : (er == er) = true := by simp
    have hn4 : (es == es) = true := by simp
    clear hmm hfb
    go_wp2_with fail
    generalize hW : w4.alloc (.cells #[.int .i64 z0, .int .i64 z1, .int .i64 z2, .int .i64 z3] 82) = W at *
    clear hW
    go_region_held3 (fun w' =>
      w'.cell? ⟨w.heap.size, 0, none⟩ = some (.int .i64 k) ∧ w'.cell? ⟨w.heap.size, 1, none⟩ = some (.int .i64 b) ∧ w'.cell? ⟨w.heap.size, 2, none⟩ = some (.int .i64 c) ∧ w'.cell? ⟨w.heap.size, 3, none⟩ = some (.int .i64 v) ∧
      w'.cell? ⟨w.heap.size + 1, 0, none⟩ = some (.int .i64 s) ∧ w'.cell? ⟨w.heap.size + 1, 1, none⟩ = some (.int .i64 off) ∧ w'.cell? ⟨w.heap.size + 1, 2, none⟩ = some (.int .i64 l) ∧ w'.cell? ⟨w.heap.size + 1, 3, none⟩ = some (.int .i64 pv) ∧ w'.cell? ⟨w.heap.size + 1, 4, none⟩ = some (.int .i64 m) ∧
      w'.cell? ⟨w3.heap.size, 0, none⟩ = some (.int .i64 z0) ∧ w'.cell? ⟨w3.heap.size, 1, none⟩ = some (.int .i64 z1) ∧ w'.cell? ⟨w3.heap.size, 2, none⟩ = some (.int .i64 z2) ∧ w'.cell? ⟨w3.heap.size, 3, none⟩ = some (.int .i64 z3) ∧
      w'.cell? ⟨w4.heap.size, 0, none⟩ = some (.int .i64 z0) ∧ w'.cell? ⟨w4.heap.size, 1, none⟩ = some (.int .i64 z1) ∧ w'.cell? ⟨w4.heap.size, 2, none⟩ = some (.int .i64 z2) ∧ w'.cell? ⟨w4.heap.size, 3, none⟩ = some (.int .i64 z3))
      (first | exact cells17 HS4.out | exact cells17 HS5.out | exact cells17 HS6.out | exact cells17 HS7.out | exact cells17 HS8.out | exact cells17 HS9.out | exact cells17 HS10.out)
      (first
      | (go_at_call 59; refine (head_may_any k b c v _).mono ?_
         rintro e w5 ⟨rfl, hO5⟩
         rw [HM.out]
         have hO5' := ((Only.refl [] W).drew).trans' hO5
         have HS5 := Lib.hid (HS4.out.keep0 hO5')
         have HX15 := Lib.hid (HX14.out.keep0 hO5')
         have HX25 := Lib.hid (HX24.out.keep0 hO5')
         have HB5 := Lib.hid (HB4.out.keep0 hO5')
         have HO5 := Lib.hid (HO4.out.trans' hO5')
         clear hO5 hO5')
      | (go_at_call 60; refine (ref_head_may_any k b c v _).mono ?_
         rintro e w6 ⟨rfl, hO6⟩
         rw [HM.out]
         have HS6 := Lib.hid (HS5.out.keep0 hO6)
         have HX16 := Lib.hid (HX15.out.keep0 hO6)
         have HX26 := Lib.hid (HX25.out.keep0 hO6)
         have HB6 := Lib.hid (HB5.out.keep0 hO6)
         have HO6 := Lib.hid (HO5.out.trans' hO6)
         clear hO6)
      | (go_at_call 34; refine (alike_bytes_any A1 xs.length c1 xs A2 xs.length c2 xs _ (by exact HX16.out) (by exact HX26.out)).mono ?_
         rintro e w7 ⟨rfl, k7, rfl⟩
         have hdd : decide (xs = xs) = true := by simp
         rw [hdd]
         clear hdd
         have hO7 := (Only.refl [] w6).drewN k7
         have HS7 := Lib.hid (HS6.out.keep0 hO7)
         have HB7 := Lib.hid (HB6.out.keep0 hO7)
         have HO7 := Lib.hid (HO6.out.trans' hO7)
         clear hO7)
      | (go_at_call 61; refine (head_fits_any A n cp bs s off l pv m _ (by exact HB7.out) (by omega)).mono ?_
         rintro e w8 ⟨rfl, hO8⟩
         rw [HFB.out]
         have HS8 := Lib.hid (HS7.out.keep0 hO8)
         have HB8 := Lib.hid (HB7.out.keep0 hO8)
         have HO8 := Lib.hid (HO7.out.trans' hO8)
         clear hO8)
      | (go_at_call 62; refine (ref_head_fits_any A n cp bs s off l pv m _ (by exact HB8.out) (by omega)).mono ?_
         rintro e w9 ⟨rfl, hO9⟩
         rw [HFB.out]
         have HS9 := Lib.hid (HS8.out.keep0 hO9)
         have HO9 := Lib.hid (HO8.out.trans' hO9)
         clear hO9)
      | (go_at_call 54; refine (awake8 _).mono ?_
         rintro e w10 ⟨rfl, hO10⟩
         have HS10 := Lib.hid (HS9.out.keep0 hO10)
         have HO10 := Lib.hid (HO9.out.trans' hO10)
         clear hO10))
    go_wp2
    go_ret
    exact ⟨rfl, HO10.out⟩
  · have hd2 : decide (200 < (n : Int)) = true := by simp; omega
    go_enter Try.func14, Try.ntmps14
    go_wp2_with fail
    refine (awake8 _).mono ?_
    rintro e w7 ⟨rfl, hO7⟩
    have HO7 := Lib.hid ((((Only.refl [] w).alloc (.cells #[.int .i64 k, .int .i64 b, .int .i64 c, .int .i64 v] 82)).alloc (.cells #[.int .i64 s, .int .i64 off, .int .i64 l, .int .i64 pv, .int .i64 m] 84)).trans' hO7)
    go_wp2
    go_ret
    exact ⟨rfl, HO7.out⟩

theorem walk (a0_0 a0_1 a0_2 a0_3 : Int) (a1 : Option Addr) (len1 cap1 : Nat) (z1 : List Int) (a2_0 a2_1 a2_2 a2_3 a2_4 : Int) (w : World) (w0_0 : (Lit.int .i64 a0_0).wf = true) (w0_1 : (Lit.int .i64 a0_1).wf = true) (w0_2 : (Lit.int .i64 a0_2).wf = true) (w0_3 : (Lit.int .i64 a0_3).wf = true) (w1 : IsRow .u8 w a1 len1 cap1 z1) (w2_0 : (Lit.int .i64 a2_0).wf = true) (w2_1 : (Lit.int .i64 a2_1).wf = true) (w2_2 : (Lit.int .i64 a2_2).wf = true) (w2_3 : (Lit.int .i64 a2_3).wf = true) (w2_4 : (Lit.int .i64 a2_4).wf = true) : Calls Try.prog 14 #[.agg #[.int .i64 a0_0, .int .i64 a0_1, .int .i64 a0_2, .int .i64 a0_3], .slice a1 len1 cap1, .agg #[.int .i64 a2_0, .int .i64 a2_1, .int .i64 a2_2, .int .i64 a2_3, .int .i64 a2_4]] w fun e w' => e = .returned (.bool true) ∧ Below w.heap.size w w' := by
  obtain ⟨bs, hb⟩ := w1.bys
  refine (tells a0_0 a0_1 a0_2 a0_3 a1 len1 cap1 bs a2_0 a2_1 a2_2 a2_3 a2_4 w hb).mono ?_
  rintro e w' ⟨rfl, hO⟩
  exact ⟨rfl, hO.below0⟩

set_option maxRecDepth 100000 in
theorem lifted (os : Os) (started : os.Started) (H : Type) (enc : TypeId × Value → H) :
    ReturnsInHanded {} Try.checked os 14 .any (Rows.headTellsSpec.pre6 enc Try.prog Try.f14 Rows.headTellsRow.domain false) (Rows.headTellsSpec.post enc Try.prog Try.f14 false true false false) := by
  refine returnsInHanded_of_change (C := Try.checked) own started (by kernel_rfl) Try.func14
    (ChangeSpec.witness6 (enc := enc) (C := Try.checked) false ⟨#[], #[.agg #[.int .i64 0, .int .i64 0, .int .i64 0, .int .i64 0], .slice none 0 0, .agg #[.int .i64 0, .int .i64 0, .int .i64 0, .int .i64 0, .int .i64 0]], []⟩ 8 (by kernel_rfl) (by kernel_rfl) (by kernel_rfl) (by kernel_rfl)) ?_
  intro W base args ds gs before hval0 hW hcnd _
  have hval : ∀ (j : Nat) t v, Try.f14.params[j]? = some t → args[j]? = some v → Value.okWide Try.prog W .any base t v := hval0
  have hW' := hW
  obtain ⟨p, q, hA0, hV, rfl, hfz, hnd⟩ := hW
  have hA : DataW.TrodAll enc Try.prog W 0 (fun _ => true) true Try.f14.params.toList args.toList ds p := hA0
  rw [Try.params14] at hA hval
  obtain ⟨v0, vs0, d0, ds0, p0, q0, hargs, rfl, rfl, h0, r0⟩ := trodAll_cons hA
  obtain ⟨v1, vs1, d1, ds1, p1, q1, rfl, rfl, rfl, h1, r1⟩ := trodAll_cons r0
  obtain ⟨v2, vs2, d2, ds2, p2, q2, rfl, rfl, rfl, h2, r2⟩ := trodAll_cons r1
  obtain ⟨rfl, rfl, rfl⟩ := trodAll_nil r2
  obtain rfl : args = #[v0, v1, v2] := by cases args; simp_all
  obtain ⟨rfl, rfl⟩ := trodVars_none hV
  have k0 := h0
  have lt0 : ∀ x ∈ p0, x.block < W.heap.size := by obtain ⟨m, hm⟩ := k0; exact DataW.trod_lt m _ _ _ hm
  obtain ⟨a0_0, a0_1, a0_2, a0_3, rfl, w0_0, w0_1, w0_2, w0_3⟩ := open_head (okWide_struct Try.underlying82 (hval 0 82 v0 rfl rfl)) h0
  obtain ⟨a1, len1, cap1, rfl⟩ := okWide_slice Try.underlying29 (hval 1 29 v1 rfl rfl)
  have k1 := h1
  have lt1 : ∀ x ∈ p1, x.block < W.heap.size := by obtain ⟨m, hm⟩ := k1; exact DataW.trod_lt m _ _ _ hm
  obtain ⟨z1, w1⟩ : ∃ zs, IsRow .u8 W a1 len1 cap1 zs := by
    obtain ⟨fuel, hf⟩ := h1
    rcases open_ints Try.underlying29 Try.underlying5 (by kernel_rfl) hf with ⟨hcs, _⟩ | ⟨x, l, c, zs, hcs, _, hl, hm, hz, _, hcell, hwz⟩
    · simp [Value.cells] at hcs
      obtain ⟨rfl, rfl, rfl⟩ := hcs
      exact ⟨[], .inl ⟨rfl, rfl, rfl, rfl⟩⟩
    · simp [Value.cells] at hcs
      obtain ⟨rfl, rfl, rfl⟩ := hcs
      exact ⟨zs, .inr ⟨_, rfl, hl, hm, by simpa using hz, hcell, hwz⟩⟩
  have k2 := h2
  have lt2 : ∀ x ∈ p2, x.block < W.heap.size := by obtain ⟨m, hm⟩ := k2; exact DataW.trod_lt m _ _ _ hm
  obtain ⟨a2_0, a2_1, a2_2, a2_3, a2_4, rfl, w2_0, w2_1, w2_2, w2_3, w2_4⟩ := open_pos (okWide_struct Try.underlying84 (hval 2 84 v2 rfl rfl)) h2
  clear hA0 hval0
  refine (walk a0_0 a0_1 a0_2 a0_3 a1 len1 cap1 z1 a2_0 a2_1 a2_2 a2_3 a2_4 W w0_0 w0_1 w0_2 w0_3 w1 w2_0 w2_1 w2_2 w2_3 w2_4).mono fun e W' ⟨he, bel⟩ => ?_
  subst he
  exact ⟨_, rfl, _, _, _, [], _, [], hW', trodAll_mk1 (shut_bool Try.underlying4 _), (trodAll_cons_mk (Below.trod laidOut (by kernel_rfl) (of_decide_eq_true (by kernel_rfl)) k0 bel lt0) (trodAll_cons_mk (Below.trod laidOut (by kernel_rfl) (of_decide_eq_true (by kernel_rfl)) k1 bel lt1) (trodAll_cons_mk (Below.trod laidOut (by kernel_rfl) (of_decide_eq_true (by kernel_rfl)) k2 bel lt2) trodAll_mk0))), rfl, bel.frame _, fun h => by cases h⟩

theorem over : Rows.headTellsRow.holds Try.pinned (OpenSpec.ofChange Rows.headTellsSpec) :=
  OpenClaim.holds_of_wide 14 Try.f14 rfl rfl rfl rfl rfl rfl rfl ⟨rfl, rfl, rfl, rfl, rfl⟩ rfl rfl rfl rfl rfl (by kernel_rfl) Try.func14 (by kernel_rfl)
    (of_decide_eq_true (by kernel_rfl)) (by unfold Func.isWrapper; first | (rw [if_pos (by decide +kernel)]; kernel_rfl) | (rw [if_neg (by decide +kernel)]; exact ⟨rfl, rfl⟩))
    (fun os started H enc _ => lifted os started H enc)

theorem proved : Rows.HeadTellsSaid := over

end Go.Proofs.Ytcojleippbneoaa.headTells
