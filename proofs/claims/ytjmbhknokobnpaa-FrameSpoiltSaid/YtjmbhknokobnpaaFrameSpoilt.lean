/- Claim FrameSpoilt. Printed by mkframespoilt.py. -/
import Derived.Test.YtjmbhknokobnpaaEnter
import Derived.Test.YtjmbhknokobnpaaLaw22C
import Derived.Test.YtjmbhknokobnpaaTurnW
import Derived.Test.YtjmbhknokobnpaaFrameW
set_option linter.unusedVariables false
set_option linter.unusedSimpArgs false
namespace Go.Proofs.Ytjmbhknokobnpaa.frameSpoilt
open Go Go.RowKit Go.Kn Go.ChangeShapes Go.WideShapes Go.ChangeAt

set_option maxRecDepth 100000 in
set_option maxHeartbeats 8000000 in
theorem spoilt25 (z0 z1 z2 z3 z4 z5 at_ : Int) (pat : Nat) (w : World) (h0 : (Lit.int .i64 z0).wf = true) (h1 : (Lit.int .i64 z1).wf = true) (h2 : (Lit.int .i64 z2).wf = true) (h3 : (Lit.int .i64 z3).wf = true) (h4 : (Lit.int .i64 z4).wf = true) (h5 : (Lit.int .i64 z5).wf = true) (ha : (Lit.int .i64 at_).wf = true) (hp : pat < 4294967296) (hN : (frBytes (madeFr z0 z1 z2 z3 z4 z5)).length = 25) :
    Calls Try.prog 11 #[.agg #[.int .i64 z0, .int .i64 z1, .int .i64 z2, .int .i64 z3, .int .i64 z4, .int .i64 z5], .int .i64 at_, .int .u32 pat] w fun e w' => e = .returned (.bool true) ∧ Only [] w w' := by
  have hmay := madeFr_may z0 z1 z2 z3 z4 z5
  obtain ⟨⟨k, v, s, b, c, e, d, xs⟩, hi⟩ : ∃ x, madeFr z0 z1 z2 z3 z4 z5 = x := ⟨_, rfl⟩
  rw [hi] at hmay hN
  obtain ⟨hb1, hb2⟩ := fr_back hmay
  have hb3 := frBytes_closed ⟨k, v, s, b, c, e, d, xs⟩
  obtain ⟨bs, hbs⟩ : ∃ x, frBytes ⟨k, v, s, b, c, e, d, xs⟩ = x := ⟨_, rfl⟩
  rw [hbs] at hb1 hb2 hb3 hN
  rw [hN] at hb3
  have HV := Lib.hid hi
  have HB1 := Lib.hid hb1
  have HB2 := Lib.hid hN
  have HB3 := Lib.hid hb3
  have HB4 := Lib.hid hb2
  have HA := Lib.hid ha
  have hf : at_ % ((8 * 21 : Nat) : Int) = (at_ % 168).toNat := by
    have h0 : 0 ≤ at_ % 168 := Int.emod_nonneg _ (by decide)
    have h1 : ((8 * 21 : Nat) : Int) = 168 := rfl
    rw [h1]
    omega
  generalize (at_ % 168).toNat = first at *
  have HF := Lib.hid hf
  have H0 := Lib.hid h0
  have H1 := Lib.hid h1
  have H2 := Lib.hid h2
  have H3 := Lib.hid h3
  have H4 := Lib.hid h4
  have H5 := Lib.hid h5
  clear hi hmay hb1 hb2 hb3 hN hbs hf ha h0 h1 h2 h3 h4 h5
  go_enter Try.func11, Try.ntmps11
  go_wp2_with fail
  refine (made22 z0 z1 z2 z3 z4 z5 _ H0.out H1.out H2.out H3.out H4.out H5.out).mono ?_
  rintro en w1 ⟨A1, n1, c1, rfl, hd1, hO1⟩
  rw [HV.out] at hd1 ⊢
  dsimp only at hd1 ⊢
  have HD1 := Lib.hid hd1
  have HO1 := Lib.hid (((Only.refl [] w).alloc (.cells #[.int .i64 z0, .int .i64 z1, .int .i64 z2, .int .i64 z3, .int .i64 z4, .int .i64 z5] 74)).trans' hO1)
  clear hO1 hd1
  go_wp2_with fail
  refine (frame_enc_own k v s b c e d A1 n1 c1 xs _ (by exact HD1.out)).mono ?_
  intro en w2 he
  rw [HB1.out] at he
  obtain ⟨g, cg, rfl, hc, hm, hg, ho, hO2⟩ := he.of_some
  rw [HB2.out] at hc ⊢
  have HG := Lib.hid ho
  have HO2 := Lib.hid (HO1.out.trans' hO2)
  clear he hO2 ho HO1 HD1
  go_wp2_with fail
  refine (turned_any (some ⟨g, 0, none⟩) 25 cg bs 21 at_ first pat _ (by exact Row1.of_Own HG.out (by simp [HB2.out]) hc hm) (by decide) (by decide) (by decide) HA.out HF.out hp).mono ?_
  rintro en w4 ⟨g4, rfl, hg4, ho4, hO4⟩
  have HT : Hid (Bys w4 (some ⟨g4, 0, none⟩) 25 25 (turnB bs first (8 * 21) pat 32)) := Lib.hid (Row1.of_Own ho4 (by rw [bvs_length, turnB_length]; exact HB2.out) (Nat.le_refl _) (by unfold maxLen; omega))
  have HG4 := Lib.hid (HG.out.keep0 hO4)
  have HO4 := Lib.hid (HO2.out.trans' hO4)
  clear ho4 hO4 HG HO2
  cases hany : turnA first (8 * 21) pat 32
  · have hY := turnB_none bs first (8 * 21) pat 32 hany
    have HD : Hid (decFr (turnB bs first (8 * 21) pat 32) = some ⟨k, v, s, b, c, e, d, xs⟩) := Lib.hid (by rw [hY]; exact HB4.out)
    have HE : Hid (decide (turnB bs first (8 * 21) pat 32 = bs) = true) := Lib.hid (by rw [hY]; simp)
    clear hY
    generalize turnB bs first (8 * 21) pat 32 = Y at *
    go_wp2_with fail
    refine (frame_dec_any _ 25 25 Y _ (by exact HT.out) (by decide)).mono ?_
    rintro en w5 ⟨A5, n5, c5, rfl, hy5, hO5⟩
    rw [HD.out] at hy5 ⊢
    simp only [Option.getD_some, Option.isSome_some, if_true] at hy5 ⊢
    have HT5 := Lib.hid ((HT.out.keep0 hO5).alloc (.cells #[.int .i64 k, .int .i64 v, .int .i64 s, .int .i64 b, .int .i64 c, .int .i64 e, .int .i64 d, .slice A5 n5 c5] 64))
    have HG5 := Lib.hid ((HG4.out.keep0 hO5).alloc (.cells #[.int .i64 k, .int .i64 v, .int .i64 s, .int .i64 b, .int .i64 c, .int .i64 e, .int .i64 d, .slice A5 n5 c5] 64))
    have HO5 := Lib.hid ((HO4.out.trans' hO5).alloc (.cells #[.int .i64 k, .int .i64 v, .int .i64 s, .int .i64 b, .int .i64 c, .int .i64 e, .int .i64 d, .slice A5 n5 c5] 64))
    clear hO5 hy5 HT HG4 HO4
    go_wp2_with fail
    refine (equal_any (some ⟨g4, 0, none⟩) 25 25 Y (some ⟨g, 0, none⟩) 25 cg bs _ (by exact HT5.out) (by exact Row1.of_Own HG5.out (by simp [HB2.out]) hc hm)).mono ?_
    rintro en w6 ⟨rfl, k6, rfl⟩
    rw [HE.out]
    have HO6 := Lib.hid (HO5.out.drewN k6)
    go_wp2_with fail
    refine (awake22 _).mono ?_
    rintro en w7 ⟨rfl, hO7⟩
    have HO7 := Lib.hid (HO6.out.trans' hO7)
    go_wp2
    go_ret
    exact ⟨rfl, HO7.out⟩
  · have HD : Hid (decFr (turnB bs first (8 * 21) pat 32) = none) := Lib.hid (by
      have h9 := fr_turned (b := bs) (first := first) (pat := pat) (by rw [HB2.out]; decide) (by rw [HB2.out]; exact HB3.out) (by rw [HB2.out]; exact hany)
      rwa [HB2.out] at h9)
    have HE : Hid (decide (turnB bs first (8 * 21) pat 32 = bs) = false) := Lib.hid (decide_eq_false (turned_ne bs first 21 pat (by rw [HB2.out]; decide) hany))
    generalize turnB bs first (8 * 21) pat 32 = Y at *
    go_wp2_with fail
    refine (frame_dec_any _ 25 25 Y _ (by exact HT.out) (by decide)).mono ?_
    rintro en w5 ⟨A5, n5, c5, rfl, hy5, hO5⟩
    rw [HD.out] at hy5 ⊢
    simp only [Option.getD_none, Option.isSome_none, frZero] at hy5 ⊢
    have HT5 := Lib.hid ((HT.out.keep0 hO5).alloc (.cells #[.int .i64 0, .int .i64 0, .int .i64 0, .int .i64 0, .int .i64 0, .int .i64 0, .int .i64 0, .slice A5 n5 c5] 64))
    have HG5 := Lib.hid ((HG4.out.keep0 hO5).alloc (.cells #[.int .i64 0, .int .i64 0, .int .i64 0, .int .i64 0, .int .i64 0, .int .i64 0, .int .i64 0, .slice A5 n5 c5] 64))
    have HO5 := Lib.hid ((HO4.out.trans' hO5).alloc (.cells #[.int .i64 0, .int .i64 0, .int .i64 0, .int .i64 0, .int .i64 0, .int .i64 0, .int .i64 0, .slice A5 n5 c5] 64))
    clear hO5 hy5 HT HG4 HO4
    go_wp2_with fail
    refine (equal_any (some ⟨g4, 0, none⟩) 25 25 Y (some ⟨g, 0, none⟩) 25 cg bs _ (by exact HT5.out) (by exact Row1.of_Own HG5.out (by simp [HB2.out]) hc hm)).mono ?_
    rintro en w6 ⟨rfl, k6, rfl⟩
    rw [HE.out]
    have HO6 := Lib.hid (HO5.out.drewN k6)
    go_wp2_with fail
    refine (awake22 _).mono ?_
    rintro en w7 ⟨rfl, hO7⟩
    have HO7 := Lib.hid (HO6.out.trans' hO7)
    go_wp2
    go_ret
    exact ⟨rfl, HO7.out⟩

set_option maxRecDepth 100000 in
set_option maxHeartbeats 8000000 in
theorem spoilt89 (z0 z1 z2 z3 z4 z5 at_ : Int) (pat : Nat) (w : World) (h0 : (Lit.int .i64 z0).wf = true) (h1 : (Lit.int .i64 z1).wf = true) (h2 : (Lit.int .i64 z2).wf = true) (h3 : (Lit.int .i64 z3).wf = true) (h4 : (Lit.int .i64 z4).wf = true) (h5 : (Lit.int .i64 z5).wf = true) (ha : (Lit.int .i64 at_).wf = true) (hp : pat < 4294967296) (hN : (frBytes (madeFr z0 z1 z2 z3 z4 z5)).length = 89) :
    Calls Try.prog 11 #[.agg #[.int .i64 z0, .int .i64 z1, .int .i64 z2, .int .i64 z3, .int .i64 z4, .int .i64 z5], .int .i64 at_, .int .u32 pat] w fun e w' => e = .returned (.bool true) ∧ Only [] w w' := by
  have hmay := madeFr_may z0 z1 z2 z3 z4 z5
  obtain ⟨⟨k, v, s, b, c, e, d, xs⟩, hi⟩ : ∃ x, madeFr z0 z1 z2 z3 z4 z5 = x := ⟨_, rfl⟩
  rw [hi] at hmay hN
  obtain ⟨hb1, hb2⟩ := fr_back hmay
  have hb3 := frBytes_closed ⟨k, v, s, b, c, e, d, xs⟩
  obtain ⟨bs, hbs⟩ : ∃ x, frBytes ⟨k, v, s, b, c, e, d, xs⟩ = x := ⟨_, rfl⟩
  rw [hbs] at hb1 hb2 hb3 hN
  rw [hN] at hb3
  have HV := Lib.hid hi
  have HB1 := Lib.hid hb1
  have HB2 := Lib.hid hN
  have HB3 := Lib.hid hb3
  have HB4 := Lib.hid hb2
  have HA := Lib.hid ha
  have hf : at_ % ((8 * 85 : Nat) : Int) = (at_ % 680).toNat := by
    have h0 : 0 ≤ at_ % 680 := Int.emod_nonneg _ (by decide)
    have h1 : ((8 * 85 : Nat) : Int) = 680 := rfl
    rw [h1]
    omega
  generalize (at_ % 680).toNat = first at *
  have HF := Lib.hid hf
  have H0 := Lib.hid h0
  have H1 := Lib.hid h1
  have H2 := Lib.hid h2
  have H3 := Lib.hid h3
  have H4 := Lib.hid h4
  have H5 := Lib.hid h5
  clear hi hmay hb1 hb2 hb3 hN hbs hf ha h0 h1 h2 h3 h4 h5
  go_enter Try.func11, Try.ntmps11
  go_wp2_with fail
  refine (made22 z0 z1 z2 z3 z4 z5 _ H0.out H1.out H2.out H3.out H4.out H5.out).mono ?_
  rintro en w1 ⟨A1, n1, c1, rfl, hd1, hO1⟩
  rw [HV.out] at hd1 ⊢
  dsimp only at hd1 ⊢
  have HD1 := Lib.hid hd1
  have HO1 := Lib.hid (((Only.refl [] w).alloc (.cells #[.int .i64 z0, .int .i64 z1, .int .i64 z2, .int .i64 z3, .int .i64 z4, .int .i64 z5] 74)).trans' hO1)
  clear hO1 hd1
  go_wp2_with fail
  refine (frame_enc_own k v s b c e d A1 n1 c1 xs _ (by exact HD1.out)).mono ?_
  intro en w2 he
  rw [HB1.out] at he
  obtain ⟨g, cg, rfl, hc, hm, hg, ho, hO2⟩ := he.of_some
  rw [HB2.out] at hc ⊢
  have HG := Lib.hid ho
  have HO2 := Lib.hid (HO1.out.trans' hO2)
  clear he hO2 ho HO1 HD1
  go_wp2_with fail
  refine (turned_any (some ⟨g, 0, none⟩) 89 cg bs 85 at_ first pat _ (by exact Row1.of_Own HG.out (by simp [HB2.out]) hc hm) (by decide) (by decide) (by decide) HA.out HF.out hp).mono ?_
  rintro en w4 ⟨g4, rfl, hg4, ho4, hO4⟩
  have HT : Hid (Bys w4 (some ⟨g4, 0, none⟩) 89 89 (turnB bs first (8 * 85) pat 32)) := Lib.hid (Row1.of_Own ho4 (by rw [bvs_length, turnB_length]; exact HB2.out) (Nat.le_refl _) (by unfold maxLen; omega))
  have HG4 := Lib.hid (HG.out.keep0 hO4)
  have HO4 := Lib.hid (HO2.out.trans' hO4)
  clear ho4 hO4 HG HO2
  cases hany : turnA first (8 * 85) pat 32
  · have hY := turnB_none bs first (8 * 85) pat 32 hany
    have HD : Hid (decFr (turnB bs first (8 * 85) pat 32) = some ⟨k, v, s, b, c, e, d, xs⟩) := Lib.hid (by rw [hY]; exact HB4.out)
    have HE : Hid (decide (turnB bs first (8 * 85) pat 32 = bs) = true) := Lib.hid (by rw [hY]; simp)
    clear hY
    generalize turnB bs first (8 * 85) pat 32 = Y at *
    go_wp2_with fail
    refine (frame_dec_any _ 89 89 Y _ (by exact HT.out) (by decide)).mono ?_
    rintro en w5 ⟨A5, n5, c5, rfl, hy5, hO5⟩
    rw [HD.out] at hy5 ⊢
    simp only [Option.getD_some, Option.isSome_some, if_true] at hy5 ⊢
    have HT5 := Lib.hid ((HT.out.keep0 hO5).alloc (.cells #[.int .i64 k, .int .i64 v, .int .i64 s, .int .i64 b, .int .i64 c, .int .i64 e, .int .i64 d, .slice A5 n5 c5] 64))
    have HG5 := Lib.hid ((HG4.out.keep0 hO5).alloc (.cells #[.int .i64 k, .int .i64 v, .int .i64 s, .int .i64 b, .int .i64 c, .int .i64 e, .int .i64 d, .slice A5 n5 c5] 64))
    have HO5 := Lib.hid ((HO4.out.trans' hO5).alloc (.cells #[.int .i64 k, .int .i64 v, .int .i64 s, .int .i64 b, .int .i64 c, .int .i64 e, .int .i64 d, .slice A5 n5 c5] 64))
    clear hO5 hy5 HT HG4 HO4
    go_wp2_with fail
    refine (equal_any (some ⟨g4, 0, none⟩) 89 89 Y (some ⟨g, 0, none⟩) 89 cg bs _ (by exact HT5.out) (by exact Row1.of_Own HG5.out (by simp [HB2.out]) hc hm)).mono ?_
    rintro en w6 ⟨rfl, k6, rfl⟩
    rw [HE.out]
    have HO6 := Lib.hid (HO5.out.drewN k6)
    go_wp2_with fail
    refine (awake22 _).mono ?_
    rintro en w7 ⟨rfl, hO7⟩
    have HO7 := Lib.hid (HO6.out.trans' hO7)
    go_wp2
    go_ret
    exact ⟨rfl, HO7.out⟩
  · have HD : Hid (decFr (turnB bs first (8 * 85) pat 32) = none) := Lib.hid (by
      have h9 := fr_turned (b := bs) (first := first) (pat := pat) (by rw [HB2.out]; decide) (by rw [HB2.out]; exact HB3.out) (by rw [HB2.out]; exact hany)
      rwa [HB2.out] at h9)
    have HE : Hid (decide (turnB bs first (8 * 85) pat 32 = bs) = false) := Lib.hid (decide_eq_false (turned_ne bs first 85 pat (by rw [HB2.out]; decide) hany))
    generalize turnB bs first (8 * 85) pat 32 = Y at *
    go_wp2_with fail
    refine (frame_dec_any _ 89 89 Y _ (by exact HT.out) (by decide)).mono ?_
    rintro en w5 ⟨A5, n5, c5, rfl, hy5, hO5⟩
    rw [HD.out] at hy5 ⊢
    simp only [Option.getD_none, Option.isSome_none, frZero] at hy5 ⊢
    have HT5 := Lib.hid ((HT.out.keep0 hO5).alloc (.cells #[.int .i64 0, .int .i64 0, .int .i64 0, .int .i64 0, .int .i64 0, .int .i64 0, .int .i64 0, .slice A5 n5 c5] 64))
    have HG5 := Lib.hid ((HG4.out.keep0 hO5).alloc (.cells #[.int .i64 0, .int .i64 0, .int .i64 0, .int .i64 0, .int .i64 0, .int .i64 0, .int .i64 0, .slice A5 n5 c5] 64))
    have HO5 := Lib.hid ((HO4.out.trans' hO5).alloc (.cells #[.int .i64 0, .int .i64 0, .int .i64 0, .int .i64 0, .int .i64 0, .int .i64 0, .int .i64 0, .slice A5 n5 c5] 64))
    clear hO5 hy5 HT HG4 HO4
    go_wp2_with fail
    refine (equal_any (some ⟨g4, 0, none⟩) 89 89 Y (some ⟨g, 0, none⟩) 89 cg bs _ (by exact HT5.out) (by exact Row1.of_Own HG5.out (by simp [HB2.out]) hc hm)).mono ?_
    rintro en w6 ⟨rfl, k6, rfl⟩
    rw [HE.out]
    have HO6 := Lib.hid (HO5.out.drewN k6)
    go_wp2_with fail
    refine (awake22 _).mono ?_
    rintro en w7 ⟨rfl, hO7⟩
    have HO7 := Lib.hid (HO6.out.trans' hO7)
    go_wp2
    go_ret
    exact ⟨rfl, HO7.out⟩

theorem walk (a0_0 a0_1 a0_2 a0_3 a0_4 a0_5 : Int) (a1 : Int) (a2 : Int) (w : World) (w0_0 : (Lit.int .i64 a0_0).wf = true) (w0_1 : (Lit.int .i64 a0_1).wf = true) (w0_2 : (Lit.int .i64 a0_2).wf = true) (w0_3 : (Lit.int .i64 a0_3).wf = true) (w0_4 : (Lit.int .i64 a0_4).wf = true) (w0_5 : (Lit.int .i64 a0_5).wf = true) (w1 : (Lit.int .i64 a1).wf = true) (w2 : (Lit.int .u32 a2).wf = true) : Calls Try.prog 11 #[.agg #[.int .i64 a0_0, .int .i64 a0_1, .int .i64 a0_2, .int .i64 a0_3, .int .i64 a0_4, .int .i64 a0_5], .int .i64 a1, .int .u32 a2] w fun e w' => e = .returned (.bool true) ∧ Below w.heap.size w w' := by
  have hx : 0 ≤ a2 ∧ a2 ≤ 4294967295 := by simpa [Lit.wf, IntKind.min, IntKind.max, IntKind.signed, IntKind.bits] using w2
  obtain ⟨p, rfl⟩ : ∃ p : Nat, a2 = p := ⟨a2.toNat, by omega⟩
  have hd := (frMay_bounds (madeFr_may a0_0 a0_1 a0_2 a0_3 a0_4 a0_5)).2.2.2.2.2.2.2
  have hl := frBytes_length (madeFr a0_0 a0_1 a0_2 a0_3 a0_4 a0_5)
  rcases hd with hd | hd
  · rw [hd] at hl
    refine (spoilt25 a0_0 a0_1 a0_2 a0_3 a0_4 a0_5 a1 p w w0_0 w0_1 w0_2 w0_3 w0_4 w0_5 w1 (by omega) hl).mono ?_
    rintro e w' ⟨rfl, hO⟩
    exact ⟨rfl, hO.below0⟩
  · rw [hd] at hl
    refine (spoilt89 a0_0 a0_1 a0_2 a0_3 a0_4 a0_5 a1 p w w0_0 w0_1 w0_2 w0_3 w0_4 w0_5 w1 (by omega) hl).mono ?_
    rintro e w' ⟨rfl, hO⟩
    exact ⟨rfl, hO.below0⟩

set_option maxRecDepth 100000 in
theorem lifted (os : Os) (started : os.Started) (H : Type) (enc : TypeId × Value → H) :
    ReturnsInHanded {} Try.checked os 11 .any (Rows.frameSpoiltSpec.pre6 enc Try.prog Try.f11 Rows.frameSpoiltRow.domain false) (Rows.frameSpoiltSpec.post enc Try.prog Try.f11 false true false false) := by
  refine returnsInHanded_of_change (C := Try.checked) own started (by kernel_rfl) Try.func11
    (ChangeSpec.witness6 (enc := enc) (C := Try.checked) false ⟨#[], #[.agg #[.int .i64 0, .int .i64 0, .int .i64 0, .int .i64 0, .int .i64 0, .int .i64 0], .int .i64 0, .int .u32 0], []⟩ 8 (by kernel_rfl) (by kernel_rfl) (by kernel_rfl) (by kernel_rfl)) ?_
  intro W base args ds gs before hval0 hW hcnd _
  have hval : ∀ (j : Nat) t v, Try.f11.params[j]? = some t → args[j]? = some v → Value.okWide Try.prog W .any base t v := hval0
  have hW' := hW
  obtain ⟨p, q, hA0, hV, rfl, hfz, hnd⟩ := hW
  have hA : DataW.TrodAll enc Try.prog W 0 (fun _ => true) true Try.f11.params.toList args.toList ds p := hA0
  rw [Try.params11] at hA hval
  obtain ⟨v0, vs0, d0, ds0, p0, q0, hargs, rfl, rfl, h0, r0⟩ := trodAll_cons hA
  obtain ⟨v1, vs1, d1, ds1, p1, q1, rfl, rfl, rfl, h1, r1⟩ := trodAll_cons r0
  obtain ⟨v2, vs2, d2, ds2, p2, q2, rfl, rfl, rfl, h2, r2⟩ := trodAll_cons r1
  obtain ⟨rfl, rfl, rfl⟩ := trodAll_nil r2
  obtain rfl : args = #[v0, v1, v2] := by cases args; simp_all
  obtain ⟨rfl, rfl⟩ := trodVars_none hV
  have k0 := h0
  have lt0 : ∀ x ∈ p0, x.block < W.heap.size := by obtain ⟨m, hm⟩ := k0; exact DataW.trod_lt m _ _ _ hm
  obtain ⟨a0_0, a0_1, a0_2, a0_3, a0_4, a0_5, rfl, w0_0, w0_1, w0_2, w0_3, w0_4, w0_5⟩ := open_arr6 (okWide_array Try.underlying74 (hval 0 74 v0 rfl rfl)) h0
  obtain ⟨a1, rfl, rfl, rfl, w1⟩ := open_int Try.underlying3 (hval 1 3 v1 rfl rfl) h1
  obtain ⟨a2, rfl, rfl, rfl, w2⟩ := open_int Try.underlying23 (hval 2 23 v2 rfl rfl) h2
  clear hA0 hval0
  refine (walk a0_0 a0_1 a0_2 a0_3 a0_4 a0_5 a1 a2 W w0_0 w0_1 w0_2 w0_3 w0_4 w0_5 w1 w2).mono fun e W' ⟨he, bel⟩ => ?_
  subst he
  exact ⟨_, rfl, _, _, _, [], _, [], hW', trodAll_mk1 (shut_bool Try.underlying4 _), (trodAll_cons_mk (Below.trod laidOut (by kernel_rfl) (of_decide_eq_true (by kernel_rfl)) k0 bel lt0) (trodAll_cons_mk (shut_int Try.underlying3 w1) (trodAll_cons_mk (shut_int Try.underlying23 w2) trodAll_mk0))), rfl, bel.frame _, fun h => by cases h⟩

set_option maxRecDepth 100000 in
theorem closed : joinedFacts Try.pinned.checked.prog 11 Try.f11 Rows.frameSpoiltSpec Rows.frameSpoiltRow = true := by
  show joinedFacts Try.prog 11 Try.f11 Rows.frameSpoiltSpec Rows.frameSpoiltRow = true
  unfold joinedFacts
  simp only [enter_may, enter_lifts, enter_make]
  kernel_rfl

theorem over : Rows.frameSpoiltRow.holds Try.pinned (OpenSpec.ofChange Rows.frameSpoiltSpec) :=
  OpenClaim.holds_of_wide 11 Try.f11 rfl rfl rfl rfl rfl rfl rfl ⟨rfl, rfl, rfl, rfl, rfl⟩ rfl rfl rfl rfl rfl (by kernel_rfl) Try.func11 closed
    (of_decide_eq_true (by kernel_rfl)) (by unfold Func.isWrapper; first | (rw [if_pos (by decide +kernel)]; kernel_rfl) | (rw [if_neg (by decide +kernel)]; exact ⟨rfl, rfl⟩))
    (fun os started H enc _ => lifted os started H enc)

theorem proved : Rows.FrameSpoiltSaid := over

end Go.Proofs.Ytjmbhknokobnpaa.frameSpoilt
