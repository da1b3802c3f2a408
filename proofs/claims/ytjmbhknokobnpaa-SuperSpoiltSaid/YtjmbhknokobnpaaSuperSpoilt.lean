/- Claim SuperSpoilt. -/
import Derived.Test.YtjmbhknokobnpaaEnter
import Derived.Test.YtjmbhknokobnpaaLaw5B
import Derived.Test.YtjmbhknokobnpaaTurnW
import Derived.Test.YtjmbhknokobnpaaFrameU
set_option linter.unusedVariables false
namespace Go.Proofs.Ytjmbhknokobnpaa.superSpoilt
open Go Go.RowKit Go.Kn Go.ChangeShapes Go.WideShapes Go.ChangeAt

set_option maxRecDepth 100000 in
set_option maxHeartbeats 4000000 in
theorem spoilt (z0 z1 z2 id_ mo at_ : Int) (pat : Nat) (w : World) (h0 : (Lit.int .i64 z0).wf = true) (h1 : (Lit.int .i64 z1).wf = true) (h2 : (Lit.int .i64 z2).wf = true) (h3 : (Lit.int .i64 id_).wf = true) (h4 : (Lit.int .i64 mo).wf = true) (ha : (Lit.int .i64 at_).wf = true) (hp : pat < 4294967296) :
    Calls Try.prog 3 #[.agg #[.int .i64 z0, .int .i64 z1, .int .i64 z2], .int .i64 id_, .int .i64 mo, .int .i64 at_, .int .u32 pat] w fun e w' => e = .returned (.bool true) ∧ Only [] w w' := by
  obtain ⟨i0, hi0, hz0, hz1, hz2⟩ := info_parts Try.infoU8
  obtain ⟨⟨b, s, l, i, m⟩, hi⟩ : ∃ x, madeSuper z0 z1 z2 id_ mo = x := ⟨_, rfl⟩
  have hmay := madeSuper_may z0 z1 z2 id_ mo
  rw [hi] at hmay
  obtain ⟨bs, hb1, hb2, hb3, hb4⟩ := super_back hmay
  have HV := Lib.hid hi
  have HB1 := Lib.hid hb1
  have HB2 := Lib.hid hb2
  have HB3 := Lib.hid hb3
  have HB4 := Lib.hid hb4
  have HA := Lib.hid ha
  have hf : at_ % ((8 * 60 : Nat) : Int) = (at_ % 480).toNat := by
    have h0 : 0 ≤ at_ % 480 := Int.emod_nonneg _ (by decide)
    have h1 : ((8 * 60 : Nat) : Int) = 480 := rfl
    rw [h1]
    omega
  generalize (at_ % 480).toNat = first at *
  have HF := Lib.hid hf
  have H0 := Lib.hid h0
  have H1 := Lib.hid h1
  have H2 := Lib.hid h2
  have H3 := Lib.hid h3
  have H4 := Lib.hid h4
  clear hi hmay hb1 hb2 hb3 hb4 hf h0 h1 h2 h3 h4 ha
  go_enter Try.func3, Try.ntmps3
  go_wp2_with fail
  refine (made5 z0 z1 z2 id_ mo _ H0.out H1.out H2.out H3.out H4.out).mono ?_
  rintro e w1 ⟨rfl, hO1⟩
  rw [HV.out]
  simp only [Su.vals]
  have HO1 := Lib.hid (((Only.refl [] w).alloc (.cells #[.int .i64 z0, .int .i64 z1, .int .i64 z2] 22)).trans' hO1)
  clear hO1
  go_wp2_with fail
  refine (super_enc_own b s l i m _).mono ?_
  intro e w2 he
  rw [HB1.out] at he
  obtain ⟨g, c, rfl, hc, hm, hg, ho, hO2⟩ := he.of_some
  rw [HB2.out] at hc ⊢
  have HG := Lib.hid ho
  have HO2 := Lib.hid (HO1.out.trans' hO2)
  have hgw : w.heap.size ≤ g := Nat.le_trans HO1.out.size hg
  clear he hO2 ho HO1
  go_wp2_with fail
  refine (turned_any (some ⟨g, 0, none⟩) 64 c bs 60 at_ first pat _ (by exact Row1.of_Own HG.out (by simp [HB2.out]) hc hm) (by decide) (by decide) (by decide) HA.out HF.out hp).mono ?_
  rintro e w4 ⟨g4, rfl, hg4, ho4, hO4⟩
  have HT : Hid (Bys w4 (some ⟨g4, 0, none⟩) 64 64 (turnB bs first (8 * 60) pat 32)) := Lib.hid (Row1.of_Own ho4 (by rw [bvs_length, turnB_length]; exact HB2.out) (Nat.le_refl _) (by unfold maxLen; omega))
  have HG4 := Lib.hid (HG.out.keep0 hO4)
  have HO4 := Lib.hid (HO2.out.trans' hO4)
  clear ho4 hO4 HG HO2
  cases hany : turnA first (8 * 60) pat 32
  · have hY := turnB_none bs first (8 * 60) pat 32 hany
    have HD : Hid (decSuper (turnB bs first (8 * 60) pat 32) = some ⟨b, s, l, i, m⟩) := Lib.hid (by rw [hY]; exact HB4.out)
    clear hY
    generalize turnB bs first (8 * 60) pat 32 = Y at *
    go_wp2_with fail
    refine (super_dec_any _ 64 64 Y _ (by exact HT.out) (by decide)).mono ?_
    rintro e w5 ⟨rfl, hO5⟩
    rw [HD.out]
    simp only [Option.getD_some, Option.isSome_some, if_true, Su.vals]
    have HG5 := Lib.hid ((HG4.out.keep0 hO5).alloc (.cells #[.int .i64 b, .int .i64 s, .int .i64 l, .int .i64 i, .int .i64 m] 31))
    have HO5 := Lib.hid ((HO4.out.trans' hO5).alloc (.cells #[.int .i64 b, .int .i64 s, .int .i64 l, .int .i64 i, .int .i64 m] 31))
    clear hO5 HG4 HO4
    go_wp2_with fail
    have h63 : Hid (decSuper (bs.take 63) = none) := Lib.hid (super_len (by simp [HB2.out]))
    refine (super_dec_any (some ⟨g, 0, none⟩) 63 c (bs.take 63) _ (by have h1 := HG5.out.take 63; rw [show (bvs bs).take 63 = bvs (bs.take 63) from by simp [bvs, List.map_take]] at h1; exact Row1.of_Own h1 (by simp [HB2.out]) (by omega) hm) (by decide)).mono ?_
    rintro e w6 ⟨rfl, hO6⟩
    rw [h63.out]
    simp only [Option.getD_none, Option.isSome_none, Su.vals]
    have HG6 := Lib.hid ((HG5.out.keep0 hO6).alloc (.cells #[.int .i64 0, .int .i64 0, .int .i64 0, .int .i64 0, .int .i64 0] 31))
    have HO6 := Lib.hid ((HO5.out.trans' hO6).alloc (.cells #[.int .i64 0, .int .i64 0, .int .i64 0, .int .i64 0, .int .i64 0] 31))
    clear hO6 HG5 HO5
    go_upto_region 7 with (fail)
    generalize w6.alloc (.cells #[.int .i64 0, .int .i64 0, .int .i64 0, .int .i64 0, .int .i64 0] 31) = w7 at *
    have hR := Row1.of_Own (HG6.out) (by simp [HB2.out]) hc hm
    have HR := Lib.hid hR
    have HE := Lib.hid (Gath.empty w7 5)
    have HOE := Lib.hid ((Only.refl [] w7).alloc (.cells #[] 5))
    have HLB : Hid ((bvs bs).length = 64) := Lib.hid (by simp [HB2.out])
    clear hR
    go_wp2_with (first
      | (at_builtin; refine wpList_append_row1 rfl (.tmp 55) (.tmp 56) 24 rfl w7.heap.size 5 i0 _ 1 Try.underlying24 hi0 hz0 hz1 hz2 rfl (.slice (some ⟨w7.heap.size, 0, none⟩) 0 0) 0 [] rfl (by first | exact HE.out.1 | exact HE.out.drew.1) (some ⟨g, 0, none⟩) 64 c (bvs bs) rfl (by first | exact HR.out.alloc _ | exact (HR.out.alloc _).drew) (bvs_one _) (by unfold maxLen; omega) (by omega) (by simp) ?_
         intro v1 w8 hown1 hgr1 hat1
         have hG1 : Gath w8 w7.heap.size 5 v1 (bvs bs) ∧ Only [] w7 w8 := by
           first
             | exact HE.out.grown HOE.out rfl hown1 (by simp [HB2.out]) hgr1
             | exact HE.out.drew.grown HOE.out.drew rfl hown1 (by simp [HB2.out]) hgr1
         obtain ⟨A8, c8, rfl, hrow8, hb8⟩ := hG1.1.formN HLB.out
         have HG1 := Lib.hid hG1
         clear hG1 hown1 hgr1 hat1 hrow8 hb8)
      | (at_builtin; refine wpList_append_row1 rfl (.tmp 57) (.tmp 58) 24 rfl w7.heap.size 5 i0 _ 1 Try.underlying24 hi0 hz0 hz1 hz2 rfl (.slice A8 64 c8) 64 (bvs bs) rfl (HG1.out.1.own ((Only.refl _ _).alloc _) HLB.out) _ 1 1 (bvs [0]) rfl (Row1.of_Own (Own.new w8 #[.int .u8 0] 5) rfl (Nat.le_refl _) (by unfold maxLen; omega)) (bvs_one _) (by unfold maxLen; omega) (by omega) (HG1.out.1.base_le ((Only.refl _ _).alloc _)) ?_
         intro v2 w9 hown2 hgr2 hat2
         have hG2 := (HG1.out.1.alloc (.cells #[.int .u8 0] 5)).grown (HG1.out.2.alloc (.cells #[.int .u8 0] 5)) rfl hown2 (by rw [List.length_append, HLB.out]; rfl) hgr2
         have hb65 : (bvs bs ++ bvs [0]).length = 65 := by rw [List.length_append, HLB.out]; rfl
         obtain ⟨A9, c9, rfl, hrow9, hb9⟩ := hG2.1.formN hb65
         have hbv : bvs bs ++ bvs [0] = bvs (bs ++ [0]) := by simp [bvs]
         rw [hbv] at hrow9
         have HR9 := Lib.hid hrow9
         have HO9 := Lib.hid (HO6.out.trans' hG2.2)
         clear hG2 hown2 hgr2 hat2 hrow9 hb9 hbv hb65)
      | fail)
    have h65 : Hid (decSuper (bs ++ [0]) = none) := Lib.hid (super_len (by simp [HB2.out]))
    refine (super_dec_any A9 65 c9 (bs ++ [0]) _ (by exact HR9.out) (by decide)).mono ?_
    rintro e w10 ⟨rfl, hO10⟩
    rw [h65.out]
    simp only [Option.getD_none, Option.isSome_none, Su.vals]
    have HO10 := Lib.hid (HO9.out.trans' hO10)
    clear hO10
    go_wp2_with fail
    have HO11 := Lib.hid (HO10.out.alloc (.cells #[.int .i64 0, .int .i64 0, .int .i64 0, .int .i64 0, .int .i64 0] 31))
    refine (awake5 _).mono ?_
    rintro e w11 ⟨rfl, hO12⟩
    have HO12 := Lib.hid (HO11.out.trans' hO12)
    go_wp2
    go_ret
    exact ⟨rfl, HO12.out⟩
  · have HD : Hid (decSuper (turnB bs first (8 * 60) pat 32) = none) := Lib.hid (super_turned HB2.out HB3.out hany)
    generalize turnB bs first (8 * 60) pat 32 = Y at *
    go_wp2_with fail
    refine (super_dec_any _ 64 64 Y _ (by exact HT.out) (by decide)).mono ?_
    rintro e w5 ⟨rfl, hO5⟩
    rw [HD.out]
    simp only [Option.getD_none, Option.isSome_none, Su.vals]
    have HG5 := Lib.hid ((HG4.out.keep0 hO5).alloc (.cells #[.int .i64 0, .int .i64 0, .int .i64 0, .int .i64 0, .int .i64 0] 31))
    have HO5 := Lib.hid ((HO4.out.trans' hO5).alloc (.cells #[.int .i64 0, .int .i64 0, .int .i64 0, .int .i64 0, .int .i64 0] 31))
    clear hO5 HG4 HO4
    go_wp2_with fail
    have h63 : Hid (decSuper (bs.take 63) = none) := Lib.hid (super_len (by simp [HB2.out]))
    refine (super_dec_any (some ⟨g, 0, none⟩) 63 c (bs.take 63) _ (by have h1 := HG5.out.take 63; rw [show (bvs bs).take 63 = bvs (bs.take 63) from by simp [bvs, List.map_take]] at h1; exact Row1.of_Own h1 (by simp [HB2.out]) (by omega) hm) (by decide)).mono ?_
    rintro e w6 ⟨rfl, hO6⟩
    rw [h63.out]
    simp only [Option.getD_none, Option.isSome_none, Su.vals]
    have HG6 := Lib.hid ((HG5.out.keep0 hO6).alloc (.cells #[.int .i64 0, .int .i64 0, .int .i64 0, .int .i64 0, .int .i64 0] 31))
    have HO6 := Lib.hid ((HO5.out.trans' hO6).alloc (.cells #[.int .i64 0, .int .i64 0, .int .i64 0, .int .i64 0, .int .i64 0] 31))
    clear hO6 HG5 HO5
    go_upto_region 7 with (fail)
    generalize w6.alloc (.cells #[.int .i64 0, .int .i64 0, .int .i64 0, .int .i64 0, .int .i64 0] 31) = w7 at *
    have hR := Row1.of_Own (HG6.out) (by simp [HB2.out]) hc hm
    have HR := Lib.hid hR
    have HE := Lib.hid (Gath.empty w7 5)
    have HOE := Lib.hid ((Only.refl [] w7).alloc (.cells #[] 5))
    have HLB : Hid ((bvs bs).length = 64) := Lib.hid (by simp [HB2.out])
    clear hR
    go_wp2_with (first
      | (at_builtin; refine wpList_append_row1 rfl (.tmp 55) (.tmp 56) 24 rfl w7.heap.size 5 i0 _ 1 Try.underlying24 hi0 hz0 hz1 hz2 rfl (.slice (some ⟨w7.heap.size, 0, none⟩) 0 0) 0 [] rfl (by first | exact HE.out.1 | exact HE.out.drew.1) (some ⟨g, 0, none⟩) 64 c (bvs bs) rfl (by first | exact HR.out.alloc _ | exact (HR.out.alloc _).drew) (bvs_one _) (by unfold maxLen; omega) (by omega) (by simp) ?_
         intro v1 w8 hown1 hgr1 hat1
         have hG1 : Gath w8 w7.heap.size 5 v1 (bvs bs) ∧ Only [] w7 w8 := by
           first
             | exact HE.out.grown HOE.out rfl hown1 (by simp [HB2.out]) hgr1
             | exact HE.out.drew.grown HOE.out.drew rfl hown1 (by simp [HB2.out]) hgr1
         obtain ⟨A8, c8, rfl, hrow8, hb8⟩ := hG1.1.formN HLB.out
         have HG1 := Lib.hid hG1
         clear hG1 hown1 hgr1 hat1 hrow8 hb8)
      | (at_builtin; refine wpList_append_row1 rfl (.tmp 57) (.tmp 58) 24 rfl w7.heap.size 5 i0 _ 1 Try.underlying24 hi0 hz0 hz1 hz2 rfl (.slice A8 64 c8) 64 (bvs bs) rfl (HG1.out.1.own ((Only.refl _ _).alloc _) HLB.out) _ 1 1 (bvs [0]) rfl (Row1.of_Own (Own.new w8 #[.int .u8 0] 5) rfl (Nat.le_refl _) (by unfold maxLen; omega)) (bvs_one _) (by unfold maxLen; omega) (by omega) (HG1.out.1.base_le ((Only.refl _ _).alloc _)) ?_
         intro v2 w9 hown2 hgr2 hat2
         have hG2 := (HG1.out.1.alloc (.cells #[.int .u8 0] 5)).grown (HG1.out.2.alloc (.cells #[.int .u8 0] 5)) rfl hown2 (by rw [List.length_append, HLB.out]; rfl) hgr2
         have hb65 : (bvs bs ++ bvs [0]).length = 65 := by rw [List.length_append, HLB.out]; rfl
         obtain ⟨A9, c9, rfl, hrow9, hb9⟩ := hG2.1.formN hb65
         have hbv : bvs bs ++ bvs [0] = bvs (bs ++ [0]) := by simp [bvs]
         rw [hbv] at hrow9
         have HR9 := Lib.hid hrow9
         have HO9 := Lib.hid (HO6.out.trans' hG2.2)
         clear hG2 hown2 hgr2 hat2 hrow9 hb9 hbv hb65)
      | fail)
    have h65 : Hid (decSuper (bs ++ [0]) = none) := Lib.hid (super_len (by simp [HB2.out]))
    refine (super_dec_any A9 65 c9 (bs ++ [0]) _ (by exact HR9.out) (by decide)).mono ?_
    rintro e w10 ⟨rfl, hO10⟩
    rw [h65.out]
    simp only [Option.getD_none, Option.isSome_none, Su.vals]
    have HO10 := Lib.hid (HO9.out.trans' hO10)
    clear hO10
    go_wp2_with fail
    have HO11 := Lib.hid (HO10.out.alloc (.cells #[.int .i64 0, .int .i64 0, .int .i64 0, .int .i64 0, .int .i64 0] 31))
    refine (awake5 _).mono ?_
    rintro e w11 ⟨rfl, hO12⟩
    have HO12 := Lib.hid (HO11.out.trans' hO12)
    go_wp2
    go_ret
    exact ⟨rfl, HO12.out⟩

theorem walk (a0_0 a0_1 a0_2 : Int) (a1 : Int) (a2 : Int) (a3 : Int) (a4 : Int) (w : World) (w0_0 : (Lit.int .i64 a0_0).wf = true) (w0_1 : (Lit.int .i64 a0_1).wf = true) (w0_2 : (Lit.int .i64 a0_2).wf = true) (w1 : (Lit.int .i64 a1).wf = true) (w2 : (Lit.int .i64 a2).wf = true) (w3 : (Lit.int .i64 a3).wf = true) (w4 : (Lit.int .u32 a4).wf = true) : Calls Try.prog 3 #[.agg #[.int .i64 a0_0, .int .i64 a0_1, .int .i64 a0_2], .int .i64 a1, .int .i64 a2, .int .i64 a3, .int .u32 a4] w fun e w' => e = .returned (.bool true) ∧ Below w.heap.size w w' := by
  have hx : 0 ≤ a4 ∧ a4 ≤ 4294967295 := by simpa [Lit.wf, IntKind.min, IntKind.max, IntKind.signed, IntKind.bits] using w4
  obtain ⟨p, rfl⟩ : ∃ p : Nat, a4 = p := ⟨a4.toNat, by omega⟩
  refine (spoilt a0_0 a0_1 a0_2 a1 a2 a3 p w w0_0 w0_1 w0_2 w1 w2 w3 (by omega)).mono ?_
  rintro e w' ⟨rfl, hO⟩
  exact ⟨rfl, hO.below0⟩

set_option maxRecDepth 100000 in
theorem lifted (os : Os) (started : os.Started) (H : Type) (enc : TypeId × Value → H) :
    ReturnsInHanded {} Try.checked os 3 .any (Rows.superSpoiltSpec.pre6 enc Try.prog Try.f3 Rows.superSpoiltRow.domain false) (Rows.superSpoiltSpec.post enc Try.prog Try.f3 false true false false) := by
  refine returnsInHanded_of_change (C := Try.checked) own started (by kernel_rfl) Try.func3
    (ChangeSpec.witness6 (enc := enc) (C := Try.checked) false ⟨#[], #[.agg #[.int .i64 0, .int .i64 0, .int .i64 0], .int .i64 0, .int .i64 0, .int .i64 0, .int .u32 0], []⟩ 8 (by kernel_rfl) (by kernel_rfl) (by kernel_rfl) (by kernel_rfl)) ?_
  intro W base args ds gs before hval0 hW hcnd _
  have hval : ∀ (j : Nat) t v, Try.f3.params[j]? = some t → args[j]? = some v → Value.okWide Try.prog W .any base t v := hval0
  have hW' := hW
  obtain ⟨p, q, hA0, hV, rfl, hfz, hnd⟩ := hW
  have hA : DataW.TrodAll enc Try.prog W 0 (fun _ => true) true Try.f3.params.toList args.toList ds p := hA0
  rw [Try.params3] at hA hval
  obtain ⟨v0, vs0, d0, ds0, p0, q0, hargs, rfl, rfl, h0, r0⟩ := trodAll_cons hA
  obtain ⟨v1, vs1, d1, ds1, p1, q1, rfl, rfl, rfl, h1, r1⟩ := trodAll_cons r0
  obtain ⟨v2, vs2, d2, ds2, p2, q2, rfl, rfl, rfl, h2, r2⟩ := trodAll_cons r1
  obtain ⟨v3, vs3, d3, ds3, p3, q3, rfl, rfl, rfl, h3, r3⟩ := trodAll_cons r2
  obtain ⟨v4, vs4, d4, ds4, p4, q4, rfl, rfl, rfl, h4, r4⟩ := trodAll_cons r3
  obtain ⟨rfl, rfl, rfl⟩ := trodAll_nil r4
  obtain rfl : args = #[v0, v1, v2, v3, v4] := by cases args; simp_all
  obtain ⟨rfl, rfl⟩ := trodVars_none hV
  have k0 := h0
  have lt0 : ∀ x ∈ p0, x.block < W.heap.size := by obtain ⟨m, hm⟩ := k0; exact DataW.trod_lt m _ _ _ hm
  obtain ⟨a0_0, a0_1, a0_2, rfl, w0_0, w0_1, w0_2⟩ := open_arr3 (okWide_array Try.underlying22 (hval 0 22 v0 rfl rfl)) h0
  obtain ⟨a1, rfl, rfl, rfl, w1⟩ := open_int Try.underlying3 (hval 1 3 v1 rfl rfl) h1
  obtain ⟨a2, rfl, rfl, rfl, w2⟩ := open_int Try.underlying3 (hval 2 3 v2 rfl rfl) h2
  obtain ⟨a3, rfl, rfl, rfl, w3⟩ := open_int Try.underlying3 (hval 3 3 v3 rfl rfl) h3
  obtain ⟨a4, rfl, rfl, rfl, w4⟩ := open_int Try.underlying23 (hval 4 23 v4 rfl rfl) h4
  clear hA0 hval0
  refine (walk a0_0 a0_1 a0_2 a1 a2 a3 a4 W w0_0 w0_1 w0_2 w1 w2 w3 w4).mono fun e W' ⟨he, bel⟩ => ?_
  subst he
  exact ⟨_, rfl, _, _, _, [], _, [], hW', trodAll_mk1 (shut_bool Try.underlying4 _), (trodAll_cons_mk (Below.trod laidOut (by kernel_rfl) (of_decide_eq_true (by kernel_rfl)) k0 bel lt0) (trodAll_cons_mk (shut_int Try.underlying3 w1) (trodAll_cons_mk (shut_int Try.underlying3 w2) (trodAll_cons_mk (shut_int Try.underlying3 w3) (trodAll_cons_mk (shut_int Try.underlying23 w4) trodAll_mk0))))), rfl, bel.frame _, fun h => by cases h⟩

set_option maxRecDepth 100000 in
theorem closed : joinedFacts Try.pinned.checked.prog 3 Try.f3 Rows.superSpoiltSpec Rows.superSpoiltRow = true := by
  show joinedFacts Try.prog 3 Try.f3 Rows.superSpoiltSpec Rows.superSpoiltRow = true
  unfold joinedFacts
  simp only [enter_may, enter_lifts, enter_make]
  kernel_rfl

theorem over : Rows.superSpoiltRow.holds Try.pinned (OpenSpec.ofChange Rows.superSpoiltSpec) :=
  OpenClaim.holds_of_wide 3 Try.f3 rfl rfl rfl rfl rfl rfl rfl ⟨rfl, rfl, rfl, rfl, rfl⟩ rfl rfl rfl rfl rfl (by kernel_rfl) Try.func3 closed
    (of_decide_eq_true (by kernel_rfl)) (by unfold Func.isWrapper; first | (rw [if_pos (by decide +kernel)]; kernel_rfl) | (rw [if_neg (by decide +kernel)]; exact ⟨rfl, rfl⟩))
    (fun os started H enc _ => lifted os started H enc)

theorem proved : Rows.SuperSpoiltSaid := over

end Go.Proofs.Ytjmbhknokobnpaa.superSpoilt
