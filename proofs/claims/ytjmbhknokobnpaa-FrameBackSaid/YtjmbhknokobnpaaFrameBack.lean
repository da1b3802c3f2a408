/- Claim FrameBack. Printed by mkframeback.py. -/
import Derived.Test.YtjmbhknokobnpaaEnter
import Derived.Test.YtjmbhknokobnpaaLaw22C
import Derived.Test.YtjmbhknokobnpaaWireX
import Derived.Test.YtjmbhknokobnpaaFrameW
set_option linter.unusedVariables false
set_option linter.unusedSimpArgs false
namespace Go.Kn
open Go Go.RowKit
theorem frMay_d0 {f : Fr} (h : frMay f = true) (h8 : f.k ≠ 8) : f.d = 0 := by
  have hk := frMay_kind h
  unfold frMay at h
  rcases hk with h1 | h1 | h1 | h1 | h1
  · simp [h1] at h
    omega
  · simp [h1] at h
    omega
  · simp [h1] at h
    omega
  · exact absurd h1 h8
  · simp [h1] at h
    omega
end Go.Kn
namespace Go.Proofs.Ytjmbhknokobnpaa.frameBack
open Go Go.RowKit Go.Kn Go.ChangeShapes Go.WideShapes Go.ChangeAt

set_option maxRecDepth 100000 in
set_option maxHeartbeats 16000000 in
theorem back25n (z0 z1 z2 z3 z4 z5 k v s b c e d : Int) (xs : List UInt8) (w : World) (h0 : (Lit.int .i64 z0).wf = true) (h1 : (Lit.int .i64 z1).wf = true) (h2 : (Lit.int .i64 z2).wf = true) (h3 : (Lit.int .i64 z3).wf = true) (h4 : (Lit.int .i64 z4).wf = true) (h5 : (Lit.int .i64 z5).wf = true) (hi : madeFr z0 z1 z2 z3 z4 z5 = ⟨k, v, s, b, c, e, d, xs⟩) (hk : 3 < k) (hN : (frBytes ⟨k, v, s, b, c, e, d, xs⟩).length = 25) :
    Calls Try.prog 13 #[.agg #[.int .i64 z0, .int .i64 z1, .int .i64 z2, .int .i64 z3, .int .i64 z4, .int .i64 z5]] w fun e w' => e = .returned (.bool true) ∧ Only [] w w' := by
  obtain ⟨i0, hi0, hz0, hz1, hz2⟩ := info_parts Try.infoU8
  have hmay := madeFr_may z0 z1 z2 z3 z4 z5
  rw [hi] at hmay
  obtain ⟨hb1, hb2⟩ := fr_back hmay
  obtain ⟨bs, hbs⟩ : ∃ x, frBytes ⟨k, v, s, b, c, e, d, xs⟩ = x := ⟨_, rfl⟩
  rw [hbs] at hb1 hb2 hN
  have HMAY := Lib.hid hmay
  have HV := Lib.hid hi
  have HB1 := Lib.hid hb1
  have HB2 := Lib.hid hN
  have HB4 := Lib.hid hb2
  have HOP : Hid (opOf ⟨k, v, s, b, c, e, d, xs⟩ = none) := Lib.hid (by
    unfold opOf
    dsimp only
    rw [if_neg]
    rintro ⟨_, h8, h9⟩
    have hk2 := frMay_kind hmay
    dsimp only at hk2
    omega)
  have hd3 : decide (3 < k) = true := decide_eq_true hk
  have H0 := Lib.hid h0
  have H1 := Lib.hid h1
  have H2 := Lib.hid h2
  have H3 := Lib.hid h3
  have H4 := Lib.hid h4
  have H5 := Lib.hid h5
  clear hi hmay hb1 hb2 hN hbs hk h0 h1 h2 h3 h4 h5
  go_enter Try.func13, Try.ntmps13
  go_wp2_with fail
  refine (made22 z0 z1 z2 z3 z4 z5 _ H0.out H1.out H2.out H3.out H4.out H5.out).mono ?_
  rintro en w1 ⟨A1, n1, c1, rfl, hd1, hO1⟩
  rw [HV.out] at hd1 ⊢
  dsimp only at hd1 ⊢
  have HD1 := Lib.hid (hd1.alloc (.cells #[.int .i64 k, .int .i64 v, .int .i64 s, .int .i64 b, .int .i64 c, .int .i64 e, .int .i64 d, .slice A1 n1 c1] 64))
  have HX1 := Lib.hid ((Boxes.nil w1).new #[.int .i64 k, .int .i64 v, .int .i64 s, .int .i64 b, .int .i64 c, .int .i64 e, .int .i64 d, .slice A1 n1 c1] 64)
  have HO1 := Lib.hid ((((Only.refl [] w).alloc (.cells #[.int .i64 z0, .int .i64 z1, .int .i64 z2, .int .i64 z3, .int .i64 z4, .int .i64 z5] 74)).trans' hO1).alloc (.cells #[.int .i64 k, .int .i64 v, .int .i64 s, .int .i64 b, .int .i64 c, .int .i64 e, .int .i64 d, .slice A1 n1 c1] 64))
  clear hO1 hd1
  go_wp2_with fail
  refine (frame_enc_own k v s b c e d A1 n1 c1 xs _ (by exact HD1.out)).mono ?_
  intro en w2 he
  rw [HB1.out] at he
  obtain ⟨g, cg, rfl, hc, hm, hg, ho, hO2⟩ := he.of_some
  rw [HB2.out] at hc ⊢
  have HG := Lib.hid ho
  have HD2 := Lib.hid (HD1.out.keep0 hO2)
  have HX2 := Lib.hid (HX1.out.keep0 hO2)
  have HO2 := Lib.hid (HO1.out.trans' hO2)
  clear he hO2 ho HO1 HD1 HX1 hg
  go_wp2_with fail
  refine (frame_dec_any (some ⟨g, 0, none⟩) 25 cg bs _ (by exact Row1.of_Own HG.out (by simp [HB2.out]) hc hm) (by decide)).mono ?_
  rintro en w3 ⟨A3, n3, c3, rfl, hy3, hO3⟩
  rw [HB4.out] at hy3 ⊢
  simp only [Option.getD_some, Option.isSome_some, if_true] at hy3 ⊢
  have HG3 := Lib.hid ((HG.out.keep0 hO3).alloc (.cells #[.int .i64 k, .int .i64 v, .int .i64 s, .int .i64 b, .int .i64 c, .int .i64 e, .int .i64 d, .slice A3 n3 c3] 64))
  have HD3 := Lib.hid ((HD2.out.keep0 hO3).alloc (.cells #[.int .i64 k, .int .i64 v, .int .i64 s, .int .i64 b, .int .i64 c, .int .i64 e, .int .i64 d, .slice A3 n3 c3] 64))
  have HX3 := Lib.hid ((HX2.out.keep0 hO3).new #[.int .i64 k, .int .i64 v, .int .i64 s, .int .i64 b, .int .i64 c, .int .i64 e, .int .i64 d, .slice A3 n3 c3] 64)
  have HY3 := Lib.hid (hy3.alloc (.cells #[.int .i64 k, .int .i64 v, .int .i64 s, .int .i64 b, .int .i64 c, .int .i64 e, .int .i64 d, .slice A3 n3 c3] 64))
  have HO3 := Lib.hid ((HO2.out.trans' hO3).alloc (.cells #[.int .i64 k, .int .i64 v, .int .i64 s, .int .i64 b, .int .i64 c, .int .i64 e, .int .i64 d, .slice A3 n3 c3] 64))
  clear hy3 hO3 HG HD2 HX2 HO2
  go_wp2_with fail
  have hshort : Hid (decFr (bs.take 24) = none) := Lib.hid (fr_len (by simp [HB2.out]))
  refine (frame_dec_any (some ⟨g, 0, none⟩) 24 cg (bs.take 24) _ (by have h1 := HG3.out.take 24; rw [show (bvs bs).take 24 = bvs (bs.take 24) from by simp [bvs, List.map_take]] at h1; exact Row1.of_Own h1 (by simp [HB2.out]) (by omega) hm) (by decide)).mono ?_
  rintro en w4 ⟨A4, n4, c4, rfl, _, hO4⟩
  rw [hshort.out]
  simp only [Option.getD_none, Option.isSome_none, frZero]
  have HG4 := Lib.hid ((HG3.out.keep0 hO4).alloc (.cells #[.int .i64 0, .int .i64 0, .int .i64 0, .int .i64 0, .int .i64 0, .int .i64 0, .int .i64 0, .slice A4 n4 c4] 64))
  have HD4 := Lib.hid ((HD3.out.keep0 hO4).alloc (.cells #[.int .i64 0, .int .i64 0, .int .i64 0, .int .i64 0, .int .i64 0, .int .i64 0, .int .i64 0, .slice A4 n4 c4] 64))
  have HX4 := Lib.hid ((HX3.out.keep0 hO4).alloc (.cells #[.int .i64 0, .int .i64 0, .int .i64 0, .int .i64 0, .int .i64 0, .int .i64 0, .int .i64 0, .slice A4 n4 c4] 64))
  have HY4 := Lib.hid ((HY3.out.keep0 hO4).alloc (.cells #[.int .i64 0, .int .i64 0, .int .i64 0, .int .i64 0, .int .i64 0, .int .i64 0, .int .i64 0, .slice A4 n4 c4] 64))
  have HO4 := Lib.hid ((HO3.out.trans' hO4).alloc (.cells #[.int .i64 0, .int .i64 0, .int .i64 0, .int .i64 0, .int .i64 0, .int .i64 0, .int .i64 0, .slice A4 n4 c4] 64))
  clear hO4 HG3 HD3 HX3 HY3 HO3
  go_upto_region 7 with (fail)
  generalize w4.alloc (.cells #[.int .i64 0, .int .i64 0, .int .i64 0, .int .i64 0, .int .i64 0, .int .i64 0, .int .i64 0, .slice A4 n4 c4] 64) = w7 at *
  have hR := Row1.of_Own (HG4.out) (by simp [HB2.out]) hc hm
  have HR := Lib.hid hR
  have HE := Lib.hid (Gath.empty w7 5)
  have HOE := Lib.hid ((Only.refl [] w7).alloc (.cells #[] 5))
  have HLB : Hid ((bvs bs).length = 25) := Lib.hid (by simp [HB2.out])
  clear hR
  go_wp2_with (first
    | (at_builtin; refine wpList_append_row1 rfl (.tmp 45) (.tmp 46) 24 rfl w7.heap.size 5 i0 _ 1 Try.underlying24 hi0 hz0 hz1 hz2 rfl (.slice (some ⟨w7.heap.size, 0, none⟩) 0 0) 0 [] rfl (by first | exact HE.out.1 | exact HE.out.drew.1) (some ⟨g, 0, none⟩) 25 cg (bvs bs) rfl (by first | exact HR.out.alloc _ | exact (HR.out.alloc _).drew) (bvs_one _) (by unfold maxLen; omega) (by omega) (by simp) ?_
       intro v1 w8 hown1 hgr1 hat1
       have hG1 : Gath w8 w7.heap.size 5 v1 (bvs bs) ∧ Only [] w7 w8 := by
         first
           | exact HE.out.grown HOE.out rfl hown1 (by simp [HB2.out]) hgr1
           | exact HE.out.drew.grown HOE.out.drew rfl hown1 (by simp [HB2.out]) hgr1
       obtain ⟨A8, c8, rfl, hrow8, hb8⟩ := hG1.1.formN HLB.out
       have HG1 := Lib.hid hG1
       clear hG1 hown1 hgr1 hat1 hrow8 hb8)
    | (at_builtin; refine wpList_append_row1 rfl (.tmp 47) (.tmp 48) 24 rfl w7.heap.size 5 i0 _ 1 Try.underlying24 hi0 hz0 hz1 hz2 rfl (.slice A8 25 c8) 25 (bvs bs) rfl (HG1.out.1.own ((Only.refl _ _).alloc _) HLB.out) _ 1 1 (bvs [0]) rfl (Row1.of_Own (Own.new w8 #[.int .u8 0] 5) rfl (Nat.le_refl _) (by unfold maxLen; omega)) (bvs_one _) (by unfold maxLen; omega) (by omega) (HG1.out.1.base_le ((Only.refl _ _).alloc _)) ?_
       intro v2 w9 hown2 hgr2 hat2
       have hG2 := (HG1.out.1.alloc (.cells #[.int .u8 0] 5)).grown (HG1.out.2.alloc (.cells #[.int .u8 0] 5)) rfl hown2 (by rw [List.length_append, HLB.out]; rfl) hgr2
       have hb65 : (bvs bs ++ bvs [0]).length = 26 := by rw [List.length_append, HLB.out]; rfl
       obtain ⟨A9, c9, rfl, hrow9, hb9⟩ := hG2.1.formN hb65
       have hbv : bvs bs ++ bvs [0] = bvs (bs ++ [0]) := by simp [bvs]
       rw [hbv] at hrow9
       have HR9 := Lib.hid hrow9
       have HD9 := Lib.hid (HD4.out.keep0 hG2.2)
       have HX9 := Lib.hid (HX4.out.keep0 hG2.2)
       have HY9 := Lib.hid (HY4.out.keep0 hG2.2)
       have HO9 := Lib.hid (HO4.out.trans' hG2.2)
       clear hG2 hown2 hgr2 hat2 hrow9 hb9 hbv hb65)
    | fail)
  have hlong : Hid (decFr (bs ++ [0]) = none) := Lib.hid (fr_len (by simp [HB2.out]))
  refine (frame_dec_any A9 26 c9 (bs ++ [0]) _ (by exact HR9.out) (by decide)).mono ?_
  rintro en w10 ⟨A10, n10, c10, rfl, _, hO10⟩
  rw [hlong.out]
  simp only [Option.getD_none, Option.isSome_none, frZero]
  have HBB := HX9.out.keep0 hO10
  have Bf := HBB (w1.heap.size, [.int .i64 k, .int .i64 v, .int .i64 s, .int .i64 b, .int .i64 c, .int .i64 e, .int .i64 d, .slice A1 n1 c1]) (by simp)
  have f0 := Bf.cell 0 (by simp)
  have f1 := Bf.cell 1 (by simp)
  have f2 := Bf.cell 2 (by simp)
  have f3 := Bf.cell 3 (by simp)
  have f4 := Bf.cell 4 (by simp)
  have f5 := Bf.cell 5 (by simp)
  have f6 := Bf.cell 6 (by simp)
  have f7 := Bf.cell 7 (by simp)
  simp only [List.getElem_cons_zero, List.getElem_cons_succ] at f0 f1 f2 f3 f4 f5 f6 f7
  have ltf := Bf.lt
  clear Bf
  have HD10 := Lib.hid ((HD9.out.keep0 hO10).alloc (.cells #[.int .i64 0, .int .i64 0, .int .i64 0, .int .i64 0, .int .i64 0, .int .i64 0, .int .i64 0, .slice A10 n10 c10] 64))
  have HX10 := Lib.hid ((HX9.out.keep0 hO10).alloc (.cells #[.int .i64 0, .int .i64 0, .int .i64 0, .int .i64 0, .int .i64 0, .int .i64 0, .int .i64 0, .slice A10 n10 c10] 64))
  have HY10 := Lib.hid ((HY9.out.keep0 hO10).alloc (.cells #[.int .i64 0, .int .i64 0, .int .i64 0, .int .i64 0, .int .i64 0, .int .i64 0, .int .i64 0, .slice A10 n10 c10] 64))
  have HO10 := Lib.hid ((HO9.out.trans' hO10).alloc (.cells #[.int .i64 0, .int .i64 0, .int .i64 0, .int .i64 0, .int .i64 0, .int .i64 0, .int .i64 0, .slice A10 n10 c10] 64))
  clear hO10 HBB HG4 HD4 HX4 HY4 HO4 HR HE HOE HG1 HR9 HD9 HX9 HY9 HO9
  go_wp2_with fail
  refine (frame_may_any k v s b c e d A1 n1 c1 xs _ (by exact HD10.out)).mono ?_
  rintro en w11 ⟨rfl, hO11⟩
  rw [HMAY.out]
  have HD11 := Lib.hid (HD10.out.keep0 hO11)
  have HX11 := Lib.hid (HX10.out.keep0 hO11)
  have HY11 := Lib.hid (HY10.out.keep0 hO11)
  have HO11 := Lib.hid (HO10.out.trans' hO11)
  clear hO11 HD10 HX10 HY10 HO10 f0 f1 f2 f3 f4 f5 f6 f7 ltf
  have Bf := HX11.out (w1.heap.size, [.int .i64 k, .int .i64 v, .int .i64 s, .int .i64 b, .int .i64 c, .int .i64 e, .int .i64 d, .slice A1 n1 c1]) (by simp)
  have f0 := Bf.cell 0 (by simp)
  have f1 := Bf.cell 1 (by simp)
  have f2 := Bf.cell 2 (by simp)
  have f3 := Bf.cell 3 (by simp)
  have f4 := Bf.cell 4 (by simp)
  have f5 := Bf.cell 5 (by simp)
  have f6 := Bf.cell 6 (by simp)
  have f7 := Bf.cell 7 (by simp)
  simp only [List.getElem_cons_zero, List.getElem_cons_succ] at f0 f1 f2 f3 f4 f5 f6 f7
  have ltf := Bf.lt
  clear Bf
  have Bg := HX11.out (w3.heap.size, [.int .i64 k, .int .i64 v, .int .i64 s, .int .i64 b, .int .i64 c, .int .i64 e, .int .i64 d, .slice A3 n3 c3]) (by simp)
  have g0 := Bg.cell 0 (by simp)
  have g1 := Bg.cell 1 (by simp)
  have g2 := Bg.cell 2 (by simp)
  have g3 := Bg.cell 3 (by simp)
  have g4 := Bg.cell 4 (by simp)
  have g5 := Bg.cell 5 (by simp)
  have g6 := Bg.cell 6 (by simp)
  have g7 := Bg.cell 7 (by simp)
  simp only [List.getElem_cons_zero, List.getElem_cons_succ] at g0 g1 g2 g3 g4 g5 g6 g7
  have ltg := Bg.lt
  clear Bg
  go_wp2_with fail
  refine (alike_frame_any k v s b c e d A3 n3 c3 xs k v s b c e d A1 n1 c1 xs _ (by exact HY11.out) (by exact HD11.out)).mono ?_
  rintro en w12 ⟨rfl, hO12⟩
  have hdd : (k == k && v == v && s == s && b == b && c == c && e == e && (d : Int) == d && decide (xs = xs)) = true := by simp
  rw [hdd]
  have HD12 := Lib.hid (HD11.out.keep0 hO12)
  have HX12 := Lib.hid (HX11.out.keep0 hO12)
  have HO12 := Lib.hid (HO11.out.trans' hO12)
  clear hdd hO12 HD11 HX11 HY11 HO11 f0 f1 f2 f3 f4 f5 f6 f7 g0 g1 g2 g3 g4 g5 g6 g7 ltf ltg
  have Bf := HX12.out (w1.heap.size, [.int .i64 k, .int .i64 v, .int .i64 s, .int .i64 b, .int .i64 c, .int .i64 e, .int .i64 d, .slice A1 n1 c1]) (by simp)
  have f0 := Bf.cell 0 (by simp)
  have f1 := Bf.cell 1 (by simp)
  have f2 := Bf.cell 2 (by simp)
  have f3 := Bf.cell 3 (by simp)
  have f4 := Bf.cell 4 (by simp)
  have f5 := Bf.cell 5 (by simp)
  have f6 := Bf.cell 6 (by simp)
  have f7 := Bf.cell 7 (by simp)
  simp only [List.getElem_cons_zero, List.getElem_cons_succ] at f0 f1 f2 f3 f4 f5 f6 f7
  have ltf := Bf.lt
  clear Bf
  go_wp2_with fail
  refine (frame_op_any k v s b c e d A1 n1 c1 xs _ (by exact HD12.out)).mono ?_
  rintro en w13 ⟨A13, n13, c13, rfl, hr13, hO13⟩
  rw [HOP.out] at hr13 ⊢
  simp only [Option.getD_none, Option.isSome_none, opZero]
  have HBB := HX12.out.keep0 hO13
  clear f0 f1 f2 f3 f4 f5 f6 f7 ltf
  have Bf := HBB (w1.heap.size, [.int .i64 k, .int .i64 v, .int .i64 s, .int .i64 b, .int .i64 c, .int .i64 e, .int .i64 d, .slice A1 n1 c1]) (by simp)
  have f0 := Bf.cell 0 (by simp)
  have f1 := Bf.cell 1 (by simp)
  have f2 := Bf.cell 2 (by simp)
  have f3 := Bf.cell 3 (by simp)
  have f4 := Bf.cell 4 (by simp)
  have f5 := Bf.cell 5 (by simp)
  have f6 := Bf.cell 6 (by simp)
  have f7 := Bf.cell 7 (by simp)
  simp only [List.getElem_cons_zero, List.getElem_cons_succ] at f0 f1 f2 f3 f4 f5 f6 f7
  have ltf := Bf.lt
  clear Bf
  have HO13 := Lib.hid ((HO12.out.trans' hO13).alloc (.cells #[.int .i64 0, .int .i64 0, .int .i64 0, .int .i64 0, .slice A13 n13 c13] 78))
  clear hO13 HBB HO12 HX12 HD12 hr13
  go_wp2_with fail
  refine (awake22 _).mono ?_
  rintro en w14 ⟨rfl, hO14⟩
  have HO14 := Lib.hid (HO13.out.trans' hO14)
  go_wp2
  go_ret
  exact ⟨rfl, HO14.out⟩

set_option maxRecDepth 100000 in
set_option maxHeartbeats 16000000 in
theorem back25y (z0 z1 z2 z3 z4 z5 k v s b c e : Int) (xs : List UInt8) (w : World) (h0 : (Lit.int .i64 z0).wf = true) (h1 : (Lit.int .i64 z1).wf = true) (h2 : (Lit.int .i64 z2).wf = true) (h3 : (Lit.int .i64 z3).wf = true) (h4 : (Lit.int .i64 z4).wf = true) (h5 : (Lit.int .i64 z5).wf = true) (hi : madeFr z0 z1 z2 z3 z4 z5 = ⟨k, v, s, b, c, e, 0, xs⟩) (h8 : k ≠ 8) (h9 : k ≠ 9) (hk : k ≤ 3) (hN : (frBytes ⟨k, v, s, b, c, e, 0, xs⟩).length = 25) :
    Calls Try.prog 13 #[.agg #[.int .i64 z0, .int .i64 z1, .int .i64 z2, .int .i64 z3, .int .i64 z4, .int .i64 z5]] w fun e w' => e = .returned (.bool true) ∧ Only [] w w' := by
  obtain ⟨i0, hi0, hz0, hz1, hz2⟩ := info_parts Try.infoU8
  have hmay := madeFr_may z0 z1 z2 z3 z4 z5
  rw [hi] at hmay
  obtain ⟨hb1, hb2⟩ := fr_back hmay
  obtain ⟨bs, hbs⟩ : ∃ x, frBytes ⟨k, v, s, b, c, e, 0, xs⟩ = x := ⟨_, rfl⟩
  rw [hbs] at hb1 hb2 hN
  have HMAY := Lib.hid hmay
  have HV := Lib.hid hi
  have HB1 := Lib.hid hb1
  have HB2 := Lib.hid hN
  have HB4 := Lib.hid hb2
  have HOP : Hid (opOf ⟨k, v, s, b, c, e, 0, xs⟩ = some ⟨k, b, c, e, xs⟩) := Lib.hid (by unfold opOf; rw [if_pos ⟨hmay, h8, h9⟩])
  have HFOR : Hid (frFor v s ⟨k, b, c, e, xs⟩ = some ⟨k, v, s, b, c, e, 0, xs⟩) := Lib.hid (by unfold frFor; dsimp only; rw [if_pos ⟨hmay, h8, h9⟩])
  have hxn : xs.length ≤ 1000000 := by have := (frMay_bounds hmay).2.2.2.2.2.2.2; dsimp only at this; omega
  have HXN := Lib.hid hxn
  have hd3 : decide (3 < k) = false := decide_eq_false (by omega)
  clear hxn h8 h9
  have H0 := Lib.hid h0
  have H1 := Lib.hid h1
  have H2 := Lib.hid h2
  have H3 := Lib.hid h3
  have H4 := Lib.hid h4
  have H5 := Lib.hid h5
  clear hi hmay hb1 hb2 hN hbs hk h0 h1 h2 h3 h4 h5
  go_enter Try.func13, Try.ntmps13
  go_wp2_with fail
  refine (made22 z0 z1 z2 z3 z4 z5 _ H0.out H1.out H2.out H3.out H4.out H5.out).mono ?_
  rintro en w1 ⟨A1, n1, c1, rfl, hd1, hO1⟩
  rw [HV.out] at hd1 ⊢
  dsimp only at hd1 ⊢
  have HD1 := Lib.hid (hd1.alloc (.cells #[.int .i64 k, .int .i64 v, .int .i64 s, .int .i64 b, .int .i64 c, .int .i64 e, .int .i64 0, .slice A1 n1 c1] 64))
  have HX1 := Lib.hid ((Boxes.nil w1).new #[.int .i64 k, .int .i64 v, .int .i64 s, .int .i64 b, .int .i64 c, .int .i64 e, .int .i64 0, .slice A1 n1 c1] 64)
  have HO1 := Lib.hid ((((Only.refl [] w).alloc (.cells #[.int .i64 z0, .int .i64 z1, .int .i64 z2, .int .i64 z3, .int .i64 z4, .int .i64 z5] 74)).trans' hO1).alloc (.cells #[.int .i64 k, .int .i64 v, .int .i64 s, .int .i64 b, .int .i64 c, .int .i64 e, .int .i64 0, .slice A1 n1 c1] 64))
  clear hO1 hd1
  go_wp2_with fail
  refine (frame_enc_own k v s b c e 0 A1 n1 c1 xs _ (by exact HD1.out)).mono ?_
  intro en w2 he
  rw [HB1.out] at he
  obtain ⟨g, cg, rfl, hc, hm, hg, ho, hO2⟩ := he.of_some
  rw [HB2.out] at hc ⊢
  have HG := Lib.hid ho
  have HD2 := Lib.hid (HD1.out.keep0 hO2)
  have HX2 := Lib.hid (HX1.out.keep0 hO2)
  have HO2 := Lib.hid (HO1.out.trans' hO2)
  clear he hO2 ho HO1 HD1 HX1 hg
  go_wp2_with fail
  refine (frame_dec_any (some ⟨g, 0, none⟩) 25 cg bs _ (by exact Row1.of_Own HG.out (by simp [HB2.out]) hc hm) (by decide)).mono ?_
  rintro en w3 ⟨A3, n3, c3, rfl, hy3, hO3⟩
  rw [HB4.out] at hy3 ⊢
  simp only [Option.getD_some, Option.isSome_some, if_true] at hy3 ⊢
  have HG3 := Lib.hid ((HG.out.keep0 hO3).alloc (.cells #[.int .i64 k, .int .i64 v, .int .i64 s, .int .i64 b, .int .i64 c, .int .i64 e, .int .i64 0, .slice A3 n3 c3] 64))
  have HD3 := Lib.hid ((HD2.out.keep0 hO3).alloc (.cells #[.int .i64 k, .int .i64 v, .int .i64 s, .int .i64 b, .int .i64 c, .int .i64 e, .int .i64 0, .slice A3 n3 c3] 64))
  have HX3 := Lib.hid ((HX2.out.keep0 hO3).new #[.int .i64 k, .int .i64 v, .int .i64 s, .int .i64 b, .int .i64 c, .int .i64 e, .int .i64 0, .slice A3 n3 c3] 64)
  have HY3 := Lib.hid (hy3.alloc (.cells #[.int .i64 k, .int .i64 v, .int .i64 s, .int .i64 b, .int .i64 c, .int .i64 e, .int .i64 0, .slice A3 n3 c3] 64))
  have HO3 := Lib.hid ((HO2.out.trans' hO3).alloc (.cells #[.int .i64 k, .int .i64 v, .int .i64 s, .int .i64 b, .int .i64 c, .int .i64 e, .int .i64 0, .slice A3 n3 c3] 64))
  clear hy3 hO3 HG HD2 HX2 HO2
  go_wp2_with fail
  have hshort : Hid (decFr (bs.take 24) = none) := Lib.hid (fr_len (by simp [HB2.out]))
  refine (frame_dec_any (some ⟨g, 0, none⟩) 24 cg (bs.take 24) _ (by have h1 := HG3.out.take 24; rw [show (bvs bs).take 24 = bvs (bs.take 24) from by simp [bvs, List.map_take]] at h1; exact Row1.of_Own h1 (by simp [HB2.out]) (by omega) hm) (by decide)).mono ?_
  rintro en w4 ⟨A4, n4, c4, rfl, _, hO4⟩
  rw [hshort.out]
  simp only [Option.getD_none, Option.isSome_none, frZero]
  have HG4 := Lib.hid ((HG3.out.keep0 hO4).alloc (.cells #[.int .i64 0, .int .i64 0, .int .i64 0, .int .i64 0, .int .i64 0, .int .i64 0, .int .i64 0, .slice A4 n4 c4] 64))
  have HD4 := Lib.hid ((HD3.out.keep0 hO4).alloc (.cells #[.int .i64 0, .int .i64 0, .int .i64 0, .int .i64 0, .int .i64 0, .int .i64 0, .int .i64 0, .slice A4 n4 c4] 64))
  have HX4 := Lib.hid ((HX3.out.keep0 hO4).alloc (.cells #[.int .i64 0, .int .i64 0, .int .i64 0, .int .i64 0, .int .i64 0, .int .i64 0, .int .i64 0, .slice A4 n4 c4] 64))
  have HY4 := Lib.hid ((HY3.out.keep0 hO4).alloc (.cells #[.int .i64 0, .int .i64 0, .int .i64 0, .int .i64 0, .int .i64 0, .int .i64 0, .int .i64 0, .slice A4 n4 c4] 64))
  have HO4 := Lib.hid ((HO3.out.trans' hO4).alloc (.cells #[.int .i64 0, .int .i64 0, .int .i64 0, .int .i64 0, .int .i64 0, .int .i64 0, .int .i64 0, .slice A4 n4 c4] 64))
  clear hO4 HG3 HD3 HX3 HY3 HO3
  go_upto_region 7 with (fail)
  generalize w4.alloc (.cells #[.int .i64 0, .int .i64 0, .int .i64 0, .int .i64 0, .int .i64 0, .int .i64 0, .int .i64 0, .slice A4 n4 c4] 64) = w7 at *
  have hR := Row1.of_Own (HG4.out) (by simp [HB2.out]) hc hm
  have HR := Lib.hid hR
  have HE := Lib.hid (Gath.empty w7 5)
  have HOE := Lib.hid ((Only.refl [] w7).alloc (.cells #[] 5))
  have HLB : Hid ((bvs bs).length = 25) := Lib.hid (by simp [HB2.out])
  clear hR
  go_wp2_with (first
    | (at_builtin; refine wpList_append_row1 rfl (.tmp 45) (.tmp 46) 24 rfl w7.heap.size 5 i0 _ 1 Try.underlying24 hi0 hz0 hz1 hz2 rfl (.slice (some ⟨w7.heap.size, 0, none⟩) 0 0) 0 [] rfl (by first | exact HE.out.1 | exact HE.out.drew.1) (some ⟨g, 0, none⟩) 25 cg (bvs bs) rfl (by first | exact HR.out.alloc _ | exact (HR.out.alloc _).drew) (bvs_one _) (by unfold maxLen; omega) (by omega) (by simp) ?_
       intro v1 w8 hown1 hgr1 hat1
       have hG1 : Gath w8 w7.heap.size 5 v1 (bvs bs) ∧ Only [] w7 w8 := by
         first
           | exact HE.out.grown HOE.out rfl hown1 (by simp [HB2.out]) hgr1
           | exact HE.out.drew.grown HOE.out.drew rfl hown1 (by simp [HB2.out]) hgr1
       obtain ⟨A8, c8, rfl, hrow8, hb8⟩ := hG1.1.formN HLB.out
       have HG1 := Lib.hid hG1
       clear hG1 hown1 hgr1 hat1 hrow8 hb8)
    | (at_builtin; refine wpList_append_row1 rfl (.tmp 47) (.tmp 48) 24 rfl w7.heap.size 5 i0 _ 1 Try.underlying24 hi0 hz0 hz1 hz2 rfl (.slice A8 25 c8) 25 (bvs bs) rfl (HG1.out.1.own ((Only.refl _ _).alloc _) HLB.out) _ 1 1 (bvs [0]) rfl (Row1.of_Own (Own.new w8 #[.int .u8 0] 5) rfl (Nat.le_refl _) (by unfold maxLen; omega)) (bvs_one _) (by unfold maxLen; omega) (by omega) (HG1.out.1.base_le ((Only.refl _ _).alloc _)) ?_
       intro v2 w9 hown2 hgr2 hat2
       have hG2 := (HG1.out.1.alloc (.cells #[.int .u8 0] 5)).grown (HG1.out.2.alloc (.cells #[.int .u8 0] 5)) rfl hown2 (by rw [List.length_append, HLB.out]; rfl) hgr2
       have hb65 : (bvs bs ++ bvs [0]).length = 26 := by rw [List.length_append, HLB.out]; rfl
       obtain ⟨A9, c9, rfl, hrow9, hb9⟩ := hG2.1.formN hb65
       have hbv : bvs bs ++ bvs [0] = bvs (bs ++ [0]) := by simp [bvs]
       rw [hbv] at hrow9
       have HR9 := Lib.hid hrow9
       have HD9 := Lib.hid (HD4.out.keep0 hG2.2)
       have HX9 := Lib.hid (HX4.out.keep0 hG2.2)
       have HY9 := Lib.hid (HY4.out.keep0 hG2.2)
       have HO9 := Lib.hid (HO4.out.trans' hG2.2)
       clear hG2 hown2 hgr2 hat2 hrow9 hb9 hbv hb65)
    | fail)
  have hlong : Hid (decFr (bs ++ [0]) = none) := Lib.hid (fr_len (by simp [HB2.out]))
  refine (frame_dec_any A9 26 c9 (bs ++ [0]) _ (by exact HR9.out) (by decide)).mono ?_
  rintro en w10 ⟨A10, n10, c10, rfl, _, hO10⟩
  rw [hlong.out]
  simp only [Option.getD_none, Option.isSome_none, frZero]
  have HBB := HX9.out.keep0 hO10
  have Bf := HBB (w1.heap.size, [.int .i64 k, .int .i64 v, .int .i64 s, .int .i64 b, .int .i64 c, .int .i64 e, .int .i64 0, .slice A1 n1 c1]) (by simp)
  have f0 := Bf.cell 0 (by simp)
  have f1 := Bf.cell 1 (by simp)
  have f2 := Bf.cell 2 (by simp)
  have f3 := Bf.cell 3 (by simp)
  have f4 := Bf.cell 4 (by simp)
  have f5 := Bf.cell 5 (by simp)
  have f6 := Bf.cell 6 (by simp)
  have f7 := Bf.cell 7 (by simp)
  simp only [List.getElem_cons_zero, List.getElem_cons_succ] at f0 f1 f2 f3 f4 f5 f6 f7
  have ltf := Bf.lt
  clear Bf
  have HD10 := Lib.hid ((HD9.out.keep0 hO10).alloc (.cells #[.int .i64 0, .int .i64 0, .int .i64 0, .int .i64 0, .int .i64 0, .int .i64 0, .int .i64 0, .slice A10 n10 c10] 64))
  have HX10 := Lib.hid ((HX9.out.keep0 hO10).alloc (.cells #[.int .i64 0, .int .i64 0, .int .i64 0, .int .i64 0, .int .i64 0, .int .i64 0, .int .i64 0, .slice A10 n10 c10] 64))
  have HY10 := Lib.hid ((HY9.out.keep0 hO10).alloc (.cells #[.int .i64 0, .int .i64 0, .int .i64 0, .int .i64 0, .int .i64 0, .int .i64 0, .int .i64 0, .slice A10 n10 c10] 64))
  have HO10 := Lib.hid ((HO9.out.trans' hO10).alloc (.cells #[.int .i64 0, .int .i64 0, .int .i64 0, .int .i64 0, .int .i64 0, .int .i64 0, .int .i64 0, .slice A10 n10 c10] 64))
  clear hO10 HBB HG4 HD4 HX4 HY4 HO4 HR HE HOE HG1 HR9 HD9 HX9 HY9 HO9
  go_wp2_with fail
  refine (frame_may_any k v s b c e 0 A1 n1 c1 xs _ (by exact HD10.out)).mono ?_
  rintro en w11 ⟨rfl, hO11⟩
  rw [HMAY.out]
  have HD11 := Lib.hid (HD10.out.keep0 hO11)
  have HX11 := Lib.hid (HX10.out.keep0 hO11)
  have HY11 := Lib.hid (HY10.out.keep0 hO11)
  have HO11 := Lib.hid (HO10.out.trans' hO11)
  clear hO11 HD10 HX10 HY10 HO10 f0 f1 f2 f3 f4 f5 f6 f7 ltf
  have Bf := HX11.out (w1.heap.size, [.int .i64 k, .int .i64 v, .int .i64 s, .int .i64 b, .int .i64 c, .int .i64 e, .int .i64 0, .slice A1 n1 c1]) (by simp)
  have f0 := Bf.cell 0 (by simp)
  have f1 := Bf.cell 1 (by simp)
  have f2 := Bf.cell 2 (by simp)
  have f3 := Bf.cell 3 (by simp)
  have f4 := Bf.cell 4 (by simp)
  have f5 := Bf.cell 5 (by simp)
  have f6 := Bf.cell 6 (by simp)
  have f7 := Bf.cell 7 (by simp)
  simp only [List.getElem_cons_zero, List.getElem_cons_succ] at f0 f1 f2 f3 f4 f5 f6 f7
  have ltf := Bf.lt
  clear Bf
  have Bg := HX11.out (w3.heap.size, [.int .i64 k, .int .i64 v, .int .i64 s, .int .i64 b, .int .i64 c, .int .i64 e, .int .i64 0, .slice A3 n3 c3]) (by simp)
  have g0 := Bg.cell 0 (by simp)
  have g1 := Bg.cell 1 (by simp)
  have g2 := Bg.cell 2 (by simp)
  have g3 := Bg.cell 3 (by simp)
  have g4 := Bg.cell 4 (by simp)
  have g5 := Bg.cell 5 (by simp)
  have g6 := Bg.cell 6 (by simp)
  have g7 := Bg.cell 7 (by simp)
  simp only [List.getElem_cons_zero, List.getElem_cons_succ] at g0 g1 g2 g3 g4 g5 g6 g7
  have ltg := Bg.lt
  clear Bg
  go_wp2_with fail
  refine (alike_frame_any k v s b c e 0 A3 n3 c3 xs k v s b c e 0 A1 n1 c1 xs _ (by exact HY11.out) (by exact HD11.out)).mono ?_
  rintro en w12 ⟨rfl, hO12⟩
  have hdd : (k == k && v == v && s == s && b == b && c == c && e == e && (0 : Int) == 0 && decide (xs = xs)) = true := by simp
  rw [hdd]
  have HD12 := Lib.hid (HD11.out.keep0 hO12)
  have HX12 := Lib.hid (HX11.out.keep0 hO12)
  have HO12 := Lib.hid (HO11.out.trans' hO12)
  clear hdd hO12 HD11 HX11 HY11 HO11 f0 f1 f2 f3 f4 f5 f6 f7 g0 g1 g2 g3 g4 g5 g6 g7 ltf ltg
  have Bf := HX12.out (w1.heap.size, [.int .i64 k, .int .i64 v, .int .i64 s, .int .i64 b, .int .i64 c, .int .i64 e, .int .i64 0, .slice A1 n1 c1]) (by simp)
  have f0 := Bf.cell 0 (by simp)
  have f1 := Bf.cell 1 (by simp)
  have f2 := Bf.cell 2 (by simp)
  have f3 := Bf.cell 3 (by simp)
  have f4 := Bf.cell 4 (by simp)
  have f5 := Bf.cell 5 (by simp)
  have f6 := Bf.cell 6 (by simp)
  have f7 := Bf.cell 7 (by simp)
  simp only [List.getElem_cons_zero, List.getElem_cons_succ] at f0 f1 f2 f3 f4 f5 f6 f7
  have ltf := Bf.lt
  clear Bf
  go_wp2_with fail
  refine (frame_op_any k v s b c e 0 A1 n1 c1 xs _ (by exact HD12.out)).mono ?_
  rintro en w13 ⟨A13, n13, c13, rfl, hr13, hO13⟩
  rw [HOP.out] at hr13 ⊢
  simp only [Option.getD_some, Option.isSome_some, if_true] at hr13 ⊢
  have HBB := HX12.out.keep0 hO13
  clear f0 f1 f2 f3 f4 f5 f6 f7 ltf
  have Bf := HBB (w1.heap.size, [.int .i64 k, .int .i64 v, .int .i64 s, .int .i64 b, .int .i64 c, .int .i64 e, .int .i64 0, .slice A1 n1 c1]) (by simp)
  have f0 := Bf.cell 0 (by simp)
  have f1 := Bf.cell 1 (by simp)
  have f2 := Bf.cell 2 (by simp)
  have f3 := Bf.cell 3 (by simp)
  have f4 := Bf.cell 4 (by simp)
  have f5 := Bf.cell 5 (by simp)
  have f6 := Bf.cell 6 (by simp)
  have f7 := Bf.cell 7 (by simp)
  simp only [List.getElem_cons_zero, List.getElem_cons_succ] at f0 f1 f2 f3 f4 f5 f6 f7
  have ltf := Bf.lt
  clear Bf
  have HR13 := Lib.hid (hr13.alloc (.cells #[.int .i64 k, .int .i64 b, .int .i64 c, .int .i64 e, .slice A13 n13 c13] 78))
  have hxl := hr13.len
  rw [bvs_length] at hxl
  have HXL := Lib.hid hxl
  have HD13 := Lib.hid ((HD12.out.keep0 hO13).alloc (.cells #[.int .i64 k, .int .i64 b, .int .i64 c, .int .i64 e, .slice A13 n13 c13] 78))
  have HX13 := Lib.hid ((HX12.out.keep0 hO13).alloc (.cells #[.int .i64 k, .int .i64 b, .int .i64 c, .int .i64 e, .slice A13 n13 c13] 78))
  have HO13 := Lib.hid ((HO12.out.trans' hO13).alloc (.cells #[.int .i64 k, .int .i64 b, .int .i64 c, .int .i64 e, .slice A13 n13 c13] 78))
  clear hO13 HBB HO12 HX12 HD12 hr13 hxl
  go_wp2_with fail
  refine (frame_for_any v s k b c e A13 n13 c13 xs _ (by exact HR13.out) (by rw [← HXL.out]; exact HXN.out)).mono ?_
  rintro en w14 ⟨A14, n14, c14, rfl, hr14, hO14⟩
  rw [HFOR.out] at hr14 ⊢
  simp only [Option.getD_some, Option.isSome_some, if_true] at hr14 ⊢
  have HBB := HX13.out.keep0 hO14
  clear f0 f1 f2 f3 f4 f5 f6 f7 ltf
  have Bf := HBB (w1.heap.size, [.int .i64 k, .int .i64 v, .int .i64 s, .int .i64 b, .int .i64 c, .int .i64 e, .int .i64 0, .slice A1 n1 c1]) (by simp)
  have f0 := Bf.cell 0 (by simp)
  have f1 := Bf.cell 1 (by simp)
  have f2 := Bf.cell 2 (by simp)
  have f3 := Bf.cell 3 (by simp)
  have f4 := Bf.cell 4 (by simp)
  have f5 := Bf.cell 5 (by simp)
  have f6 := Bf.cell 6 (by simp)
  have f7 := Bf.cell 7 (by simp)
  simp only [List.getElem_cons_zero, List.getElem_cons_succ] at f0 f1 f2 f3 f4 f5 f6 f7
  have ltf := Bf.lt
  clear Bf
  have HR14 := Lib.hid (hr14.alloc (.cells #[.int .i64 k, .int .i64 v, .int .i64 s, .int .i64 b, .int .i64 c, .int .i64 e, .int .i64 0, .slice A14 n14 c14] 64))
  have HD14 := Lib.hid ((HD13.out.keep0 hO14).alloc (.cells #[.int .i64 k, .int .i64 v, .int .i64 s, .int .i64 b, .int .i64 c, .int .i64 e, .int .i64 0, .slice A14 n14 c14] 64))
  have HO14 := Lib.hid ((HO13.out.trans' hO14).alloc (.cells #[.int .i64 k, .int .i64 v, .int .i64 s, .int .i64 b, .int .i64 c, .int .i64 e, .int .i64 0, .slice A14 n14 c14] 64))
  clear hO14 HBB HO13 HX13 HD13 hr14 HR13
  go_wp2_with fail
  refine (alike_frame_any k v s b c e 0 A14 n14 c14 xs k v s b c e 0 A1 n1 c1 xs _ (by exact HR14.out) (by exact HD14.out)).mono ?_
  rintro en w15 ⟨rfl, hO15⟩
  have hdd : (k == k && v == v && s == s && b == b && c == c && e == e && (0 : Int) == 0 && decide (xs = xs)) = true := by simp
  rw [hdd]
  have HO15 := Lib.hid (HO14.out.trans' hO15)
  go_wp2_with fail
  refine (awake22 _).mono ?_
  rintro en w16 ⟨rfl, hO16⟩
  have HO16 := Lib.hid (HO15.out.trans' hO16)
  go_wp2
  go_ret
  exact ⟨rfl, HO16.out⟩

set_option maxRecDepth 100000 in
set_option maxHeartbeats 16000000 in
theorem back89n (z0 z1 z2 z3 z4 z5 k v s b c e d : Int) (xs : List UInt8) (w : World) (h0 : (Lit.int .i64 z0).wf = true) (h1 : (Lit.int .i64 z1).wf = true) (h2 : (Lit.int .i64 z2).wf = true) (h3 : (Lit.int .i64 z3).wf = true) (h4 : (Lit.int .i64 z4).wf = true) (h5 : (Lit.int .i64 z5).wf = true) (hi : madeFr z0 z1 z2 z3 z4 z5 = ⟨k, v, s, b, c, e, d, xs⟩) (hk : 3 < k) (hN : (frBytes ⟨k, v, s, b, c, e, d, xs⟩).length = 89) :
    Calls Try.prog 13 #[.agg #[.int .i64 z0, .int .i64 z1, .int .i64 z2, .int .i64 z3, .int .i64 z4, .int .i64 z5]] w fun e w' => e = .returned (.bool true) ∧ Only [] w w' := by
  obtain ⟨i0, hi0, hz0, hz1, hz2⟩ := info_parts Try.infoU8
  have hmay := madeFr_may z0 z1 z2 z3 z4 z5
  rw [hi] at hmay
  obtain ⟨hb1, hb2⟩ := fr_back hmay
  obtain ⟨bs, hbs⟩ : ∃ x, frBytes ⟨k, v, s, b, c, e, d, xs⟩ = x := ⟨_, rfl⟩
  rw [hbs] at hb1 hb2 hN
  have HMAY := Lib.hid hmay
  have HV := Lib.hid hi
  have HB1 := Lib.hid hb1
  have HB2 := Lib.hid hN
  have HB4 := Lib.hid hb2
  have HOP : Hid (opOf ⟨k, v, s, b, c, e, d, xs⟩ = none) := Lib.hid (by
    unfold opOf
    dsimp only
    rw [if_neg]
    rintro ⟨_, h8, h9⟩
    have hk2 := frMay_kind hmay
    dsimp only at hk2
    omega)
  have hd3 : decide (3 < k) = true := decide_eq_true hk
  have H0 := Lib.hid h0
  have H1 := Lib.hid h1
  have H2 := Lib.hid h2
  have H3 := Lib.hid h3
  have H4 := Lib.hid h4
  have H5 := Lib.hid h5
  clear hi hmay hb1 hb2 hN hbs hk h0 h1 h2 h3 h4 h5
  go_enter Try.func13, Try.ntmps13
  go_wp2_with fail
  refine (made22 z0 z1 z2 z3 z4 z5 _ H0.out H1.out H2.out H3.out H4.out H5.out).mono ?_
  rintro en w1 ⟨A1, n1, c1, rfl, hd1, hO1⟩
  rw [HV.out] at hd1 ⊢
  dsimp only at hd1 ⊢
  have HD1 := Lib.hid (hd1.alloc (.cells #[.int .i64 k, .int .i64 v, .int .i64 s, .int .i64 b, .int .i64 c, .int .i64 e, .int .i64 d, .slice A1 n1 c1] 64))
  have HX1 := Lib.hid ((Boxes.nil w1).new #[.int .i64 k, .int .i64 v, .int .i64 s, .int .i64 b, .int .i64 c, .int .i64 e, .int .i64 d, .slice A1 n1 c1] 64)
  have HO1 := Lib.hid ((((Only.refl [] w).alloc (.cells #[.int .i64 z0, .int .i64 z1, .int .i64 z2, .int .i64 z3, .int .i64 z4, .int .i64 z5] 74)).trans' hO1).alloc (.cells #[.int .i64 k, .int .i64 v, .int .i64 s, .int .i64 b, .int .i64 c, .int .i64 e, .int .i64 d, .slice A1 n1 c1] 64))
  clear hO1 hd1
  go_wp2_with fail
  refine (frame_enc_own k v s b c e d A1 n1 c1 xs _ (by exact HD1.out)).mono ?_
  intro en w2 he
  rw [HB1.out] at he
  obtain ⟨g, cg, rfl, hc, hm, hg, ho, hO2⟩ := he.of_some
  rw [HB2.out] at hc ⊢
  have HG := Lib.hid ho
  have HD2 := Lib.hid (HD1.out.keep0 hO2)
  have HX2 := Lib.hid (HX1.out.keep0 hO2)
  have HO2 := Lib.hid (HO1.out.trans' hO2)
  clear he hO2 ho HO1 HD1 HX1 hg
  go_wp2_with fail
  refine (frame_dec_any (some ⟨g, 0, none⟩) 89 cg bs _ (by exact Row1.of_Own HG.out (by simp [HB2.out]) hc hm) (by decide)).mono ?_
  rintro en w3 ⟨A3, n3, c3, rfl, hy3, hO3⟩
  rw [HB4.out] at hy3 ⊢
  simp only [Option.getD_some, Option.isSome_some, if_true] at hy3 ⊢
  have HG3 := Lib.hid ((HG.out.keep0 hO3).alloc (.cells #[.int .i64 k, .int .i64 v, .int .i64 s, .int .i64 b, .int .i64 c, .int .i64 e, .int .i64 d, .slice A3 n3 c3] 64))
  have HD3 := Lib.hid ((HD2.out.keep0 hO3).alloc (.cells #[.int .i64 k, .int .i64 v, .int .i64 s, .int .i64 b, .int .i64 c, .int .i64 e, .int .i64 d, .slice A3 n3 c3] 64))
  have HX3 := Lib.hid ((HX2.out.keep0 hO3).new #[.int .i64 k, .int .i64 v, .int .i64 s, .int .i64 b, .int .i64 c, .int .i64 e, .int .i64 d, .slice A3 n3 c3] 64)
  have HY3 := Lib.hid (hy3.alloc (.cells #[.int .i64 k, .int .i64 v, .int .i64 s, .int .i64 b, .int .i64 c, .int .i64 e, .int .i64 d, .slice A3 n3 c3] 64))
  have HO3 := Lib.hid ((HO2.out.trans' hO3).alloc (.cells #[.int .i64 k, .int .i64 v, .int .i64 s, .int .i64 b, .int .i64 c, .int .i64 e, .int .i64 d, .slice A3 n3 c3] 64))
  clear hy3 hO3 HG HD2 HX2 HO2
  go_wp2_with fail
  have hshort : Hid (decFr (bs.take 88) = none) := Lib.hid (fr_len (by simp [HB2.out]))
  refine (frame_dec_any (some ⟨g, 0, none⟩) 88 cg (bs.take 88) _ (by have h1 := HG3.out.take 88; rw [show (bvs bs).take 88 = bvs (bs.take 88) from by simp [bvs, List.map_take]] at h1; exact Row1.of_Own h1 (by simp [HB2.out]) (by omega) hm) (by decide)).mono ?_
  rintro en w4 ⟨A4, n4, c4, rfl, _, hO4⟩
  rw [hshort.out]
  simp only [Option.getD_none, Option.isSome_none, frZero]
  have HG4 := Lib.hid ((HG3.out.keep0 hO4).alloc (.cells #[.int .i64 0, .int .i64 0, .int .i64 0, .int .i64 0, .int .i64 0, .int .i64 0, .int .i64 0, .slice A4 n4 c4] 64))
  have HD4 := Lib.hid ((HD3.out.keep0 hO4).alloc (.cells #[.int .i64 0, .int .i64 0, .int .i64 0, .int .i64 0, .int .i64 0, .int .i64 0, .int .i64 0, .slice A4 n4 c4] 64))
  have HX4 := Lib.hid ((HX3.out.keep0 hO4).alloc (.cells #[.int .i64 0, .int .i64 0, .int .i64 0, .int .i64 0, .int .i64 0, .int .i64 0, .int .i64 0, .slice A4 n4 c4] 64))
  have HY4 := Lib.hid ((HY3.out.keep0 hO4).alloc (.cells #[.int .i64 0, .int .i64 0, .int .i64 0, .int .i64 0, .int .i64 0, .int .i64 0, .int .i64 0, .slice A4 n4 c4] 64))
  have HO4 := Lib.hid ((HO3.out.trans' hO4).alloc (.cells #[.int .i64 0, .int .i64 0, .int .i64 0, .int .i64 0, .int .i64 0, .int .i64 0, .int .i64 0, .slice A4 n4 c4] 64))
  clear hO4 HG3 HD3 HX3 HY3 HO3
  go_upto_region 7 with (fail)
  generalize w4.alloc (.cells #[.int .i64 0, .int .i64 0, .int .i64 0, .int .i64 0, .int .i64 0, .int .i64 0, .int .i64 0, .slice A4 n4 c4] 64) = w7 at *
  have hR := Row1.of_Own (HG4.out) (by simp [HB2.out]) hc hm
  have HR := Lib.hid hR
  have HE := Lib.hid (Gath.empty w7 5)
  have HOE := Lib.hid ((Only.refl [] w7).alloc (.cells #[] 5))
  have HLB : Hid ((bvs bs).length = 89) := Lib.hid (by simp [HB2.out])
  clear hR
  go_wp2_with (first
    | (at_builtin; refine wpList_append_row1 rfl (.tmp 45) (.tmp 46) 24 rfl w7.heap.size 5 i0 _ 1 Try.underlying24 hi0 hz0 hz1 hz2 rfl (.slice (some ⟨w7.heap.size, 0, none⟩) 0 0) 0 [] rfl (by first | exact HE.out.1 | exact HE.out.drew.1) (some ⟨g, 0, none⟩) 89 cg (bvs bs) rfl (by first | exact HR.out.alloc _ | exact (HR.out.alloc _).drew) (bvs_one _) (by unfold maxLen; omega) (by omega) (by simp) ?_
       intro v1 w8 hown1 hgr1 hat1
       have hG1 : Gath w8 w7.heap.size 5 v1 (bvs bs) ∧ Only [] w7 w8 := by
         first
           | exact HE.out.grown HOE.out rfl hown1 (by simp [HB2.out]) hgr1
           | exact HE.out.drew.grown HOE.out.drew rfl hown1 (by simp [HB2.out]) hgr1
       obtain ⟨A8, c8, rfl, hrow8, hb8⟩ := hG1.1.formN HLB.out
       have HG1 := Lib.hid hG1
       clear hG1 hown1 hgr1 hat1 hrow8 hb8)
    | (at_builtin; refine wpList_append_row1 rfl (.tmp 47) (.tmp 48) 24 rfl w7.heap.size 5 i0 _ 1 Try.underlying24 hi0 hz0 hz1 hz2 rfl (.slice A8 89 c8) 89 (bvs bs) rfl (HG1.out.1.own ((Only.refl _ _).alloc _) HLB.out) _ 1 1 (bvs [0]) rfl (Row1.of_Own (Own.new w8 #[.int .u8 0] 5) rfl (Nat.le_refl _) (by unfold maxLen; omega)) (bvs_one _) (by unfold maxLen; omega) (by omega) (HG1.out.1.base_le ((Only.refl _ _).alloc _)) ?_
       intro v2 w9 hown2 hgr2 hat2
       have hG2 := (HG1.out.1.alloc (.cells #[.int .u8 0] 5)).grown (HG1.out.2.alloc (.cells #[.int .u8 0] 5)) rfl hown2 (by rw [List.length_append, HLB.out]; rfl) hgr2
       have hb65 : (bvs bs ++ bvs [0]).length = 90 := by rw [List.length_append, HLB.out]; rfl
       obtain ⟨A9, c9, rfl, hrow9, hb9⟩ := hG2.1.formN hb65
       have hbv : bvs bs ++ bvs [0] = bvs (bs ++ [0]) := by simp [bvs]
       rw [hbv] at hrow9
       have HR9 := Lib.hid hrow9
       have HD9 := Lib.hid (HD4.out.keep0 hG2.2)
       have HX9 := Lib.hid (HX4.out.keep0 hG2.2)
       have HY9 := Lib.hid (HY4.out.keep0 hG2.2)
       have HO9 := Lib.hid (HO4.out.trans' hG2.2)
       clear hG2 hown2 hgr2 hat2 hrow9 hb9 hbv hb65)
    | fail)
  have hlong : Hid (decFr (bs ++ [0]) = none) := Lib.hid (fr_len (by simp [HB2.out]))
  refine (frame_dec_any A9 90 c9 (bs ++ [0]) _ (by exact HR9.out) (by decide)).mono ?_
  rintro en w10 ⟨A10, n10, c10, rfl, _, hO10⟩
  rw [hlong.out]
  simp only [Option.getD_none, Option.isSome_none, frZero]
  have HBB := HX9.out.keep0 hO10
  have Bf := HBB (w1.heap.size, [.int .i64 k, .int .i64 v, .int .i64 s, .int .i64 b, .int .i64 c, .int .i64 e, .int .i64 d, .slice A1 n1 c1]) (by simp)
  have f0 := Bf.cell 0 (by simp)
  have f1 := Bf.cell 1 (by simp)
  have f2 := Bf.cell 2 (by simp)
  have f3 := Bf.cell 3 (by simp)
  have f4 := Bf.cell 4 (by simp)
  have f5 := Bf.cell 5 (by simp)
  have f6 := Bf.cell 6 (by simp)
  have f7 := Bf.cell 7 (by simp)
  simp only [List.getElem_cons_zero, List.getElem_cons_succ] at f0 f1 f2 f3 f4 f5 f6 f7
  have ltf := Bf.lt
  clear Bf
  have HD10 := Lib.hid ((HD9.out.keep0 hO10).alloc (.cells #[.int .i64 0, .int .i64 0, .int .i64 0, .int .i64 0, .int .i64 0, .int .i64 0, .int .i64 0, .slice A10 n10 c10] 64))
  have HX10 := Lib.hid ((HX9.out.keep0 hO10).alloc (.cells #[.int .i64 0, .int .i64 0, .int .i64 0, .int .i64 0, .int .i64 0, .int .i64 0, .int .i64 0, .slice A10 n10 c10] 64))
  have HY10 := Lib.hid ((HY9.out.keep0 hO10).alloc (.cells #[.int .i64 0, .int .i64 0, .int .i64 0, .int .i64 0, .int .i64 0, .int .i64 0, .int .i64 0, .slice A10 n10 c10] 64))
  have HO10 := Lib.hid ((HO9.out.trans' hO10).alloc (.cells #[.int .i64 0, .int .i64 0, .int .i64 0, .int .i64 0, .int .i64 0, .int .i64 0, .int .i64 0, .slice A10 n10 c10] 64))
  clear hO10 HBB HG4 HD4 HX4 HY4 HO4 HR HE HOE HG1 HR9 HD9 HX9 HY9 HO9
  go_wp2_with fail
  refine (frame_may_any k v s b c e d A1 n1 c1 xs _ (by exact HD10.out)).mono ?_
  rintro en w11 ⟨rfl, hO11⟩
  rw [HMAY.out]
  have HD11 := Lib.hid (HD10.out.keep0 hO11)
  have HX11 := Lib.hid (HX10.out.keep0 hO11)
  have HY11 := Lib.hid (HY10.out.keep0 hO11)
  have HO11 := Lib.hid (HO10.out.trans' hO11)
  clear hO11 HD10 HX10 HY10 HO10 f0 f1 f2 f3 f4 f5 f6 f7 ltf
  have Bf := HX11.out (w1.heap.size, [.int .i64 k, .int .i64 v, .int .i64 s, .int .i64 b, .int .i64 c, .int .i64 e, .int .i64 d, .slice A1 n1 c1]) (by simp)
  have f0 := Bf.cell 0 (by simp)
  have f1 := Bf.cell 1 (by simp)
  have f2 := Bf.cell 2 (by simp)
  have f3 := Bf.cell 3 (by simp)
  have f4 := Bf.cell 4 (by simp)
  have f5 := Bf.cell 5 (by simp)
  have f6 := Bf.cell 6 (by simp)
  have f7 := Bf.cell 7 (by simp)
  simp only [List.getElem_cons_zero, List.getElem_cons_succ] at f0 f1 f2 f3 f4 f5 f6 f7
  have ltf := Bf.lt
  clear Bf
  have Bg := HX11.out (w3.heap.size, [.int .i64 k, .int .i64 v, .int .i64 s, .int .i64 b, .int .i64 c, .int .i64 e, .int .i64 d, .slice A3 n3 c3]) (by simp)
  have g0 := Bg.cell 0 (by simp)
  have g1 := Bg.cell 1 (by simp)
  have g2 := Bg.cell 2 (by simp)
  have g3 := Bg.cell 3 (by simp)
  have g4 := Bg.cell 4 (by simp)
  have g5 := Bg.cell 5 (by simp)
  have g6 := Bg.cell 6 (by simp)
  have g7 := Bg.cell 7 (by simp)
  simp only [List.getElem_cons_zero, List.getElem_cons_succ] at g0 g1 g2 g3 g4 g5 g6 g7
  have ltg := Bg.lt
  clear Bg
  go_wp2_with fail
  refine (alike_frame_any k v s b c e d A3 n3 c3 xs k v s b c e d A1 n1 c1 xs _ (by exact HY11.out) (by exact HD11.out)).mono ?_
  rintro en w12 ⟨rfl, hO12⟩
  have hdd : (k == k && v == v && s == s && b == b && c == c && e == e && (d : Int) == d && decide (xs = xs)) = true := by simp
  rw [hdd]
  have HD12 := Lib.hid (HD11.out.keep0 hO12)
  have HX12 := Lib.hid (HX11.out.keep0 hO12)
  have HO12 := Lib.hid (HO11.out.trans' hO12)
  clear hdd hO12 HD11 HX11 HY11 HO11 f0 f1 f2 f3 f4 f5 f6 f7 g0 g1 g2 g3 g4 g5 g6 g7 ltf ltg
  have Bf := HX12.out (w1.heap.size, [.int .i64 k, .int .i64 v, .int .i64 s, .int .i64 b, .int .i64 c, .int .i64 e, .int .i64 d, .slice A1 n1 c1]) (by simp)
  have f0 := Bf.cell 0 (by simp)
  have f1 := Bf.cell 1 (by simp)
  have f2 := Bf.cell 2 (by simp)
  have f3 := Bf.cell 3 (by simp)
  have f4 := Bf.cell 4 (by simp)
  have f5 := Bf.cell 5 (by simp)
  have f6 := Bf.cell 6 (by simp)
  have f7 := Bf.cell 7 (by simp)
  simp only [List.getElem_cons_zero, List.getElem_cons_succ] at f0 f1 f2 f3 f4 f5 f6 f7
  have ltf := Bf.lt
  clear Bf
  go_wp2_with fail
  refine (frame_op_any k v s b c e d A1 n1 c1 xs _ (by exact HD12.out)).mono ?_
  rintro en w13 ⟨A13, n13, c13, rfl, hr13, hO13⟩
  rw [HOP.out] at hr13 ⊢
  simp only [Option.getD_none, Option.isSome_none, opZero]
  have HBB := HX12.out.keep0 hO13
  clear f0 f1 f2 f3 f4 f5 f6 f7 ltf
  have Bf := HBB (w1.heap.size, [.int .i64 k, .int .i64 v, .int .i64 s, .int .i64 b, .int .i64 c, .int .i64 e, .int .i64 d, .slice A1 n1 c1]) (by simp)
  have f0 := Bf.cell 0 (by simp)
  have f1 := Bf.cell 1 (by simp)
  have f2 := Bf.cell 2 (by simp)
  have f3 := Bf.cell 3 (by simp)
  have f4 := Bf.cell 4 (by simp)
  have f5 := Bf.cell 5 (by simp)
  have f6 := Bf.cell 6 (by simp)
  have f7 := Bf.cell 7 (by simp)
  simp only [List.getElem_cons_zero, List.getElem_cons_succ] at f0 f1 f2 f3 f4 f5 f6 f7
  have ltf := Bf.lt
  clear Bf
  have HO13 := Lib.hid ((HO12.out.trans' hO13).alloc (.cells #[.int .i64 0, .int .i64 0, .int .i64 0, .int .i64 0, .slice A13 n13 c13] 78))
  clear hO13 HBB HO12 HX12 HD12 hr13
  go_wp2_with fail
  refine (awake22 _).mono ?_
  rintro en w14 ⟨rfl, hO14⟩
  have HO14 := Lib.hid (HO13.out.trans' hO14)
  go_wp2
  go_ret
  exact ⟨rfl, HO14.out⟩

set_option maxRecDepth 100000 in
set_option maxHeartbeats 16000000 in
theorem back89y (z0 z1 z2 z3 z4 z5 k v s b c e : Int) (xs : List UInt8) (w : World) (h0 : (Lit.int .i64 z0).wf = true) (h1 : (Lit.int .i64 z1).wf = true) (h2 : (Lit.int .i64 z2).wf = true) (h3 : (Lit.int .i64 z3).wf = true) (h4 : (Lit.int .i64 z4).wf = true) (h5 : (Lit.int .i64 z5).wf = true) (hi : madeFr z0 z1 z2 z3 z4 z5 = ⟨k, v, s, b, c, e, 0, xs⟩) (h8 : k ≠ 8) (h9 : k ≠ 9) (hk : k ≤ 3) (hN : (frBytes ⟨k, v, s, b, c, e, 0, xs⟩).length = 89) :
    Calls Try.prog 13 #[.agg #[.int .i64 z0, .int .i64 z1, .int .i64 z2, .int .i64 z3, .int .i64 z4, .int .i64 z5]] w fun e w' => e = .returned (.bool true) ∧ Only [] w w' := by
  obtain ⟨i0, hi0, hz0, hz1, hz2⟩ := info_parts Try.infoU8
  have hmay := madeFr_may z0 z1 z2 z3 z4 z5
  rw [hi] at hmay
  obtain ⟨hb1, hb2⟩ := fr_back hmay
  obtain ⟨bs, hbs⟩ : ∃ x, frBytes ⟨k, v, s, b, c, e, 0, xs⟩ = x := ⟨_, rfl⟩
  rw [hbs] at hb1 hb2 hN
  have HMAY := Lib.hid hmay
  have HV := Lib.hid hi
  have HB1 := Lib.hid hb1
  have HB2 := Lib.hid hN
  have HB4 := Lib.hid hb2
  have HOP : Hid (opOf ⟨k, v, s, b, c, e, 0, xs⟩ = some ⟨k, b, c, e, xs⟩) := Lib.hid (by unfold opOf; rw [if_pos ⟨hmay, h8, h9⟩])
  have HFOR : Hid (frFor v s ⟨k, b, c, e, xs⟩ = some ⟨k, v, s, b, c, e, 0, xs⟩) := Lib.hid (by unfold frFor; dsimp only; rw [if_pos ⟨hmay, h8, h9⟩])
  have hxn : xs.length ≤ 1000000 := by have := (frMay_bounds hmay).2.2.2.2.2.2.2; dsimp only at this; omega
  have HXN := Lib.hid hxn
  have hd3 : decide (3 < k) = false := decide_eq_false (by omega)
  clear hxn h8 h9
  have H0 := Lib.hid h0
  have H1 := Lib.hid h1
  have H2 := Lib.hid h2
  have H3 := Lib.hid h3
  have H4 := Lib.hid h4
  have H5 := Lib.hid h5
  clear hi hmay hb1 hb2 hN hbs hk h0 h1 h2 h3 h4 h5
  go_enter Try.func13, Try.ntmps13
  go_wp2_with fail
  refine (made22 z0 z1 z2 z3 z4 z5 _ H0.out H1.out H2.out H3.out H4.out H5.out).mono ?_
  rintro en w1 ⟨A1, n1, c1, rfl, hd1, hO1⟩
  rw [HV.out] at hd1 ⊢
  dsimp only at hd1 ⊢
  have HD1 := Lib.hid (hd1.alloc (.cells #[.int .i64 k, .int .i64 v, .int .i64 s, .int .i64 b, .int .i64 c, .int .i64 e, .int .i64 0, .slice A1 n1 c1] 64))
  have HX1 := Lib.hid ((Boxes.nil w1).new #[.int .i64 k, .int .i64 v, .int .i64 s, .int .i64 b, .int .i64 c, .int .i64 e, .int .i64 0, .slice A1 n1 c1] 64)
  have HO1 := Lib.hid ((((Only.refl [] w).alloc (.cells #[.int .i64 z0, .int .i64 z1, .int .i64 z2, .int .i64 z3, .int .i64 z4, .int .i64 z5] 74)).trans' hO1).alloc (.cells #[.int .i64 k, .int .i64 v, .int .i64 s, .int .i64 b, .int .i64 c, .int .i64 e, .int .i64 0, .slice A1 n1 c1] 64))
  clear hO1 hd1
  go_wp2_with fail
  refine (frame_enc_own k v s b c e 0 A1 n1 c1 xs _ (by exact HD1.out)).mono ?_
  intro en w2 he
  rw [HB1.out] at he
  obtain ⟨g, cg, rfl, hc, hm, hg, ho, hO2⟩ := he.of_some
  rw [HB2.out] at hc ⊢
  have HG := Lib.hid ho
  have HD2 := Lib.hid (HD1.out.keep0 hO2)
  have HX2 := Lib.hid (HX1.out.keep0 hO2)
  have HO2 := Lib.hid (HO1.out.trans' hO2)
  clear he hO2 ho HO1 HD1 HX1 hg
  go_wp2_with fail
  refine (frame_dec_any (some ⟨g, 0, none⟩) 89 cg bs _ (by exact Row1.of_Own HG.out (by simp [HB2.out]) hc hm) (by decide)).mono ?_
  rintro en w3 ⟨A3, n3, c3, rfl, hy3, hO3⟩
  rw [HB4.out] at hy3 ⊢
  simp only [Option.getD_some, Option.isSome_some, if_true] at hy3 ⊢
  have HG3 := Lib.hid ((HG.out.keep0 hO3).alloc (.cells #[.int .i64 k, .int .i64 v, .int .i64 s, .int .i64 b, .int .i64 c, .int .i64 e, .int .i64 0, .slice A3 n3 c3] 64))
  have HD3 := Lib.hid ((HD2.out.keep0 hO3).alloc (.cells #[.int .i64 k, .int .i64 v, .int .i64 s, .int .i64 b, .int .i64 c, .int .i64 e, .int .i64 0, .slice A3 n3 c3] 64))
  have HX3 := Lib.hid ((HX2.out.keep0 hO3).new #[.int .i64 k, .int .i64 v, .int .i64 s, .int .i64 b, .int .i64 c, .int .i64 e, .int .i64 0, .slice A3 n3 c3] 64)
  have HY3 := Lib.hid (hy3.alloc (.cells #[.int .i64 k, .int .i64 v, .int .i64 s, .int .i64 b, .int .i64 c, .int .i64 e, .int .i64 0, .slice A3 n3 c3] 64))
  have HO3 := Lib.hid ((HO2.out.trans' hO3).alloc (.cells #[.int .i64 k, .int .i64 v, .int .i64 s, .int .i64 b, .int .i64 c, .int .i64 e, .int .i64 0, .slice A3 n3 c3] 64))
  clear hy3 hO3 HG HD2 HX2 HO2
  go_wp2_with fail
  have hshort : Hid (decFr (bs.take 88) = none) := Lib.hid (fr_len (by simp [HB2.out]))
  refine (frame_dec_any (some ⟨g, 0, none⟩) 88 cg (bs.take 88) _ (by have h1 := HG3.out.take 88; rw [show (bvs bs).take 88 = bvs (bs.take 88) from by simp [bvs, List.map_take]] at h1; exact Row1.of_Own h1 (by simp [HB2.out]) (by omega) hm) (by decide)).mono ?_
  rintro en w4 ⟨A4, n4, c4, rfl, _, hO4⟩
  rw [hshort.out]
  simp only [Option.getD_none, Option.isSome_none, frZero]
  have HG4 := Lib.hid ((HG3.out.keep0 hO4).alloc (.cells #[.int .i64 0, .int .i64 0, .int .i64 0, .int .i64 0, .int .i64 0, .int .i64 0, .int .i64 0, .slice A4 n4 c4] 64))
  have HD4 := Lib.hid ((HD3.out.keep0 hO4).alloc (.cells #[.int .i64 0, .int .i64 0, .int .i64 0, .int .i64 0, .int .i64 0, .int .i64 0, .int .i64 0, .slice A4 n4 c4] 64))
  have HX4 := Lib.hid ((HX3.out.keep0 hO4).alloc (.cells #[.int .i64 0, .int .i64 0, .int .i64 0, .int .i64 0, .int .i64 0, .int .i64 0, .int .i64 0, .slice A4 n4 c4] 64))
  have HY4 := Lib.hid ((HY3.out.keep0 hO4).alloc (.cells #[.int .i64 0, .int .i64 0, .int .i64 0, .int .i64 0, .int .i64 0, .int .i64 0, .int .i64 0, .slice A4 n4 c4] 64))
  have HO4 := Lib.hid ((HO3.out.trans' hO4).alloc (.cells #[.int .i64 0, .int .i64 0, .int .i64 0, .int .i64 0, .int .i64 0, .int .i64 0, .int .i64 0, .slice A4 n4 c4] 64))
  clear hO4 HG3 HD3 HX3 HY3 HO3
  go_upto_region 7 with (fail)
  generalize w4.alloc (.cells #[.int .i64 0, .int .i64 0, .int .i64 0, .int .i64 0, .int .i64 0, .int .i64 0, .int .i64 0, .slice A4 n4 c4] 64) = w7 at *
  have hR := Row1.of_Own (HG4.out) (by simp [HB2.out]) hc hm
  have HR := Lib.hid hR
  have HE := Lib.hid (Gath.empty w7 5)
  have HOE := Lib.hid ((Only.refl [] w7).alloc (.cells #[] 5))
  have HLB : Hid ((bvs bs).length = 89) := Lib.hid (by simp [HB2.out])
  clear hR
  go_wp2_with (first
    | (at_builtin; refine wpList_append_row1 rfl (.tmp 45) (.tmp 46) 24 rfl w7.heap.size 5 i0 _ 1 Try.underlying24 hi0 hz0 hz1 hz2 rfl (.slice (some ⟨w7.heap.size, 0, none⟩) 0 0) 0 [] rfl (by first | exact HE.out.1 | exact HE.out.drew.1) (some ⟨g, 0, none⟩) 89 cg (bvs bs) rfl (by first | exact HR.out.alloc _ | exact (HR.out.alloc _).drew) (bvs_one _) (by unfold maxLen; omega) (by omega) (by simp) ?_
       intro v1 w8 hown1 hgr1 hat1
       have hG1 : Gath w8 w7.heap.size 5 v1 (bvs bs) ∧ Only [] w7 w8 := by
         first
           | exact HE.out.grown HOE.out rfl hown1 (by simp [HB2.out]) hgr1
           | exact HE.out.drew.grown HOE.out.drew rfl hown1 (by simp [HB2.out]) hgr1
       obtain ⟨A8, c8, rfl, hrow8, hb8⟩ := hG1.1.formN HLB.out
       have HG1 := Lib.hid hG1
       clear hG1 hown1 hgr1 hat1 hrow8 hb8)
    | (at_builtin; refine wpList_append_row1 rfl (.tmp 47) (.tmp 48) 24 rfl w7.heap.size 5 i0 _ 1 Try.underlying24 hi0 hz0 hz1 hz2 rfl (.slice A8 89 c8) 89 (bvs bs) rfl (HG1.out.1.own ((Only.refl _ _).alloc _) HLB.out) _ 1 1 (bvs [0]) rfl (Row1.of_Own (Own.new w8 #[.int .u8 0] 5) rfl (Nat.le_refl _) (by unfold maxLen; omega)) (bvs_one _) (by unfold maxLen; omega) (by omega) (HG1.out.1.base_le ((Only.refl _ _).alloc _)) ?_
       intro v2 w9 hown2 hgr2 hat2
       have hG2 := (HG1.out.1.alloc (.cells #[.int .u8 0] 5)).grown (HG1.out.2.alloc (.cells #[.int .u8 0] 5)) rfl hown2 (by rw [List.length_append, HLB.out]; rfl) hgr2
       have hb65 : (bvs bs ++ bvs [0]).length = 90 := by rw [List.length_append, HLB.out]; rfl
       obtain ⟨A9, c9, rfl, hrow9, hb9⟩ := hG2.1.formN hb65
       have hbv : bvs bs ++ bvs [0] = bvs (bs ++ [0]) := by simp [bvs]
       rw [hbv] at hrow9
       have HR9 := Lib.hid hrow9
       have HD9 := Lib.hid (HD4.out.keep0 hG2.2)
       have HX9 := Lib.hid (HX4.out.keep0 hG2.2)
       have HY9 := Lib.hid (HY4.out.keep0 hG2.2)
       have HO9 := Lib.hid (HO4.out.trans' hG2.2)
       clear hG2 hown2 hgr2 hat2 hrow9 hb9 hbv hb65)
    | fail)
  have hlong : Hid (decFr (bs ++ [0]) = none) := Lib.hid (fr_len (by simp [HB2.out]))
  refine (frame_dec_any A9 90 c9 (bs ++ [0]) _ (by exact HR9.out) (by decide)).mono ?_
  rintro en w10 ⟨A10, n10, c10, rfl, _, hO10⟩
  rw [hlong.out]
  simp only [Option.getD_none, Option.isSome_none, frZero]
  have HBB := HX9.out.keep0 hO10
  have Bf := HBB (w1.heap.size, [.int .i64 k, .int .i64 v, .int .i64 s, .int .i64 b, .int .i64 c, .int .i64 e, .int .i64 0, .slice A1 n1 c1]) (by simp)
  have f0 := Bf.cell 0 (by simp)
  have f1 := Bf.cell 1 (by simp)
  have f2 := Bf.cell 2 (by simp)
  have f3 := Bf.cell 3 (by simp)
  have f4 := Bf.cell 4 (by simp)
  have f5 := Bf.cell 5 (by simp)
  have f6 := Bf.cell 6 (by simp)
  have f7 := Bf.cell 7 (by simp)
  simp only [List.getElem_cons_zero, List.getElem_cons_succ] at f0 f1 f2 f3 f4 f5 f6 f7
  have ltf := Bf.lt
  clear Bf
  have HD10 := Lib.hid ((HD9.out.keep0 hO10).alloc (.cells #[.int .i64 0, .int .i64 0, .int .i64 0, .int .i64 0, .int .i64 0, .int .i64 0, .int .i64 0, .slice A10 n10 c10] 64))
  have HX10 := Lib.hid ((HX9.out.keep0 hO10).alloc (.cells #[.int .i64 0, .int .i64 0, .int .i64 0, .int .i64 0, .int .i64 0, .int .i64 0, .int .i64 0, .slice A10 n10 c10] 64))
  have HY10 := Lib.hid ((HY9.out.keep0 hO10).alloc (.cells #[.int .i64 0, .int .i64 0, .int .i64 0, .int .i64 0, .int .i64 0, .int .i64 0, .int .i64 0, .slice A10 n10 c10] 64))
  have HO10 := Lib.hid ((HO9.out.trans' hO10).alloc (.cells #[.int .i64 0, .int .i64 0, .int .i64 0, .int .i64 0, .int .i64 0, .int .i64 0, .int .i64 0, .slice A10 n10 c10] 64))
  clear hO10 HBB HG4 HD4 HX4 HY4 HO4 HR HE HOE HG1 HR9 HD9 HX9 HY9 HO9
  go_wp2_with fail
  refine (frame_may_any k v s b c e 0 A1 n1 c1 xs _ (by exact HD10.out)).mono ?_
  rintro en w11 ⟨rfl, hO11⟩
  rw [HMAY.out]
  have HD11 := Lib.hid (HD10.out.keep0 hO11)
  have HX11 := Lib.hid (HX10.out.keep0 hO11)
  have HY11 := Lib.hid (HY10.out.keep0 hO11)
  have HO11 := Lib.hid (HO10.out.trans' hO11)
  clear hO11 HD10 HX10 HY10 HO10 f0 f1 f2 f3 f4 f5 f6 f7 ltf
  have Bf := HX11.out (w1.heap.size, [.int .i64 k, .int .i64 v, .int .i64 s, .int .i64 b, .int .i64 c, .int .i64 e, .int .i64 0, .slice A1 n1 c1]) (by simp)
  have f0 := Bf.cell 0 (by simp)
  have f1 := Bf.cell 1 (by simp)
  have f2 := Bf.cell 2 (by simp)
  have f3 := Bf.cell 3 (by simp)
  have f4 := Bf.cell 4 (by simp)
  have f5 := Bf.cell 5 (by simp)
  have f6 := Bf.cell 6 (by simp)
  have f7 := Bf.cell 7 (by simp)
  simp only [List.getElem_cons_zero, List.getElem_cons_succ] at f0 f1 f2 f3 f4 f5 f6 f7
  have ltf := Bf.lt
  clear Bf
  have Bg := HX11.out (w3.heap.size, [.int .i64 k, .int .i64 v, .int .i64 s, .int .i64 b, .int .i64 c, .int .i64 e, .int .i64 0, .slice A3 n3 c3]) (by simp)
  have g0 := Bg.cell 0 (by simp)
  have g1 := Bg.cell 1 (by simp)
  have g2 := Bg.cell 2 (by simp)
  have g3 := Bg.cell 3 (by simp)
  have g4 := Bg.cell 4 (by simp)
  have g5 := Bg.cell 5 (by simp)
  have g6 := Bg.cell 6 (by simp)
  have g7 := Bg.cell 7 (by simp)
  simp only [List.getElem_cons_zero, List.getElem_cons_succ] at g0 g1 g2 g3 g4 g5 g6 g7
  have ltg := Bg.lt
  clear Bg
  go_wp2_with fail
  refine (alike_frame_any k v s b c e 0 A3 n3 c3 xs k v s b c e 0 A1 n1 c1 xs _ (by exact HY11.out) (by exact HD11.out)).mono ?_
  rintro en w12 ⟨rfl, hO12⟩
  have hdd : (k == k && v == v && s == s && b == b && c == c && e == e && (0 : Int) == 0 && decide (xs = xs)) = true := by simp
  rw [hdd]
  have HD12 := Lib.hid (HD11.out.keep0 hO12)
  have HX12 := Lib.hid (HX11.out.keep0 hO12)
  have HO12 := Lib.hid (HO11.out.trans' hO12)
  clear hdd hO12 HD11 HX11 HY11 HO11 f0 f1 f2 f3 f4 f5 f6 f7 g0 g1 g2 g3 g4 g5 g6 g7 ltf ltg
  have Bf := HX12.out (w1.heap.size, [.int .i64 k, .int .i64 v, .int .i64 s, .int .i64 b, .int .i64 c, .int .i64 e, .int .i64 0, .slice A1 n1 c1]) (by simp)
  have f0 := Bf.cell 0 (by simp)
  have f1 := Bf.cell 1 (by simp)
  have f2 := Bf.cell 2 (by simp)
  have f3 := Bf.cell 3 (by simp)
  have f4 := Bf.cell 4 (by simp)
  have f5 := Bf.cell 5 (by simp)
  have f6 := Bf.cell 6 (by simp)
  have f7 := Bf.cell 7 (by simp)
  simp only [List.getElem_cons_zero, List.getElem_cons_succ] at f0 f1 f2 f3 f4 f5 f6 f7
  have ltf := Bf.lt
  clear Bf
  go_wp2_with fail
  refine (frame_op_any k v s b c e 0 A1 n1 c1 xs _ (by exact HD12.out)).mono ?_
  rintro en w13 ⟨A13, n13, c13, rfl, hr13, hO13⟩
  rw [HOP.out] at hr13 ⊢
  simp only [Option.getD_some, Option.isSome_some, if_true] at hr13 ⊢
  have HBB := HX12.out.keep0 hO13
  clear f0 f1 f2 f3 f4 f5 f6 f7 ltf
  have Bf := HBB (w1.heap.size, [.int .i64 k, .int .i64 v, .int .i64 s, .int .i64 b, .int .i64 c, .int .i64 e, .int .i64 0, .slice A1 n1 c1]) (by simp)
  have f0 := Bf.cell 0 (by simp)
  have f1 := Bf.cell 1 (by simp)
  have f2 := Bf.cell 2 (by simp)
  have f3 := Bf.cell 3 (by simp)
  have f4 := Bf.cell 4 (by simp)
  have f5 := Bf.cell 5 (by simp)
  have f6 := Bf.cell 6 (by simp)
  have f7 := Bf.cell 7 (by simp)
  simp only [List.getElem_cons_zero, List.getElem_cons_succ] at f0 f1 f2 f3 f4 f5 f6 f7
  have ltf := Bf.lt
  clear Bf
  have HR13 := Lib.hid (hr13.alloc (.cells #[.int .i64 k, .int .i64 b, .int .i64 c, .int .i64 e, .slice A13 n13 c13] 78))
  have hxl := hr13.len
  rw [bvs_length] at hxl
  have HXL := Lib.hid hxl
  have HD13 := Lib.hid ((HD12.out.keep0 hO13).alloc (.cells #[.int .i64 k, .int .i64 b, .int .i64 c, .int .i64 e, .slice A13 n13 c13] 78))
  have HX13 := Lib.hid ((HX12.out.keep0 hO13).alloc (.cells #[.int .i64 k, .int .i64 b, .int .i64 c, .int .i64 e, .slice A13 n13 c13] 78))
  have HO13 := Lib.hid ((HO12.out.trans' hO13).alloc (.cells #[.int .i64 k, .int .i64 b, .int .i64 c, .int .i64 e, .slice A13 n13 c13] 78))
  clear hO13 HBB HO12 HX12 HD12 hr13 hxl
  go_wp2_with fail
  refine (frame_for_any v s k b c e A13 n13 c13 xs _ (by exact HR13.out) (by rw [← HXL.out]; exact HXN.out)).mono ?_
  rintro en w14 ⟨A14, n14, c14, rfl, hr14, hO14⟩
  rw [HFOR.out] at hr14 ⊢
  simp only [Option.getD_some, Option.isSome_some, if_true] at hr14 ⊢
  have HBB := HX13.out.keep0 hO14
  clear f0 f1 f2 f3 f4 f5 f6 f7 ltf
  have Bf := HBB (w1.heap.size, [.int .i64 k, .int .i64 v, .int .i64 s, .int .i64 b, .int .i64 c, .int .i64 e, .int .i64 0, .slice A1 n1 c1]) (by simp)
  have f0 := Bf.cell 0 (by simp)
  have f1 := Bf.cell 1 (by simp)
  have f2 := Bf.cell 2 (by simp)
  have f3 := Bf.cell 3 (by simp)
  have f4 := Bf.cell 4 (by simp)
  have f5 := Bf.cell 5 (by simp)
  have f6 := Bf.cell 6 (by simp)
  have f7 := Bf.cell 7 (by simp)
  simp only [List.getElem_cons_zero, List.getElem_cons_succ] at f0 f1 f2 f3 f4 f5 f6 f7
  have ltf := Bf.lt
  clear Bf
  have HR14 := Lib.hid (hr14.alloc (.cells #[.int .i64 k, .int .i64 v, .int .i64 s, .int .i64 b, .int .i64 c, .int .i64 e, .int .i64 0, .slice A14 n14 c14] 64))
  have HD14 := Lib.hid ((HD13.out.keep0 hO14).alloc (.cells #[.int .i64 k, .int .i64 v, .int .i64 s, .int .i64 b, .int .i64 c, .int .i64 e, .int .i64 0, .slice A14 n14 c14] 64))
  have HO14 := Lib.hid ((HO13.out.trans' hO14).alloc (.cells #[.int .i64 k, .int .i64 v, .int .i64 s, .int .i64 b, .int .i64 c, .int .i64 e, .int .i64 0, .slice A14 n14 c14] 64))
  clear hO14 HBB HO13 HX13 HD13 hr14 HR13
  go_wp2_with fail
  refine (alike_frame_any k v s b c e 0 A14 n14 c14 xs k v s b c e 0 A1 n1 c1 xs _ (by exact HR14.out) (by exact HD14.out)).mono ?_
  rintro en w15 ⟨rfl, hO15⟩
  have hdd : (k == k && v == v && s == s && b == b && c == c && e == e && (0 : Int) == 0 && decide (xs = xs)) = true := by simp
  rw [hdd]
  have HO15 := Lib.hid (HO14.out.trans' hO15)
  go_wp2_with fail
  refine (awake22 _).mono ?_
  rintro en w16 ⟨rfl, hO16⟩
  have HO16 := Lib.hid (HO15.out.trans' hO16)
  go_wp2
  go_ret
  exact ⟨rfl, HO16.out⟩

theorem walk (a0_0 a0_1 a0_2 a0_3 a0_4 a0_5 : Int) (w : World) (w0_0 : (Lit.int .i64 a0_0).wf = true) (w0_1 : (Lit.int .i64 a0_1).wf = true) (w0_2 : (Lit.int .i64 a0_2).wf = true) (w0_3 : (Lit.int .i64 a0_3).wf = true) (w0_4 : (Lit.int .i64 a0_4).wf = true) (w0_5 : (Lit.int .i64 a0_5).wf = true) : Calls Try.prog 13 #[.agg #[.int .i64 a0_0, .int .i64 a0_1, .int .i64 a0_2, .int .i64 a0_3, .int .i64 a0_4, .int .i64 a0_5]] w fun e w' => e = .returned (.bool true) ∧ Below w.heap.size w w' := by
  obtain ⟨f, hf⟩ : ∃ f, madeFr a0_0 a0_1 a0_2 a0_3 a0_4 a0_5 = f := ⟨_, rfl⟩
  have hmay := madeFr_may a0_0 a0_1 a0_2 a0_3 a0_4 a0_5
  rw [hf] at hmay
  have hd := (frMay_bounds hmay).2.2.2.2.2.2.2
  have hl := frBytes_length f
  have hk := frMay_kind hmay
  have hz := frMay_d0 hmay
  obtain ⟨k, v, s, b, c, e, d, xs⟩ := f
  dsimp only at hd hl hk hz
  by_cases h3 : 3 < k
  · rcases hd with hd | hd
    · rw [hd] at hl
      refine (back25n a0_0 a0_1 a0_2 a0_3 a0_4 a0_5 k v s b c e d xs w w0_0 w0_1 w0_2 w0_3 w0_4 w0_5 hf h3 hl).mono ?_
      rintro e w' ⟨rfl, hO⟩
      exact ⟨rfl, hO.below0⟩
    · rw [hd] at hl
      refine (back89n a0_0 a0_1 a0_2 a0_3 a0_4 a0_5 k v s b c e d xs w w0_0 w0_1 w0_2 w0_3 w0_4 w0_5 hf h3 hl).mono ?_
      rintro e w' ⟨rfl, hO⟩
      exact ⟨rfl, hO.below0⟩
  · have h8 : k ≠ 8 := by omega
    have h9 : k ≠ 9 := by omega
    obtain rfl : d = 0 := hz h8
    rcases hd with hd | hd
    · rw [hd] at hl
      refine (back25y a0_0 a0_1 a0_2 a0_3 a0_4 a0_5 k v s b c e xs w w0_0 w0_1 w0_2 w0_3 w0_4 w0_5 hf h8 h9 (by omega) hl).mono ?_
      rintro e w' ⟨rfl, hO⟩
      exact ⟨rfl, hO.below0⟩
    · rw [hd] at hl
      refine (back89y a0_0 a0_1 a0_2 a0_3 a0_4 a0_5 k v s b c e xs w w0_0 w0_1 w0_2 w0_3 w0_4 w0_5 hf h8 h9 (by omega) hl).mono ?_
      rintro e w' ⟨rfl, hO⟩
      exact ⟨rfl, hO.below0⟩

set_option maxRecDepth 100000 in
theorem lifted (os : Os) (started : os.Started) (H : Type) (enc : TypeId × Value → H) :
    ReturnsInHanded {} Try.checked os 13 .any (Rows.frameBackSpec.pre6 enc Try.prog Try.f13 Rows.frameBackRow.domain false) (Rows.frameBackSpec.post enc Try.prog Try.f13 false true false false) := by
  refine returnsInHanded_of_change (C := Try.checked) own started (by kernel_rfl) Try.func13
    (ChangeSpec.witness6 (enc := enc) (C := Try.checked) false ⟨#[], #[.agg #[.int .i64 0, .int .i64 0, .int .i64 0, .int .i64 0, .int .i64 0, .int .i64 0]], []⟩ 8 (by kernel_rfl) (by kernel_rfl) (by kernel_rfl) (by kernel_rfl)) ?_
  intro W base args ds gs before hval0 hW hcnd _
  have hval : ∀ (j : Nat) t v, Try.f13.params[j]? = some t → args[j]? = some v → Value.okWide Try.prog W .any base t v := hval0
  have hW' := hW
  obtain ⟨p, q, hA0, hV, rfl, hfz, hnd⟩ := hW
  have hA : DataW.TrodAll enc Try.prog W 0 (fun _ => true) true Try.f13.params.toList args.toList ds p := hA0
  rw [Try.params13] at hA hval
  obtain ⟨v0, vs0, d0, ds0, p0, q0, hargs, rfl, rfl, h0, r0⟩ := trodAll_cons hA
  obtain ⟨rfl, rfl, rfl⟩ := trodAll_nil r0
  obtain rfl : args = #[v0] := by cases args; simp_all
  obtain ⟨rfl, rfl⟩ := trodVars_none hV
  have k0 := h0
  have lt0 : ∀ x ∈ p0, x.block < W.heap.size := by obtain ⟨m, hm⟩ := k0; exact DataW.trod_lt m _ _ _ hm
  obtain ⟨a0_0, a0_1, a0_2, a0_3, a0_4, a0_5, rfl, w0_0, w0_1, w0_2, w0_3, w0_4, w0_5⟩ := open_arr6 (okWide_array Try.underlying74 (hval 0 74 v0 rfl rfl)) h0
  clear hA0 hval0
  refine (walk a0_0 a0_1 a0_2 a0_3 a0_4 a0_5 W w0_0 w0_1 w0_2 w0_3 w0_4 w0_5).mono fun e W' ⟨he, bel⟩ => ?_
  subst he
  exact ⟨_, rfl, _, _, _, [], _, [], hW', trodAll_mk1 (shut_bool Try.underlying4 _), (trodAll_cons_mk (Below.trod laidOut (by kernel_rfl) (of_decide_eq_true (by kernel_rfl)) k0 bel lt0) trodAll_mk0), rfl, bel.frame _, fun h => by cases h⟩

set_option maxRecDepth 100000 in
theorem closed : joinedFacts Try.pinned.checked.prog 13 Try.f13 Rows.frameBackSpec Rows.frameBackRow = true := by
  show joinedFacts Try.prog 13 Try.f13 Rows.frameBackSpec Rows.frameBackRow = true
  unfold joinedFacts
  simp only [enter_may, enter_lifts, enter_make]
  kernel_rfl

theorem over : Rows.frameBackRow.holds Try.pinned (OpenSpec.ofChange Rows.frameBackSpec) :=
  OpenClaim.holds_of_wide 13 Try.f13 rfl rfl rfl rfl rfl rfl rfl ⟨rfl, rfl, rfl, rfl, rfl⟩ rfl rfl rfl rfl rfl (by kernel_rfl) Try.func13 closed
    (of_decide_eq_true (by kernel_rfl)) (by unfold Func.isWrapper; first | (rw [if_pos (by decide +kernel)]; kernel_rfl) | (rw [if_neg (by decide +kernel)]; exact ⟨rfl, rfl⟩))
    (fun os started H enc _ => lifted os started H enc)

theorem proved : Rows.FrameBackSaid := over

end Go.Proofs.Ytjmbhknokobnpaa.frameBack
