/- Claim RecordBack. -/
import Derived.Test.YtoibehikojkoiaaEnter
import Derived.Test.YtoibehikojkoiaaLaw7C
import Derived.Test.YtoibehikojkoiaaZeros
import Derived.Test.YtoibehikojkoiaaFrameR
import Derived.Test.YtoibehikojkoiaaRecG
import Derived.Test.YtoibehikojkoiaaRecH
set_option linter.unusedVariables false
set_option linter.unusedSimpArgs false
namespace Go.Proofs.Ytoibehikojkoiaa.recordBack
open Go Go.RowKit Go.Kn Go.ChangeShapes Go.WideShapes Go.ChangeAt

set_option maxRecDepth 100000 in
set_option maxHeartbeats 16000000 in
theorem back (A : Option Addr) (n c : Nat) (zs : List Int) (lsn prev fl : Int) (w : World) (hi : Ins w A n c zs) (hwz : ∀ z ∈ zs, (Lit.int .i64 z).wf = true) (h1 : (Lit.int .i64 lsn).wf = true) (h2 : (Lit.int .i64 prev).wf = true) (h3 : (Lit.int .i64 fl).wf = true) :
    Calls Try.prog 6 #[.slice A n c, .int .i64 lsn, .int .i64 prev, .int .i64 fl] w fun en w' => en = .returned (.bool true) ∧ Only [] w w' := by
  have hlen := hi.len
  rw [ivs_length] at hlen
  have hnc := hi.le
  have hcm := hi.cm
  unfold maxLen at hcm
  by_cases hsm : 1 ≤ n ∧ n ≤ 6
  · obtain ⟨hs1, hs2⟩ := hsm
    have hd1 : decide ((n : Int) < 1) = false := by simp; omega
    have hd2 : decide (6 < (n : Int)) = false := by simp; omega
    obtain ⟨i0, hi0, hz0, hz1, hz2⟩ := info_parts Try.infoU8b
    have hmay := mkRc_may (ks := zs) lsn prev fl (by omega) (by omega)
    have hkb := mkRc_bl_le (ks := zs) lsn prev fl (by omega)
    have HMK : Hid (∀ W : World, Ins W A n c zs → Calls Try.prog 30 #[.slice A n c, .int .i64 lsn, .int .i64 prev, .int .i64 fl] W (RcNew W (mkRc zs lsn prev fl))) := Lib.hid fun W hW => made7_any A n c zs lsn prev fl W hW (by omega) hwz h1 h2 h3
    generalize mkRc zs lsn prev fl = r at *
    have hE := enc_rc hmay
    have hD := dec_rc hmay
    have hN := rcBytes_length hmay
    have hSz := rc_size_bytes hmay
    have hsh := dec_rc_short hmay
    have hlo := dec_rc_long hmay
    obtain ⟨K, hK⟩ : ∃ K, 1 + r.bl.length = K := ⟨_, rfl⟩
    rw [hK] at hN hSz
    obtain ⟨RB, hRB⟩ : ∃ x, rcBytes r = x := ⟨_, rfl⟩
    obtain ⟨s, hs⟩ : ∃ x, rcSum r = x := ⟨_, rfl⟩
    rw [hRB, hs] at hE hD
    rw [hRB] at hN hSz hsh hlo
    obtain ⟨LB, hLB⟩ : ∃ x, RB.length = x := ⟨_, rfl⟩
    rw [hLB] at hN hsh
    have hK1 : 1 ≤ K := by omega
    have hK7 : K ≤ 7 := by omega
    have HM := Lib.hid hmay
    have HE := Lib.hid hE
    have HDC := Lib.hid hD
    have HLB := Lib.hid hLB
    have HSZ := Lib.hid hSz
    have HSH := Lib.hid hsh
    have HLO := Lib.hid hlo
    have HKK := Lib.hid hK
    have hLB64 : 64 ≤ LB := by omega
    have hLB4 : LB ≤ 448 := by omega
    have hq1 : ((LB : Int) != 64 * (K : Int)) = false := by simp; omega
    have hq2 : ((LB : Int) == 64 * (K : Int)) = true := by simp; omega
    have hq3 : ((K : Int) * 64 == (LB : Int)) = true := by simp; omega
    have hq4 : ((s : Int) == (s : Int)) = true := by simp
    have hq5 : decide ((LB : Int) < 64) = false := by simp; omega
    have HD0 := Lib.hid ((Wc.start w).old (f := fun W => Ins W A n c zs) (Row1.fc hi (by simp)))
    clear hi hlen hwz h1 h2 h3 hmay hkb hE hD hN hSz hsh hlo hK hRB hs hLB
    go_enter Try.func6, Try.ntmps6
    go_wp2_with fail
    refine (HMK.out _ (HD0.out.fi 0 rfl)).mono ?_
    intro en w1 he
    obtain ⟨s1, t1, rfl, hw⟩ := HD0.out.rcNew he
    rcases s1 with ⟨sA, sn, sc⟩
    rcases t1 with ⟨tA, tn, tc⟩
    have HD1 := Lib.hid (hw.newF (r.cells (sA, sn, sc) (tA, tn, tc)) 47 rfl)
    rw [show r.cells (sA, sn, sc) (tA, tn, tc) = #[.int .i64 r.m, .int .i64 r.n, .int .i64 r.p, .slice sA sn sc, .slice tA tn tc] from rfl] at HD1 ⊢
    clear HD0 he hw
    go_upto_region 4 with fail
    generalize w1.alloc (.cells #[.int .i64 r.m, .int .i64 r.n, .int .i64 r.p, .slice sA sn sc, .slice tA tn tc] 47) = w2 at *
    generalize w1.heap.size = rb at *
    obtain ⟨x0, x1, x2, x3, x4, xl⟩ := cells5 (show Kn.Own w2 rb _ from HD1.out.fi 0 rfl)
    go_wp2_with fail
    refine (rec_enc_any r.m r.n r.p sA sn sc r.its tA tn tc r.bl _ (HD1.out.fi 1 rfl).1 (HD1.out.fi 1 rfl).2).mono ?_
    intro en w3 he
    rw [show (⟨r.m, r.n, r.p, r.its, r.bl⟩ : Rc) = r from rfl, HE.out] at he
    obtain ⟨gb, cb, rfl, hc, hm, hg, hw3⟩ := HD1.out.encRc he
    rw [HLB.out] at hc hw3 ⊢
    have HD2 := Lib.hid hw3
    have hm' := hm
    unfold maxLen at hm'
    clear HD1 he hw3 hg x0 x1 x2 x3 x4 xl
    obtain ⟨x0, x1, x2, x3, x4, xl⟩ := cells5 (show Kn.Own w3 rb _ from HD2.out.fi 1 rfl)
    go_wp2_with fail
    refine (rec_len_any r.m r.n r.p sA sn sc r.its tA tn tc r.bl _ (HD2.out.fi 2 rfl).1 (HD2.out.fi 2 rfl).2).mono ?_
    rintro en w4 ⟨rfl, hO⟩
    rw [if_pos (show rcMay ⟨r.m, r.n, r.p, r.its, r.bl⟩ = true from HM.out), HKK.out]
    have HD3 := Lib.hid (HD2.out.keep0 hO)
    clear HD2 hO x0 x1 x2 x3 x4 xl
    obtain ⟨x0, x1, x2, x3, x4, xl⟩ := cells5 (show Kn.Own w4 rb _ from HD3.out.fi 1 rfl)
    go_wp2_with fail
    refine (rec_dec_any (some ⟨gb, 0, none⟩) LB cb RB _ (HD3.out.fi 0 rfl) (by omega)).mono ?_
    intro en w5 he
    obtain ⟨s2, t2, rfl, hw⟩ := HD3.out.rcSays he
    rw [HDC.out] at hw ⊢
    simp only [Option.map_some, Option.getD_some, Option.isSome_some, if_true] at hw ⊢
    rcases s2 with ⟨uA, un, uc⟩
    rcases t2 with ⟨vA, vn, vc⟩
    have HD4 := Lib.hid (hw.newF (r.cells (uA, un, uc) (vA, vn, vc)) 47 rfl)
    rw [show r.cells (uA, un, uc) (vA, vn, vc) = #[.int .i64 r.m, .int .i64 r.n, .int .i64 r.p, .slice uA un uc, .slice vA vn vc] from rfl] at HD4 ⊢
    clear HD3 he hw x0 x1 x2 x3 x4 xl
    go_upto_region 8 with fail
    generalize w5.alloc (.cells #[.int .i64 r.m, .int .i64 r.n, .int .i64 r.p, .slice uA un uc, .slice vA vn vc] 47) = w6 at *
    generalize w5.heap.size = xb at *
    go_wp2_with fail
    refine (rec_dec_any (some ⟨gb, 0, none⟩) (LB - 1) cb (RB.take (LB - 1)) _ (bys_take (HD4.out.fi 2 rfl) (by omega) (by omega)) (by omega)).mono ?_
    intro en w7 he
    obtain ⟨s3, t3, rfl, hw⟩ := HD4.out.rcSays he
    rw [HSH.out] at hw ⊢
    simp only [Option.map_none, Option.getD_none, Option.isSome_none, Bool.false_eq_true, if_false] at hw ⊢
    rcases s3 with ⟨oA, on, oc⟩
    rcases t3 with ⟨pA, pn, pc⟩
    have HD5 := Lib.hid (hw.alloc (.cells (rcZ.cells (oA, on, oc) (pA, pn, pc)) 47))
    rw [show rcZ.cells (oA, on, oc) (pA, pn, pc) = #[.int .i64 0, .int .i64 0, .int .i64 0, .slice oA on oc, .slice pA pn pc] from rfl] at HD5 ⊢
    clear HD4 he hw
    go_upto_region 9 with fail
    generalize w7.alloc (.cells #[.int .i64 0, .int .i64 0, .int .i64 0, .slice oA on oc, .slice pA pn pc] 47) = w8 at *
    have HR := Lib.hid (show Row1 w8 (some ⟨gb, 0, none⟩) LB cb (bvs RB) from HD5.out.fi 3 rfl)
    have HE8 := Lib.hid (Gath.empty w8 5)
    have HOE := Lib.hid ((Only.refl [] w8).alloc (.cells #[] 5))
    have HLV : Hid ((bvs RB).length = LB) := Lib.hid (by rw [bvs_length, HLB.out])
    go_wp2_with (first
      | (at_builtin; refine wpList_append_row1 rfl (.tmp 74) (.tmp 75) 35 rfl w8.heap.size 5 i0 _ 1 Try.underlying35 hi0 hz0 hz1 hz2 rfl (.slice (some ⟨w8.heap.size, 0, none⟩) 0 0) 0 [] rfl (by exact HE8.out.1) (some ⟨gb, 0, none⟩) LB cb (bvs RB) rfl (by exact HR.out.alloc _) (bvs_one _) (by unfold maxLen; omega) (by omega) (by simp) ?_
         intro v1 w9 hown1 hgr1 hat1
         have hG1 := HE8.out.grown HOE.out rfl hown1 (by simp [HLV.out]) hgr1
         obtain ⟨A8, c8, rfl, hrow8, hb8⟩ := hG1.1.formN HLV.out
         have HG1 := Lib.hid hG1
         clear hG1 hown1 hgr1 hat1 hrow8 hb8
         obtain ⟨v2, w10, hrun, hown2, hgr2, _⟩ := run_append_zeros_at (P := Try.prog) w9 w8.heap.size 35 3 5 i0 (.int .u8 0) (.int .u8 0) .i64 1 Try.underlying35 Try.underlying3 hi0 hz0 rfl hz1 hz2 (.slice A8 LB c8) LB (bvs RB) (HG1.out.1.own (Only.refl _ _) HLV.out) 64 (by decide) rfl (by unfold maxLen; omega) (by omega) (HG1.out.1.base_le (Only.refl _ _))
         have hG2 := HG1.out.1.grown HG1.out.2 rfl hown2 (by rw [List.length_append, HLV.out, List.length_replicate]) hgr2
         have hbv : bvs RB ++ List.replicate 64 (Value.int .u8 0) = bvs (RB ++ List.replicate 64 0) := by rw [bvs, bvs, List.map_append, List.map_replicate]; rfl
         rw [hbv] at hG2
         obtain ⟨A9, c9, rfl, hrow9, hb9⟩ := hG2.1.formN (n := LB + 64) (by rw [bvs_length, List.length_append, HLB.out, List.length_replicate])
         have HRUN := Lib.hid hrun
         have HROW := Lib.hid hrow9
         have HD6 := Lib.hid (HD5.out.keep0 hG2.2)
         clear hrun hown2 hgr2 hG2 hbv hrow9 hb9 HG1)
      | (at_builtin; refine Lib.wpList_append_run _ rfl _ _ _ _ rfl _ _ rfl rfl _ _ (HRUN.out _) ?_)
      | fail)
    clear HD5 HE8 HOE HR HRUN
    refine (rec_dec_any A9 (LB + 64) c9 (RB ++ List.replicate 64 0) _ HROW.out (by omega)).mono ?_
    intro en w11 he
    obtain ⟨s4, t4, rfl, hw⟩ := HD6.out.rcSays he
    rw [HLO.out] at hw ⊢
    simp only [Option.map_none, Option.getD_none, Option.isSome_none, Bool.false_eq_true, if_false] at hw ⊢
    rcases s4 with ⟨eA, en, ec⟩
    rcases t4 with ⟨fA, fn, fc⟩
    have HD7 := Lib.hid (hw.alloc (.cells (rcZ.cells (eA, en, ec) (fA, fn, fc)) 47))
    rw [show rcZ.cells (eA, en, ec) (fA, fn, fc) = #[.int .i64 0, .int .i64 0, .int .i64 0, .slice eA en ec, .slice fA fn fc] from rfl] at HD7 ⊢
    clear HD6 he hw HROW
    go_upto_region 10 with fail
    generalize w11.alloc (.cells #[.int .i64 0, .int .i64 0, .int .i64 0, .slice eA en ec, .slice fA fn fc] 47) = w12 at *
    obtain ⟨x0, x1, x2, x3, x4, xl⟩ := cells5 (show Kn.Own w12 rb _ from HD7.out.fi 5 rfl)
    go_wp2_with fail
    refine (rec_may_any r.m r.n r.p sA sn sc r.its tA tn tc r.bl _ (HD7.out.fi 6 rfl).1 (HD7.out.fi 6 rfl).2).mono ?_
    rintro en w13 ⟨rfl, hO⟩
    rw [show rcMay ⟨r.m, r.n, r.p, r.its, r.bl⟩ = true from HM.out]
    have HD8 := Lib.hid (HD7.out.keep0 hO)
    clear HD7 hO x0 x1 x2 x3 x4 xl
    obtain ⟨x0, x1, x2, x3, x4, xl⟩ := cells5 (show Kn.Own w13 rb _ from HD8.out.fi 5 rfl)
    obtain ⟨y0, y1, y2, y3, y4, yl⟩ := cells5 (show Kn.Own w13 xb _ from HD8.out.fi 2 rfl)
    go_wp2_with fail
    refine (alike_record_any r.m r.n r.p uA un uc r.its vA vn vc r.bl r.m r.n r.p sA sn sc r.its tA tn tc r.bl _ (HD8.out.fi 3 rfl).1 (HD8.out.fi 3 rfl).2 (HD8.out.fi 6 rfl).1 (HD8.out.fi 6 rfl).2).mono ?_
    rintro en w14 ⟨rfl, hO⟩
    rw [decide_eq_true (rfl : (⟨r.m, r.n, r.p, r.its, r.bl⟩ : Rc) = ⟨r.m, r.n, r.p, r.its, r.bl⟩)]
    have HD9 := Lib.hid (HD8.out.keep0 hO)
    clear HD8 hO x0 x1 x2 x3 x4 xl y0 y1 y2 y3 y4 yl
    go_wp2_with fail
    refine (rec_size_any (some ⟨gb, 0, none⟩) 64 cb (RB.take 64) _ (bys_take (HD9.out.fi 4 rfl) (by omega) (by omega)) (by decide)).mono ?_
    rintro en w15 ⟨rfl, hO⟩
    rw [HSZ.out]
    have HDa := Lib.hid (HD9.out.keep0 hO)
    clear HD9 hO
    go_wp2_with fail
    refine (awake7 _).mono ?_
    rintro en w16 ⟨rfl, hO⟩
    have HDb := Lib.hid (HDa.out.keep0 hO)
    clear HDa hO
    go_wp2
    go_ret
    exact ⟨rfl, HDb.out.only⟩
  · by_cases hs1 : n < 1
    · have hd1 : decide ((n : Int) < 1) = true := by simp; omega
      go_enter Try.func6, Try.ntmps6
      go_wp2_with fail
      refine (awake7 _).mono ?_
      rintro en w7 ⟨rfl, hO⟩
      go_wp2
      go_ret
      exact ⟨rfl, hO⟩
    · have hd1 : decide ((n : Int) < 1) = false := by simp; omega
      have hd2 : decide (6 < (n : Int)) = true := by simp; omega
      go_enter Try.func6, Try.ntmps6
      go_wp2_with fail
      refine (awake7 _).mono ?_
      rintro en w7 ⟨rfl, hO⟩
      go_wp2
      go_ret
      exact ⟨rfl, hO⟩
theorem walk (a0 : Option Addr) (len0 cap0 : Nat) (z0 : List Int) (a1 : Int) (a2 : Int) (a3 : Int) (w : World) (w0 : IsRow .i64 w a0 len0 cap0 z0) (w1 : (Lit.int .i64 a1).wf = true) (w2 : (Lit.int .i64 a2).wf = true) (w3 : (Lit.int .i64 a3).wf = true) : Calls Try.prog 6 #[.slice a0 len0 cap0, .int .i64 a1, .int .i64 a2, .int .i64 a3] w fun e w' => e = .returned (.bool true) ∧ Below w.heap.size w w' := by
  refine (back a0 len0 cap0 _ a1 a2 a3 w w0.ins w0.wf w1 w2 w3).mono ?_
  rintro e w' ⟨rfl, hO⟩
  exact ⟨rfl, hO.below0⟩

set_option maxRecDepth 100000 in
theorem lifted (os : Os) (started : os.Started) (H : Type) (enc : TypeId × Value → H) :
    ReturnsInHanded {} Try.checked os 6 .any (Rows.recordBackSpec.pre6 enc Try.prog Try.f6 Rows.recordBackRow.domain false) (Rows.recordBackSpec.post enc Try.prog Try.f6 false true false false) := by
  refine returnsInHanded_of_change (C := Try.checked) own started (by kernel_rfl) Try.func6
    (ChangeSpec.witness6 (enc := enc) (C := Try.checked) false ⟨#[], #[.slice none 0 0, .int .i64 0, .int .i64 0, .int .i64 0], []⟩ 8 (by kernel_rfl) (by kernel_rfl) (by kernel_rfl) (by kernel_rfl)) ?_
  intro W base args ds gs before hval0 hW hcnd _
  have hval : ∀ (j : Nat) t v, Try.f6.params[j]? = some t → args[j]? = some v → Value.okWide Try.prog W .any base t v := hval0
  have hW' := hW
  obtain ⟨p, q, hA0, hV, rfl, hfz, hnd⟩ := hW
  have hA : DataW.TrodAll enc Try.prog W 0 (fun _ => true) true Try.f6.params.toList args.toList ds p := hA0
  rw [Try.params6] at hA hval
  obtain ⟨v0, vs0, d0, ds0, p0, q0, hargs, rfl, rfl, h0, r0⟩ := trodAll_cons hA
  obtain ⟨v1, vs1, d1, ds1, p1, q1, rfl, rfl, rfl, h1, r1⟩ := trodAll_cons r0
  obtain ⟨v2, vs2, d2, ds2, p2, q2, rfl, rfl, rfl, h2, r2⟩ := trodAll_cons r1
  obtain ⟨v3, vs3, d3, ds3, p3, q3, rfl, rfl, rfl, h3, r3⟩ := trodAll_cons r2
  obtain ⟨rfl, rfl, rfl⟩ := trodAll_nil r3
  obtain rfl : args = #[v0, v1, v2, v3] := by cases args; simp_all
  obtain ⟨rfl, rfl⟩ := trodVars_none hV
  obtain ⟨a0, len0, cap0, rfl⟩ := okWide_slice Try.underlying23 (hval 0 23 v0 rfl rfl)
  have k0 := h0
  have lt0 : ∀ x ∈ p0, x.block < W.heap.size := by obtain ⟨m, hm⟩ := k0; exact DataW.trod_lt m _ _ _ hm
  obtain ⟨z0, w0⟩ : ∃ zs, IsRow .i64 W a0 len0 cap0 zs := by
    obtain ⟨fuel, hf⟩ := h0
    rcases open_ints Try.underlying23 Try.underlying3 (by kernel_rfl) hf with ⟨hcs, _⟩ | ⟨x, l, c, zs, hcs, _, hl, hm, hz, _, hcell, hwz⟩
    · simp [Value.cells] at hcs
      obtain ⟨rfl, rfl, rfl⟩ := hcs
      exact ⟨[], .inl ⟨rfl, rfl, rfl, rfl⟩⟩
    · simp [Value.cells] at hcs
      obtain ⟨rfl, rfl, rfl⟩ := hcs
      exact ⟨zs, .inr ⟨_, rfl, hl, hm, by simpa using hz, hcell, hwz⟩⟩
  obtain ⟨a1, rfl, rfl, rfl, w1⟩ := open_int Try.underlying3 (hval 1 3 v1 rfl rfl) h1
  obtain ⟨a2, rfl, rfl, rfl, w2⟩ := open_int Try.underlying3 (hval 2 3 v2 rfl rfl) h2
  obtain ⟨a3, rfl, rfl, rfl, w3⟩ := open_int Try.underlying3 (hval 3 3 v3 rfl rfl) h3
  clear hA0 hval0
  refine (walk a0 len0 cap0 z0 a1 a2 a3 W w0 w1 w2 w3).mono fun e W' ⟨he, bel⟩ => ?_
  subst he
  exact ⟨_, rfl, _, _, _, [], _, [], hW', trodAll_mk1 (shut_bool Try.underlying4 _), (trodAll_cons_mk (Below.trod laidOut (by kernel_rfl) (of_decide_eq_true (by kernel_rfl)) k0 bel lt0) (trodAll_cons_mk (shut_int Try.underlying3 w1) (trodAll_cons_mk (shut_int Try.underlying3 w2) (trodAll_cons_mk (shut_int Try.underlying3 w3) trodAll_mk0)))), rfl, bel.frame _, fun h => by cases h⟩

set_option maxRecDepth 100000 in
theorem closed : joinedFacts Try.pinned.checked.prog 6 Try.f6 Rows.recordBackSpec Rows.recordBackRow = true := by
  show joinedFacts Try.prog 6 Try.f6 Rows.recordBackSpec Rows.recordBackRow = true
  unfold joinedFacts
  simp only [enter_may, enter_lifts, enter_make]
  kernel_rfl

theorem over : Rows.recordBackRow.holds Try.pinned (OpenSpec.ofChange Rows.recordBackSpec) :=
  OpenClaim.holds_of_wide 6 Try.f6 rfl rfl rfl rfl rfl rfl rfl ⟨rfl, rfl, rfl, rfl, rfl⟩ rfl rfl rfl rfl rfl (by kernel_rfl) Try.func6 closed
    (of_decide_eq_true (by kernel_rfl)) (by unfold Func.isWrapper; first | (rw [if_pos (by decide +kernel)]; kernel_rfl) | (rw [if_neg (by decide +kernel)]; exact ⟨rfl, rfl⟩))
    (fun os started H enc _ => lifted os started H enc)

theorem proved : Rows.RecordBackSaid := over

end Go.Proofs.Ytoibehikojkoiaa.recordBack
