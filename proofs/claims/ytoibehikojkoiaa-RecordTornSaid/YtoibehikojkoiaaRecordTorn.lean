/- Claim RecordTorn. -/
import Derived.Test.YtoibehikojkoiaaEnter
import Derived.Test.YtoibehikojkoiaaLaw7C
import Derived.Test.YtoibehikojkoiaaLaw7E
import Derived.Test.YtoibehikojkoiaaFrameR
import Derived.Test.YtoibehikojkoiaaRecG
import Derived.Test.YtoibehikojkoiaaRecH
set_option linter.unusedVariables false
set_option linter.unusedSimpArgs false
namespace Go.Kn
open Go Go.RowKit
theorem Wc.dropG {w0 w : World} {G : List Gs} {F : List (World → Prop)} (h : Wc w0 w [] G F) : Wc w0 w [] [] F :=
  ⟨h.only, h.own, h.lo, h.nd, by simp, by simp, by simp, fun f hf W hW => h.fx f hf W fun k o _ hk hc => hW k o (by simp [Mut]) hk hc⟩
theorem mixS_congr {f g : Nat → Bool} {a b : List UInt8} : ∀ j, (∀ i, i < j → f i = g i) → mixS f a b j = mixS g a b j
  | 0, _ => rfl
  | j + 1, h => by
    unfold mixS
    rw [mixS_congr j fun i hi => h i (by omega), h j (by omega)]
theorem mixS_next (f : Nat → Bool) (a b : List UInt8) (j : Nat) (q : Bool) : ∃ g, mixS f a b j ++ (if q then sec a j else sec b j) = mixS g a b (j + 1) := by
  refine ⟨fun i => if i < j then f i else q, ?_⟩
  show mixS f a b j ++ _ = mixS _ a b j ++ _
  rw [mixS_congr (g := fun i => if i < j then f i else q) j fun i hi => by simp [hi]]
  simp
theorem sec_at {w : World} {g c K LB j : Nat} {bs : List UInt8} (h : Bys w (some ⟨g, 0, none⟩) LB c bs) (hK : LB = 64 * K) (hj : j < K) : Bys w (some ⟨g, 64 * j, none⟩) 64 (c - 64 * j) (sec bs j) := by
  have hle := h.le
  have h2 := Row1.cut (l := 64 * j) (m := 64) h (by omega)
  rw [bvs_cut] at h2
  have e : cutA (some ⟨g, 0, none⟩) c (64 * j) = some ⟨g, 64 * j, none⟩ := by
    rw [cutA, if_neg (by omega)]
    simp [Addr.add]
    omega
  rw [e] at h2
  exact h2
end Go.Kn
namespace Go.Proofs.Ytoibehikojkoiaa.recordTorn
open Go Go.RowKit Go.Kn Go.ChangeShapes Go.WideShapes Go.ChangeAt

set_option maxRecDepth 100000 in
set_option maxHeartbeats 16000000 in
theorem torn (A : Option Addr) (n c : Nat) (zs : List Int) (fl oth sect : Int) (w : World) (hi : Ins w A n c zs) (hwz : ∀ z ∈ zs, (Lit.int .i64 z).wf = true) (h1 : (Lit.int .i64 fl).wf = true) (h2 : (Lit.int .i64 oth).wf = true) (h3 : (Lit.int .i64 sect).wf = true) :
    Calls Try.prog 8 #[.slice A n c, .int .i64 fl, .int .i64 oth, .int .i64 sect] w fun en w' => en = .returned (.bool true) ∧ Only [] w w' := by
  have hlen := hi.len
  rw [ivs_length] at hlen
  have hnc := hi.le
  have hcm := hi.cm
  unfold maxLen at hcm
  by_cases hsm : 1 ≤ n ∧ n ≤ 6
  · obtain ⟨hs1, hs2⟩ := hsm
    have hd1 : decide ((n : Int) < 1) = false := by simp; omega
    have hd2 : decide (6 < (n : Int)) = false := by simp; omega
    obtain ⟨i0, hi0, hz0, hz1, hz2⟩ := info_parts Try.infoU8b
    have hmr := mkRc_may (ks := zs) 5 1 fl (by omega) (by omega)
    have hmq := mkRc_may (ks := zs) 5 2 oth (by omega) (by omega)
    have hkb := mkRc_bl_le (ks := zs) 5 1 fl (by omega)
    have hll : (mkRc zs 5 2 oth).bl.length = (mkRc zs 5 1 fl).bl.length := by
      show (mkBls zs oth zs.length).length = (mkBls zs fl zs.length).length
      rw [mkBls_length _ _ _ (by omega), mkBls_length _ _ _ (by omega)]
    have HMR : Hid (∀ W : World, Ins W A n c zs → Calls Try.prog 30 #[.slice A n c, .int .i64 5, .int .i64 1, .int .i64 fl] W (RcNew W (mkRc zs 5 1 fl))) := Lib.hid fun W hW => made7_any A n c zs 5 1 fl W hW (by omega) hwz (by decide) (by decide) h1
    have HMQ : Hid (∀ W : World, Ins W A n c zs → Calls Try.prog 30 #[.slice A n c, .int .i64 5, .int .i64 2, .int .i64 oth] W (RcNew W (mkRc zs 5 2 oth))) := Lib.hid fun W hW => made7_any A n c zs 5 2 oth W hW (by omega) hwz (by decide) (by decide) h2
    generalize mkRc zs 5 1 fl = r at *
    generalize mkRc zs 5 2 oth = q at *
    have hEr := enc_rc hmr
    have hEq := enc_rc hmq
    have hNr := rcBytes_length hmr
    have hNq := rcBytes_length hmq
    obtain ⟨K, hK⟩ : ∃ K, 1 + r.bl.length = K := ⟨_, rfl⟩
    have hK2 : 1 + q.bl.length = K := by omega
    rw [hK] at hNr
    rw [hK2] at hNq
    have htr : ∀ f s y, decRc (mixS f (rcBytes r) (rcBytes q) K) = some (y, s) → _ := fun f s y h => torn_read hmr hmq hK hK2 h
    obtain ⟨RA, hRA⟩ : ∃ x, rcBytes r = x := ⟨_, rfl⟩
    obtain ⟨RB, hRB⟩ : ∃ x, rcBytes q = x := ⟨_, rfl⟩
    obtain ⟨s1, hs1'⟩ : ∃ x, rcSum r = x := ⟨_, rfl⟩
    obtain ⟨s2, hs2'⟩ : ∃ x, rcSum q = x := ⟨_, rfl⟩
    rw [hRA, hs1'] at hEr
    rw [hRB, hs2'] at hEq
    rw [hRA] at hNr
    rw [hRB] at hNq
    simp only [hRA, hRB, hs1', hs2'] at htr
    have hK1 : 1 ≤ K := by omega
    have hK7 : K ≤ 7 := by omega
    obtain ⟨LB, hLB⟩ : ∃ x, 64 * K = x := ⟨_, rfl⟩
    rw [hLB] at hNr hNq
    have HTR := Lib.hid htr
    have HER := Lib.hid hEr
    have HEQ := Lib.hid hEq
    have HNR := Lib.hid hNr
    have HNQ := Lib.hid hNq
    have HLL := Lib.hid hll
    have HLB := Lib.hid hLB
    have hLB64 : 64 ≤ LB := by omega
    have hLB4 : LB ≤ 448 := by omega
    have hq5 : decide ((LB : Int) < 64) = false := by simp; omega
    have hq6 : ((LB : Int) != (LB : Int)) = false := by simp
    have HD0 := Lib.hid ((Wc.start w).old (f := fun W => Ins W A n c zs) (Row1.fc hi (by simp)))
    clear hi hlen hwz h1 h2 hmr hmq hkb hEr hEq hNr hNq htr hRA hRB hs1' hs2' hK hK2 hll
    go_enter Try.func8, Try.ntmps8
    go_wp2_with fail
    refine (HMR.out _ (HD0.out.fi 0 rfl)).mono ?_
    intro en w1 he
    obtain ⟨s3, t3, rfl, hw⟩ := HD0.out.rcNew he
    rcases s3 with ⟨sA, sn, sc⟩
    rcases t3 with ⟨tA, tn, tc⟩
    have HD1 := Lib.hid hw
    rw [show r.cells (sA, sn, sc) (tA, tn, tc) = #[.int .i64 r.m, .int .i64 r.n, .int .i64 r.p, .slice sA sn sc, .slice tA tn tc] from rfl]
    clear HD0 he hw
    go_wp2_with fail
    refine (HMQ.out _ (HD1.out.fi 1 rfl)).mono ?_
    intro en w2 he
    obtain ⟨s3, t3, rfl, hw⟩ := HD1.out.rcNew he
    rcases s3 with ⟨uA, un, uc⟩
    rcases t3 with ⟨vA, vn, vc⟩
    have HD2 := Lib.hid ((hw.newF (r.cells (sA, sn, sc) (tA, tn, tc)) 47 rfl).newF (q.cells (uA, un, uc) (vA, vn, vc)) 47 (b := w2.heap.size + 1) (by simp))
    rw [show r.cells (sA, sn, sc) (tA, tn, tc) = #[.int .i64 r.m, .int .i64 r.n, .int .i64 r.p, .slice sA sn sc, .slice tA tn tc] from rfl] at HD2
    rw [show q.cells (uA, un, uc) (vA, vn, vc) = #[.int .i64 q.m, .int .i64 q.n, .int .i64 q.p, .slice uA un uc, .slice vA vn vc] from rfl] at HD2 ⊢
    clear HD1 he hw
    go_upto_region 4 with fail
    generalize hww : (w2.alloc (.cells #[.int .i64 r.m, .int .i64 r.n, .int .i64 r.p, .slice sA sn sc, .slice tA tn tc] 47)).alloc (.cells #[.int .i64 q.m, .int .i64 q.n, .int .i64 q.p, .slice uA un uc, .slice vA vn vc] 47) = w3 at *
    clear hww
    generalize w2.heap.size + 1 = qb at *
    generalize w2.heap.size = rb at *
    obtain ⟨x0, x1, x2, x3, x4, xl⟩ := cells5 (show Kn.Own w3 rb _ from HD2.out.fi 1 rfl)
    go_wp2_with fail
    refine (rec_enc_any r.m r.n r.p sA sn sc r.its tA tn tc r.bl _ (HD2.out.fi 3 rfl).1 (HD2.out.fi 3 rfl).2).mono ?_
    intro en w4 he
    rw [show (⟨r.m, r.n, r.p, r.its, r.bl⟩ : Rc) = r from rfl, HER.out] at he
    obtain ⟨ga, ca, rfl, hc1, hm1, _, hw⟩ := HD2.out.encRc he
    rw [HNR.out] at hc1 hw ⊢
    have HD3 := Lib.hid hw
    clear HD2 he hw x0 x1 x2 x3 x4 xl
    obtain ⟨x0, x1, x2, x3, x4, xl⟩ := cells5 (show Kn.Own w4 qb _ from HD3.out.fi 1 rfl)
    go_wp2_with fail
    refine (rec_enc_any q.m q.n q.p uA un uc q.its vA vn vc q.bl _ (HD3.out.fi 3 rfl).1 (HD3.out.fi 3 rfl).2).mono ?_
    intro en w5 he
    rw [show (⟨q.m, q.n, q.p, q.its, q.bl⟩ : Rc) = q from rfl, HEQ.out] at he
    obtain ⟨gb, cb, rfl, hc2, hm2, _, hw⟩ := HD3.out.encRc he
    rw [HNQ.out] at hc2 hw ⊢
    have HD4 := Lib.hid hw
    have hm1' := hm1
    have hm2' := hm2
    unfold maxLen at hm1' hm2'
    clear HD3 he hw x0 x1 x2 x3 x4 xl
    go_wp2_with fail
    have HD5 := Lib.hid (HD4.out.gnew 5 1)
    go_loopg [17, 18] K (fun rr v i wr => ∃ (j : Nat) (f : Nat → Bool) (AX : Option Addr) (cX : Nat), j + rr = K ∧ v = .slice AX (64 * j) cX ∧ i = .int .i64 j ∧ Wc w wr [] [⟨5, 1, .slice AX (64 * j) cX, 64 * j, bvs (mixS f RA RB j)⟩]
      [(fun W => Bys W (some ⟨gb, 0, none⟩) LB cb RB), (fun W => Bys W (some ⟨ga, 0, none⟩) LB ca RA), (fun W => Kn.Own W qb [.int .i64 q.m, .int .i64 q.n, .int .i64 q.p, .slice uA un uc, .slice vA vn vc]), (fun W => Kn.Own W rb [.int .i64 r.m, .int .i64 r.n, .int .i64 r.p, .slice sA sn sc, .slice tA tn tc]), (fun W => RcAt W q (uA, un, uc) (vA, vn, vc)), (fun W => RcAt W r (sA, sn, sc) (tA, tn, tc))])
    case atStart => exact ⟨0, fun _ => true, none, 0, by omega, rfl, rfl, HD5.out.sub (List.Sublist.refl _) (by simp +contextual)⟩
    obtain ⟨j, f, AX, cX, hj, rfl, rfl, hw⟩ := hrel
    have HD6 := Lib.hid hw
    clear hw HD5 HD4
    have HKI : Hid ((LB : Int) = 64 * (K : Int)) := Lib.hid (by have := HLB.out; omega)
    by_cases hlt : j < K
    · have hlt2 : (j : Int) < (K : Int) := by omega
      have hge : 0 ≤ (j : Int) := by omega
      have htn : ((j : Int)).toNat = j := by omega
      have hquo : Int.tdiv (LB : Int) 64 = (K : Int) := by rw [HKI.out]; exact Int.mul_tdiv_cancel_left _ (by decide)
      have hjK : (j : Int) ≤ 6 := by omega
      have hs0 : (Try.prog.info? 5).map (·.size) = some 1 := by rw [hi0]; simp [hz1]
      have hsa : ∀ W : World, (Instr.slice 35 (.slice (some ⟨ga, 0, none⟩) LB ca) (some (.int .i64 (64 * (j : Int)))) (some (.int .i64 (64 * (j : Int) + 64))) none).run Try.prog W = .ok (.slice (cutA (some ⟨ga, 0, none⟩) ca (64 * j)) 64 (ca - 64 * j)) W := fun W => run_slice1 W _ _ Try.underlying35 hs0 _ LB ca _ _ (64 * j) (64 * j + 64) 64 _ _ (by push_cast; rfl) (by push_cast; rfl) (by omega) (by omega) (by omega)
      have hsb : ∀ W : World, (Instr.slice 35 (.slice (some ⟨gb, 0, none⟩) LB cb) (some (.int .i64 (64 * (j : Int)))) (some (.int .i64 (64 * (j : Int) + 64))) none).run Try.prog W = .ok (.slice (cutA (some ⟨gb, 0, none⟩) cb (64 * j)) 64 (cb - 64 * j)) W := fun W => run_slice1 W _ _ Try.underlying35 hs0 _ LB cb _ _ (64 * j) (64 * j + 64) 64 _ _ (by push_cast; rfl) (by push_cast; rfl) (by omega) (by omega) (by omega)
      have eca : cutA (some ⟨ga, 0, none⟩) ca (64 * j) = some ⟨ga, 64 * j, none⟩ := by
        rw [cutA, if_neg (by omega)]
        simp [Addr.add]
        omega
      have ecb : cutA (some ⟨gb, 0, none⟩) cb (64 * j) = some ⟨gb, 64 * j, none⟩ := by
        rw [cutA, if_neg (by omega)]
        simp [Addr.add]
        omega
      simp only [eca] at hsa
      simp only [ecb] at hsb
      have HSA := Lib.hid (sec_at (show Bys wr (some ⟨ga, 0, none⟩) LB ca RA from HD6.out.fi 1 rfl) HLB.out.symm hlt)
      have HSB := Lib.hid (sec_at (show Bys wr (some ⟨gb, 0, none⟩) LB cb RB from HD6.out.fi 0 rfl) HLB.out.symm hlt)
      clear eca ecb hs0
      go_upto_region 12 with fail
      go_wp2_with (first
        | (at_builtin; refine wpList_append_row1 rfl (.tmp 79) (.tmp 86) 35 rfl w.heap.size 5 i0 _ 1 Try.underlying35 hi0 hz0 hz1 hz2 rfl (.slice AX (64 * j) cX) (64 * j) (bvs (mixS f RA RB j)) rfl (HD6.out.gi 0 rfl) (some ⟨ga, 64 * j, none⟩) 64 (ca - 64 * j) (bvs (sec RA j)) rfl HSA.out (bvs_one _) (by unfold maxLen; omega) (by omega) HD6.out.only.size ?_
           intro v' w9 hown hgrow hat
           obtain ⟨gf, hgf⟩ := mixS_next f RA RB j true
           have hbv : bvs (mixS f RA RB j) ++ bvs (sec RA j) = bvs (mixS gf RA RB (j + 1)) := by rw [← hgf]; simp [bvs]
           rw [hbv, show 64 * j + 64 = 64 * (j + 1) from by omega] at hown
           have hdd := HD6.out.gapp 0 rfl hown hgrow hat
           obtain ⟨A9, c9, rfl⟩ := hdd.gform 0 rfl
           simp only [List.set_cons_zero] at hdd
           have HD7 := Lib.hid hdd
           clear hdd hown hgrow hat hbv hgf)
        | (at_builtin; refine wpList_append_row1 rfl (.tmp 88) (.tmp 95) 35 rfl w.heap.size 5 i0 _ 1 Try.underlying35 hi0 hz0 hz1 hz2 rfl (.slice AX (64 * j) cX) (64 * j) (bvs (mixS f RA RB j)) rfl (HD6.out.gi 0 rfl) (some ⟨gb, 64 * j, none⟩) 64 (cb - 64 * j) (bvs (sec RB j)) rfl HSB.out (bvs_one _) (by unfold maxLen; omega) (by omega) HD6.out.only.size ?_
           intro v' w9 hown hgrow hat
           obtain ⟨gf, hgf⟩ := mixS_next f RA RB j false
           have hbv : bvs (mixS f RA RB j) ++ bvs (sec RB j) = bvs (mixS gf RA RB (j + 1)) := by rw [← hgf]; simp [bvs]
           rw [hbv, show 64 * j + 64 = 64 * (j + 1) from by omega] at hown
           have hdd := HD6.out.gapp 0 rfl hown hgrow hat
           obtain ⟨A9, c9, rfl⟩ := hdd.gform 0 rfl
           simp only [List.set_cons_zero] at hdd
           have HD7 := Lib.hid hdd
           clear hdd hown hgrow hat hbv hgf)
        | fail)
      all_goals
        go_roundg (gk - 1)
        case measure => omega
        case rel => exact ⟨j + 1, gf, A9, c9, by omega, rfl, by go_num, HD7.out⟩
    · obtain rfl : j = K := by omega
      have hlt2 : ¬ (j : Int) < (j : Int) := by omega
      have hquo : Int.tdiv (LB : Int) 64 = (j : Int) := by rw [HKI.out]; exact Int.mul_tdiv_cancel_left _ (by decide)
      have HX : Hid (Bys wr AX LB cX (mixS f RA RB j)) := Lib.hid (by
        have h := (Row1.of_owns (HD6.out.gi 0 rfl)).1
        rw [HLB.out] at h
        exact h)
      rw [HLB.out] at HD6 ⊢
      have HD7 := Lib.hid (HD6.out.dropG)
      have HM := Lib.hid (HTR.out f)
      generalize mixS f RA RB j = X at *
      go_wp2_with fail
      refine (rec_dec_any AX LB cX X _ HX.out (by omega)).mono ?_
      intro en w6 he
      obtain ⟨s4, t4, rfl, hw⟩ := HD7.out.rcSays he
      cases hdec : decRc X with
      | none =>
        rw [hdec] at hw
        simp only [Option.map_none, Option.getD_none, Option.isSome_none, Bool.false_eq_true, if_false] at hw ⊢
        rcases s4 with ⟨yA, yn, yc⟩
        rcases t4 with ⟨zA, zn, zc⟩
        have HD8 := Lib.hid (hw.alloc (.cells (rcZ.cells (yA, yn, yc) (zA, zn, zc)) 47))
        rw [show rcZ.cells (yA, yn, yc) (zA, zn, zc) = #[.int .i64 0, .int .i64 0, .int .i64 0, .slice yA yn yc, .slice zA zn zc] from rfl] at HD8 ⊢
        clear he hw hdec
        go_wp2_with fail
        refine (awake7 _).mono ?_
        rintro en wz ⟨rfl, hO⟩
        have HDz := Lib.hid (HD8.out.keep0 hO)
        clear hO
        go_wp2
        go_ret
        exact ⟨rfl, HDz.out.only⟩
      | some p =>
        obtain ⟨y, sy⟩ := p
        obtain ⟨hey, hyl, hql, hsum, hbl⟩ := HM.out sy y hdec
        rw [hdec] at hw
        simp only [Option.map_some, Option.getD_some, Option.isSome_some, if_true] at hw ⊢
        rcases s4 with ⟨yA, yn, yc⟩
        rcases t4 with ⟨zA, zn, zc⟩
        have hl1 : y.bl.length = zn := (hw.fi 0 rfl).2.len
        have hl2 : r.bl.length = tn := (HD7.out.fi 5 rfl).2.len
        have hl3 : q.bl.length = vn := (HD7.out.fi 4 rfl).2.len
        obtain rfl : zn = tn := by omega
        obtain rfl : zn = vn := by omega
        have HD8 := Lib.hid (hw.newF (y.cells (yA, yn, yc) (zA, zn, zc)) 47 rfl)
        rw [show y.cells (yA, yn, yc) (zA, zn, zc) = #[.int .i64 y.m, .int .i64 y.n, .int .i64 y.p, .slice yA yn yc, .slice zA zn zc] from rfl] at HD8 ⊢
        have HEY := Lib.hid hey
        have HSM := Lib.hid hsum
        have HBL := Lib.hid hbl
        have hXl : Hid (X.length = LB) := Lib.hid (by have := HX.out.len; rwa [bvs_length] at this)
        clear he hw hdec hey hyl hql hsum hbl hl1 hl2 hl3 HM HD6 HD7 HTR
        go_upto_region 16 with fail
        generalize w6.alloc (.cells #[.int .i64 y.m, .int .i64 y.n, .int .i64 y.p, .slice yA yn yc, .slice zA zn zc] 47) = w7 at *
        generalize w6.heap.size = yb at *
        obtain ⟨x0, x1, x2, x3, x4, xl⟩ := cells5 (show Kn.Own w7 yb _ from HD8.out.fi 0 rfl)
        obtain ⟨y0, y1, y2, y3, y4, yl⟩ := cells5 (show Kn.Own w7 rb _ from HD8.out.fi 5 rfl)
        by_cases hyr : y = r
        · have HYR := Lib.hid hyr
          clear hyr
          go_wp2_with fail
          refine (alike_record_any y.m y.n y.p yA yn yc y.its zA zn zc y.bl r.m r.n r.p sA sn sc r.its tA zn tc r.bl _ (HD8.out.fi 1 rfl).1 (HD8.out.fi 1 rfl).2 (HD8.out.fi 7 rfl).1 (HD8.out.fi 7 rfl).2).mono ?_
          rintro en w8 ⟨rfl, hO⟩
          rw [decide_eq_true (show (⟨y.m, y.n, y.p, y.its, y.bl⟩ : Rc) = ⟨r.m, r.n, r.p, r.its, r.bl⟩ from HYR.out)]
          have HD9 := Lib.hid (HD8.out.keep0 hO)
          clear hO x0 x1 x2 x3 x4 xl y0 y1 y2 y3 y4 yl
          go_wp2_with fail
          refine (awake7 _).mono ?_
          rintro en wz ⟨rfl, hO⟩
          have HDz := Lib.hid (HD9.out.keep0 hO)
          clear hO
          go_wp2
          go_ret
          exact ⟨rfl, HDz.out.only⟩
        · have HYR := Lib.hid hyr
          clear hyr
          go_wp2_with fail
          refine (alike_record_any y.m y.n y.p yA yn yc y.its zA zn zc y.bl r.m r.n r.p sA sn sc r.its tA zn tc r.bl _ (HD8.out.fi 1 rfl).1 (HD8.out.fi 1 rfl).2 (HD8.out.fi 7 rfl).1 (HD8.out.fi 7 rfl).2).mono ?_
          rintro en w8 ⟨rfl, hO⟩
          rw [decide_eq_false (show ¬ (⟨y.m, y.n, y.p, y.its, y.bl⟩ : Rc) = ⟨r.m, r.n, r.p, r.its, r.bl⟩ from HYR.out)]
          have HD9 := Lib.hid (HD8.out.keep0 hO)
          clear hO x0 x1 x2 x3 x4 xl y0 y1 y2 y3 y4 yl
          obtain ⟨x0, x1, x2, x3, x4, xl⟩ := cells5 (show Kn.Own w8 yb _ from HD9.out.fi 0 rfl)
          obtain ⟨y0, y1, y2, y3, y4, yl⟩ := cells5 (show Kn.Own w8 qb _ from HD9.out.fi 4 rfl)
          by_cases hyq : y = q
          · have HYQ := Lib.hid hyq
            clear hyq
            go_wp2_with fail
            refine (alike_record_any y.m y.n y.p yA yn yc y.its zA zn zc y.bl q.m q.n q.p uA un uc q.its vA zn vc q.bl _ (HD9.out.fi 1 rfl).1 (HD9.out.fi 1 rfl).2 (HD9.out.fi 6 rfl).1 (HD9.out.fi 6 rfl).2).mono ?_
            rintro en w9 ⟨rfl, hO⟩
            rw [decide_eq_true (show (⟨y.m, y.n, y.p, y.its, y.bl⟩ : Rc) = ⟨q.m, q.n, q.p, q.its, q.bl⟩ from HYQ.out)]
            have HDa := Lib.hid (HD9.out.keep0 hO)
            clear hO x0 x1 x2 x3 x4 xl y0 y1 y2 y3 y4 yl
            go_wp2_with fail
            refine (awake7 _).mono ?_
            rintro en wz ⟨rfl, hO⟩
            have HDz := Lib.hid (HDa.out.keep0 hO)
            clear hO
            go_wp2
            go_ret
            exact ⟨rfl, HDz.out.only⟩
          · have HYQ := Lib.hid hyq
            clear hyq
            go_wp2_with fail
            refine (alike_record_any y.m y.n y.p yA yn yc y.its zA zn zc y.bl q.m q.n q.p uA un uc q.its vA zn vc q.bl _ (HD9.out.fi 1 rfl).1 (HD9.out.fi 1 rfl).2 (HD9.out.fi 6 rfl).1 (HD9.out.fi 6 rfl).2).mono ?_
            rintro en w9 ⟨rfl, hO⟩
            rw [decide_eq_false (show ¬ (⟨y.m, y.n, y.p, y.its, y.bl⟩ : Rc) = ⟨q.m, q.n, q.p, q.its, q.bl⟩ from HYQ.out)]
            have HDa := Lib.hid (HD9.out.keep0 hO)
            clear hO x0 x1 x2 x3 x4 xl y0 y1 y2 y3 y4 yl
            obtain ⟨x0, x1, x2, x3, x4, xl⟩ := cells5 (show Kn.Own w9 yb _ from HDa.out.fi 0 rfl)
            obtain ⟨y0, y1, y2, y3, y4, yl⟩ := cells5 (show Kn.Own w9 rb _ from HDa.out.fi 5 rfl)
            obtain ⟨z0, z1, z2, z3, z4, zl⟩ := cells5 (show Kn.Own w9 qb _ from HDa.out.fi 4 rfl)
            go_wp2_with fail
            refine (mixed_any y r q yA yn yc zA zc sA sn sc tA tc uA un uc vA vc zn _ (HDa.out.fi 1 rfl) (HDa.out.fi 7 rfl) (HDa.out.fi 6 rfl) X RA RB sy s1 s2 HEY.out HER.out HEQ.out (by rw [hXl.out]; exact hLB64) HSM.out HBL.out).mono ?_
            rintro en wa ⟨rfl, hO⟩
            have HDb := Lib.hid (HDa.out.keep0 hO)
            clear hO x0 x1 x2 x3 x4 xl y0 y1 y2 y3 y4 yl z0 z1 z2 z3 z4 zl
            go_wp2_with fail
            refine (awake7 _).mono ?_
            rintro en wz ⟨rfl, hO⟩
            have HDz := Lib.hid (HDb.out.keep0 hO)
            clear hO
            go_wp2
            go_ret
            exact ⟨rfl, HDz.out.only⟩
  · by_cases hs1 : n < 1
    · have hd1 : decide ((n : Int) < 1) = true := by simp; omega
      go_enter Try.func8, Try.ntmps8
      go_wp2_with fail
      refine (awake7 _).mono ?_
      rintro en w7 ⟨rfl, hO⟩
      go_wp2
      go_ret
      exact ⟨rfl, hO⟩
    · have hd1 : decide ((n : Int) < 1) = false := by simp; omega
      have hd2 : decide (6 < (n : Int)) = true := by simp; omega
      go_enter Try.func8, Try.ntmps8
      go_wp2_with fail
      refine (awake7 _).mono ?_
      rintro en w7 ⟨rfl, hO⟩
      go_wp2
      go_ret
      exact ⟨rfl, hO⟩
theorem walk (a0 : Option Addr) (len0 cap0 : Nat) (z0 : List Int) (a1 : Int) (a2 : Int) (a3 : Int) (w : World) (w0 : IsRow .i64 w a0 len0 cap0 z0) (w1 : (Lit.int .i64 a1).wf = true) (w2 : (Lit.int .i64 a2).wf = true) (w3 : (Lit.int .i64 a3).wf = true) : Calls Try.prog 8 #[.slice a0 len0 cap0, .int .i64 a1, .int .i64 a2, .int .i64 a3] w fun e w' => e = .returned (.bool true) ∧ Below w.heap.size w w' := by
  refine (torn a0 len0 cap0 _ a1 a2 a3 w w0.ins w0.wf w1 w2 w3).mono ?_
  rintro e w' ⟨rfl, hO⟩
  exact ⟨rfl, hO.below0⟩

set_option maxRecDepth 100000 in
theorem lifted (os : Os) (started : os.Started) (H : Type) (enc : TypeId × Value → H) :
    ReturnsInHanded {} Try.checked os 8 .any (Rows.recordTornSpec.pre6 enc Try.prog Try.f8 Rows.recordTornRow.domain false) (Rows.recordTornSpec.post enc Try.prog Try.f8 false true false false) := by
  refine returnsInHanded_of_change (C := Try.checked) own started (by kernel_rfl) Try.func8
    (ChangeSpec.witness6 (enc := enc) (C := Try.checked) false ⟨#[], #[.slice none 0 0, .int .i64 0, .int .i64 0, .int .i64 0], []⟩ 8 (by kernel_rfl) (by kernel_rfl) (by kernel_rfl) (by kernel_rfl)) ?_
  intro W base args ds gs before hval0 hW hcnd _
  have hval : ∀ (j : Nat) t v, Try.f8.params[j]? = some t → args[j]? = some v → Value.okWide Try.prog W .any base t v := hval0
  have hW' := hW
  obtain ⟨p, q, hA0, hV, rfl, hfz, hnd⟩ := hW
  have hA : DataW.TrodAll enc Try.prog W 0 (fun _ => true) true Try.f8.params.toList args.toList ds p := hA0
  rw [Try.params8] at hA hval
  obtain ⟨v0, vs0, d0, ds0, p0, q0, hargs, rfl, rfl, h0, r0⟩ := trodAll_cons hA
  obtain ⟨v1, vs1, d1, ds1, p1, q1, rfl, rfl, rfl, h1, r1⟩ := trodAll_cons r0
  obtain ⟨v2, vs2, d2, ds2, p2, q2, rfl, rfl, rfl, h2, r2⟩ := trodAll_cons r1
  obtain ⟨v3, vs3, d3, ds3, p3, q3, rfl, rfl, rfl, h3, r3⟩ := trodAll_cons r2
  obtain ⟨rfl, rfl, rfl⟩ := trodAll_nil r3
  obtain rfl : args = #[v0, v1, v2, v3] := by cases args; simp_all
  obtain ⟨rfl, rfl⟩ := trodVars_none hV
  obtain ⟨a0, len0, cap0, rfl⟩ := okWide_slice Try.underlying23 (hval 0 23 v0 rfl rfl)
  have k0 := h0
  have lt0 : ∀ x ∈ p0, x.block < W.heap.size := by obtain ⟨m, hm⟩ := k0; exact DataW.trod_lt m _ _ _ hm
  obtain ⟨z0, w0⟩ : ∃ zs, IsRow .i64 W a0 len0 cap0 zs := by
    obtain ⟨fuel, hf⟩ := h0
    rcases open_ints Try.underlying23 Try.underlying3 (by kernel_rfl) hf with ⟨hcs, _⟩ | ⟨x, l, c, zs, hcs, _, hl, hm, hz, _, hcell, hwz⟩
    · simp [Value.cells] at hcs
      obtain ⟨rfl, rfl, rfl⟩ := hcs
      exact ⟨[], .inl ⟨rfl, rfl, rfl, rfl⟩⟩
    · simp [Value.cells] at hcs
      obtain ⟨rfl, rfl, rfl⟩ := hcs
      exact ⟨zs, .inr ⟨_, rfl, hl, hm, by simpa using hz, hcell, hwz⟩⟩
  obtain ⟨a1, rfl, rfl, rfl, w1⟩ := open_int Try.underlying3 (hval 1 3 v1 rfl rfl) h1
  obtain ⟨a2, rfl, rfl, rfl, w2⟩ := open_int Try.underlying3 (hval 2 3 v2 rfl rfl) h2
  obtain ⟨a3, rfl, rfl, rfl, w3⟩ := open_int Try.underlying3 (hval 3 3 v3 rfl rfl) h3
  clear hA0 hval0
  refine (walk a0 len0 cap0 z0 a1 a2 a3 W w0 w1 w2 w3).mono fun e W' ⟨he, bel⟩ => ?_
  subst he
  exact ⟨_, rfl, _, _, _, [], _, [], hW', trodAll_mk1 (shut_bool Try.underlying4 _), (trodAll_cons_mk (Below.trod laidOut (by kernel_rfl) (of_decide_eq_true (by kernel_rfl)) k0 bel lt0) (trodAll_cons_mk (shut_int Try.underlying3 w1) (trodAll_cons_mk (shut_int Try.underlying3 w2) (trodAll_cons_mk (shut_int Try.underlying3 w3) trodAll_mk0)))), rfl, bel.frame _, fun h => by cases h⟩

set_option maxRecDepth 100000 in
theorem closed : joinedFacts Try.pinned.checked.prog 8 Try.f8 Rows.recordTornSpec Rows.recordTornRow = true := by
  show joinedFacts Try.prog 8 Try.f8 Rows.recordTornSpec Rows.recordTornRow = true
  unfold joinedFacts
  simp only [enter_may, enter_lifts, enter_make]
  kernel_rfl

theorem over : Rows.recordTornRow.holds Try.pinned (OpenSpec.ofChange Rows.recordTornSpec) :=
  OpenClaim.holds_of_wide 8 Try.f8 rfl rfl rfl rfl rfl rfl rfl ⟨rfl, rfl, rfl, rfl, rfl⟩ rfl rfl rfl rfl rfl (by kernel_rfl) Try.func8 closed
    (of_decide_eq_true (by kernel_rfl)) (by unfold Func.isWrapper; first | (rw [if_pos (by decide +kernel)]; kernel_rfl) | (rw [if_neg (by decide +kernel)]; exact ⟨rfl, rfl⟩))
    (fun os started H enc _ => lifted os started H enc)

theorem proved : Rows.RecordTornSaid := over

end Go.Proofs.Ytoibehikojkoiaa.recordTorn
