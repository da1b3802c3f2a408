/- Claim RecordSpoilt. -/
import Derived.Test.YtoibehikojkoiaaEnter
import Derived.Test.YtoibehikojkoiaaLaw7C
import Derived.Test.YtoibehikojkoiaaTurnW
import Derived.Test.YtoibehikojkoiaaFrameR
import Derived.Test.YtoibehikojkoiaaRecG
import Derived.Test.YtoibehikojkoiaaRecH
set_option linter.unusedVariables false
set_option linter.unusedSimpArgs false
namespace Go.Kn
open Go Go.RowKit
/-- what Decode says of a turned record -/
theorem spoilt_head {r : Rc} (h : rcMay r = true) (f pat : Nat) : decRc (turnB (rcBytes r) f (8 * 60) pat 32) = if turnA f (8 * 60) pat 32 then none else some (r, rcSum r) := by
  have hl := rcBytes_length h
  cases ht : turnA f (8 * 60) pat 32 with
  | false => rw [turnB_none _ _ _ _ _ ht, dec_rc h]; rfl
  | true => rw [dec_rc_turned (by omega) (closed_of_enc (enc_rc h)) f pat ht]; rfl
theorem spoilt_tail {r : Rc} (h : rcMay r = true) (f pat m : Nat) (hm : (rcBytes r).length - 64 = m) : decRc ((rcBytes r).take 64 ++ turnB ((rcBytes r).drop 64) f (8 * m) pat 32) = if turnA f (8 * m) pat 32 then none else some (r, rcSum r) := by
  have hl := rcBytes_length h
  have hd : ((rcBytes r).drop 64).length = m := by rw [List.length_drop, hm]
  cases ht : turnA f (8 * m) pat 32 with
  | false => rw [turnB_none _ _ _ _ _ ht, List.take_append_drop, dec_rc h]; rfl
  | true =>
    rw [← hd] at ht ⊢
    rw [dec_rc_turned2 (by rw [List.length_take]; omega) (by rw [List.take_append_drop]; exact closed_of_enc (enc_rc h)) f pat ht]
    rfl
theorem spoilt_err (any : Bool) (x : Rc × Nat) (o : Option (Rc × Nat)) (h : o = if any then none else some x) : ∃ r s er, (o.map (·.1)).getD rcZ = r ∧ (o.map (·.2)).getD 0 = s ∧ (if o.isSome then (0 : Int) else 2) = er ∧ ((any = false ∧ er = 0) ∨ (any = true ∧ er = 2)) := by
  subst h
  cases any
  · exact ⟨_, _, _, rfl, rfl, rfl, .inl ⟨rfl, rfl⟩⟩
  · exact ⟨_, _, _, rfl, rfl, rfl, .inr ⟨rfl, rfl⟩⟩
end Go.Kn
namespace Go.Proofs.Ytoibehikojkoiaa.recordSpoilt
open Go Go.RowKit Go.Kn Go.ChangeShapes Go.WideShapes Go.ChangeAt

set_option maxRecDepth 100000 in
set_option maxHeartbeats 16000000 in
theorem spoilt (A : Option Addr) (n c : Nat) (zs : List Int) (lsn fl at_ : Int) (pat : Nat) (blk : Bool) (w : World) (hi : Ins w A n c zs) (hwz : ∀ z ∈ zs, (Lit.int .i64 z).wf = true) (h1 : (Lit.int .i64 lsn).wf = true) (h3 : (Lit.int .i64 fl).wf = true) (h4 : (Lit.int .i64 at_).wf = true) (hp : pat < 4294967296) :
    Calls Try.prog 7 #[.slice A n c, .int .i64 lsn, .int .i64 fl, .int .i64 at_, .int .u32 pat, .bool blk] w fun en w' => en = .returned (.bool true) ∧ Only [] w w' := by
  have hlen := hi.len
  rw [ivs_length] at hlen
  have hnc := hi.le
  have hcm := hi.cm
  unfold maxLen at hcm
  by_cases hsm : 1 ≤ n ∧ n ≤ 6
  · obtain ⟨hs1, hs2⟩ := hsm
    have hd1 : decide ((n : Int) < 1) = false := by simp; omega
    have hd2 : decide (6 < (n : Int)) = false := by simp; omega
    obtain ⟨i0, hi0, hz0, hz1, hz2⟩ := info_parts Try.infoU8b
    have hmay := mkRc_may (ks := zs) lsn 7 fl (by omega) (by omega)
    have hkb := mkRc_bl_le (ks := zs) lsn 7 fl (by omega)
    have HMK : Hid (∀ W : World, Ins W A n c zs → Calls Try.prog 30 #[.slice A n c, .int .i64 lsn, .int .i64 7, .int .i64 fl] W (RcNew W (mkRc zs lsn 7 fl))) := Lib.hid fun W hW => made7_any A n c zs lsn 7 fl W hW (by omega) hwz h1 (by decide) h3
    generalize mkRc zs lsn 7 fl = r at *
    have hE := enc_rc hmay
    have hN := rcBytes_length hmay
    have hsh := spoilt_head hmay
    have hst := spoilt_tail hmay
    obtain ⟨K, hK⟩ : ∃ K, 1 + r.bl.length = K := ⟨_, rfl⟩
    rw [hK] at hN
    obtain ⟨RB, hRB⟩ : ∃ x, rcBytes r = x := ⟨_, rfl⟩
    obtain ⟨s, hs⟩ : ∃ x, rcSum r = x := ⟨_, rfl⟩
    rw [hRB, hs] at hE
    rw [hRB] at hN
    simp only [hRB, hs] at hsh hst
    obtain ⟨LB, hLB⟩ : ∃ x, RB.length = x := ⟨_, rfl⟩
    rw [hLB] at hN
    simp only [hLB] at hst
    have HE := Lib.hid hE
    have HLB := Lib.hid hLB
    have HSH := Lib.hid hsh
    have HST := Lib.hid hst
    have hLB64 : 64 ≤ LB := by omega
    have hLB4 : LB ≤ 448 := by omega
    obtain ⟨f1, hf1⟩ : ∃ f : Nat, at_ % ((8 * 60 : Nat) : Int) = f := ⟨(at_ % ((8 * 60 : Nat) : Int)).toNat, by have := Int.emod_nonneg at_ (b := ((8 * 60 : Nat) : Int)) (by decide); omega⟩
    have HF1 := Lib.hid hf1
    have HA := Lib.hid h4
    have hq5 : decide ((LB : Int) < 64) = false := by simp; omega
    have HD0 := Lib.hid ((Wc.start w).old (f := fun W => Ins W A n c zs) (Row1.fc hi (by simp)))
    clear hi hlen hwz h1 h3 h4 hmay hkb hE hN hsh hst hK hRB hs hLB hf1
    have HAF : Hid (64 < LB → ∃ f : Nat, at_ % ((8 * (LB - 64) : Nat) : Int) = f) := Lib.hid fun hl => ⟨(at_ % ((8 * (LB - 64) : Nat) : Int)).toNat, by have := Int.emod_nonneg at_ (b := ((8 * (LB - 64) : Nat) : Int)) (by omega); omega⟩
    go_enter Try.func7, Try.ntmps7
    go_wp2_with fail
    refine (HMK.out _ (HD0.out.fi 0 rfl)).mono ?_
    intro en w1 he
    obtain ⟨s1, t1, rfl, hw⟩ := HD0.out.rcNew he
    rcases s1 with ⟨sA, sn, sc⟩
    rcases t1 with ⟨tA, tn, tc⟩
    rw [show r.cells (sA, sn, sc) (tA, tn, tc) = #[.int .i64 r.m, .int .i64 r.n, .int .i64 r.p, .slice sA sn sc, .slice tA tn tc] from rfl]
    have HD1 := Lib.hid hw
    clear HD0 he hw
    go_wp2_with fail
    refine (rec_enc_any r.m r.n r.p sA sn sc r.its tA tn tc r.bl _ (HD1.out.fi 0 rfl).1 (HD1.out.fi 0 rfl).2).mono ?_
    intro en w3 he
    rw [show (⟨r.m, r.n, r.p, r.its, r.bl⟩ : Rc) = r from rfl, HE.out] at he
    obtain ⟨gb, cb, rfl, hc, hm, hg, hw3⟩ := HD1.out.encRc he
    rw [HLB.out] at hc hw3 ⊢
    have HD2 := Lib.hid hw3
    have hm' := hm
    unfold maxLen at hm'
    clear HD1 he hw3 hg
    go_wp2_with fail
    refine (turned_any (some ⟨gb, 0, none⟩) LB cb RB 60 at_ f1 pat _ (HD2.out.fi 0 rfl) (by decide) (by omega) (by omega) HA.out HF1.out hp).mono ?_
    rintro en w4 ⟨g4, rfl, hg4, ho4, hO⟩
    have HD3 := Lib.hid ((HD2.out.keep0 hO).fact0 (f := fun W => Bys W (some ⟨g4, 0, none⟩) LB LB (turnB RB f1 (8 * 60) pat 32)) (Row1.fc (Row1.of_Own ho4 (by rw [bvs_length, turnB_length]; exact HLB.out) (Nat.le_refl _) (by unfold maxLen; omega)) (by simp)))
    clear HD2 ho4 hO hg4
    have HDY := Lib.hid (HSH.out f1 pat)
    obtain ⟨Y, hY⟩ : ∃ Y, turnB RB f1 (8 * 60) pat 32 = Y := ⟨_, rfl⟩
    obtain ⟨any, hany⟩ : ∃ q, turnA f1 (8 * 60) pat 32 = q := ⟨_, rfl⟩
    rw [hY, hany] at HDY
    rw [hY] at HD3
    rw [hany]
    clear hY hany
    cases hq : (blk && decide (64 < LB)) with
    | false =>
      have hb0 : blk = false ∨ (blk = true ∧ decide (64 < (LB : Int)) = false) := by
        cases blk
        · exact .inl rfl
        · right
          simp at hq ⊢
          omega
      rcases hb0 with rfl | ⟨rfl, hb1⟩
      all_goals
        obtain ⟨r2, s2, er, hO⟩ := spoilt_err any _ _ HDY.out
        have HO := Lib.hid hO
        clear hO
        go_wp2_with fail
        refine (rec_dec_any (some ⟨g4, 0, none⟩) LB LB Y _ (HD3.out.fi 0 rfl) (by omega)).mono ?_
        intro en w5 he
        obtain ⟨s2, t2, rfl, hw⟩ := HD3.out.rcSays he
        rw [HO.out.1] at hw
        rw [HO.out.1, HO.out.2.1, HO.out.2.2.1]
        rcases s2 with ⟨uA, un, uc⟩
        rcases t2 with ⟨vA, vn, vc⟩
        have HD4 := Lib.hid (hw.alloc (.cells (r2.cells (uA, un, uc) (vA, vn, vc)) 47))
        rw [show r2.cells (uA, un, uc) (vA, vn, vc) = #[.int .i64 r2.m, .int .i64 r2.n, .int .i64 r2.p, .slice uA un uc, .slice vA vn vc] from rfl] at HD4 ⊢
        clear he hw
        go_upto_region 11 with fail
        generalize w5.alloc (.cells #[.int .i64 r2.m, .int .i64 r2.n, .int .i64 r2.p, .slice uA un uc, .slice vA vn vc] 47) = w6 at *
        rcases HO.out.2.2.2 with ⟨rfl, rfl⟩ | ⟨rfl, rfl⟩
        all_goals
          go_wp2_with fail
          refine (awake7 _).mono ?_
          rintro en w7 ⟨rfl, hO⟩
          have HD5 := Lib.hid (HD4.out.keep0 hO)
          clear HD4 hO
          go_wp2
          go_ret
          exact ⟨rfl, HD5.out.only⟩
    | true =>
      obtain ⟨rfl, hb1⟩ : blk = true ∧ decide (64 < (LB : Int)) = true := by
        cases blk
        · simp at hq
        · refine ⟨rfl, ?_⟩
          simp at hq ⊢
          omega
      have hl64 : 64 < LB := by simp at hb1; omega
      clear hq HDY
      obtain ⟨f2, hf2⟩ := HAF.out hl64
      have hcut : Bys w4 (some ⟨gb, 64, none⟩) (LB - 64) (cb - 64) (RB.drop 64) := by
        have h2 := Row1.cut (l := 64) (m := LB - 64) (show Row1 w4 (some ⟨gb, 0, none⟩) LB cb (bvs RB) from HD3.out.fi 1 rfl) (by omega)
        rw [bvs_cut, List.take_of_length_le (by rw [List.length_drop, HLB.out]; exact Nat.le_refl _)] at h2
        have e : cutA (some ⟨gb, 0, none⟩) cb 64 = some ⟨gb, 64, none⟩ := by rw [cutA, if_neg (by omega)]; rfl
        rw [e] at h2
        exact h2
      have HCUT := Lib.hid hcut
      have HF2 := Lib.hid hf2
      clear hcut hf2
      go_wp2_with fail
      rw [show (LB : Int) - 64 = ((LB - 64 : Nat) : Int) from by omega]
      refine (turned_any (some ⟨gb, 64, none⟩) (LB - 64) (cb - 64) (RB.drop 64) (LB - 64) at_ f2 pat _ HCUT.out (by omega) (by omega) (by omega) HA.out HF2.out hp).mono ?_
      rintro en w5 ⟨g5, rfl, hg5, ho5, hO⟩
      have HD4 := Lib.hid ((HD3.out.keep0 hO).fact0 (f := fun W => Bys W (some ⟨g5, 0, none⟩) (LB - 64) (LB - 64) (turnB (RB.drop 64) f2 (8 * (LB - 64)) pat 32)) (Row1.fc (Row1.of_Own ho5 (by rw [bvs_length, turnB_length, List.length_drop, HLB.out]) (Nat.le_refl _) (by unfold maxLen; omega)) (by simp)))
      clear HD3 ho5 hO hg5 HCUT
      have HDZ := Lib.hid (HST.out f2 pat (LB - 64) rfl)
      have hzl : (turnB (RB.drop 64) f2 (8 * (LB - 64)) pat 32).length = LB - 64 := by rw [turnB_length, List.length_drop, HLB.out]
      obtain ⟨Z, hZ⟩ : ∃ Z, turnB (RB.drop 64) f2 (8 * (LB - 64)) pat 32 = Z := ⟨_, rfl⟩
      obtain ⟨any2, hany⟩ : ∃ q, turnA f2 (8 * (LB - 64)) pat 32 = q := ⟨_, rfl⟩
      rw [hZ, hany] at HDZ
      rw [hZ] at HD4 hzl
      rw [hany]
      clear hZ hany
      have HZL := Lib.hid hzl
      clear hzl
      obtain ⟨M, hM⟩ : ∃ M, LB - 64 = M := ⟨_, rfl⟩
      rw [hM] at HD4 HZL ⊢
      have hLM : LB = 64 + M := by omega
      go_upto_region 9 with fail
      have HR := Lib.hid (bys_take (show Bys w5 (some ⟨gb, 0, none⟩) LB cb RB from HD4.out.fi 2 rfl) (m := 64) (by omega) (by omega))
      have HE8 := Lib.hid (Gath.empty w5 5)
      have HOE := Lib.hid ((Only.refl [] w5).alloc (.cells #[] 5))
      have HLV : Hid ((bvs (RB.take 64)).length = 64) := Lib.hid (by rw [bvs_length, List.length_take, HLB.out]; omega)
      go_wp2_with (first
        | (at_builtin; refine wpList_append_row1 rfl (.tmp 72) (.tmp 74) 35 rfl w5.heap.size 5 i0 _ 1 Try.underlying35 hi0 hz0 hz1 hz2 rfl (.slice (some ⟨w5.heap.size, 0, none⟩) 0 0) 0 [] rfl (by exact HE8.out.1) (some ⟨gb, 0, none⟩) 64 cb (bvs (RB.take 64)) rfl (by exact Row1.alloc HR.out _) (bvs_one _) (by unfold maxLen; omega) (by omega) (by simp) ?_
           intro v1 w9 hown1 hgr1 hat1
           have hG1 := HE8.out.grown HOE.out rfl hown1 (by simp [HLV.out]) hgr1
           obtain ⟨A8, c8, rfl, hrow8, hb8⟩ := hG1.1.formN HLV.out
           have HG1 := Lib.hid hG1
           have HD5 := Lib.hid (HD4.out.keep0 hG1.2)
           have HR2 := Lib.hid (show Row1 w9 (some ⟨g5, 0, none⟩) M M (bvs Z) from HD5.out.fi 0 rfl)
           clear hG1 hown1 hgr1 hat1 hrow8 hb8)
        | (at_builtin; refine wpList_append_row1 rfl (.tmp 75) (.tmp 76) 35 rfl w5.heap.size 5 i0 _ 1 Try.underlying35 hi0 hz0 hz1 hz2 rfl (.slice A8 64 c8) 64 (bvs (RB.take 64)) rfl (HG1.out.1.own (Only.refl _ _) HLV.out) (some ⟨g5, 0, none⟩) M M (bvs Z) rfl HR2.out (bvs_one _) (by unfold maxLen; omega) (by omega) (HG1.out.1.base_le (Only.refl _ _)) ?_
           intro v2 w10 hown2 hgr2 hat2
           have hG2 := HG1.out.1.grown HG1.out.2 rfl hown2 (by rw [List.length_append, HLV.out, bvs_length, HZL.out]) hgr2
           have hbv : bvs (RB.take 64) ++ bvs Z = bvs (RB.take 64 ++ Z) := by simp [bvs]
           rw [hbv] at hG2
           obtain ⟨A9, c9, rfl, hrow9, hb9⟩ := hG2.1.formN (n := 64 + M) (by rw [← hbv, List.length_append, HLV.out, bvs_length, HZL.out])
           have HROW := Lib.hid hrow9
           have HD6 := Lib.hid (HD4.out.keep0 hG2.2)
           clear hown2 hgr2 hat2 hG2 hbv hrow9 hb9 HG1)
        | fail)
      obtain ⟨r2, s2, er, hO⟩ := spoilt_err any2 _ _ HDZ.out
      have HO := Lib.hid hO
      clear hO
      refine (rec_dec_any A9 (64 + M) c9 (RB.take 64 ++ Z) _ HROW.out (by omega)).mono ?_
      intro en w5 he
      obtain ⟨s2, t2, rfl, hw⟩ := HD6.out.rcSays he
      rw [HO.out.1] at hw
      rw [HO.out.1, HO.out.2.1, HO.out.2.2.1]
      rcases s2 with ⟨uA, un, uc⟩
      rcases t2 with ⟨vA, vn, vc⟩
      have HD7 := Lib.hid (hw.alloc (.cells (r2.cells (uA, un, uc) (vA, vn, vc)) 47))
      rw [show r2.cells (uA, un, uc) (vA, vn, vc) = #[.int .i64 r2.m, .int .i64 r2.n, .int .i64 r2.p, .slice uA un uc, .slice vA vn vc] from rfl] at HD7 ⊢
      clear he hw HD6
      go_upto_region 11 with fail
      generalize w5.alloc (.cells #[.int .i64 r2.m, .int .i64 r2.n, .int .i64 r2.p, .slice uA un uc, .slice vA vn vc] 47) = w6 at *
      rcases HO.out.2.2.2 with ⟨rfl, rfl⟩ | ⟨rfl, rfl⟩
      all_goals
        go_wp2_with fail
        refine (awake7 _).mono ?_
        rintro en w7 ⟨rfl, hO⟩
        have HD8 := Lib.hid (HD7.out.keep0 hO)
        clear HD7 hO
        go_wp2
        go_ret
        exact ⟨rfl, HD8.out.only⟩
  · by_cases hs1 : n < 1
    · have hd1 : decide ((n : Int) < 1) = true := by simp; omega
      go_enter Try.func7, Try.ntmps7
      go_wp2_with fail
      refine (awake7 _).mono ?_
      rintro en w7 ⟨rfl, hO⟩
      go_wp2
      go_ret
      exact ⟨rfl, hO⟩
    · have hd1 : decide ((n : Int) < 1) = false := by simp; omega
      have hd2 : decide (6 < (n : Int)) = true := by simp; omega
      go_enter Try.func7, Try.ntmps7
      go_wp2_with fail
      refine (awake7 _).mono ?_
      rintro en w7 ⟨rfl, hO⟩
      go_wp2
      go_ret
      exact ⟨rfl, hO⟩
theorem walk (a0 : Option Addr) (len0 cap0 : Nat) (z0 : List Int) (a1 : Int) (a2 : Int) (a3 : Int) (a4 : Int) (a5 : Bool) (w : World) (w0 : IsRow .i64 w a0 len0 cap0 z0) (w1 : (Lit.int .i64 a1).wf = true) (w2 : (Lit.int .i64 a2).wf = true) (w3 : (Lit.int .i64 a3).wf = true) (w4 : (Lit.int .u32 a4).wf = true) : Calls Try.prog 7 #[.slice a0 len0 cap0, .int .i64 a1, .int .i64 a2, .int .i64 a3, .int .u32 a4, .bool a5] w fun e w' => e = .returned (.bool true) ∧ Below w.heap.size w w' := by
  have hx : 0 ≤ a4 ∧ a4 ≤ 4294967295 := by simpa [Lit.wf, IntKind.min, IntKind.max, IntKind.signed, IntKind.bits] using w4
  obtain ⟨p, rfl⟩ : ∃ p : Nat, a4 = p := ⟨a4.toNat, by omega⟩
  refine (spoilt a0 len0 cap0 _ a1 a2 a3 p a5 w w0.ins w0.wf w1 w2 w3 (by omega)).mono ?_
  rintro e w' ⟨rfl, hO⟩
  exact ⟨rfl, hO.below0⟩

set_option maxRecDepth 100000 in
theorem lifted (os : Os) (started : os.Started) (H : Type) (enc : TypeId × Value → H) :
    ReturnsInHanded {} Try.checked os 7 .any (Rows.recordSpoiltSpec.pre6 enc Try.prog Try.f7 Rows.recordSpoiltRow.domain false) (Rows.recordSpoiltSpec.post enc Try.prog Try.f7 false true false false) := by
  refine returnsInHanded_of_change (C := Try.checked) own started (by kernel_rfl) Try.func7
    (ChangeSpec.witness6 (enc := enc) (C := Try.checked) false ⟨#[], #[.slice none 0 0, .int .i64 0, .int .i64 0, .int .i64 0, .int .u32 0, .bool false], []⟩ 8 (by kernel_rfl) (by kernel_rfl) (by kernel_rfl) (by kernel_rfl)) ?_
  intro W base args ds gs before hval0 hW hcnd _
  have hval : ∀ (j : Nat) t v, Try.f7.params[j]? = some t → args[j]? = some v → Value.okWide Try.prog W .any base t v := hval0
  have hW' := hW
  obtain ⟨p, q, hA0, hV, rfl, hfz, hnd⟩ := hW
  have hA : DataW.TrodAll enc Try.prog W 0 (fun _ => true) true Try.f7.params.toList args.toList ds p := hA0
  rw [Try.params7] at hA hval
  obtain ⟨v0, vs0, d0, ds0, p0, q0, hargs, rfl, rfl, h0, r0⟩ := trodAll_cons hA
  obtain ⟨v1, vs1, d1, ds1, p1, q1, rfl, rfl, rfl, h1, r1⟩ := trodAll_cons r0
  obtain ⟨v2, vs2, d2, ds2, p2, q2, rfl, rfl, rfl, h2, r2⟩ := trodAll_cons r1
  obtain ⟨v3, vs3, d3, ds3, p3, q3, rfl, rfl, rfl, h3, r3⟩ := trodAll_cons r2
  obtain ⟨v4, vs4, d4, ds4, p4, q4, rfl, rfl, rfl, h4, r4⟩ := trodAll_cons r3
  obtain ⟨v5, vs5, d5, ds5, p5, q5, rfl, rfl, rfl, h5, r5⟩ := trodAll_cons r4
  obtain ⟨rfl, rfl, rfl⟩ := trodAll_nil r5
  obtain rfl : args = #[v0, v1, v2, v3, v4, v5] := by cases args; simp_all
  obtain ⟨rfl, rfl⟩ := trodVars_none hV
  obtain ⟨a0, len0, cap0, rfl⟩ := okWide_slice Try.underlying23 (hval 0 23 v0 rfl rfl)
  have k0 := h0
  have lt0 : ∀ x ∈ p0, x.block < W.heap.size := by obtain ⟨m, hm⟩ := k0; exact DataW.trod_lt m _ _ _ hm
  obtain ⟨z0, w0⟩ : ∃ zs, IsRow .i64 W a0 len0 cap0 zs := by
    obtain ⟨fuel, hf⟩ := h0
    rcases open_ints Try.underlying23 Try.underlying3 (by kernel_rfl) hf with ⟨hcs, _⟩ | ⟨x, l, c, zs, hcs, _, hl, hm, hz, _, hcell, hwz⟩
    · simp [Value.cells] at hcs
      obtain ⟨rfl, rfl, rfl⟩ := hcs
      exact ⟨[], .inl ⟨rfl, rfl, rfl, rfl⟩⟩
    · simp [Value.cells] at hcs
      obtain ⟨rfl, rfl, rfl⟩ := hcs
      exact ⟨zs, .inr ⟨_, rfl, hl, hm, by simpa using hz, hcell, hwz⟩⟩
  obtain ⟨a1, rfl, rfl, rfl, w1⟩ := open_int Try.underlying3 (hval 1 3 v1 rfl rfl) h1
  obtain ⟨a2, rfl, rfl, rfl, w2⟩ := open_int Try.underlying3 (hval 2 3 v2 rfl rfl) h2
  obtain ⟨a3, rfl, rfl, rfl, w3⟩ := open_int Try.underlying3 (hval 3 3 v3 rfl rfl) h3
  obtain ⟨a4, rfl, rfl, rfl, w4⟩ := open_int Try.underlying64 (hval 4 64 v4 rfl rfl) h4
  obtain ⟨a5, rfl, rfl, rfl⟩ := open_bool Try.underlying4 (hval 5 4 v5 rfl rfl) h5
  clear hA0 hval0
  refine (walk a0 len0 cap0 z0 a1 a2 a3 a4 a5 W w0 w1 w2 w3 w4).mono fun e W' ⟨he, bel⟩ => ?_
  subst he
  exact ⟨_, rfl, _, _, _, [], _, [], hW', trodAll_mk1 (shut_bool Try.underlying4 _), (trodAll_cons_mk (Below.trod laidOut (by kernel_rfl) (of_decide_eq_true (by kernel_rfl)) k0 bel lt0) (trodAll_cons_mk (shut_int Try.underlying3 w1) (trodAll_cons_mk (shut_int Try.underlying3 w2) (trodAll_cons_mk (shut_int Try.underlying3 w3) (trodAll_cons_mk (shut_int Try.underlying64 w4) (trodAll_cons_mk (shut_bool Try.underlying4 _) trodAll_mk0)))))), rfl, bel.frame _, fun h => by cases h⟩

set_option maxRecDepth 100000 in
theorem closed : joinedFacts Try.pinned.checked.prog 7 Try.f7 Rows.recordSpoiltSpec Rows.recordSpoiltRow = true := by
  show joinedFacts Try.prog 7 Try.f7 Rows.recordSpoiltSpec Rows.recordSpoiltRow = true
  unfold joinedFacts
  simp only [enter_may, enter_lifts, enter_make]
  kernel_rfl

theorem over : Rows.recordSpoiltRow.holds Try.pinned (OpenSpec.ofChange Rows.recordSpoiltSpec) :=
  OpenClaim.holds_of_wide 7 Try.f7 rfl rfl rfl rfl rfl rfl rfl ⟨rfl, rfl, rfl, rfl, rfl⟩ rfl rfl rfl rfl rfl (by kernel_rfl) Try.func7 closed
    (of_decide_eq_true (by kernel_rfl)) (by unfold Func.isWrapper; first | (rw [if_pos (by decide +kernel)]; kernel_rfl) | (rw [if_neg (by decide +kernel)]; exact ⟨rfl, rfl⟩))
    (fun os started H enc _ => lifted os started H enc)

theorem proved : Rows.RecordSpoiltSaid := over

end Go.Proofs.Ytoibehikojkoiaa.recordSpoilt
