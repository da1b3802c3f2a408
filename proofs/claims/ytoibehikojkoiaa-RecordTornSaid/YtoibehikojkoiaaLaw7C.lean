/- The law package of chapter 7: made, the walk. Printed by mkmade7.py. -/
import Derived.Test.YtoibehikojkoiaaLaw7B
import Derived.Test.YtoibehikojkoiaaLaw7A
import Derived.Deep.RegionHeld3
import Derived.Deep.RegionLaw
import Derived.OpenShut
set_option linter.unusedVariables false
set_option linter.unusedSimpArgs false
namespace Go.Proofs.Ytoibehikojkoiaa
open Go Go.RowKit Go.Kn

theorem mkIts_succ {zs : List Int} {j : Nat} {z : Int} (hz : zs.getD j 0 = z) {it : It} (h : mkIt z j = it) : itsV (mkIts zs j) ++ itsV [it] = itsV (mkIts zs (j + 1)) := by
  rw [← itsV_append, ← h, ← hz]
  rfl
theorem mkBls_same {zs : List Int} {fl : Int} {j : Nat} {z : Int} (hz : zs.getD j 0 = z) (h : mkBl z fl j = []) : mkBls zs fl (j + 1) = mkBls zs fl j := by
  show mkBls zs fl j ++ mkBl (zs.getD j 0) fl j = _
  rw [hz, h, List.append_nil]
theorem mkBls_succ {zs : List Int} {fl : Int} {j : Nat} {z : Int} (hz : zs.getD j 0 = z) {b : List UInt8} (h : mkBl z fl j = [b]) : mkBls zs fl (j + 1) = mkBls zs fl j ++ [b] := by
  show mkBls zs fl j ++ mkBl (zs.getD j 0) fl j = _
  rw [hz, h]

set_option maxRecDepth 100000 in
set_option maxHeartbeats 16000000 in
theorem made7_any (A : Option Addr) (n c : Nat) (zs : List Int) (lsn prev fl : Int) (w : World) (hi : Ins w A n c zs) (hn : n ≤ 6) (hwz : ∀ z ∈ zs, (Lit.int .i64 z).wf = true) (h1 : (Lit.int .i64 lsn).wf = true) (h2 : (Lit.int .i64 prev).wf = true) (h3 : (Lit.int .i64 fl).wf = true) :
    Calls Try.prog 30 #[.slice A n c, .int .i64 lsn, .int .i64 prev, .int .i64 fl] w (RcNew w (mkRc zs lsn prev fl)) := by
  have hres : Try.f30.results = #[.cell 8 47] := by kernel_rfl
  have HRES := Lib.hid hres
  obtain ⟨i0, hi0, hz0, hz1, hz2⟩ := info_parts Try.infoItem
  obtain ⟨i1, hi1, hy0, hy1, hy2⟩ := info_parts Try.infoBys
  have hlen := hi.len
  rw [ivs_length] at hlen
  have hnc := hi.le
  have hcm := hi.cm
  unfold maxLen at hcm
  have HL := Lib.hid hlen
  have HWZ := Lib.hid hwz
  have HW3 := Lib.hid h3
  have HD0 := Lib.hid ((Wc.start w).old (f := fun W => Ins W A n c zs) (Row1.fc hi (by simp)))
  have HRC : Hid (mkRc zs lsn prev fl = ⟨1 + fl % 1000, 1 + lsn % 2147483647, prev % 4294967296, mkIts zs zs.length, mkBls zs fl zs.length⟩) := Lib.hid rfl
  generalize mkRc zs lsn prev fl = rc at *
  clear hres hi hlen hwz h3
  have HF3 := HW3.out
  go_enter Try.func30, Try.ntmps30
  have HD1 := Lib.hid (HD0.out.newB #[.int .i64 0, .int .i64 0, .int .i64 0, .slice none 0 0, .slice none 0 0] 47 rfl)
  clear HD0
  go_wp2_with fail
  generalize w.alloc (.cells #[.int .i64 0, .int .i64 0, .int .i64 0, .slice none 0 0, .slice none 0 0] 47) = w1 at *
  generalize w.heap.size = rb at *
  refine (round_any fl 1000 _ HF3 (by decide) (by decide)).mono ?_
  rintro en w2 ⟨rfl, rfl⟩
  obtain ⟨hm0, hm1⟩ : 0 ≤ fl % 1000 ∧ fl % 1000 < 1000 := by omega
  generalize fl % 1000 = rm at *
  go_wp2_with fail
  refine (round_any lsn 2147483647 _ h1 (by decide) (by decide)).mono ?_
  rintro en w2 ⟨rfl, rfl⟩
  obtain ⟨hn0, hn1⟩ : 0 ≤ lsn % 2147483647 ∧ lsn % 2147483647 < 2147483647 := by omega
  generalize lsn % 2147483647 = rn at *
  go_wp2_with fail
  refine (round_any prev 4294967296 _ h2 (by decide) (by decide)).mono ?_
  rintro en w2 ⟨rfl, rfl⟩
  obtain ⟨hp0, hp1⟩ : 0 ≤ prev % 4294967296 ∧ prev % 4294967296 < 4294967296 := by omega
  generalize prev % 4294967296 = rp at *
  have HD2 := Lib.hid ((HD1.out.newB #[.int .i64 (1 + rm), .int .i64 (1 + rn), .int .i64 rp, .slice none 0 0, .slice none 0 0] 47 rfl).gnew 35 1 |>.gnew 87 4)
  clear HD1 h1 h2
  go_wp2_with fail
  generalize w1.alloc (.cells #[.int .i64 (1 + rm), .int .i64 (1 + rn), .int .i64 rp, .slice none 0 0, .slice none 0 0] 47) = w2 at *
  generalize w1.heap.size = fb at *
  go_loopg [10] n (fun r i wr => ∃ (j : Nat) (A3 : Option Addr) (c3 : Nat) (A4 : Option Addr) (kk c4 : Nat) (sl : List (Option Addr × Nat × Nat)), j + r = n ∧ i = .int .i64 j ∧ kk ≤ j ∧ (∀ s ∈ sl, ∀ a, s.1 = some a → w.heap.size ≤ a.block) ∧
    Wc w wr [(fb, [.int .i64 (1 + rm), .int .i64 (1 + rn), .int .i64 rp, .slice A3 j c3, .slice A4 kk c4]), (rb, [.int .i64 0, .int .i64 0, .int .i64 0, .slice none 0 0, .slice none 0 0])] [⟨87, 4, .slice A3 j c3, j, itsV (mkIts zs j)⟩, ⟨35, 1, .slice A4 kk c4, kk, sl.map slv⟩]
      [fun W => Bls W sl (mkBls zs fl j), fun W => Ins W A n c zs])
  case atStart => exact ⟨0, none, 0, none, 0, 0, [], by omega, rfl, Nat.le_refl _, by simp, HD2.out.addF _ (fun W _ => Bls.nil W)⟩
  obtain ⟨j, A3, c3, A4, kk, c4, sl, hj, rfl, hkj, hfr, hw⟩ := hrel
  have HFR := Lib.hid hfr
  have HD3 := Lib.hid hw
  clear HD2 hfr hw
  by_cases hlt : j < n
  · have hjz : j < zs.length := by rw [HL.out]; exact hlt
    obtain ⟨a, oa, rfl, hc⟩ := (show Ins wr A n c zs from HD3.out.fi 1 rfl).at_ (by omega)
    have q0 := hc j (by rw [ivs_length]; exact hjz)
    rw [ivs_get] at q0
    have hzj : zs.getD j 0 = zs[j] := by simp [List.getD, List.getElem?_eq_getElem hjz]
    have hwz := HWZ.out zs[j] (List.getElem_mem _)
    obtain ⟨z, hz⟩ : ∃ z, zs[j] = z := ⟨_, rfl⟩
    rw [hz] at q0 hzj hwz
    have HZ := Lib.hid hzj
    clear hz hzj hc
    have hlt2 : (j : Int) < (n : Int) := by omega
    have hge : 0 ≤ (j : Int) := by omega
    have htn : ((j : Int)).toNat = j := by omega
    have hnc' : (n : Int) ≤ 6 := by omega
    go_wp2_with fail
    refine (round_any z 5 _ hwz (by decide) (by decide)).mono ?_
    rintro en w3 ⟨rfl, rfl⟩
    clear q0 hwz
    rcases five z with hk | hk | hk | hk | hk
    · rw [hk]
      have hit : mkIt z j = ⟨2, j, 1 + j, 0⟩ := by unfold mkIt; simp [hk]
      have HIT := Lib.hid (mkIts_succ HZ.out hit)
      have hbl : mkBl z fl j = [] := by unfold mkBl; simp [hk]
      have HBL := Lib.hid (mkBls_same HZ.out hbl)
      clear hk hit hbl HZ
      have HD4 := Lib.hid (HD3.out.alloc (.cells #[.int .i64 2, .int .i64 (j : Int), .int .i64 (1 + j), .int .i64 0] 87))
      have hnw := news_new wr #[.int .i64 2, .int .i64 (j : Int), .int .i64 (1 + j), .int .i64 0] 87 (by simp [maxLen])
      have hone := itsV_one [⟨2, j, 1 + j, 0⟩]
      have hbs := HD4.out.only.size
      have yb := HD3.out.boxi 0 rfl
      have y0 := yb.cell 0 (by simp)
      have y1 := yb.cell 1 (by simp)
      have y2 := yb.cell 2 (by simp)
      have y3 := yb.cell 3 (by simp)
      have y4 := yb.cell 4 (by simp)
      simp only [List.getElem_cons_zero, List.getElem_cons_succ] at y0 y1 y2 y3 y4
      have yl := yb.lt
      have f3 := yb.frozen 3
      have f4 := yb.frozen 4
      go_wp2_with (first
        | (at_builtin; refine wpList_append_own_at _ rfl (.tmp 34) (.tmp 39) 44 rfl w.heap.size 87 i0 _ 4 32 Try.underlying44 hi0 hz0 hz1 hz2 rfl (by decide) (.slice A3 j c3) j (itsV (mkIts zs j)) rfl (HD4.out.gi 0 rfl) ⟨wr.heap.size, 0, none⟩ 1 1 (itsV [⟨2, j, 1 + j, 0⟩]) rfl rfl hnw hone (by unfold maxLen; omega) (by omega) hbs ?_; intro v5 w5 hown hgrow _ hat; rw [HIT.out] at hown; have hdd := HD4.out.gapp 0 rfl hown hgrow hat; obtain ⟨A6, c6, rfl⟩ := hdd.gform 0 rfl; simp only [List.set_cons_zero, List.set_cons_succ] at hdd; have hd6 := hdd.put 0 rfl 3 (.slice A6 (j + 1) c6); simp only [List.set_cons_zero, List.set_cons_succ] at hd6; have HD5 := Lib.hid hdd; have HD6 := Lib.hid hd6; clear hd6; clear yb y0 y1 y2 y3 y4 yl f3 f4; clear hdd hown hgrow hat hnw hone hbs HD4; have yb := HD5.out.boxi 0 rfl; have y0 := yb.cell 0 (by simp); have y1 := yb.cell 1 (by simp); have y2 := yb.cell 2 (by simp); have y3 := yb.cell 3 (by simp); have y4 := yb.cell 4 (by simp); simp only [List.getElem_cons_zero, List.getElem_cons_succ] at y0 y1 y2 y3 y4; have yl := yb.lt; have f3 := yb.frozen 3; have f4 := yb.frozen 4)
        | fail)
      clear yb y0 y1 y2 y3 y4 yl f3 f4
      go_roundg (gk - 1)
      case measure => omega
      case rel =>
        refine ⟨j + 1, A6, c6, A4, kk, c4, sl, by omega, by go_num, by omega, HFR.out, ?_⟩
        rw [HBL.out]
        exact HD6.out
    · rw [hk]
      have hit : mkIt z j = ⟨3, 0, 0, 1 + j⟩ := by unfold mkIt; simp [hk]
      have HIT := Lib.hid (mkIts_succ HZ.out hit)
      have hbl : mkBl z fl j = [] := by unfold mkBl; simp [hk]
      have HBL := Lib.hid (mkBls_same HZ.out hbl)
      clear hk hit hbl HZ
      have HD4 := Lib.hid (HD3.out.alloc (.cells #[.int .i64 3, .int .i64 0, .int .i64 0, .int .i64 (1 + j)] 87))
      have hnw := news_new wr #[.int .i64 3, .int .i64 0, .int .i64 0, .int .i64 (1 + j)] 87 (by simp [maxLen])
      have hone := itsV_one [⟨3, 0, 0, 1 + j⟩]
      have hbs := HD4.out.only.size
      have yb := HD3.out.boxi 0 rfl
      have y0 := yb.cell 0 (by simp)
      have y1 := yb.cell 1 (by simp)
      have y2 := yb.cell 2 (by simp)
      have y3 := yb.cell 3 (by simp)
      have y4 := yb.cell 4 (by simp)
      simp only [List.getElem_cons_zero, List.getElem_cons_succ] at y0 y1 y2 y3 y4
      have yl := yb.lt
      have f3 := yb.frozen 3
      have f4 := yb.frozen 4
      go_wp2_with (first
        | (at_builtin; refine wpList_append_own_at _ rfl (.tmp 45) (.tmp 49) 44 rfl w.heap.size 87 i0 _ 4 32 Try.underlying44 hi0 hz0 hz1 hz2 rfl (by decide) (.slice A3 j c3) j (itsV (mkIts zs j)) rfl (HD4.out.gi 0 rfl) ⟨wr.heap.size, 0, none⟩ 1 1 (itsV [⟨3, 0, 0, 1 + j⟩]) rfl rfl hnw hone (by unfold maxLen; omega) (by omega) hbs ?_; intro v5 w5 hown hgrow _ hat; rw [HIT.out] at hown; have hdd := HD4.out.gapp 0 rfl hown hgrow hat; obtain ⟨A6, c6, rfl⟩ := hdd.gform 0 rfl; simp only [List.set_cons_zero, List.set_cons_succ] at hdd; have hd6 := hdd.put 0 rfl 3 (.slice A6 (j + 1) c6); simp only [List.set_cons_zero, List.set_cons_succ] at hd6; have HD5 := Lib.hid hdd; have HD6 := Lib.hid hd6; clear hd6; clear yb y0 y1 y2 y3 y4 yl f3 f4; clear hdd hown hgrow hat hnw hone hbs HD4; have yb := HD5.out.boxi 0 rfl; have y0 := yb.cell 0 (by simp); have y1 := yb.cell 1 (by simp); have y2 := yb.cell 2 (by simp); have y3 := yb.cell 3 (by simp); have y4 := yb.cell 4 (by simp); simp only [List.getElem_cons_zero, List.getElem_cons_succ] at y0 y1 y2 y3 y4; have yl := yb.lt; have f3 := yb.frozen 3; have f4 := yb.frozen 4)
        | fail)
      clear yb y0 y1 y2 y3 y4 yl f3 f4
      go_roundg (gk - 1)
      case measure => omega
      case rel =>
        refine ⟨j + 1, A6, c6, A4, kk, c4, sl, by omega, by go_num, by omega, HFR.out, ?_⟩
        rw [HBL.out]
        exact HD6.out
    · rw [hk]
      have hit : mkIt z j = ⟨1, j, 0, 0⟩ := by unfold mkIt; simp [hk]
      have HIT := Lib.hid (mkIts_succ HZ.out hit)
      have hbl : mkBl z fl j = [fillB (IntKind.i64.wrap (fl + j))] := by unfold mkBl; simp [hk]
      have HBL := Lib.hid (mkBls_succ HZ.out hbl)
      clear hk hit hbl HZ
      have HD4 := Lib.hid (HD3.out.alloc (.cells #[.int .i64 1, .int .i64 (j : Int), .int .i64 0, .int .i64 0] 87))
      have hnw := news_new wr #[.int .i64 1, .int .i64 (j : Int), .int .i64 0, .int .i64 0] 87 (by simp [maxLen])
      have hone := itsV_one [⟨1, j, 0, 0⟩]
      have hbs := HD4.out.only.size
      have yb := HD3.out.boxi 0 rfl
      have y0 := yb.cell 0 (by simp)
      have y1 := yb.cell 1 (by simp)
      have y2 := yb.cell 2 (by simp)
      have y3 := yb.cell 3 (by simp)
      have y4 := yb.cell 4 (by simp)
      simp only [List.getElem_cons_zero, List.getElem_cons_succ] at y0 y1 y2 y3 y4
      have yl := yb.lt
      have f3 := yb.frozen 3
      have f4 := yb.frozen 4
      go_wp2_with (first
        | (at_builtin; refine wpList_append_own_at _ rfl (.tmp 55) (.tmp 58) 44 rfl w.heap.size 87 i0 _ 4 32 Try.underlying44 hi0 hz0 hz1 hz2 rfl (by decide) (.slice A3 j c3) j (itsV (mkIts zs j)) rfl (HD4.out.gi 0 rfl) ⟨wr.heap.size, 0, none⟩ 1 1 (itsV [⟨1, j, 0, 0⟩]) rfl rfl hnw hone (by unfold maxLen; omega) (by omega) hbs ?_; intro v5 w5 hown hgrow _ hat; rw [HIT.out] at hown; have hdd := HD4.out.gapp 0 rfl hown hgrow hat; obtain ⟨A6, c6, rfl⟩ := hdd.gform 0 rfl; simp only [List.set_cons_zero, List.set_cons_succ] at hdd; have hd6 := hdd.put 0 rfl 3 (.slice A6 (j + 1) c6); simp only [List.set_cons_zero, List.set_cons_succ] at hd6; have HD5 := Lib.hid hdd; have HD6 := Lib.hid hd6; clear hd6; clear yb y0 y1 y2 y3 y4 yl f3 f4; clear hdd hown hgrow hat hnw hone hbs HD4; have yb := HD5.out.boxi 0 rfl; have y0 := yb.cell 0 (by simp); have y1 := yb.cell 1 (by simp); have y2 := yb.cell 2 (by simp); have y3 := yb.cell 3 (by simp); have y4 := yb.cell 4 (by simp); simp only [List.getElem_cons_zero, List.getElem_cons_succ] at y0 y1 y2 y3 y4; have yl := yb.lt; have f3 := yb.frozen 3; have f4 := yb.frozen 4)
        | fail)
      clear yb y0 y1 y2 y3 y4 yl f3 f4
      have HD7 := Lib.hid HD6.out.drew
      clear HD6 HD5 HD3
      refine wp_region_held_drew (S := fun w' => w'.cell? ⟨fb, 0, none⟩ = some (.int .i64 (1 + rm))) (by kernel_rfl) ((HD7.out.boxi 0 rfl).cell 0 (by simp)) (fun hSw0 => ?_)
      generalize (w5.setCell ⟨fb, 3, none⟩ (.slice A6 (j + 1) c6)).drew = ws at *
      refine wpAnyH_take (i := 0) (oi := ⟨some 61, _, _, _, _, _⟩) (v := ?_) rfl (by kernel_rfl) (by kernel_rfl) (by kernel_rfl) (fun _ _ _ h => h) (Or.inl ⟨by rfl, ?_⟩) (by assumption) ?_
      rotate_left
      · intro w hSw
        (try dsimp only at hSw)
        go_simp
        all_goals (try with_reducible rfl)
      (try simp only [Act.put, List.setIfInBounds_toArray, List.set_cons_zero, List.set_cons_succ])
      refine wpAnyH_take (i := 2) (oi := ⟨some 63, _, _, _, _, _⟩) (v := ?_) rfl (by kernel_rfl) (by kernel_rfl) (by kernel_rfl) (fun _ _ _ h => h) (Or.inl ⟨by rfl, ?_⟩) (by assumption) ?_
      rotate_left
      · intro w hSw
        (try dsimp only at hSw)
        go_simp
        all_goals (try with_reducible rfl)
      (try simp only [Act.put, List.setIfInBounds_toArray, List.set_cons_zero, List.set_cons_succ])
      refine wpAnyH_take (i := 3) (oi := ⟨some 64, _, _, _, _, _⟩) (v := ?_) rfl (by kernel_rfl) (by kernel_rfl) (by kernel_rfl) (fun _ _ _ h => h) (Or.inl ⟨by rfl, ?_⟩) (by assumption) ?_
      rotate_left
      · intro w hSw
        (try dsimp only at hSw)
        go_simp
        all_goals (try with_reducible rfl)
      (try simp only [Act.put, List.setIfInBounds_toArray, List.set_cons_zero, List.set_cons_succ])
      refine wpAnyH_take (i := 4) (oi := ⟨some 65, _, _, _, _, _⟩) (v := ?_) rfl (by kernel_rfl) (by kernel_rfl) (by kernel_rfl) (fun _ _ _ h => h) (Or.inl ⟨by rfl, ?_⟩) (by assumption) ?_
      rotate_left
      · intro w hSw
        (try dsimp only at hSw)
        go_simp
        all_goals (try with_reducible rfl)
      (try simp only [Act.put, List.setIfInBounds_toArray, List.set_cons_zero, List.set_cons_succ])
      refine wpAnyH_ready (rs := [1, 5]) (by kernel_rfl) (by simp) ?_
      refine AllReadyH.cons (o := ⟨some 62, _, _, _, _, _⟩) rfl (fun K hK => ?_) ?_
      · have yq := (HD7.out.boxi 0 rfl).cell 4 (by simp)
        simp only [List.getElem_cons_zero, List.getElem_cons_succ] at yq
        have lq := (HD7.out.boxi 0 rfl).lt
        go_simp
        clear yq lq
        refine hK.out _ _ ((HD7.out.boxi 0 rfl).cell 0 (by simp)) (fun hSn => ?_)
        clear hK K hSw0
        have hSw0 := hSn
        clear hSn
        (try simp only [Act.put, List.setIfInBounds_toArray, List.set_cons_zero, List.set_cons_succ])
        refine wpAnyH_ready (rs := [5]) (by kernel_rfl) (by simp) ?_
        refine AllReadyH.cons (o := ⟨some 66, _, _, _, _, _⟩) rfl (fun K hK => ?_) AllReadyH.nil
        have hwf : (Lit.int .i64 (IntKind.i64.wrap (fl + (j : Int)))).wf = true := Go.wf_wrap .i64 _
        go_simp
        refine (fill_any (IntKind.i64.wrap (fl + (j : Int))) _ hwf).mono ?_
        rintro en va ⟨g7, rfl, hg7, ho7, hO⟩
        have hbw := HD7.out.only.size
        have HDa := Lib.hid (HD7.out.addFc hO (f := fun V => Bys V (some ⟨g7, 0, none⟩) 64 64 (fillB (IntKind.i64.wrap (fl + j)))) (Row1.fc (Row1.of_Own ho7 (by simp) (Nat.le_refl _) (by simp [maxLen])) (fun _ a ha => by injection ha with ha; subst ha; simp; omega)))
        have hgw : w.heap.size ≤ g7 := by omega
        clear hO ho7 hg7 hbw HD7
        refine hK.out _ _ ((HDa.out.boxi 0 rfl).cell 0 (by simp)) (fun hSn => ?_)
        clear hK K hSw0
        have hSw0 := hSn
        clear hSn
        (try simp only [Act.put, List.setIfInBounds_toArray, List.set_cons_zero, List.set_cons_succ])
        refine wpAnyH_ready (rs := [6]) (by kernel_rfl) (by simp) ?_
        refine AllReadyH.cons (o := ⟨some 67, _, _, _, _, _⟩) rfl (fun K hK => ?_) AllReadyH.nil
        go_simp
        have HDb := Lib.hid (HDa.out.alloc (.cells #[.slice (some ⟨g7, 0, none⟩) 64 64] 35))
        have hnr : Row1 (va.alloc (.cells #[.slice (some ⟨g7, 0, none⟩) 64 64] 35)) (some ⟨va.heap.size, 0, none⟩) 1 1 ([(some ⟨g7, 0, none⟩, 64, 64)].map slv) := Row1.of_Own (Own.new va #[.slice (some ⟨g7, 0, none⟩) 64 64] 35) rfl (Nat.le_refl _) (by simp [maxLen])
        have HNR2 := Lib.hid hnr
        clear hnr
        have hbw := HDb.out.only.size
        generalize hvz : va.heap.size = vz at *
        generalize hvb : va.alloc (.cells #[.slice (some ⟨g7, 0, none⟩) 64 64] 35) = vb at *
        clear hvb hvz
        refine hK.out _ _ ((HDb.out.boxi 0 rfl).cell 0 (by simp)) (fun hSn => ?_)
        clear hK K hSw0
        have hSw0 := hSn
        clear hSn
        (try simp only [Act.put, List.setIfInBounds_toArray, List.set_cons_zero, List.set_cons_succ])
        refine wpAnyH_ready (rs := [7]) (by kernel_rfl) (by simp) ?_
        refine AllReadyH.cons (o := ⟨some 68, _, _, _, _, _⟩) rfl (fun K hK => ?_) AllReadyH.nil
        refine step_append_row1 rfl (.tmp 62) (.tmp 67) 45 rfl w.heap.size 35 i1 _ 24 Try.underlying45 hi1 hy0 hy1 hy2 rfl (.slice A4 kk c4) kk (sl.map slv) rfl (HDb.out.gi 1 rfl) (some ⟨vz, 0, none⟩) 1 1 ([(some ⟨g7, 0, none⟩, 64, 64)].map slv) rfl HNR2.out (slv_one _) (by unfold maxLen; omega) (by omega) hbw ?_
        intro v' vd hown hgrow hat
        rw [← List.map_append] at hown
        have hdd := HDb.out.gapp 1 rfl hown hgrow hat
        obtain ⟨A8, c8, rfl⟩ := hdd.gform 1 rfl
        simp only [List.set_cons_zero, List.set_cons_succ] at hdd
        have HDd := Lib.hid hdd
        clear hdd hown hgrow hat
        refine hK.out _ _ ((HDd.out.boxi 0 rfl).cell 0 (by simp)) (fun hSn => ?_)
        clear hK K hSw0
        have hSw0 := hSn
        clear hSn
        (try simp only [Act.put, List.setIfInBounds_toArray, List.set_cons_zero, List.set_cons_succ])
        refine wpAnyH_take (i := 8) (oi := ⟨some 69, _, _, _, _, _⟩) (v := ?_) rfl (by kernel_rfl) (by kernel_rfl) (by kernel_rfl) (fun _ _ _ h => h) (Or.inl ⟨by rfl, ?_⟩) (by assumption) ?_
        rotate_left
        · intro w hSw
          (try dsimp only at hSw)
          go_simp
          all_goals (try with_reducible rfl)
        (try simp only [Act.put, List.setIfInBounds_toArray, List.set_cons_zero, List.set_cons_succ])
        refine wpAnyH_ready (rs := [9]) (by kernel_rfl) (by simp) ?_
        refine AllReadyH.cons (o := ⟨none, _, _, _, _, _⟩) rfl (fun K hK => ?_) AllReadyH.nil
        have yq := (HDd.out.boxi 0 rfl).cell 4 (by simp)
        simp only [List.getElem_cons_zero, List.getElem_cons_succ] at yq
        have lq := (HDd.out.boxi 0 rfl).lt
        have fq := (HDd.out.boxi 0 rfl).frozen 4
        go_simp
        have hdz := HDd.out.put 0 rfl 4 (.slice A8 (kk + 1) c8)
        simp only [List.set_cons_zero, List.set_cons_succ] at hdz
        have HDz := Lib.hid hdz
        clear hdz
        clear yq lq fq
        refine hK.out _ _ ((HDz.out.boxi 0 rfl).cell 0 (by simp)) (fun hSn => ?_)
        clear hK K hSw0
        have hSw0 := hSn
        clear hSn
        (try simp only [Act.put, List.setIfInBounds_toArray, List.set_cons_zero, List.set_cons_succ])
        refine wpAnyH_done (by kernel_rfl) ?_ _
        clear hSw0
        go_wp2_with fail
        go_roundg (gk - 1)
        case measure => omega
        case rel =>
          refine ⟨j + 1, A6, c6, A8, kk + 1, c8, sl ++ [(some ⟨g7, 0, none⟩, 64, 64)], by omega, by go_num, by omega, ?_, ?_⟩
          · intro s hs a ha
            rcases List.mem_append.1 hs with hs | hs
            · exact HFR.out s hs a ha
            · simp at hs
              subst hs
              injection ha with ha
              subst ha
              exact hgw
          · refine (HDz.out.fuse (f1 := fun V => Bys V (some ⟨g7, 0, none⟩) 64 64 (fillB (IntKind.i64.wrap (fl + j)))) (f2 := fun V => Bls V sl (mkBls zs fl j)) (f := fun V => Bls V (sl ++ [(some ⟨g7, 0, none⟩, 64, 64)]) (mkBls zs fl (j + 1))) (by simp) (by simp) (fun V h1 h2 => by rw [HBL.out]; exact h2.snoc h1)).sub (List.Sublist.refl _) ?_
            intro f1 hf1
            simp only [List.mem_cons, List.not_mem_nil, or_false] at hf1 ⊢
            rcases hf1 with rfl | rfl <;> simp
      refine AllReadyH.cons (o := ⟨some 66, _, _, _, _, _⟩) rfl (fun K hK => ?_) ?_
      · have hwf : (Lit.int .i64 (IntKind.i64.wrap (fl + (j : Int)))).wf = true := Go.wf_wrap .i64 _
        go_simp
        refine (fill_any (IntKind.i64.wrap (fl + (j : Int))) _ hwf).mono ?_
        rintro en va ⟨g7, rfl, hg7, ho7, hO⟩
        have hbw := HD7.out.only.size
        have HDa := Lib.hid (HD7.out.addFc hO (f := fun V => Bys V (some ⟨g7, 0, none⟩) 64 64 (fillB (IntKind.i64.wrap (fl + j)))) (Row1.fc (Row1.of_Own ho7 (by simp) (Nat.le_refl _) (by simp [maxLen])) (fun _ a ha => by injection ha with ha; subst ha; simp; omega)))
        have hgw : w.heap.size ≤ g7 := by omega
        clear hO ho7 hg7 hbw HD7
        refine hK.out _ _ ((HDa.out.boxi 0 rfl).cell 0 (by simp)) (fun hSn => ?_)
        clear hK K hSw0
        have hSw0 := hSn
        clear hSn
        (try simp only [Act.put, List.setIfInBounds_toArray, List.set_cons_zero, List.set_cons_succ])
        refine wpAnyH_ready (rs := [1, 6]) (by kernel_rfl) (by simp) ?_
        refine AllReadyH.cons (o := ⟨some 62, _, _, _, _, _⟩) rfl (fun K hK => ?_) ?_
        · have yq := (HDa.out.boxi 0 rfl).cell 4 (by simp)
          simp only [List.getElem_cons_zero, List.getElem_cons_succ] at yq
          have lq := (HDa.out.boxi 0 rfl).lt
          go_simp
          clear yq lq
          refine hK.out _ _ ((HDa.out.boxi 0 rfl).cell 0 (by simp)) (fun hSn => ?_)
          clear hK K hSw0
          have hSw0 := hSn
          clear hSn
          (try simp only [Act.put, List.setIfInBounds_toArray, List.set_cons_zero, List.set_cons_succ])
          refine wpAnyH_ready (rs := [6]) (by kernel_rfl) (by simp) ?_
          refine AllReadyH.cons (o := ⟨some 67, _, _, _, _, _⟩) rfl (fun K hK => ?_) AllReadyH.nil
          go_simp
          have HDb := Lib.hid (HDa.out.alloc (.cells #[.slice (some ⟨g7, 0, none⟩) 64 64] 35))
          have hnr : Row1 (va.alloc (.cells #[.slice (some ⟨g7, 0, none⟩) 64 64] 35)) (some ⟨va.heap.size, 0, none⟩) 1 1 ([(some ⟨g7, 0, none⟩, 64, 64)].map slv) := Row1.of_Own (Own.new va #[.slice (some ⟨g7, 0, none⟩) 64 64] 35) rfl (Nat.le_refl _) (by simp [maxLen])
          have HNR2 := Lib.hid hnr
          clear hnr
          have hbw := HDb.out.only.size
          generalize hvz : va.heap.size = vz at *
          generalize hvb : va.alloc (.cells #[.slice (some ⟨g7, 0, none⟩) 64 64] 35) = vb at *
          clear hvb hvz
          refine hK.out _ _ ((HDb.out.boxi 0 rfl).cell 0 (by simp)) (fun hSn => ?_)
          clear hK K hSw0
          have hSw0 := hSn
          clear hSn
          (try simp only [Act.put, List.setIfInBounds_toArray, List.set_cons_zero, List.set_cons_succ])
          refine wpAnyH_ready (rs := [7]) (by kernel_rfl) (by simp) ?_
          refine AllReadyH.cons (o := ⟨some 68, _, _, _, _, _⟩) rfl (fun K hK => ?_) AllReadyH.nil
          refine step_append_row1 rfl (.tmp 62) (.tmp 67) 45 rfl w.heap.size 35 i1 _ 24 Try.underlying45 hi1 hy0 hy1 hy2 rfl (.slice A4 kk c4) kk (sl.map slv) rfl (HDb.out.gi 1 rfl) (some ⟨vz, 0, none⟩) 1 1 ([(some ⟨g7, 0, none⟩, 64, 64)].map slv) rfl HNR2.out (slv_one _) (by unfold maxLen; omega) (by omega) hbw ?_
          intro v' vd hown hgrow hat
          rw [← List.map_append] at hown
          have hdd := HDb.out.gapp 1 rfl hown hgrow hat
          obtain ⟨A8, c8, rfl⟩ := hdd.gform 1 rfl
          simp only [List.set_cons_zero, List.set_cons_succ] at hdd
          have HDd := Lib.hid hdd
          clear hdd hown hgrow hat
          refine hK.out _ _ ((HDd.out.boxi 0 rfl).cell 0 (by simp)) (fun hSn => ?_)
          clear hK K hSw0
          have hSw0 := hSn
          clear hSn
          (try simp only [Act.put, List.setIfInBounds_toArray, List.set_cons_zero, List.set_cons_succ])
          refine wpAnyH_take (i := 8) (oi := ⟨some 69, _, _, _, _, _⟩) (v := ?_) rfl (by kernel_rfl) (by kernel_rfl) (by kernel_rfl) (fun _ _ _ h => h) (Or.inl ⟨by rfl, ?_⟩) (by assumption) ?_
          rotate_left
          · intro w hSw
            (try dsimp only at hSw)
            go_simp
            all_goals (try with_reducible rfl)
          (try simp only [Act.put, List.setIfInBounds_toArray, List.set_cons_zero, List.set_cons_succ])
          refine wpAnyH_ready (rs := [9]) (by kernel_rfl) (by simp) ?_
          refine AllReadyH.cons (o := ⟨none, _, _, _, _, _⟩) rfl (fun K hK => ?_) AllReadyH.nil
          have yq := (HDd.out.boxi 0 rfl).cell 4 (by simp)
          simp only [List.getElem_cons_zero, List.getElem_cons_succ] at yq
          have lq := (HDd.out.boxi 0 rfl).lt
          have fq := (HDd.out.boxi 0 rfl).frozen 4
          go_simp
          have hdz := HDd.out.put 0 rfl 4 (.slice A8 (kk + 1) c8)
          simp only [List.set_cons_zero, List.set_cons_succ] at hdz
          have HDz := Lib.hid hdz
          clear hdz
          clear yq lq fq
          refine hK.out _ _ ((HDz.out.boxi 0 rfl).cell 0 (by simp)) (fun hSn => ?_)
          clear hK K hSw0
          have hSw0 := hSn
          clear hSn
          (try simp only [Act.put, List.setIfInBounds_toArray, List.set_cons_zero, List.set_cons_succ])
          refine wpAnyH_done (by kernel_rfl) ?_ _
          clear hSw0
          go_wp2_with fail
          go_roundg (gk - 1)
          case measure => omega
          case rel =>
            refine ⟨j + 1, A6, c6, A8, kk + 1, c8, sl ++ [(some ⟨g7, 0, none⟩, 64, 64)], by omega, by go_num, by omega, ?_, ?_⟩
            · intro s hs a ha
              rcases List.mem_append.1 hs with hs | hs
              · exact HFR.out s hs a ha
              · simp at hs
                subst hs
                injection ha with ha
                subst ha
                exact hgw
            · refine (HDz.out.fuse (f1 := fun V => Bys V (some ⟨g7, 0, none⟩) 64 64 (fillB (IntKind.i64.wrap (fl + j)))) (f2 := fun V => Bls V sl (mkBls zs fl j)) (f := fun V => Bls V (sl ++ [(some ⟨g7, 0, none⟩, 64, 64)]) (mkBls zs fl (j + 1))) (by simp) (by simp) (fun V h1 h2 => by rw [HBL.out]; exact h2.snoc h1)).sub (List.Sublist.refl _) ?_
              intro f1 hf1
              simp only [List.mem_cons, List.not_mem_nil, or_false] at hf1 ⊢
              rcases hf1 with rfl | rfl <;> simp
        refine AllReadyH.cons (o := ⟨some 67, _, _, _, _, _⟩) rfl (fun K hK => ?_) ?_
        · go_simp
          have HDb := Lib.hid (HDa.out.alloc (.cells #[.slice (some ⟨g7, 0, none⟩) 64 64] 35))
          have hnr : Row1 (va.alloc (.cells #[.slice (some ⟨g7, 0, none⟩) 64 64] 35)) (some ⟨va.heap.size, 0, none⟩) 1 1 ([(some ⟨g7, 0, none⟩, 64, 64)].map slv) := Row1.of_Own (Own.new va #[.slice (some ⟨g7, 0, none⟩) 64 64] 35) rfl (Nat.le_refl _) (by simp [maxLen])
          have HNR2 := Lib.hid hnr
          clear hnr
          have hbw := HDb.out.only.size
          generalize hvz : va.heap.size = vz at *
          generalize hvb : va.alloc (.cells #[.slice (some ⟨g7, 0, none⟩) 64 64] 35) = vb at *
          clear hvb hvz
          refine hK.out _ _ ((HDb.out.boxi 0 rfl).cell 0 (by simp)) (fun hSn => ?_)
          clear hK K hSw0
          have hSw0 := hSn
          clear hSn
          (try simp only [Act.put, List.setIfInBounds_toArray, List.set_cons_zero, List.set_cons_succ])
          refine wpAnyH_ready (rs := [1]) (by kernel_rfl) (by simp) ?_
          refine AllReadyH.cons (o := ⟨some 62, _, _, _, _, _⟩) rfl (fun K hK => ?_) AllReadyH.nil
          have yq := (HDb.out.boxi 0 rfl).cell 4 (by simp)
          simp only [List.getElem_cons_zero, List.getElem_cons_succ] at yq
          have lq := (HDb.out.boxi 0 rfl).lt
          go_simp
          clear yq lq
          refine hK.out _ _ ((HDb.out.boxi 0 rfl).cell 0 (by simp)) (fun hSn => ?_)
          clear hK K hSw0
          have hSw0 := hSn
          clear hSn
          (try simp only [Act.put, List.setIfInBounds_toArray, List.set_cons_zero, List.set_cons_succ])
          refine wpAnyH_ready (rs := [7]) (by kernel_rfl) (by simp) ?_
          refine AllReadyH.cons (o := ⟨some 68, _, _, _, _, _⟩) rfl (fun K hK => ?_) AllReadyH.nil
          refine step_append_row1 rfl (.tmp 62) (.tmp 67) 45 rfl w.heap.size 35 i1 _ 24 Try.underlying45 hi1 hy0 hy1 hy2 rfl (.slice A4 kk c4) kk (sl.map slv) rfl (HDb.out.gi 1 rfl) (some ⟨vz, 0, none⟩) 1 1 ([(some ⟨g7, 0, none⟩, 64, 64)].map slv) rfl HNR2.out (slv_one _) (by unfold maxLen; omega) (by omega) hbw ?_
          intro v' vd hown hgrow hat
          rw [← List.map_append] at hown
          have hdd := HDb.out.gapp 1 rfl hown hgrow hat
          obtain ⟨A8, c8, rfl⟩ := hdd.gform 1 rfl
          simp only [List.set_cons_zero, List.set_cons_succ] at hdd
          have HDd := Lib.hid hdd
          clear hdd hown hgrow hat
          refine hK.out _ _ ((HDd.out.boxi 0 rfl).cell 0 (by simp)) (fun hSn => ?_)
          clear hK K hSw0
          have hSw0 := hSn
          clear hSn
          (try simp only [Act.put, List.setIfInBounds_toArray, List.set_cons_zero, List.set_cons_succ])
          refine wpAnyH_take (i := 8) (oi := ⟨some 69, _, _, _, _, _⟩) (v := ?_) rfl (by kernel_rfl) (by kernel_rfl) (by kernel_rfl) (fun _ _ _ h => h) (Or.inl ⟨by rfl, ?_⟩) (by assumption) ?_
          rotate_left
          · intro w hSw
            (try dsimp only at hSw)
            go_simp
            all_goals (try with_reducible rfl)
          (try simp only [Act.put, List.setIfInBounds_toArray, List.set_cons_zero, List.set_cons_succ])
          refine wpAnyH_ready (rs := [9]) (by kernel_rfl) (by simp) ?_
          refine AllReadyH.cons (o := ⟨none, _, _, _, _, _⟩) rfl (fun K hK => ?_) AllReadyH.nil
          have yq := (HDd.out.boxi 0 rfl).cell 4 (by simp)
          simp only [List.getElem_cons_zero, List.getElem_cons_succ] at yq
          have lq := (HDd.out.boxi 0 rfl).lt
          have fq := (HDd.out.boxi 0 rfl).frozen 4
          go_simp
          have hdz := HDd.out.put 0 rfl 4 (.slice A8 (kk + 1) c8)
          simp only [List.set_cons_zero, List.set_cons_succ] at hdz
          have HDz := Lib.hid hdz
          clear hdz
          clear yq lq fq
          refine hK.out _ _ ((HDz.out.boxi 0 rfl).cell 0 (by simp)) (fun hSn => ?_)
          clear hK K hSw0
          have hSw0 := hSn
          clear hSn
          (try simp only [Act.put, List.setIfInBounds_toArray, List.set_cons_zero, List.set_cons_succ])
          refine wpAnyH_done (by kernel_rfl) ?_ _
          clear hSw0
          go_wp2_with fail
          go_roundg (gk - 1)
          case measure => omega
          case rel =>
            refine ⟨j + 1, A6, c6, A8, kk + 1, c8, sl ++ [(some ⟨g7, 0, none⟩, 64, 64)], by omega, by go_num, by omega, ?_, ?_⟩
            · intro s hs a ha
              rcases List.mem_append.1 hs with hs | hs
              · exact HFR.out s hs a ha
              · simp at hs
                subst hs
                injection ha with ha
                subst ha
                exact hgw
            · refine (HDz.out.fuse (f1 := fun V => Bys V (some ⟨g7, 0, none⟩) 64 64 (fillB (IntKind.i64.wrap (fl + j)))) (f2 := fun V => Bls V sl (mkBls zs fl j)) (f := fun V => Bls V (sl ++ [(some ⟨g7, 0, none⟩, 64, 64)]) (mkBls zs fl (j + 1))) (by simp) (by simp) (fun V h1 h2 => by rw [HBL.out]; exact h2.snoc h1)).sub (List.Sublist.refl _) ?_
              intro f1 hf1
              simp only [List.mem_cons, List.not_mem_nil, or_false] at hf1 ⊢
              rcases hf1 with rfl | rfl <;> simp
        exact AllReadyH.nil
      exact AllReadyH.nil
    · rw [hk]
      have hit : mkIt z j = ⟨4, j, 0, 20 + j⟩ := by unfold mkIt; simp [hk]
      have HIT := Lib.hid (mkIts_succ HZ.out hit)
      have hbl : mkBl z fl j = [fillB (IntKind.i64.wrap (fl - j))] := by unfold mkBl; simp [hk]
      have HBL := Lib.hid (mkBls_succ HZ.out hbl)
      clear hk hit hbl HZ
      have HD4 := Lib.hid (HD3.out.alloc (.cells #[.int .i64 4, .int .i64 (j : Int), .int .i64 0, .int .i64 (20 + j)] 87))
      have hnw := news_new wr #[.int .i64 4, .int .i64 (j : Int), .int .i64 0, .int .i64 (20 + j)] 87 (by simp [maxLen])
      have hone := itsV_one [⟨4, j, 0, 20 + j⟩]
      have hbs := HD4.out.only.size
      have yb := HD3.out.boxi 0 rfl
      have y0 := yb.cell 0 (by simp)
      have y1 := yb.cell 1 (by simp)
      have y2 := yb.cell 2 (by simp)
      have y3 := yb.cell 3 (by simp)
      have y4 := yb.cell 4 (by simp)
      simp only [List.getElem_cons_zero, List.getElem_cons_succ] at y0 y1 y2 y3 y4
      have yl := yb.lt
      have f3 := yb.frozen 3
      have f4 := yb.frozen 4
      go_wp2_with (first
        | (at_builtin; refine wpList_append_own_at _ rfl (.tmp 73) (.tmp 78) 44 rfl w.heap.size 87 i0 _ 4 32 Try.underlying44 hi0 hz0 hz1 hz2 rfl (by decide) (.slice A3 j c3) j (itsV (mkIts zs j)) rfl (HD4.out.gi 0 rfl) ⟨wr.heap.size, 0, none⟩ 1 1 (itsV [⟨4, j, 0, 20 + j⟩]) rfl rfl hnw hone (by unfold maxLen; omega) (by omega) hbs ?_; intro v5 w5 hown hgrow _ hat; rw [HIT.out] at hown; have hdd := HD4.out.gapp 0 rfl hown hgrow hat; obtain ⟨A6, c6, rfl⟩ := hdd.gform 0 rfl; simp only [List.set_cons_zero, List.set_cons_succ] at hdd; have hd6 := hdd.put 0 rfl 3 (.slice A6 (j + 1) c6); simp only [List.set_cons_zero, List.set_cons_succ] at hd6; have HD5 := Lib.hid hdd; have HD6 := Lib.hid hd6; clear hd6; clear yb y0 y1 y2 y3 y4 yl f3 f4; clear hdd hown hgrow hat hnw hone hbs HD4; have yb := HD5.out.boxi 0 rfl; have y0 := yb.cell 0 (by simp); have y1 := yb.cell 1 (by simp); have y2 := yb.cell 2 (by simp); have y3 := yb.cell 3 (by simp); have y4 := yb.cell 4 (by simp); simp only [List.getElem_cons_zero, List.getElem_cons_succ] at y0 y1 y2 y3 y4; have yl := yb.lt; have f3 := yb.frozen 3; have f4 := yb.frozen 4)
        | fail)
      clear yb y0 y1 y2 y3 y4 yl f3 f4
      have HD7 := Lib.hid HD6.out.drew
      clear HD6 HD5 HD3
      refine wp_region_held_drew (S := fun w' => w'.cell? ⟨fb, 0, none⟩ = some (.int .i64 (1 + rm))) (by kernel_rfl) ((HD7.out.boxi 0 rfl).cell 0 (by simp)) (fun hSw0 => ?_)
      generalize (w5.setCell ⟨fb, 3, none⟩ (.slice A6 (j + 1) c6)).drew = ws at *
      refine wpAnyH_take (i := 0) (oi := ⟨some 81, _, _, _, _, _⟩) (v := ?_) rfl (by kernel_rfl) (by kernel_rfl) (by kernel_rfl) (fun _ _ _ h => h) (Or.inl ⟨by rfl, ?_⟩) (by assumption) ?_
      rotate_left
      · intro w hSw
        (try dsimp only at hSw)
        go_simp
        all_goals (try with_reducible rfl)
      (try simp only [Act.put, List.setIfInBounds_toArray, List.set_cons_zero, List.set_cons_succ])
      refine wpAnyH_take (i := 2) (oi := ⟨some 83, _, _, _, _, _⟩) (v := ?_) rfl (by kernel_rfl) (by kernel_rfl) (by kernel_rfl) (fun _ _ _ h => h) (Or.inl ⟨by rfl, ?_⟩) (by assumption) ?_
      rotate_left
      · intro w hSw
        (try dsimp only at hSw)
        go_simp
        all_goals (try with_reducible rfl)
      (try simp only [Act.put, List.setIfInBounds_toArray, List.set_cons_zero, List.set_cons_succ])
      refine wpAnyH_take (i := 3) (oi := ⟨some 84, _, _, _, _, _⟩) (v := ?_) rfl (by kernel_rfl) (by kernel_rfl) (by kernel_rfl) (fun _ _ _ h => h) (Or.inl ⟨by rfl, ?_⟩) (by assumption) ?_
      rotate_left
      · intro w hSw
        (try dsimp only at hSw)
        go_simp
        all_goals (try with_reducible rfl)
      (try simp only [Act.put, List.setIfInBounds_toArray, List.set_cons_zero, List.set_cons_succ])
      refine wpAnyH_take (i := 4) (oi := ⟨some 85, _, _, _, _, _⟩) (v := ?_) rfl (by kernel_rfl) (by kernel_rfl) (by kernel_rfl) (fun _ _ _ h => h) (Or.inl ⟨by rfl, ?_⟩) (by assumption) ?_
      rotate_left
      · intro w hSw
        (try dsimp only at hSw)
        go_simp
        all_goals (try with_reducible rfl)
      (try simp only [Act.put, List.setIfInBounds_toArray, List.set_cons_zero, List.set_cons_succ])
      refine wpAnyH_ready (rs := [1, 5]) (by kernel_rfl) (by simp) ?_
      refine AllReadyH.cons (o := ⟨some 82, _, _, _, _, _⟩) rfl (fun K hK => ?_) ?_
      · have yq := (HD7.out.boxi 0 rfl).cell 4 (by simp)
        simp only [List.getElem_cons_zero, List.getElem_cons_succ] at yq
        have lq := (HD7.out.boxi 0 rfl).lt
        go_simp
        clear yq lq
        refine hK.out _ _ ((HD7.out.boxi 0 rfl).cell 0 (by simp)) (fun hSn => ?_)
        clear hK K hSw0
        have hSw0 := hSn
        clear hSn
        (try simp only [Act.put, List.setIfInBounds_toArray, List.set_cons_zero, List.set_cons_succ])
        refine wpAnyH_ready (rs := [5]) (by kernel_rfl) (by simp) ?_
        refine AllReadyH.cons (o := ⟨some 86, _, _, _, _, _⟩) rfl (fun K hK => ?_) AllReadyH.nil
        have hwf : (Lit.int .i64 (IntKind.i64.wrap (fl - (j : Int)))).wf = true := Go.wf_wrap .i64 _
        go_simp
        refine (fill_any (IntKind.i64.wrap (fl - (j : Int))) _ hwf).mono ?_
        rintro en va ⟨g7, rfl, hg7, ho7, hO⟩
        have hbw := HD7.out.only.size
        have HDa := Lib.hid (HD7.out.addFc hO (f := fun V => Bys V (some ⟨g7, 0, none⟩) 64 64 (fillB (IntKind.i64.wrap (fl - j)))) (Row1.fc (Row1.of_Own ho7 (by simp) (Nat.le_refl _) (by simp [maxLen])) (fun _ a ha => by injection ha with ha; subst ha; simp; omega)))
        have hgw : w.heap.size ≤ g7 := by omega
        clear hO ho7 hg7 hbw HD7
        refine hK.out _ _ ((HDa.out.boxi 0 rfl).cell 0 (by simp)) (fun hSn => ?_)
        clear hK K hSw0
        have hSw0 := hSn
        clear hSn
        (try simp only [Act.put, List.setIfInBounds_toArray, List.set_cons_zero, List.set_cons_succ])
        refine wpAnyH_ready (rs := [6]) (by kernel_rfl) (by simp) ?_
        refine AllReadyH.cons (o := ⟨some 87, _, _, _, _, _⟩) rfl (fun K hK => ?_) AllReadyH.nil
        go_simp
        have HDb := Lib.hid (HDa.out.alloc (.cells #[.slice (some ⟨g7, 0, none⟩) 64 64] 35))
        have hnr : Row1 (va.alloc (.cells #[.slice (some ⟨g7, 0, none⟩) 64 64] 35)) (some ⟨va.heap.size, 0, none⟩) 1 1 ([(some ⟨g7, 0, none⟩, 64, 64)].map slv) := Row1.of_Own (Own.new va #[.slice (some ⟨g7, 0, none⟩) 64 64] 35) rfl (Nat.le_refl _) (by simp [maxLen])
        have HNR2 := Lib.hid hnr
        clear hnr
        have hbw := HDb.out.only.size
        generalize hvz : va.heap.size = vz at *
        generalize hvb : va.alloc (.cells #[.slice (some ⟨g7, 0, none⟩) 64 64] 35) = vb at *
        clear hvb hvz
        refine hK.out _ _ ((HDb.out.boxi 0 rfl).cell 0 (by simp)) (fun hSn => ?_)
        clear hK K hSw0
        have hSw0 := hSn
        clear hSn
        (try simp only [Act.put, List.setIfInBounds_toArray, List.set_cons_zero, List.set_cons_succ])
        refine wpAnyH_ready (rs := [7]) (by kernel_rfl) (by simp) ?_
        refine AllReadyH.cons (o := ⟨some 88, _, _, _, _, _⟩) rfl (fun K hK => ?_) AllReadyH.nil
        refine step_append_row1 rfl (.tmp 82) (.tmp 87) 45 rfl w.heap.size 35 i1 _ 24 Try.underlying45 hi1 hy0 hy1 hy2 rfl (.slice A4 kk c4) kk (sl.map slv) rfl (HDb.out.gi 1 rfl) (some ⟨vz, 0, none⟩) 1 1 ([(some ⟨g7, 0, none⟩, 64, 64)].map slv) rfl HNR2.out (slv_one _) (by unfold maxLen; omega) (by omega) hbw ?_
        intro v' vd hown hgrow hat
        rw [← List.map_append] at hown
        have hdd := HDb.out.gapp 1 rfl hown hgrow hat
        obtain ⟨A8, c8, rfl⟩ := hdd.gform 1 rfl
        simp only [List.set_cons_zero, List.set_cons_succ] at hdd
        have HDd := Lib.hid hdd
        clear hdd hown hgrow hat
        refine hK.out _ _ ((HDd.out.boxi 0 rfl).cell 0 (by simp)) (fun hSn => ?_)
        clear hK K hSw0
        have hSw0 := hSn
        clear hSn
        (try simp only [Act.put, List.setIfInBounds_toArray, List.set_cons_zero, List.set_cons_succ])
        refine wpAnyH_take (i := 8) (oi := ⟨some 89, _, _, _, _, _⟩) (v := ?_) rfl (by kernel_rfl) (by kernel_rfl) (by kernel_rfl) (fun _ _ _ h => h) (Or.inl ⟨by rfl, ?_⟩) (by assumption) ?_
        rotate_left
        · intro w hSw
          (try dsimp only at hSw)
          go_simp
          all_goals (try with_reducible rfl)
        (try simp only [Act.put, List.setIfInBounds_toArray, List.set_cons_zero, List.set_cons_succ])
        refine wpAnyH_ready (rs := [9]) (by kernel_rfl) (by simp) ?_
        refine AllReadyH.cons (o := ⟨none, _, _, _, _, _⟩) rfl (fun K hK => ?_) AllReadyH.nil
        have yq := (HDd.out.boxi 0 rfl).cell 4 (by simp)
        simp only [List.getElem_cons_zero, List.getElem_cons_succ] at yq
        have lq := (HDd.out.boxi 0 rfl).lt
        have fq := (HDd.out.boxi 0 rfl).frozen 4
        go_simp
        have hdz := HDd.out.put 0 rfl 4 (.slice A8 (kk + 1) c8)
        simp only [List.set_cons_zero, List.set_cons_succ] at hdz
        have HDz := Lib.hid hdz
        clear hdz
        clear yq lq fq
        refine hK.out _ _ ((HDz.out.boxi 0 rfl).cell 0 (by simp)) (fun hSn => ?_)
        clear hK K hSw0
        have hSw0 := hSn
        clear hSn
        (try simp only [Act.put, List.setIfInBounds_toArray, List.set_cons_zero, List.set_cons_succ])
        refine wpAnyH_done (by kernel_rfl) ?_ _
        clear hSw0
        go_wp2_with fail
        go_roundg (gk - 1)
        case measure => omega
        case rel =>
          refine ⟨j + 1, A6, c6, A8, kk + 1, c8, sl ++ [(some ⟨g7, 0, none⟩, 64, 64)], by omega, by go_num, by omega, ?_, ?_⟩
          · intro s hs a ha
            rcases List.mem_append.1 hs with hs | hs
            · exact HFR.out s hs a ha
            · simp at hs
              subst hs
              injection ha with ha
              subst ha
              exact hgw
          · refine (HDz.out.fuse (f1 := fun V => Bys V (some ⟨g7, 0, none⟩) 64 64 (fillB (IntKind.i64.wrap (fl - j)))) (f2 := fun V => Bls V sl (mkBls zs fl j)) (f := fun V => Bls V (sl ++ [(some ⟨g7, 0, none⟩, 64, 64)]) (mkBls zs fl (j + 1))) (by simp) (by simp) (fun V h1 h2 => by rw [HBL.out]; exact h2.snoc h1)).sub (List.Sublist.refl _) ?_
            intro f1 hf1
            simp only [List.mem_cons, List.not_mem_nil, or_false] at hf1 ⊢
            rcases hf1 with rfl | rfl <;> simp
      refine AllReadyH.cons (o := ⟨some 86, _, _, _, _, _⟩) rfl (fun K hK => ?_) ?_
      · have hwf : (Lit.int .i64 (IntKind.i64.wrap (fl - (j : Int)))).wf = true := Go.wf_wrap .i64 _
        go_simp
        refine (fill_any (IntKind.i64.wrap (fl - (j : Int))) _ hwf).mono ?_
        rintro en va ⟨g7, rfl, hg7, ho7, hO⟩
        have hbw := HD7.out.only.size
        have HDa := Lib.hid (HD7.out.addFc hO (f := fun V => Bys V (some ⟨g7, 0, none⟩) 64 64 (fillB (IntKind.i64.wrap (fl - j)))) (Row1.fc (Row1.of_Own ho7 (by simp) (Nat.le_refl _) (by simp [maxLen])) (fun _ a ha => by injection ha with ha; subst ha; simp; omega)))
        have hgw : w.heap.size ≤ g7 := by omega
        clear hO ho7 hg7 hbw HD7
        refine hK.out _ _ ((HDa.out.boxi 0 rfl).cell 0 (by simp)) (fun hSn => ?_)
        clear hK K hSw0
        have hSw0 := hSn
        clear hSn
        (try simp only [Act.put, List.setIfInBounds_toArray, List.set_cons_zero, List.set_cons_succ])
        refine wpAnyH_ready (rs := [1, 6]) (by kernel_rfl) (by simp) ?_
        refine AllReadyH.cons (o := ⟨some 82, _, _, _, _, _⟩) rfl (fun K hK => ?_) ?_
        · have yq := (HDa.out.boxi 0 rfl).cell 4 (by simp)
          simp only [List.getElem_cons_zero, List.getElem_cons_succ] at yq
          have lq := (HDa.out.boxi 0 rfl).lt
          go_simp
          clear yq lq
          refine hK.out _ _ ((HDa.out.boxi 0 rfl).cell 0 (by simp)) (fun hSn => ?_)
          clear hK K hSw0
          have hSw0 := hSn
          clear hSn
          (try simp only [Act.put, List.setIfInBounds_toArray, List.set_cons_zero, List.set_cons_succ])
          refine wpAnyH_ready (rs := [6]) (by kernel_rfl) (by simp) ?_
          refine AllReadyH.cons (o := ⟨some 87, _, _, _, _, _⟩) rfl (fun K hK => ?_) AllReadyH.nil
          go_simp
          have HDb := Lib.hid (HDa.out.alloc (.cells #[.slice (some ⟨g7, 0, none⟩) 64 64] 35))
          have hnr : Row1 (va.alloc (.cells #[.slice (some ⟨g7, 0, none⟩) 64 64] 35)) (some ⟨va.heap.size, 0, none⟩) 1 1 ([(some ⟨g7, 0, none⟩, 64, 64)].map slv) := Row1.of_Own (Own.new va #[.slice (some ⟨g7, 0, none⟩) 64 64] 35) rfl (Nat.le_refl _) (by simp [maxLen])
          have HNR2 := Lib.hid hnr
          clear hnr
          have hbw := HDb.out.only.size
          generalize hvz : va.heap.size = vz at *
          generalize hvb : va.alloc (.cells #[.slice (some ⟨g7, 0, none⟩) 64 64] 35) = vb at *
          clear hvb hvz
          refine hK.out _ _ ((HDb.out.boxi 0 rfl).cell 0 (by simp)) (fun hSn => ?_)
          clear hK K hSw0
          have hSw0 := hSn
          clear hSn
          (try simp only [Act.put, List.setIfInBounds_toArray, List.set_cons_zero, List.set_cons_succ])
          refine wpAnyH_ready (rs := [7]) (by kernel_rfl) (by simp) ?_
          refine AllReadyH.cons (o := ⟨some 88, _, _, _, _, _⟩) rfl (fun K hK => ?_) AllReadyH.nil
          refine step_append_row1 rfl (.tmp 82) (.tmp 87) 45 rfl w.heap.size 35 i1 _ 24 Try.underlying45 hi1 hy0 hy1 hy2 rfl (.slice A4 kk c4) kk (sl.map slv) rfl (HDb.out.gi 1 rfl) (some ⟨vz, 0, none⟩) 1 1 ([(some ⟨g7, 0, none⟩, 64, 64)].map slv) rfl HNR2.out (slv_one _) (by unfold maxLen; omega) (by omega) hbw ?_
          intro v' vd hown hgrow hat
          rw [← List.map_append] at hown
          have hdd := HDb.out.gapp 1 rfl hown hgrow hat
          obtain ⟨A8, c8, rfl⟩ := hdd.gform 1 rfl
          simp only [List.set_cons_zero, List.set_cons_succ] at hdd
          have HDd := Lib.hid hdd
          clear hdd hown hgrow hat
          refine hK.out _ _ ((HDd.out.boxi 0 rfl).cell 0 (by simp)) (fun hSn => ?_)
          clear hK K hSw0
          have hSw0 := hSn
          clear hSn
          (try simp only [Act.put, List.setIfInBounds_toArray, List.set_cons_zero, List.set_cons_succ])
          refine wpAnyH_take (i := 8) (oi := ⟨some 89, _, _, _, _, _⟩) (v := ?_) rfl (by kernel_rfl) (by kernel_rfl) (by kernel_rfl) (fun _ _ _ h => h) (Or.inl ⟨by rfl, ?_⟩) (by assumption) ?_
          rotate_left
          · intro w hSw
            (try dsimp only at hSw)
            go_simp
            all_goals (try with_reducible rfl)
          (try simp only [Act.put, List.setIfInBounds_toArray, List.set_cons_zero, List.set_cons_succ])
          refine wpAnyH_ready (rs := [9]) (by kernel_rfl) (by simp) ?_
          refine AllReadyH.cons (o := ⟨none, _, _, _, _, _⟩) rfl (fun K hK => ?_) AllReadyH.nil
          have yq := (HDd.out.boxi 0 rfl).cell 4 (by simp)
          simp only [List.getElem_cons_zero, List.getElem_cons_succ] at yq
          have lq := (HDd.out.boxi 0 rfl).lt
          have fq := (HDd.out.boxi 0 rfl).frozen 4
          go_simp
          have hdz := HDd.out.put 0 rfl 4 (.slice A8 (kk + 1) c8)
          simp only [List.set_cons_zero, List.set_cons_succ] at hdz
          have HDz := Lib.hid hdz
          clear hdz
          clear yq lq fq
          refine hK.out _ _ ((HDz.out.boxi 0 rfl).cell 0 (by simp)) (fun hSn => ?_)
          clear hK K hSw0
          have hSw0 := hSn
          clear hSn
          (try simp only [Act.put, List.setIfInBounds_toArray, List.set_cons_zero, List.set_cons_succ])
          refine wpAnyH_done (by kernel_rfl) ?_ _
          clear hSw0
          go_wp2_with fail
          go_roundg (gk - 1)
          case measure => omega
          case rel =>
            refine ⟨j + 1, A6, c6, A8, kk + 1, c8, sl ++ [(some ⟨g7, 0, none⟩, 64, 64)], by omega, by go_num, by omega, ?_, ?_⟩
            · intro s hs a ha
              rcases List.mem_append.1 hs with hs | hs
              · exact HFR.out s hs a ha
              · simp at hs
                subst hs
                injection ha with ha
                subst ha
                exact hgw
            · refine (HDz.out.fuse (f1 := fun V => Bys V (some ⟨g7, 0, none⟩) 64 64 (fillB (IntKind.i64.wrap (fl - j)))) (f2 := fun V => Bls V sl (mkBls zs fl j)) (f := fun V => Bls V (sl ++ [(some ⟨g7, 0, none⟩, 64, 64)]) (mkBls zs fl (j + 1))) (by simp) (by simp) (fun V h1 h2 => by rw [HBL.out]; exact h2.snoc h1)).sub (List.Sublist.refl _) ?_
              intro f1 hf1
              simp only [List.mem_cons, List.not_mem_nil, or_false] at hf1 ⊢
              rcases hf1 with rfl | rfl <;> simp
        refine AllReadyH.cons (o := ⟨some 87, _, _, _, _, _⟩) rfl (fun K hK => ?_) ?_
        · go_simp
          have HDb := Lib.hid (HDa.out.alloc (.cells #[.slice (some ⟨g7, 0, none⟩) 64 64] 35))
          have hnr : Row1 (va.alloc (.cells #[.slice (some ⟨g7, 0, none⟩) 64 64] 35)) (some ⟨va.heap.size, 0, none⟩) 1 1 ([(some ⟨g7, 0, none⟩, 64, 64)].map slv) := Row1.of_Own (Own.new va #[.slice (some ⟨g7, 0, none⟩) 64 64] 35) rfl (Nat.le_refl _) (by simp [maxLen])
          have HNR2 := Lib.hid hnr
          clear hnr
          have hbw := HDb.out.only.size
          generalize hvz : va.heap.size = vz at *
          generalize hvb : va.alloc (.cells #[.slice (some ⟨g7, 0, none⟩) 64 64] 35) = vb at *
          clear hvb hvz
          refine hK.out _ _ ((HDb.out.boxi 0 rfl).cell 0 (by simp)) (fun hSn => ?_)
          clear hK K hSw0
          have hSw0 := hSn
          clear hSn
          (try simp only [Act.put, List.setIfInBounds_toArray, List.set_cons_zero, List.set_cons_succ])
          refine wpAnyH_ready (rs := [1]) (by kernel_rfl) (by simp) ?_
          refine AllReadyH.cons (o := ⟨some 82, _, _, _, _, _⟩) rfl (fun K hK => ?_) AllReadyH.nil
          have yq := (HDb.out.boxi 0 rfl).cell 4 (by simp)
          simp only [List.getElem_cons_zero, List.getElem_cons_succ] at yq
          have lq := (HDb.out.boxi 0 rfl).lt
          go_simp
          clear yq lq
          refine hK.out _ _ ((HDb.out.boxi 0 rfl).cell 0 (by simp)) (fun hSn => ?_)
          clear hK K hSw0
          have hSw0 := hSn
          clear hSn
          (try simp only [Act.put, List.setIfInBounds_toArray, List.set_cons_zero, List.set_cons_succ])
          refine wpAnyH_ready (rs := [7]) (by kernel_rfl) (by simp) ?_
          refine AllReadyH.cons (o := ⟨some 88, _, _, _, _, _⟩) rfl (fun K hK => ?_) AllReadyH.nil
          refine step_append_row1 rfl (.tmp 82) (.tmp 87) 45 rfl w.heap.size 35 i1 _ 24 Try.underlying45 hi1 hy0 hy1 hy2 rfl (.slice A4 kk c4) kk (sl.map slv) rfl (HDb.out.gi 1 rfl) (some ⟨vz, 0, none⟩) 1 1 ([(some ⟨g7, 0, none⟩, 64, 64)].map slv) rfl HNR2.out (slv_one _) (by unfold maxLen; omega) (by omega) hbw ?_
          intro v' vd hown hgrow hat
          rw [← List.map_append] at hown
          have hdd := HDb.out.gapp 1 rfl hown hgrow hat
          obtain ⟨A8, c8, rfl⟩ := hdd.gform 1 rfl
          simp only [List.set_cons_zero, List.set_cons_succ] at hdd
          have HDd := Lib.hid hdd
          clear hdd hown hgrow hat
          refine hK.out _ _ ((HDd.out.boxi 0 rfl).cell 0 (by simp)) (fun hSn => ?_)
          clear hK K hSw0
          have hSw0 := hSn
          clear hSn
          (try simp only [Act.put, List.setIfInBounds_toArray, List.set_cons_zero, List.set_cons_succ])
          refine wpAnyH_take (i := 8) (oi := ⟨some 89, _, _, _, _, _⟩) (v := ?_) rfl (by kernel_rfl) (by kernel_rfl) (by kernel_rfl) (fun _ _ _ h => h) (Or.inl ⟨by rfl, ?_⟩) (by assumption) ?_
          rotate_left
          · intro w hSw
            (try dsimp only at hSw)
            go_simp
            all_goals (try with_reducible rfl)
          (try simp only [Act.put, List.setIfInBounds_toArray, List.set_cons_zero, List.set_cons_succ])
          refine wpAnyH_ready (rs := [9]) (by kernel_rfl) (by simp) ?_
          refine AllReadyH.cons (o := ⟨none, _, _, _, _, _⟩) rfl (fun K hK => ?_) AllReadyH.nil
          have yq := (HDd.out.boxi 0 rfl).cell 4 (by simp)
          simp only [List.getElem_cons_zero, List.getElem_cons_succ] at yq
          have lq := (HDd.out.boxi 0 rfl).lt
          have fq := (HDd.out.boxi 0 rfl).frozen 4
          go_simp
          have hdz := HDd.out.put 0 rfl 4 (.slice A8 (kk + 1) c8)
          simp only [List.set_cons_zero, List.set_cons_succ] at hdz
          have HDz := Lib.hid hdz
          clear hdz
          clear yq lq fq
          refine hK.out _ _ ((HDz.out.boxi 0 rfl).cell 0 (by simp)) (fun hSn => ?_)
          clear hK K hSw0
          have hSw0 := hSn
          clear hSn
          (try simp only [Act.put, List.setIfInBounds_toArray, List.set_cons_zero, List.set_cons_succ])
          refine wpAnyH_done (by kernel_rfl) ?_ _
          clear hSw0
          go_wp2_with fail
          go_roundg (gk - 1)
          case measure => omega
          case rel =>
            refine ⟨j + 1, A6, c6, A8, kk + 1, c8, sl ++ [(some ⟨g7, 0, none⟩, 64, 64)], by omega, by go_num, by omega, ?_, ?_⟩
            · intro s hs a ha
              rcases List.mem_append.1 hs with hs | hs
              · exact HFR.out s hs a ha
              · simp at hs
                subst hs
                injection ha with ha
                subst ha
                exact hgw
            · refine (HDz.out.fuse (f1 := fun V => Bys V (some ⟨g7, 0, none⟩) 64 64 (fillB (IntKind.i64.wrap (fl - j)))) (f2 := fun V => Bls V sl (mkBls zs fl j)) (f := fun V => Bls V (sl ++ [(some ⟨g7, 0, none⟩, 64, 64)]) (mkBls zs fl (j + 1))) (by simp) (by simp) (fun V h1 h2 => by rw [HBL.out]; exact h2.snoc h1)).sub (List.Sublist.refl _) ?_
              intro f1 hf1
              simp only [List.mem_cons, List.not_mem_nil, or_false] at hf1 ⊢
              rcases hf1 with rfl | rfl <;> simp
        exact AllReadyH.nil
      exact AllReadyH.nil
    · rw [hk]
      have hit : mkIt z j = ⟨5, j, 0, 0⟩ := by unfold mkIt; simp [hk]
      have HIT := Lib.hid (mkIts_succ HZ.out hit)
      have hbl : mkBl z fl j = [List.replicate 64 0] := by unfold mkBl; simp [hk]
      have HBL := Lib.hid (mkBls_succ HZ.out hbl)
      clear hk hit hbl HZ
      obtain ⟨zz, hzz⟩ : ∃ x : List UInt8, List.replicate 64 0 = x := ⟨_, rfl⟩
      have hzl := List.length_replicate (n := 64) (a := (0 : UInt8))
      have hmk : ∀ w : World, (Instr.makeSlice 35 (.int .i64 64) (.int .i64 64)).run Try.prog w = .ok (.slice (some ⟨w.heap.size, 0, none⟩) 64 64) (w.alloc (.cells (bvs (List.replicate 64 0)).toArray 5)) := make_bys 64 (by decide)
      rw [hzz] at hzl
      simp only [hzz] at hmk HBL
      have HMK := Lib.hid hmk
      clear hzz hmk
      have HD4 := Lib.hid (HD3.out.alloc (.cells #[.int .i64 5, .int .i64 (j : Int), .int .i64 0, .int .i64 0] 87))
      have hnw := news_new wr #[.int .i64 5, .int .i64 (j : Int), .int .i64 0, .int .i64 0] 87 (by simp [maxLen])
      have hone := itsV_one [⟨5, j, 0, 0⟩]
      have hbs := HD4.out.only.size
      have yb := HD3.out.boxi 0 rfl
      have y0 := yb.cell 0 (by simp)
      have y1 := yb.cell 1 (by simp)
      have y2 := yb.cell 2 (by simp)
      have y3 := yb.cell 3 (by simp)
      have y4 := yb.cell 4 (by simp)
      simp only [List.getElem_cons_zero, List.getElem_cons_succ] at y0 y1 y2 y3 y4
      have yl := yb.lt
      have f3 := yb.frozen 3
      have f4 := yb.frozen 4
      go_wp2_with (first
        | (at_builtin; refine wpList_append_own_at _ rfl (.tmp 93) (.tmp 96) 44 rfl w.heap.size 87 i0 _ 4 32 Try.underlying44 hi0 hz0 hz1 hz2 rfl (by decide) (.slice A3 j c3) j (itsV (mkIts zs j)) rfl (HD4.out.gi 0 rfl) ⟨wr.heap.size, 0, none⟩ 1 1 (itsV [⟨5, j, 0, 0⟩]) rfl rfl hnw hone (by unfold maxLen; omega) (by omega) hbs ?_; intro v5 w5 hown hgrow _ hat; rw [HIT.out] at hown; have hdd := HD4.out.gapp 0 rfl hown hgrow hat; obtain ⟨A6, c6, rfl⟩ := hdd.gform 0 rfl; simp only [List.set_cons_zero, List.set_cons_succ] at hdd; have hd6 := hdd.put 0 rfl 3 (.slice A6 (j + 1) c6); simp only [List.set_cons_zero, List.set_cons_succ] at hd6; have HD5 := Lib.hid hdd; have HD6 := Lib.hid hd6; clear hd6; clear yb y0 y1 y2 y3 y4 yl f3 f4; clear hdd hown hgrow hat hnw hone hbs HD4; have yb := HD5.out.boxi 0 rfl; have y0 := yb.cell 0 (by simp); have y1 := yb.cell 1 (by simp); have y2 := yb.cell 2 (by simp); have y3 := yb.cell 3 (by simp); have y4 := yb.cell 4 (by simp); simp only [List.getElem_cons_zero, List.getElem_cons_succ] at y0 y1 y2 y3 y4; have yl := yb.lt; have f3 := yb.frozen 3; have f4 := yb.frozen 4)
        | fail)
      clear yb y0 y1 y2 y3 y4 yl f3 f4
      have HD7 := Lib.hid HD6.out.drew
      clear HD6 HD5 HD3
      refine wp_region_held_drew (S := fun w' => w'.cell? ⟨fb, 0, none⟩ = some (.int .i64 (1 + rm))) (by kernel_rfl) ((HD7.out.boxi 0 rfl).cell 0 (by simp)) (fun hSw0 => ?_)
      generalize (w5.setCell ⟨fb, 3, none⟩ (.slice A6 (j + 1) c6)).drew = ws at *
      refine wpAnyH_take (i := 0) (oi := ⟨some 99, _, _, _, _, _⟩) (v := ?_) rfl (by kernel_rfl) (by kernel_rfl) (by kernel_rfl) (fun _ _ _ h => h) (Or.inl ⟨by rfl, ?_⟩) (by assumption) ?_
      rotate_left
      · intro w hSw
        (try dsimp only at hSw)
        go_simp
        all_goals (try with_reducible rfl)
      (try simp only [Act.put, List.setIfInBounds_toArray, List.set_cons_zero, List.set_cons_succ])
      refine wpAnyH_ready (rs := [1, 2]) (by kernel_rfl) (by simp) ?_
      refine AllReadyH.cons (o := ⟨some 100, _, _, _, _, _⟩) rfl (fun K hK => ?_) ?_
      · have yq := (HD7.out.boxi 0 rfl).cell 4 (by simp)
        simp only [List.getElem_cons_zero, List.getElem_cons_succ] at yq
        have lq := (HD7.out.boxi 0 rfl).lt
        go_simp
        clear yq lq
        refine hK.out _ _ ((HD7.out.boxi 0 rfl).cell 0 (by simp)) (fun hSn => ?_)
        clear hK K hSw0
        have hSw0 := hSn
        clear hSn
        (try simp only [Act.put, List.setIfInBounds_toArray, List.set_cons_zero, List.set_cons_succ])
        refine wpAnyH_ready (rs := [2]) (by kernel_rfl) (by simp) ?_
        refine AllReadyH.cons (o := ⟨some 101, _, _, _, _, _⟩) rfl (fun K hK => ?_) AllReadyH.nil
        have hmk := HMK.out
        go_simp
        clear hmk
        have hbw := HD7.out.only.size
        have ho7 := Own.new ws (bvs zz).toArray 5
        have HDa := Lib.hid (HD7.out.addFc ((Only.refl [] ws).alloc (.cells (bvs zz).toArray 5)) (f := fun V => Bys V (some ⟨ws.heap.size, 0, none⟩) 64 64 zz) (Row1.fc (Row1.of_Own ho7 (by simp [hzl]) (Nat.le_refl _) (by simp [maxLen])) (fun _ a ha => by injection ha with ha; subst ha; simp)))
        obtain ⟨g7, hg7⟩ : ∃ g, ws.heap.size = g := ⟨_, rfl⟩
        have hgw : w.heap.size ≤ g7 := by omega
        clear ho7 hbw
        rw [hg7] at HDa ⊢
        clear hg7
        generalize ws.alloc (.cells (bvs zz).toArray 5) = va at *
        clear HD7
        refine hK.out _ _ ((HDa.out.boxi 0 rfl).cell 0 (by simp)) (fun hSn => ?_)
        clear hK K hSw0
        have hSw0 := hSn
        clear hSn
        (try simp only [Act.put, List.setIfInBounds_toArray, List.set_cons_zero, List.set_cons_succ])
        refine wpAnyH_ready (rs := [3]) (by kernel_rfl) (by simp) ?_
        refine AllReadyH.cons (o := ⟨some 102, _, _, _, _, _⟩) rfl (fun K hK => ?_) AllReadyH.nil
        go_simp
        have HDb := Lib.hid (HDa.out.alloc (.cells #[.slice (some ⟨g7, 0, none⟩) 64 64] 35))
        have hnr : Row1 (va.alloc (.cells #[.slice (some ⟨g7, 0, none⟩) 64 64] 35)) (some ⟨va.heap.size, 0, none⟩) 1 1 ([(some ⟨g7, 0, none⟩, 64, 64)].map slv) := Row1.of_Own (Own.new va #[.slice (some ⟨g7, 0, none⟩) 64 64] 35) rfl (Nat.le_refl _) (by simp [maxLen])
        have HNR2 := Lib.hid hnr
        clear hnr
        have hbw := HDb.out.only.size
        generalize hvz : va.heap.size = vz at *
        generalize hvb : va.alloc (.cells #[.slice (some ⟨g7, 0, none⟩) 64 64] 35) = vb at *
        clear hvb hvz
        refine hK.out _ _ ((HDb.out.boxi 0 rfl).cell 0 (by simp)) (fun hSn => ?_)
        clear hK K hSw0
        have hSw0 := hSn
        clear hSn
        (try simp only [Act.put, List.setIfInBounds_toArray, List.set_cons_zero, List.set_cons_succ])
        refine wpAnyH_ready (rs := [4]) (by kernel_rfl) (by simp) ?_
        refine AllReadyH.cons (o := ⟨some 103, _, _, _, _, _⟩) rfl (fun K hK => ?_) AllReadyH.nil
        refine step_append_row1 rfl (.tmp 100) (.tmp 102) 45 rfl w.heap.size 35 i1 _ 24 Try.underlying45 hi1 hy0 hy1 hy2 rfl (.slice A4 kk c4) kk (sl.map slv) rfl (HDb.out.gi 1 rfl) (some ⟨vz, 0, none⟩) 1 1 ([(some ⟨g7, 0, none⟩, 64, 64)].map slv) rfl HNR2.out (slv_one _) (by unfold maxLen; omega) (by omega) hbw ?_
        intro v' vd hown hgrow hat
        rw [← List.map_append] at hown
        have hdd := HDb.out.gapp 1 rfl hown hgrow hat
        obtain ⟨A8, c8, rfl⟩ := hdd.gform 1 rfl
        simp only [List.set_cons_zero, List.set_cons_succ] at hdd
        have HDd := Lib.hid hdd
        clear hdd hown hgrow hat
        refine hK.out _ _ ((HDd.out.boxi 0 rfl).cell 0 (by simp)) (fun hSn => ?_)
        clear hK K hSw0
        have hSw0 := hSn
        clear hSn
        (try simp only [Act.put, List.setIfInBounds_toArray, List.set_cons_zero, List.set_cons_succ])
        refine wpAnyH_take (i := 5) (oi := ⟨some 104, _, _, _, _, _⟩) (v := ?_) rfl (by kernel_rfl) (by kernel_rfl) (by kernel_rfl) (fun _ _ _ h => h) (Or.inl ⟨by rfl, ?_⟩) (by assumption) ?_
        rotate_left
        · intro w hSw
          (try dsimp only at hSw)
          go_simp
          all_goals (try with_reducible rfl)
        (try simp only [Act.put, List.setIfInBounds_toArray, List.set_cons_zero, List.set_cons_succ])
        refine wpAnyH_ready (rs := [6]) (by kernel_rfl) (by simp) ?_
        refine AllReadyH.cons (o := ⟨none, _, _, _, _, _⟩) rfl (fun K hK => ?_) AllReadyH.nil
        have yq := (HDd.out.boxi 0 rfl).cell 4 (by simp)
        simp only [List.getElem_cons_zero, List.getElem_cons_succ] at yq
        have lq := (HDd.out.boxi 0 rfl).lt
        have fq := (HDd.out.boxi 0 rfl).frozen 4
        go_simp
        have hdz := HDd.out.put 0 rfl 4 (.slice A8 (kk + 1) c8)
        simp only [List.set_cons_zero, List.set_cons_succ] at hdz
        have HDz := Lib.hid hdz
        clear hdz
        clear yq lq fq
        refine hK.out _ _ ((HDz.out.boxi 0 rfl).cell 0 (by simp)) (fun hSn => ?_)
        clear hK K hSw0
        have hSw0 := hSn
        clear hSn
        (try simp only [Act.put, List.setIfInBounds_toArray, List.set_cons_zero, List.set_cons_succ])
        refine wpAnyH_done (by kernel_rfl) ?_ _
        clear hSw0
        go_wp2_with fail
        go_roundg (gk - 1)
        case measure => omega
        case rel =>
          refine ⟨j + 1, A6, c6, A8, kk + 1, c8, sl ++ [(some ⟨g7, 0, none⟩, 64, 64)], by omega, by go_num, by omega, ?_, ?_⟩
          · intro s hs a ha
            rcases List.mem_append.1 hs with hs | hs
            · exact HFR.out s hs a ha
            · simp at hs
              subst hs
              injection ha with ha
              subst ha
              exact hgw
          · refine (HDz.out.fuse (f1 := fun V => Bys V (some ⟨g7, 0, none⟩) 64 64 (zz)) (f2 := fun V => Bls V sl (mkBls zs fl j)) (f := fun V => Bls V (sl ++ [(some ⟨g7, 0, none⟩, 64, 64)]) (mkBls zs fl (j + 1))) (by simp) (by simp) (fun V h1 h2 => by rw [HBL.out]; exact h2.snoc h1)).sub (List.Sublist.refl _) ?_
            intro f1 hf1
            simp only [List.mem_cons, List.not_mem_nil, or_false] at hf1 ⊢
            rcases hf1 with rfl | rfl <;> simp
      refine AllReadyH.cons (o := ⟨some 101, _, _, _, _, _⟩) rfl (fun K hK => ?_) ?_
      · have hmk := HMK.out
        go_simp
        clear hmk
        have hbw := HD7.out.only.size
        have ho7 := Own.new ws (bvs zz).toArray 5
        have HDa := Lib.hid (HD7.out.addFc ((Only.refl [] ws).alloc (.cells (bvs zz).toArray 5)) (f := fun V => Bys V (some ⟨ws.heap.size, 0, none⟩) 64 64 zz) (Row1.fc (Row1.of_Own ho7 (by simp [hzl]) (Nat.le_refl _) (by simp [maxLen])) (fun _ a ha => by injection ha with ha; subst ha; simp)))
        obtain ⟨g7, hg7⟩ : ∃ g, ws.heap.size = g := ⟨_, rfl⟩
        have hgw : w.heap.size ≤ g7 := by omega
        clear ho7 hbw
        rw [hg7] at HDa ⊢
        clear hg7
        generalize ws.alloc (.cells (bvs zz).toArray 5) = va at *
        clear HD7
        refine hK.out _ _ ((HDa.out.boxi 0 rfl).cell 0 (by simp)) (fun hSn => ?_)
        clear hK K hSw0
        have hSw0 := hSn
        clear hSn
        (try simp only [Act.put, List.setIfInBounds_toArray, List.set_cons_zero, List.set_cons_succ])
        refine wpAnyH_ready (rs := [1, 3]) (by kernel_rfl) (by simp) ?_
        refine AllReadyH.cons (o := ⟨some 100, _, _, _, _, _⟩) rfl (fun K hK => ?_) ?_
        · have yq := (HDa.out.boxi 0 rfl).cell 4 (by simp)
          simp only [List.getElem_cons_zero, List.getElem_cons_succ] at yq
          have lq := (HDa.out.boxi 0 rfl).lt
          go_simp
          clear yq lq
          refine hK.out _ _ ((HDa.out.boxi 0 rfl).cell 0 (by simp)) (fun hSn => ?_)
          clear hK K hSw0
          have hSw0 := hSn
          clear hSn
          (try simp only [Act.put, List.setIfInBounds_toArray, List.set_cons_zero, List.set_cons_succ])
          refine wpAnyH_ready (rs := [3]) (by kernel_rfl) (by simp) ?_
          refine AllReadyH.cons (o := ⟨some 102, _, _, _, _, _⟩) rfl (fun K hK => ?_) AllReadyH.nil
          go_simp
          have HDb := Lib.hid (HDa.out.alloc (.cells #[.slice (some ⟨g7, 0, none⟩) 64 64] 35))
          have hnr : Row1 (va.alloc (.cells #[.slice (some ⟨g7, 0, none⟩) 64 64] 35)) (some ⟨va.heap.size, 0, none⟩) 1 1 ([(some ⟨g7, 0, none⟩, 64, 64)].map slv) := Row1.of_Own (Own.new va #[.slice (some ⟨g7, 0, none⟩) 64 64] 35) rfl (Nat.le_refl _) (by simp [maxLen])
          have HNR2 := Lib.hid hnr
          clear hnr
          have hbw := HDb.out.only.size
          generalize hvz : va.heap.size = vz at *
          generalize hvb : va.alloc (.cells #[.slice (some ⟨g7, 0, none⟩) 64 64] 35) = vb at *
          clear hvb hvz
          refine hK.out _ _ ((HDb.out.boxi 0 rfl).cell 0 (by simp)) (fun hSn => ?_)
          clear hK K hSw0
          have hSw0 := hSn
          clear hSn
          (try simp only [Act.put, List.setIfInBounds_toArray, List.set_cons_zero, List.set_cons_succ])
          refine wpAnyH_ready (rs := [4]) (by kernel_rfl) (by simp) ?_
          refine AllReadyH.cons (o := ⟨some 103, _, _, _, _, _⟩) rfl (fun K hK => ?_) AllReadyH.nil
          refine step_append_row1 rfl (.tmp 100) (.tmp 102) 45 rfl w.heap.size 35 i1 _ 24 Try.underlying45 hi1 hy0 hy1 hy2 rfl (.slice A4 kk c4) kk (sl.map slv) rfl (HDb.out.gi 1 rfl) (some ⟨vz, 0, none⟩) 1 1 ([(some ⟨g7, 0, none⟩, 64, 64)].map slv) rfl HNR2.out (slv_one _) (by unfold maxLen; omega) (by omega) hbw ?_
          intro v' vd hown hgrow hat
          rw [← List.map_append] at hown
          have hdd := HDb.out.gapp 1 rfl hown hgrow hat
          obtain ⟨A8, c8, rfl⟩ := hdd.gform 1 rfl
          simp only [List.set_cons_zero, List.set_cons_succ] at hdd
          have HDd := Lib.hid hdd
          clear hdd hown hgrow hat
          refine hK.out _ _ ((HDd.out.boxi 0 rfl).cell 0 (by simp)) (fun hSn => ?_)
          clear hK K hSw0
          have hSw0 := hSn
          clear hSn
          (try simp only [Act.put, List.setIfInBounds_toArray, List.set_cons_zero, List.set_cons_succ])
          refine wpAnyH_take (i := 5) (oi := ⟨some 104, _, _, _, _, _⟩) (v := ?_) rfl (by kernel_rfl) (by kernel_rfl) (by kernel_rfl) (fun _ _ _ h => h) (Or.inl ⟨by rfl, ?_⟩) (by assumption) ?_
          rotate_left
          · intro w hSw
            (try dsimp only at hSw)
            go_simp
            all_goals (try with_reducible rfl)
          (try simp only [Act.put, List.setIfInBounds_toArray, List.set_cons_zero, List.set_cons_succ])
          refine wpAnyH_ready (rs := [6]) (by kernel_rfl) (by simp) ?_
          refine AllReadyH.cons (o := ⟨none, _, _, _, _, _⟩) rfl (fun K hK => ?_) AllReadyH.nil
          have yq := (HDd.out.boxi 0 rfl).cell 4 (by simp)
          simp only [List.getElem_cons_zero, List.getElem_cons_succ] at yq
          have lq := (HDd.out.boxi 0 rfl).lt
          have fq := (HDd.out.boxi 0 rfl).frozen 4
          go_simp
          have hdz := HDd.out.put 0 rfl 4 (.slice A8 (kk + 1) c8)
          simp only [List.set_cons_zero, List.set_cons_succ] at hdz
          have HDz := Lib.hid hdz
          clear hdz
          clear yq lq fq
          refine hK.out _ _ ((HDz.out.boxi 0 rfl).cell 0 (by simp)) (fun hSn => ?_)
          clear hK K hSw0
          have hSw0 := hSn
          clear hSn
          (try simp only [Act.put, List.setIfInBounds_toArray, List.set_cons_zero, List.set_cons_succ])
          refine wpAnyH_done (by kernel_rfl) ?_ _
          clear hSw0
          go_wp2_with fail
          go_roundg (gk - 1)
          case measure => omega
          case rel =>
            refine ⟨j + 1, A6, c6, A8, kk + 1, c8, sl ++ [(some ⟨g7, 0, none⟩, 64, 64)], by omega, by go_num, by omega, ?_, ?_⟩
            · intro s hs a ha
              rcases List.mem_append.1 hs with hs | hs
              · exact HFR.out s hs a ha
              · simp at hs
                subst hs
                injection ha with ha
                subst ha
                exact hgw
            · refine (HDz.out.fuse (f1 := fun V => Bys V (some ⟨g7, 0, none⟩) 64 64 (zz)) (f2 := fun V => Bls V sl (mkBls zs fl j)) (f := fun V => Bls V (sl ++ [(some ⟨g7, 0, none⟩, 64, 64)]) (mkBls zs fl (j + 1))) (by simp) (by simp) (fun V h1 h2 => by rw [HBL.out]; exact h2.snoc h1)).sub (List.Sublist.refl _) ?_
              intro f1 hf1
              simp only [List.mem_cons, List.not_mem_nil, or_false] at hf1 ⊢
              rcases hf1 with rfl | rfl <;> simp
        refine AllReadyH.cons (o := ⟨some 102, _, _, _, _, _⟩) rfl (fun K hK => ?_) ?_
        · go_simp
          have HDb := Lib.hid (HDa.out.alloc (.cells #[.slice (some ⟨g7, 0, none⟩) 64 64] 35))
          have hnr : Row1 (va.alloc (.cells #[.slice (some ⟨g7, 0, none⟩) 64 64] 35)) (some ⟨va.heap.size, 0, none⟩) 1 1 ([(some ⟨g7, 0, none⟩, 64, 64)].map slv) := Row1.of_Own (Own.new va #[.slice (some ⟨g7, 0, none⟩) 64 64] 35) rfl (Nat.le_refl _) (by simp [maxLen])
          have HNR2 := Lib.hid hnr
          clear hnr
          have hbw := HDb.out.only.size
          generalize hvz : va.heap.size = vz at *
          generalize hvb : va.alloc (.cells #[.slice (some ⟨g7, 0, none⟩) 64 64] 35) = vb at *
          clear hvb hvz
          refine hK.out _ _ ((HDb.out.boxi 0 rfl).cell 0 (by simp)) (fun hSn => ?_)
          clear hK K hSw0
          have hSw0 := hSn
          clear hSn
          (try simp only [Act.put, List.setIfInBounds_toArray, List.set_cons_zero, List.set_cons_succ])
          refine wpAnyH_ready (rs := [1]) (by kernel_rfl) (by simp) ?_
          refine AllReadyH.cons (o := ⟨some 100, _, _, _, _, _⟩) rfl (fun K hK => ?_) AllReadyH.nil
          have yq := (HDb.out.boxi 0 rfl).cell 4 (by simp)
          simp only [List.getElem_cons_zero, List.getElem_cons_succ] at yq
          have lq := (HDb.out.boxi 0 rfl).lt
          go_simp
          clear yq lq
          refine hK.out _ _ ((HDb.out.boxi 0 rfl).cell 0 (by simp)) (fun hSn => ?_)
          clear hK K hSw0
          have hSw0 := hSn
          clear hSn
          (try simp only [Act.put, List.setIfInBounds_toArray, List.set_cons_zero, List.set_cons_succ])
          refine wpAnyH_ready (rs := [4]) (by kernel_rfl) (by simp) ?_
          refine AllReadyH.cons (o := ⟨some 103, _, _, _, _, _⟩) rfl (fun K hK => ?_) AllReadyH.nil
          refine step_append_row1 rfl (.tmp 100) (.tmp 102) 45 rfl w.heap.size 35 i1 _ 24 Try.underlying45 hi1 hy0 hy1 hy2 rfl (.slice A4 kk c4) kk (sl.map slv) rfl (HDb.out.gi 1 rfl) (some ⟨vz, 0, none⟩) 1 1 ([(some ⟨g7, 0, none⟩, 64, 64)].map slv) rfl HNR2.out (slv_one _) (by unfold maxLen; omega) (by omega) hbw ?_
          intro v' vd hown hgrow hat
          rw [← List.map_append] at hown
          have hdd := HDb.out.gapp 1 rfl hown hgrow hat
          obtain ⟨A8, c8, rfl⟩ := hdd.gform 1 rfl
          simp only [List.set_cons_zero, List.set_cons_succ] at hdd
          have HDd := Lib.hid hdd
          clear hdd hown hgrow hat
          refine hK.out _ _ ((HDd.out.boxi 0 rfl).cell 0 (by simp)) (fun hSn => ?_)
          clear hK K hSw0
          have hSw0 := hSn
          clear hSn
          (try simp only [Act.put, List.setIfInBounds_toArray, List.set_cons_zero, List.set_cons_succ])
          refine wpAnyH_take (i := 5) (oi := ⟨some 104, _, _, _, _, _⟩) (v := ?_) rfl (by kernel_rfl) (by kernel_rfl) (by kernel_rfl) (fun _ _ _ h => h) (Or.inl ⟨by rfl, ?_⟩) (by assumption) ?_
          rotate_left
          · intro w hSw
            (try dsimp only at hSw)
            go_simp
            all_goals (try with_reducible rfl)
          (try simp only [Act.put, List.setIfInBounds_toArray, List.set_cons_zero, List.set_cons_succ])
          refine wpAnyH_ready (rs := [6]) (by kernel_rfl) (by simp) ?_
          refine AllReadyH.cons (o := ⟨none, _, _, _, _, _⟩) rfl (fun K hK => ?_) AllReadyH.nil
          have yq := (HDd.out.boxi 0 rfl).cell 4 (by simp)
          simp only [List.getElem_cons_zero, List.getElem_cons_succ] at yq
          have lq := (HDd.out.boxi 0 rfl).lt
          have fq := (HDd.out.boxi 0 rfl).frozen 4
          go_simp
          have hdz := HDd.out.put 0 rfl 4 (.slice A8 (kk + 1) c8)
          simp only [List.set_cons_zero, List.set_cons_succ] at hdz
          have HDz := Lib.hid hdz
          clear hdz
          clear yq lq fq
          refine hK.out _ _ ((HDz.out.boxi 0 rfl).cell 0 (by simp)) (fun hSn => ?_)
          clear hK K hSw0
          have hSw0 := hSn
          clear hSn
          (try simp only [Act.put, List.setIfInBounds_toArray, List.set_cons_zero, List.set_cons_succ])
          refine wpAnyH_done (by kernel_rfl) ?_ _
          clear hSw0
          go_wp2_with fail
          go_roundg (gk - 1)
          case measure => omega
          case rel =>
            refine ⟨j + 1, A6, c6, A8, kk + 1, c8, sl ++ [(some ⟨g7, 0, none⟩, 64, 64)], by omega, by go_num, by omega, ?_, ?_⟩
            · intro s hs a ha
              rcases List.mem_append.1 hs with hs | hs
              · exact HFR.out s hs a ha
              · simp at hs
                subst hs
                injection ha with ha
                subst ha
                exact hgw
            · refine (HDz.out.fuse (f1 := fun V => Bys V (some ⟨g7, 0, none⟩) 64 64 (zz)) (f2 := fun V => Bls V sl (mkBls zs fl j)) (f := fun V => Bls V (sl ++ [(some ⟨g7, 0, none⟩, 64, 64)]) (mkBls zs fl (j + 1))) (by simp) (by simp) (fun V h1 h2 => by rw [HBL.out]; exact h2.snoc h1)).sub (List.Sublist.refl _) ?_
              intro f1 hf1
              simp only [List.mem_cons, List.not_mem_nil, or_false] at hf1 ⊢
              rcases hf1 with rfl | rfl <;> simp
        exact AllReadyH.nil
      exact AllReadyH.nil
  · obtain rfl : j = n := by omega
    have yb := HD3.out.boxi 0 rfl
    have y0 := yb.cell 0 (by simp)
    have y1 := yb.cell 1 (by simp)
    have y2 := yb.cell 2 (by simp)
    have y3 := yb.cell 3 (by simp)
    have y4 := yb.cell 4 (by simp)
    simp only [List.getElem_cons_zero, List.getElem_cons_succ] at y0 y1 y2 y3 y4
    have yl := yb.lt
    have yf0 := yb.frozen 0
    have yf1 := yb.frozen 1
    have yf2 := yb.frozen 2
    have yf3 := yb.frozen 3
    have yf4 := yb.frozen 4
    have zb := HD3.out.boxi 1 rfl
    have z0 := zb.cell 0 (by simp)
    have z1 := zb.cell 1 (by simp)
    have z2 := zb.cell 2 (by simp)
    have z3 := zb.cell 3 (by simp)
    have z4 := zb.cell 4 (by simp)
    simp only [List.getElem_cons_zero, List.getElem_cons_succ] at z0 z1 z2 z3 z4
    have zl := zb.lt
    have zf0 := zb.frozen 0
    have zf1 := zb.frozen 1
    have zf2 := zb.frozen 2
    have zf3 := zb.frozen 3
    have zf4 := zb.frozen 4
    have hlt2 : ¬ (j : Int) < (j : Int) := by omega
    go_wp2_with fail
    have hd9 := ((((HD3.out.put 1 rfl 0 (.int .i64 (1 + rm))).put 1 rfl 1 (.int .i64 (1 + rn))).put 1 rfl 2 (.int .i64 rp)).put 1 rfl 3 (.slice A3 j c3)).put 1 rfl 4 (.slice A4 kk c4)
    refine bodyPost_ret (v := .agg #[.int .i64 (1 + rm), .int .i64 (1 + rn), .int .i64 rp, .slice A3 j c3, .slice A4 kk c4]) ?_ rfl ?_
    · simp only [results, HRES.out]
      go_simp
    · rw [HRC.out, HL.out]
      exact ⟨(A3, j, c3), (A4, kk, c4), rfl, hd9.mkNew (mkIts_length zs j) (by simp) HFR.out, hd9.only⟩
end Go.Proofs.Ytoibehikojkoiaa
