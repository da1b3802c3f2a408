
import Derived.Test.YtgcfdjcpcclcjaaGreatScanBreaksH
set_option linter.unusedVariables false
set_option linter.unusedSimpArgs false
namespace Go.Proofs.YtgcfdjcpcclcjaaGreat.scanBreaks
open Go Go.RowKit Go.Kn Go.ChangeShapes Go.WideShapes Go.ChangeAt
theorem wf8 (j : Nat) (h : (j : Int) < 8) : (Lit.int .i64 (j : Int)).wf = true := by simp [Lit.wf, IntKind.min, IntKind.max, IntKind.signed, IntKind.bits]; omega
theorem field_pos1 (s o l p m : Int) (w : World) : (Instr.field 32 (.agg #[.int .i64 s, .int .i64 o, .int .i64 l, .int .i64 p, .int .i64 m]) 1).run Tryz.prog w = .ok (.int .i64 o) w := by kernel_rfl
theorem ivs_append (a b : List Int) : ivs (a ++ b) = ivs a ++ ivs b := by simp [ivs]
set_option maxRecDepth 100000 in
set_option maxHeartbeats 16000000 in
theorem breaks (A : Option Addr) (n c : Nat) (l : List (List Int)) (k0 a0 : Int) (w : World) (hi : Inss w A n c l) (hz : ∀ zs ∈ l, ∀ z ∈ zs, (Lit.int .i64 z).wf = true) (hk0 : (Lit.int .i64 k0).wf = true) (ha0 : (Lit.int .i64 a0).wf = true) :
    Calls Tryz.prog 3 #[.slice A n c, .int .i64 k0, .int .i64 a0] w fun en w' => en = .returned (.bool true) ∧ Only [] w w' := by
  have hlen : l.length = n := hi.len
  obtain ⟨sl, hsl, hw⟩ := hi.old
  have hrow : Row1 w A n c (sl.map slv) := hw.fact _ (List.mem_cons_of_mem _ List.mem_cons_self)
  have hcm := hrow.cm
  have hcl := hrow.le
  unfold maxLen at hcm
  have HL := Lib.hid hlen
  have HSL := Lib.hid hsl
  have H0 := Lib.hid hw
  have HK0 := Lib.hid hk0
  have HA0 := Lib.hid ha0
  clear hi hlen hsl hw hrow hk0 ha0
  by_cases hn : 1 ≤ n ∧ n ≤ 8
  · obtain ⟨hn1, hn2⟩ := hn
    have hb1 : ¬ (n : Int) < 1 := by omega
    have hb2 : ¬ (n : Int) > 8 := by omega
    have hc : Cf.Ok (⟨3, 8, 64⟩ : Cf) := ⟨by decide, by decide, by decide⟩
    have hmay : headMay (⟨1, 1, 7, 3, 2⟩ : Ps).head = true := by decide
    obtain ⟨d1, hd1⟩ : ∃ d, d = (Dk.new (⟨3, 8, 64⟩ : Cf).sectors.toNat).puts ((⟨3, 8, 64⟩ : Cf).at_ (⟨1, 1, 7, 3, 2⟩ : Ps).s) (headB (⟨1, 1, 7, 3, 2⟩ : Ps)) := ⟨_, rfl⟩
    have hlg : Lg d1 (⟨3, 8, 64⟩ : Cf) (⟨1, 1, 7, 3, 2⟩ : Ps) [] (⟨1, 1, 7, 3, 2⟩ : Ps) := by rw [hd1]; exact Lg.start (⟨3, 8, 64⟩ : Cf) hc (⟨1, 1, 7, 3, 2⟩ : Ps) (⟨1, 1, 7, 3, 2⟩ : Ps) rfl (by decide) (by decide)
    have hhd : Hd d1 (⟨3, 8, 64⟩ : Cf) (⟨1, 1, 7, 3, 2⟩ : Ps) := by rw [hd1]; exact Hd.start (⟨3, 8, 64⟩ : Cf) hc (⟨1, 1, 7, 3, 2⟩ : Ps) (by decide) hmay
    have hheld : d1.Live ∧ d1.held = [] := by rw [hd1]; exact Dk.Live.puts ⟨rfl, rfl⟩ _ _
    have HC := Lib.hid hc
    have HD1 := Lib.hid hd1
    have HLG := Lib.hid hlg
    have HHD1 := Lib.hid hhd
    have HHE1 := Lib.hid hheld
    have HMAY := Lib.hid hmay
    have H1 := Lib.hid (H0.out.newB #[.int .i64 3, .int .i64 8, .int .i64 64] 25 rfl)
    clear hc hd1 hlg hhd hheld hmay H0
    go_enter Tryz.func3, Tryz.ntmps3
    go_upto_region 4 with (fail)
    generalize hz1 : w.alloc (.cells #[.int .i64 3, .int .i64 8, .int .i64 64] 25) = w1 at *
    obtain ⟨fc, hf3⟩ : ∃ k, k = w.heap.size := ⟨_, rfl⟩
    rw [← hf3] at H1 ⊢
    clear hz1 hf3
    have b3 := H1.out.boxi 0 rfl
    have e0 := b3.cell 0 (by simp)
    have e1 := b3.cell 1 (by simp)
    have e2 := b3.cell 2 (by simp)
    simp only [List.getElem_cons_zero, List.getElem_cons_succ] at e0 e1 e2
    clear b3
    go_wp2_with fail
    refine (desk13_any w w1 (⟨3, 8, 64⟩ : Cf) ⟨[(fc, [.int .i64 3, .int .i64 8, .int .i64 64])], [], [(InRows sl l), (fun W => Row1 W A n c (sl.map slv))]⟩ H1.out HC.out).mono ?_
    rintro en w2 ⟨p, rr, gb, rfl, hd⟩
    have HD := Lib.hid (Duo.newB hd #[.int .i64 1, .int .i64 1, .int .i64 7, .int .i64 3, .int .i64 2] 32 rfl)
    clear hd H1 e0 e1 e2
    go_upto_region 6 with (fail)
    generalize hz2 : w2.alloc (.cells #[.int .i64 1, .int .i64 1, .int .i64 7, .int .i64 3, .int .i64 2] 32) = w3 at *
    generalize w2.heap.size = fp at *
    clear hz2 w2 w1
    have b8 := HD.out.box (x := (fp, [.int .i64 1, .int .i64 1, .int .i64 7, .int .i64 3, .int .i64 2])) (by simp)
    have q0 := b8.cell 0 (by simp)
    have q1 := b8.cell 1 (by simp)
    have q2 := b8.cell 2 (by simp)
    have q3 := b8.cell 3 (by simp)
    have q4 := b8.cell 4 (by simp)
    simp only [List.getElem_cons_zero, List.getElem_cons_succ] at q0 q1 q2 q3 q4
    have b3 := HD.out.box (x := (fc, [.int .i64 3, .int .i64 8, .int .i64 64])) (by simp)
    have e0 := b3.cell 0 (by simp)
    have e1 := b3.cell 1 (by simp)
    have e2 := b3.cell 2 (by simp)
    simp only [List.getElem_cons_zero, List.getElem_cons_succ] at e0 e1 e2
    clear b8 b3
    go_wp2_with fail
    refine (kit_head_any w w3 p rr _ _ (⟨3, 8, 64⟩ : Cf) (⟨1, 1, 7, 3, 2⟩ : Ps) HD.out HC.out HMAY.out (by decide) (by simp [Dk.new])).mono ?_
    rintro en w4 ⟨rfl, hd⟩
    rw [← HD1.out] at hd
    have b8 := hd.box (x := (fp, [.int .i64 1, .int .i64 1, .int .i64 7, .int .i64 3, .int .i64 2])) (by simp)
    clear q0 q1 q2 q3 q4 e0 e1 e2
    have q0 := b8.cell 0 (by simp)
    have q1 := b8.cell 1 (by simp)
    have q2 := b8.cell 2 (by simp)
    have q3 := b8.cell 3 (by simp)
    have q4 := b8.cell 4 (by simp)
    simp only [List.getElem_cons_zero, List.getElem_cons_succ] at q0 q1 q2 q3 q4
    have HD2 := Lib.hid ((Duo.newB hd #[.int .i64 1, .int .i64 1, .int .i64 7, .int .i64 3, .int .i64 2] 32 rfl).gnew 3 1)
    clear b8 hd HD
    go_upto_region 10 with (fail)
    generalize hz4 : w4.alloc (.cells #[.int .i64 1, .int .i64 1, .int .i64 7, .int .i64 3, .int .i64 2] 32) = w5 at *
    generalize w4.heap.size = fq at *
    clear hz4 q0 q1 q2 q3 q4
    go_wp2_with fail
    go_loopg [11, 13, 15] n (fun gr t11 t13 i wr => ∃ (j : Nat) (ll : List (Ps × Rc)) (q : Ps) (dd : Dk) (A0 : Option Addr) (c0 : Nat), j + gr = n ∧ t11 = .bool true ∧ t13 = .slice A0 j c0 ∧ i = .int .i64 j ∧ Duo w wr p rr dd dd ⟨(fq, [.int .i64 q.s, .int .i64 q.o, .int .i64 q.l, .int .i64 q.p, .int .i64 q.m]) :: (fp, [.int .i64 1, .int .i64 1, .int .i64 7, .int .i64 3, .int .i64 2]) :: (fc, [.int .i64 3, .int .i64 8, .int .i64 64]) :: [], [⟨3, 1, .slice A0 j c0, j, ivs (ll.map (·.1.o))⟩], (fun W => GeoAt W gb 3 8 64) :: (InRows sl l) :: (fun W => Row1 W A n c (sl.map slv)) :: []⟩ ∧ Lg dd (⟨3, 8, 64⟩ : Cf) (⟨1, 1, 7, 3, 2⟩ : Ps) ll q ∧ Hd dd (⟨3, 8, 64⟩ : Cf) (⟨1, 1, 7, 3, 2⟩ : Ps) ∧ ll.length = j ∧ dd.Live ∧ dd.held = [] ∧ q.s = 1 ∧ (1 ≤ q.o ∧ q.o ≤ 1 + 7 * (j : Int)) ∧ q.l = 7 + (j : Int) ∧ (0 ≤ q.p ∧ q.p ≤ 4294967295) ∧ q.m = 2)
    case atStart => exact ⟨0, [], (⟨1, 1, 7, 3, 2⟩ : Ps), d1, none, 0, by omega, rfl, rfl, rfl, HD2.out, HLG.out, HHD1.out, rfl, HHE1.out.1, HHE1.out.2, rfl, by decide, rfl, by decide, rfl⟩
    clear HD2 HLG HHD1 HHE1 HD1
    obtain ⟨j, ll, q, dd, A0, c0, hj, rfl, rfl, rfl, hd, hm, hhd, hln, hlv, hhe, hqs, hqo, hql, hqp, hqm⟩ := hrel
    have HD := Lib.hid hd
    have HLG := Lib.hid hm
    have HHD := Lib.hid hhd
    have HLN := Lib.hid hln
    have HLV := Lib.hid hlv
    have HHE := Lib.hid hhe
    have HQS := Lib.hid hqs
    have HQL := Lib.hid hql
    have HQM := Lib.hid hqm
    obtain ⟨hqo1, hqo2⟩ := hqo
    clear hd hm hhd hln hlv hhe hqs hql hqm
    by_cases hlt : j < n
    · have hjz : j < l.length := by rw [HL.out]; exact hlt
      obtain ⟨zs, hzs⟩ : ∃ z, l[j]? = some z := ⟨_, List.getElem?_eq_getElem hjz⟩
      obtain ⟨⟨s1, s2, s3⟩, hss⟩ : ∃ s, sl[j]? = some s := ⟨_, List.getElem?_eq_getElem (by rw [HSL.out]; exact hjz)⟩
      have hzw := hz zs (List.mem_of_getElem? hzs)
      have hins := HD.out.fact (f := (InRows sl l)) (by simp) j _ zs hss hzs
      have hzl : zs.length = s2 := by have := hins.len; simpa [ivs] using this
      have hcm3 := hins.cm
      have hle3 := hins.le
      unfold maxLen at hcm3
      have hrow := HD.out.fact (f := (fun W => Row1 W A n c (sl.map slv))) (by simp)
      obtain ⟨g, o, rfl, hcell⟩ := hrow.at_ (by omega)
      have HP : Hid (∀ W : World, Row1 W (some ⟨g, o, none⟩) n c (sl.map slv) → W.cell? ⟨g, o + j, none⟩ = some (.slice s1 s2 s3)) := Lib.hid (fun W h => (h.cel (by rw [List.getElem?_map, hss]; rfl)))
      have cz := HP.out _ hrow
      have hlt2 : (j : Int) < (n : Int) := by omega
      have hlt9 : (j : Int) < 8 := by omega
      have HZW := Lib.hid hzw
      have HZL := Lib.hid hzl
      have HZS := Lib.hid hzs
      have HSS := Lib.hid hss
      clear hzs hss hzw hzl hins hrow hcell hjz
      by_cases h6 : (s2 : Int) > 6
      · go_wp2_with fail
        refine (awake13_any _).mono ?_
        rintro en w9 ⟨rfl, hO⟩
        have HO := Lib.hid (HD.out.only.trans' hO)
        clear hO HD
        go_wp2_with fail
        refine bodyPost_ret (v := .bool true) (by kernel_rfl) rfl ⟨rfl, HO.out⟩
      obtain ⟨r, q2, d2, hrun, hr0, hmy, hlg2, hq2, hbl, hd2⟩ := logRun_one HLG.out HC.out zs (j : Int) (by have := HZL.out; omega) (by rw [HQM.out]; decide) (by have := HQL.out; omega) hqp (by show q.o + 7 ≤ 64 - 1; omega)
      have HRUN := Lib.hid hrun
      have HLG2 := Lib.hid hlg2
      have hsum := rcSum_lt hmy
      have hq2b : q2.s = 1 ∧ (1 ≤ q2.o ∧ q2.o ≤ 1 + 7 * ((j : Int) + 1)) ∧ q2.l = 7 + ((j : Int) + 1) ∧ (0 ≤ q2.p ∧ q2.p ≤ 4294967295) ∧ q2.m = 2 := by
        rw [hq2]
        have h1 := HQS.out
        have h2 := HQL.out
        have h3 := HQM.out
        refine ⟨h1, ⟨?_, ?_⟩, ?_, ⟨?_, ?_⟩, h3⟩ <;> simp only <;> omega
      have HQ2 := Lib.hid hq2b
      have hlv : d2.Live ∧ d2.held = [] := by rw [hd2]; exact Dk.Live.puts HLG.out.rdy.live _ _
      have HLV2 := Lib.hid hlv
      have HHD2 : Hid (Hd d2 (⟨3, 8, 64⟩ : Cf) (⟨1, 1, 7, 3, 2⟩ : Ps)) := Lib.hid (by
        obtain ⟨e1, e2, e3⟩ := Cf.sec (⟨3, 8, 64⟩ : Cf) HC.out 1 (by decide) (by decide)
        have hll := HLG.out.len
        have hqs := HQS.out
        simp only at e2 hll
        rw [hd2]
        refine HHD.out.agr (HLG.out.rdy.puts_agr (n := 1 + r.bl.length) (lo := Cf.at_ (⟨3, 8, 64⟩ : Cf) 1) (hi := Cf.at_ (⟨3, 8, 64⟩ : Cf) 1 + 1) (by rw [hqs]; omega) (rcBytes_length hmy) (by rw [hqs]; omega) (by omega) (.inl (by rw [hqs]; omega))) (Int.le_refl _) (by show Cf.at_ (⟨3, 8, 64⟩ : Cf) 1 < _; omega))
      have HLN2 : Hid ((ll ++ [(q, r)]).length = j + 1) := Lib.hid (by have := HLN.out; simp [this])
      have HOF2 : Hid ((ll.map (·.1.o)) ++ [q.o] = (ll ++ [(q, r)]).map (·.1.o)) := Lib.hid (by simp)
      have HPO : Hid (PsOk (⟨3, 8, 64⟩ : Cf) q) := Lib.hid ⟨⟨by rw [HQM.out]; decide, by have := HQL.out; omega, by omega⟩, by rw [HQS.out]; decide, by omega, by omega⟩
      clear hrun hlg2 hsum hq2b hlv hr0 hmy hq2 hbl hd2 HLG
      have b := HD.out.box (x := (fc, [.int .i64 3, .int .i64 8, .int .i64 64])) (by simp)
      have b1 := HD.out.box (x := (fq, [.int .i64 q.s, .int .i64 q.o, .int .i64 q.l, .int .i64 q.p, .int .i64 q.m])) (by simp)
      have q0 := b1.cell 0 (by simp)
      have q1 := b1.cell 1 (by simp)
      have q2 := b1.cell 2 (by simp)
      have q3 := b1.cell 3 (by simp)
      have q4 := b1.cell 4 (by simp)
      simp only [List.getElem_cons_zero, List.getElem_cons_succ] at q0 q1 q2 q3 q4
      clear b1
      have HAL := Lib.hid (HD.out.alloc (.cells #[.int .i64 q.o] 3))
      have HBS := Lib.hid HAL.out.only.size
      clear HD
      obtain ⟨i0, hi0, hz0, hz1, hz2⟩ := info_parts Tryz.infoInt
      go_upto_region 16 with (first
        | (at_builtin; go_loud (refine wpList_append_row1 rfl (.tmp 67) (.tmp 70) 34 rfl w.heap.size 3 i0 _ 8 Tryz.underlying34 hi0 hz0 hz1 hz2 rfl (.slice A0 j c0) j (ivs (ll.map (·.1.o))) rfl (HAL.out.gi 0 rfl) _ 1 1 (ivs [q.o]) rfl (ins_built _ [q.o] _ 1 rfl (by omega)) (ivs_one _) (by unfold maxLen; omega) (by omega) HBS.out ?_; intro v5 w5 hown5 hgrow5 hat5; rw [← ivs_append] at hown5; have hdd := HAL.out.gapp 0 rfl hown5 hgrow5 hat5; obtain ⟨A5, c5, rfl⟩ := hdd.gform 0 rfl; simp only [List.set_cons_zero, List.set_cons_succ] at hdd; have HA := Lib.hid hdd; clear hdd hown5 hgrow5 hat5 HBS HAL))
        | fail)
      clear hi0 hz0 hz1 hz2 i0
      rw [HOF2.out] at HA
      clear b cz q0 q1 q2 q3 q4
      go_wp2_with fail
      have HY := Lib.hid HA.out.drew
      clear HA
      refine wp_region_held_drew (S := (fun w' => Kn.Own w' fc [.int .i64 3, .int .i64 8, .int .i64 64] ∧ w'.cell? ⟨g, o + j, none⟩ = some (.slice s1 s2 s3))) (by kernel_rfl) ⟨HY.out.box (x := (fc, [.int .i64 3, .int .i64 8, .int .i64 64])) (by simp), HP.out _ (HY.out.fact (f := (fun W => Row1 W (some ⟨g, o, none⟩) n c (sl.map slv))) (by simp))⟩ (fun hSw0 => ?_)
      generalize w5.drew = wz at *
      refine takeS 0 ⟨some 73, _, _, _, _, _⟩ ?_
      refine takeS 1 ⟨some 74, _, _, _, _, _⟩ ?_
      refine takeS 2 ⟨some 75, _, _, _, _, _⟩ (v := (.agg #[.int .i64 3, .int .i64 8, .int .i64 64])) (hy := fun w hSw => by
        have q0 := hSw.1
        have q00 := q0.cell 0 (by simp)
        have q01 := q0.cell 1 (by simp)
        have q02 := q0.cell 2 (by simp)
        simp only [List.getElem_cons_zero, List.getElem_cons_succ] at q00 q01 q02
        clear q0
        go_simp) ?_
      refine takeS 4 ⟨some 77, _, _, _, _, _⟩ ?_
      refine takeS 5 ⟨some 78, _, _, _, _, _⟩ ?_
      refine takeS 6 ⟨some 79, _, _, _, _, _⟩ ?_
      refine takeS 7 ⟨some 80, _, _, _, _, _⟩ (v := (.slice s1 s2 s3)) (hy := fun w hSw => by
        have q0 := hSw.2
        go_simp) ?_
      refine takeS 8 ⟨some 81, _, _, _, _, _⟩ ?_
      refine takeS 9 ⟨some 82, _, _, _, _, _⟩ ?_
      refine wpAnyH_ready (rs := [3, 10]) (by kernel_rfl) (by simp) ?_
      refine AllReadyH.cons (o := ⟨some 76, _, _, _, _, _⟩) rfl (fun K hK => ?_) ?_
      · have b1 := HY.out.box (x := (fq, [.int .i64 q.s, .int .i64 q.o, .int .i64 q.l, .int .i64 q.p, .int .i64 q.m])) (by simp)
        have q0 := b1.cell 0 (by simp)
        have q1 := b1.cell 1 (by simp)
        have q2 := b1.cell 2 (by simp)
        have q3 := b1.cell 3 (by simp)
        have q4 := b1.cell 4 (by simp)
        simp only [List.getElem_cons_zero, List.getElem_cons_succ] at q0 q1 q2 q3 q4
        clear b1
        go_simp
        clear q0 q1 q2 q3 q4
        refine hK.out _ _ hSw0 (fun hSn => ?_)
        clear hK K hSw0
        have hSw0 := hSn
        clear hSn
        refine takeR 10 ⟨some 83, _, _, _, _, _⟩ fun K hK => ?_
        go_simp
        have HYk := Lib.hid (Duo.krs1 HY.out (sl := sl) (l := l) (by simp) HSS.out HZS.out (j : Int) 38)
        clear HY
        generalize hvb : wz.alloc (.cells #[.slice s1 s2 s3, .int .i64 (j : Int), .int .i64 0, .int .i64 0, .int .i64 0] 38) = vb at *
        generalize wz.heap.size = gr2 at *
        clear hvb
        refine hK.out _ _ ⟨HYk.out.box (x := (fc, [.int .i64 3, .int .i64 8, .int .i64 64])) (by simp), HP.out _ (HYk.out.fact (f := (fun W => Row1 W (some ⟨g, o, none⟩) n c (sl.map slv))) (by simp))⟩ (fun hSn => ?_)
        clear hK K hSw0
        have hSw0 := hSn
        clear hSn
        refine takeR 11 ⟨some 84, _, _, _, _, _⟩ fun K hK => ?_
        go_simp
        refine (kit_log_any w _ p rr dd _ (⟨3, 8, 64⟩ : Cf) q (some ⟨gr2, 0, none⟩) 1 1 [⟨zs, (j : Int), 0, 0, 0⟩] [(s1, s2, s3)] HYk.out List.mem_cons_self ?wf HC.out HPO.out HLV.out HHE.out).mono ?_
        case wf =>
          intro x hx
          rw [List.mem_singleton] at hx
          subst hx
          exact kr_wf HZW.out (wf8 j hlt9)
        rw [HRUN.out]
        rintro en wb ⟨rfl, hd⟩
        have HY2 := Lib.hid (Duo.subF hd (F' := (fun W => GeoAt W gb 3 8 64) :: (InRows sl l) :: (fun W => Row1 W (some ⟨g, o, none⟩) n c (sl.map slv)) :: []) (fun f hf => List.mem_cons_of_mem _ hf))
        clear hd HYk
        refine hK.out _ _ ⟨HY2.out.box (x := (fc, [.int .i64 3, .int .i64 8, .int .i64 64])) (by simp), HP.out _ (HY2.out.fact (f := (fun W => Row1 W (some ⟨g, o, none⟩) n c (sl.map slv))) (by simp))⟩ (fun hSn => ?_)
        clear hK K hSw0
        have hSw0 := hSn
        clear hSn
        refine takeS 12 ⟨some 72, _, _, _, _, _⟩ ?_
        refine takeS 13 ⟨some 85, _, _, _, _, _⟩ ?_
        refine takeS 14 ⟨some 86, _, _, _, _, _⟩ ?_
        refine takeR 15 ⟨none, _, _, _, _, _⟩ fun K hK => ?_
        refine step_store_own rfl 32 (.tmp 14) (.tmp 85) rfl fq [.int .i64 q.s, .int .i64 q.o, .int .i64 q.l, .int .i64 q.p, .int .i64 q.m] [.int .i64 q2.s, .int .i64 q2.o, .int .i64 q2.l, .int .i64 q2.p, .int .i64 q2.m] (by kernel_rfl) rfl rfl (HY2.out.box (x := (fq, [.int .i64 q.s, .int .i64 q.o, .int .i64 q.l, .int .i64 q.p, .int .i64 q.m])) (by simp)) rfl (by intro u hu; simp at hu; rcases hu with rfl | rfl | rfl | rfl | rfl <;> rfl) ?_
        intro wc ho9 hO9
        have HY3 := Lib.hid (HY2.out.head ho9 hO9)
        clear ho9 hO9 HY2
        refine hK.out _ _ ⟨HY3.out.box (x := (fc, [.int .i64 3, .int .i64 8, .int .i64 64])) (by simp), HP.out _ (HY3.out.fact (f := (fun W => Row1 W (some ⟨g, o, none⟩) n c (sl.map slv))) (by simp))⟩ (fun hSn => ?_)
        clear hK K hSw0
        have hSw0 := hSn
        clear hSn
        refine takeS 16 ⟨some 11, _, _, _, _, _⟩ ?_
        refine wpAnyH_done (by kernel_rfl) ?_ _
        clear hSw0
        go_wp2_with fail
        go_roundg (gk - 1)
        case measure => omega
        case rel => exact ⟨j + 1, ll ++ [(q, r)], q2, d2, A5, c5, by omega, rfl, rfl, by go_num, HY3.out, HLG2.out, HHD2.out, HLN2.out, HLV2.out.1, HLV2.out.2, HQ2.out.1, ⟨HQ2.out.2.1.1, by have := HQ2.out.2.1.2; push_cast; omega⟩, by have := HQ2.out.2.2.1; push_cast; omega, HQ2.out.2.2.2.1, HQ2.out.2.2.2.2⟩
      refine AllReadyH.cons (o := ⟨some 83, _, _, _, _, _⟩) rfl (fun K hK => ?_) ?_
      · go_simp
        have HYk := Lib.hid (Duo.krs1 HY.out (sl := sl) (l := l) (by simp) HSS.out HZS.out (j : Int) 38)
        clear HY
        generalize hvb : wz.alloc (.cells #[.slice s1 s2 s3, .int .i64 (j : Int), .int .i64 0, .int .i64 0, .int .i64 0] 38) = vb at *
        generalize wz.heap.size = gr2 at *
        clear hvb
        refine hK.out _ _ ⟨HYk.out.box (x := (fc, [.int .i64 3, .int .i64 8, .int .i64 64])) (by simp), HP.out _ (HYk.out.fact (f := (fun W => Row1 W (some ⟨g, o, none⟩) n c (sl.map slv))) (by simp))⟩ (fun hSn => ?_)
        clear hK K hSw0
        have hSw0 := hSn
        clear hSn
        refine takeR 3 ⟨some 76, _, _, _, _, _⟩ fun K hK => ?_
        have b1 := HYk.out.box (x := (fq, [.int .i64 q.s, .int .i64 q.o, .int .i64 q.l, .int .i64 q.p, .int .i64 q.m])) (by simp)
        have q0 := b1.cell 0 (by simp)
        have q1 := b1.cell 1 (by simp)
        have q2 := b1.cell 2 (by simp)
        have q3 := b1.cell 3 (by simp)
        have q4 := b1.cell 4 (by simp)
        simp only [List.getElem_cons_zero, List.getElem_cons_succ] at q0 q1 q2 q3 q4
        clear b1
        go_simp
        clear q0 q1 q2 q3 q4
        refine hK.out _ _ hSw0 (fun hSn => ?_)
        clear hK K hSw0
        have hSw0 := hSn
        clear hSn
        refine takeR 11 ⟨some 84, _, _, _, _, _⟩ fun K hK => ?_
        go_simp
        refine (kit_log_any w _ p rr dd _ (⟨3, 8, 64⟩ : Cf) q (some ⟨gr2, 0, none⟩) 1 1 [⟨zs, (j : Int), 0, 0, 0⟩] [(s1, s2, s3)] HYk.out List.mem_cons_self ?wf HC.out HPO.out HLV.out HHE.out).mono ?_
        case wf =>
          intro x hx
          rw [List.mem_singleton] at hx
          subst hx
          exact kr_wf HZW.out (wf8 j hlt9)
        rw [HRUN.out]
        rintro en wb ⟨rfl, hd⟩
        have HY2 := Lib.hid (Duo.subF hd (F' := (fun W => GeoAt W gb 3 8 64) :: (InRows sl l) :: (fun W => Row1 W (some ⟨g, o, none⟩) n c (sl.map slv)) :: []) (fun f hf => List.mem_cons_of_mem _ hf))
        clear hd HYk
        refine hK.out _ _ ⟨HY2.out.box (x := (fc, [.int .i64 3, .int .i64 8, .int .i64 64])) (by simp), HP.out _ (HY2.out.fact (f := (fun W => Row1 W (some ⟨g, o, none⟩) n c (sl.map slv))) (by simp))⟩ (fun hSn => ?_)
        clear hK K hSw0
        have hSw0 := hSn
        clear hSn
        refine takeS 12 ⟨some 72, _, _, _, _, _⟩ ?_
        refine takeS 13 ⟨some 85, _, _, _, _, _⟩ ?_
        refine takeS 14 ⟨some 86, _, _, _, _, _⟩ ?_
        refine takeR 15 ⟨none, _, _, _, _, _⟩ fun K hK => ?_
        refine step_store_own rfl 32 (.tmp 14) (.tmp 85) rfl fq [.int .i64 q.s, .int .i64 q.o, .int .i64 q.l, .int .i64 q.p, .int .i64 q.m] [.int .i64 q2.s, .int .i64 q2.o, .int .i64 q2.l, .int .i64 q2.p, .int .i64 q2.m] (by kernel_rfl) rfl rfl (HY2.out.box (x := (fq, [.int .i64 q.s, .int .i64 q.o, .int .i64 q.l, .int .i64 q.p, .int .i64 q.m])) (by simp)) rfl (by intro u hu; simp at hu; rcases hu with rfl | rfl | rfl | rfl | rfl <;> rfl) ?_
        intro wc ho9 hO9
        have HY3 := Lib.hid (HY2.out.head ho9 hO9)
        clear ho9 hO9 HY2
        refine hK.out _ _ ⟨HY3.out.box (x := (fc, [.int .i64 3, .int .i64 8, .int .i64 64])) (by simp), HP.out _ (HY3.out.fact (f := (fun W => Row1 W (some ⟨g, o, none⟩) n c (sl.map slv))) (by simp))⟩ (fun hSn => ?_)
        clear hK K hSw0
        have hSw0 := hSn
        clear hSn
        refine takeS 16 ⟨some 11, _, _, _, _, _⟩ ?_
        refine wpAnyH_done (by kernel_rfl) ?_ _
        clear hSw0
        go_wp2_with fail
        go_roundg (gk - 1)
        case measure => omega
        case rel => exact ⟨j + 1, ll ++ [(q, r)], q2, d2, A5, c5, by omega, rfl, rfl, by go_num, HY3.out, HLG2.out, HHD2.out, HLN2.out, HLV2.out.1, HLV2.out.2, HQ2.out.1, ⟨HQ2.out.2.1.1, by have := HQ2.out.2.1.2; push_cast; omega⟩, by have := HQ2.out.2.2.1; push_cast; omega, HQ2.out.2.2.2.1, HQ2.out.2.2.2.2⟩
      exact AllReadyH.nil
    · obtain rfl : n = j := by omega
      clear hlt hj
      have b1 := HD.out.box (x := (fq, [.int .i64 q.s, .int .i64 q.o, .int .i64 q.l, .int .i64 q.p, .int .i64 q.m])) (by simp)
      have q0 := b1.cell 0 (by simp)
      have q1 := b1.cell 1 (by simp)
      have q2 := b1.cell 2 (by simp)
      have q3 := b1.cell 3 (by simp)
      have q4 := b1.cell 4 (by simp)
      simp only [List.getElem_cons_zero, List.getElem_cons_succ] at q0 q1 q2 q3 q4
      clear b1
      have HAL := Lib.hid (HD.out.alloc (.cells #[.int .i64 q.o] 3))
      have HBS := Lib.hid HAL.out.only.size
      clear HD
      obtain ⟨i0, hi0, hz0, hz1, hz2⟩ := info_parts Tryz.infoInt
      go_upto_region 20 with (first
        | (at_builtin; go_loud (refine wpList_append_row1 rfl (.tmp 89) (.tmp 92) 34 rfl w.heap.size 3 i0 _ 8 Tryz.underlying34 hi0 hz0 hz1 hz2 rfl (.slice A0 n c0) n (ivs (ll.map (·.1.o))) rfl (HAL.out.gi 0 rfl) _ 1 1 (ivs [q.o]) rfl (ins_built _ [q.o] _ 1 rfl (by omega)) (ivs_one _) (by unfold maxLen; omega) (by omega) HBS.out ?_; intro v5 w5 hown5 hgrow5 hat5; rw [← ivs_append] at hown5; have hdd := HAL.out.gapp 0 rfl hown5 hgrow5 hat5; obtain ⟨A5, c5, rfl⟩ := hdd.gform 0 rfl; simp only [List.set_cons_zero, List.set_cons_succ] at hdd; have HA := Lib.hid hdd; clear hdd hown5 hgrow5 hat5 HBS HAL))
        | fail)
      clear hi0 hz0 hz1 hz2 i0
      clear q0 q1 q2 q3 q4
      obtain ⟨ofs, hof⟩ : ∃ z, (ll.map (·.1.o)) ++ [q.o] = z := ⟨_, rfl⟩
      obtain ⟨N1, hN1⟩ : ∃ m, n + 1 = m := ⟨_, rfl⟩
      rw [hof, hN1] at HA
      rw [hN1]
      obtain ⟨kn, hkn⟩ : ∃ m : Nat, k0 % (n : Int) = m := ⟨(k0 % (n : Int)).toNat, by have := Int.emod_nonneg k0 (b := (n : Int)) (by omega); omega⟩
      have hkl : kn < n := by have := Int.emod_lt_of_pos k0 (b := (n : Int)) (by omega); omega
      have HKN := Lib.hid hkn
      obtain ⟨l1, x, r, l2, hspl, h1l⟩ : ∃ l1 x r l2, ll = l1 ++ (x, r) :: l2 ∧ l1.length = kn := by
        have hkl2 : kn < ll.length := by rw [HLN.out]; exact hkl
        refine ⟨ll.take kn, (ll[kn]).1, (ll[kn]).2, ll.drop (kn + 1), ?_, by rw [List.length_take]; omega⟩
        have h1 := List.take_append_drop kn ll
        rw [List.drop_eq_getElem_cons hkl2] at h1
        exact h1.symm
      have hlg3 := HLG.out
      rw [hspl] at hlg3
      obtain ⟨f1, f2, f3, f4, f5, f6⟩ := hlg3.offs HC.out
      rw [← hspl, hof, h1l] at f1 f2
      obtain ⟨k1, hk1⟩ : ∃ m, kn + 1 = m := ⟨_, rfl⟩
      rw [hk1] at f2
      obtain ⟨sz, hsz⟩ : ∃ m, 1 + r.bl.length = m := ⟨_, rfl⟩
      rw [hsz] at f2 f5
      have hsz1 : 1 ≤ sz ∧ sz ≤ 7 := by omega
      obtain ⟨hsz1, hsz7⟩ := hsz1
      have f5b : x.o + (sz : Int) ≤ 63 := f5
      obtain ⟨o1, ho1⟩ : ∃ z, x.o + (sz : Int) = z := ⟨_, rfl⟩
      rw [ho1] at f2
      have HLG3 := Lib.hid hlg3
      have HSPL := Lib.hid hspl
      have HOF := Lib.hid hof
      have H1L := Lib.hid h1l
      have HF3 := Lib.hid f3
      have HSZ := Lib.hid hsz
      have hr5 := HA.out.grow 0 rfl
      obtain ⟨ga, oa, rfl, -⟩ := hr5.at_ (by omega)
      have HOC : Hid (∀ W : World, Row1 W (some ⟨ga, oa, none⟩) N1 c5 (ivs ofs) → W.cell? ⟨ga, oa + kn, none⟩ = some (.int .i64 x.o) ∧ W.cell? ⟨ga, oa + k1, none⟩ = some (.int .i64 o1)) := Lib.hid (fun W h => ⟨h.cel (by unfold ivs; rw [List.getElem?_map, f1]; rfl), h.cel (by unfold ivs; rw [List.getElem?_map, f2]; rfl)⟩)
      have hwk : IntKind.i64.wrap ((kn : Int) + 1) = (k1 : Int) := by rw [show (k1 : Int) = (kn : Int) + 1 from by omega]; exact IntWalk.i64_in _ (by omega)
      have hlk1 : (k1 : Int) < (N1 : Int) := by omega
      have hlkn : (kn : Int) < (N1 : Int) := by omega
      have hws : IntKind.i64.wrap (o1 - x.o) = (sz : Int) := by rw [show (sz : Int) = o1 - x.o from by omega]; exact IntWalk.i64_in _ (by omega)
      have hwm := IntWalk.i64_in (64 * (sz : Int)) (by omega)
      have hwb := IntWalk.i64_in (8 * (64 * (sz : Int))) (by omega)
      have hlsz : ¬ 64 * (sz : Int) < 64 := by omega
      obtain ⟨b0, hb0⟩ : ∃ m : Nat, a0 % (8 * (64 * (sz : Int))) = m := ⟨(a0 % (8 * (64 * (sz : Int)))).toNat, by have := Int.emod_nonneg a0 (b := 8 * (64 * (sz : Int))) (by omega); omega⟩
      have hbl : b0 < 512 * sz := by have := Int.emod_lt_of_pos a0 (b := 8 * (64 * (sz : Int))) (by omega); omega
      have HB0 := Lib.hid hb0
      obtain ⟨jn, hjn⟩ : ∃ m, b0 / 512 = m := ⟨_, rfl⟩
      obtain ⟨q8, hq8⟩ : ∃ m, b0 / 8 = m := ⟨_, rfl⟩
      obtain ⟨tn, htn⟩ : ∃ m, q8 % 64 = m := ⟨_, rfl⟩
      obtain ⟨mn, hmn⟩ : ∃ m, b0 % 8 = m := ⟨_, rfl⟩
      have hjl : jn < sz := by omega
      have htl : tn < 64 := by omega
      have hml : mn < 8 := by omega
      have hdj : Int.tdiv (b0 : Int) 512 = (jn : Int) := by rw [Int.tdiv_eq_ediv_of_nonneg (by omega)]; omega
      have hdq : Int.tdiv (b0 : Int) 8 = (q8 : Int) := by rw [Int.tdiv_eq_ediv_of_nonneg (by omega)]; omega
      have hdt : Int.tmod (q8 : Int) 64 = (tn : Int) := by rw [Int.tmod_eq_emod_of_nonneg (by omega)]; omega
      have hdm : Int.tmod (b0 : Int) 8 = (mn : Int) := by rw [Int.tmod_eq_emod_of_nonneg (by omega)]; omega
      have hwj := IntWalk.i64_in (jn : Int) (by omega)
      have hwq := IntWalk.i64_in (q8 : Int) (by omega)
      have hwt := IntWalk.i64_in (tn : Int) (by omega)
      have hwn := IntWalk.i64_in (mn : Int) (by omega)
      obtain ⟨e1, e2, e3⟩ := Cf.sec (⟨3, 8, 64⟩ : Cf) HC.out 1 (by decide) (by decide)
      have hll := HLG.out.len
      obtain ⟨sa, hsa⟩ : ∃ s, Cf.at_ (⟨3, 8, 64⟩ : Cf) 1 = s := ⟨_, rfl⟩
      rw [hsa] at e1 e2
      have hsax : Cf.at_ (⟨3, 8, 64⟩ : Cf) x.s = sa := by rw [f3]; exact hsa
      have e4 : sa ≤ 4096 := by omega
      have e5 : sa + 64 ≤ (dd.safe.length : Int) := by rw [hll]; exact e2
      have HSA := Lib.hid hsa
      have HE5 := Lib.hid e5
      have hwa := IntWalk.i64_in (sa + x.o) (by omega)
      have hwc := IntWalk.i64_in (sa + x.o + (jn : Int)) (by omega)
      have hhas : dd.has (sa + x.o + (jn : Int)) = true := has_of (by omega) (by omega)
      have hE := HLG.out.rdy.err0 hhas
      have h64 := Dk.read_64 HLG.out.rdy.ok hE
      obtain ⟨X, hX⟩ : ∃ z, dd.read (sa + x.o + (jn : Int)) = z := ⟨_, rfl⟩
      rw [hX] at h64
      have hXt : tn < X.length := by omega
      obtain ⟨xt, hxt⟩ : ∃ z, X[tn] = z := ⟨_, rfl⟩
      obtain ⟨v, hv⟩ : ∃ z, UInt8.ofNat (xt.toNat ^^^ 2 ^ mn) = z := ⟨_, rfl⟩
      have hfb := flip_byte xt mn hml
      rw [hv] at hfb
      have hsh := shl_u8 mn hml
      have hbr := HLG3.out.broken HC.out (j := jn) (t := tn) (v := v) (by omega) htl (by
        intro u hu
        rw [hsax, hX, List.getElem?_eq_getElem hXt, hxt] at hu
        injection hu with hu
        rw [← hu, ← hv]
        exact flip_ne xt mn hml)
      rw [hsax, hX] at hbr
      have hw64 : (X.set tn v).length = 64 := by rw [List.length_set]; exact h64
      have hwz : (dd.write (sa + x.o + (jn : Int)) (X.set tn v)).2 = 0 := by rw [Dk.write_go HLG.out.rdy.live hhas hw64]
      have hhd3 : Hd (dd.write (sa + x.o + (jn : Int)) (X.set tn v)).1 (⟨3, 8, 64⟩ : Cf) (⟨1, 1, 7, 3, 2⟩ : Ps) := HHD.out.agr (HLG.out.rdy.write_agr hhas hw64 (lo := sa) (hi := sa + 1) (by omega) (.inl (by omega))) (by show sa ≤ Cf.at_ (⟨3, 8, 64⟩ : Cf) 1; rw [hsa]; exact Int.le_refl _) (by show Cf.at_ (⟨3, 8, 64⟩ : Cf) 1 < sa + 1; rw [hsa]; omega)
      have HSR3 : Hid (scanR (dd.write (sa + x.o + (jn : Int)) (X.set tn v)).1 (⟨3, 8, 64⟩ : Cf) true (⟨1, 0, 0, 0, 0⟩ : Ps) = (l1, x, 0)) := Lib.hid ((hhd3.scan HC.out (by decide)).2.trans hbr)
      have HSR : Hid (scanR dd (⟨3, 8, 64⟩ : Cf) true (⟨1, 0, 0, 0, 0⟩ : Ps) = (ll, q, 0)) := Lib.hid ((HHD.out.scan HC.out (by decide)).2.trans (HLG.out.scan HC.out))
      have HWZ := Lib.hid hwz
      have HE := Lib.hid hE
      have HX := Lib.hid hX
      have HX64 := Lib.hid h64
      have HXT : Hid (∀ h : tn < X.length, X[tn] = xt) := Lib.hid (fun _ => hxt)
      have HHA := Lib.hid hhas
      have HHL : Hid (dd.held.length ≤ 1000000) := Lib.hid (by rw [HHE.out]; decide)
      have HFI : Hid (∀ i (h : i < l1.length), ofs[i]? = some (l1[i]).1.o) := Lib.hid (by
        intro i h
        rw [← HOF.out, HSPL.out, List.getElem?_append_left (by simp; omega), List.map_append, List.getElem?_append_left (by simpa using h), List.getElem?_map, List.getElem?_eq_getElem h]
        rfl)
      have HS : Hid (Kn.Own w5 fq [.int .i64 q.s, .int .i64 q.o, .int .i64 q.l, .int .i64 q.p, .int .i64 q.m]) := Lib.hid (HA.out.box (x := (fq, [.int .i64 q.s, .int .i64 q.o, .int .i64 q.l, .int .i64 q.p, .int .i64 q.m])) (by simp))
      clear hbr hw64 hhd3 hwz hE hX h64 hxt hv hhas hsax hsa hll e1 e2 e3 e5 hjn hq8 htn hmn hb0 hsz ho1 hk1 f1 f2 f3 hlg3 hspl hof h1l hkn hN1 hr5 hXt f5 f6 HS
      go_wp2_with fail
      refine (duo_seg HA.out (cf := (⟨3, 8, 64⟩ : Cf)) 1 (by simp) HC.out (by decide)).mono ?_
      rintro en w6 ⟨S, rfl, hd⟩
      have HS1 := Lib.hid hd
      clear hd HA w5
      go_wp2_with fail
      have HY := Lib.hid HS1.out.drew
      clear HS1
      refine wp_region_held_drew (S := (fun w' => Kn.Own w' fq [.int .i64 q.s, .int .i64 q.o, .int .i64 q.l, .int .i64 q.p, .int .i64 q.m])) (by kernel_rfl) (HY.out.box (x := (fq, [.int .i64 q.s, .int .i64 q.o, .int .i64 q.l, .int .i64 q.p, .int .i64 q.m])) (by simp)) (fun hSw0 => ?_)
      generalize w6.drew = wz at *
      refine takeS 0 ⟨some 97, _, _, _, _, _⟩ ?_
      refine takeS 1 ⟨some 98, _, _, _, _, _⟩ ?_
      refine takeS 2 ⟨some 99, _, _, _, _, _⟩ ?_
      refine takeS 3 ⟨some 100, _, _, _, _, _⟩ ?_
      refine takeS 6 ⟨some 103, _, _, _, _, _⟩ ?_
      refine takeS 7 ⟨some 104, _, _, _, _, _⟩ ?_
      refine takeR 4 ⟨some 101, _, _, _, _, _⟩ fun K hK => ?_
      go_simp
      refine (duo_walk13 (cf := (⟨3, 8, 64⟩ : Cf)) HY.out (by simp) HC.out 99 (by rw [HSR.out]; show ll.length ≤ 99; rw [HLN.out]; omega) (by decide)).mono ?_
      rw [HSR.out]
      rintro en wa ⟨xs, A2, k2, fs, rfl, hx, hf, hd⟩
      have hxl : xs.length = n := by have h := congrArg List.length hx; simp only [List.length_map] at h; rw [h]; exact HLN.out
      rw [hxl] at hd ⊢
      have HY1 := Lib.hid (hd.gdrop.subF (F' := (fun W => GeoAt W gb 3 8 64) :: (InRows sl l) :: (fun W => Row1 W A n c (sl.map slv)) :: []) (fun f hf => List.mem_append_right _ hf))
      clear hd hx hf hxl HY
      refine hK.out _ _ (HY1.out.box (x := (fq, [.int .i64 q.s, .int .i64 q.o, .int .i64 q.l, .int .i64 q.p, .int .i64 q.m])) (by simp)) (fun hSn => ?_)
      clear hK K hSw0
      have hSw0 := hSn
      clear hSn
      refine takeS 5 ⟨some 102, _, _, _, _, _⟩ ?_
      refine takeS 8 ⟨some 105, _, _, _, _, _⟩ ?_
      refine takeS 9 ⟨some 106, _, _, _, _, _⟩ ?_
      refine takeS 10 ⟨some 107, _, _, _, _, _⟩ ?_
      refine takeS 11 ⟨some 108, _, _, _, _, _⟩ ?_
      refine takeS 13 ⟨some 110, _, _, _, _, _⟩ (v := (.agg #[.int .i64 q.s, .int .i64 q.o, .int .i64 q.l, .int .i64 q.p, .int .i64 q.m])) (hy := fun w hSw => by
        have q0 := hSw
        have q00 := q0.cell 0 (by simp)
        have q01 := q0.cell 1 (by simp)
        have q02 := q0.cell 2 (by simp)
        have q03 := q0.cell 3 (by simp)
        have q04 := q0.cell 4 (by simp)
        simp only [List.getElem_cons_zero, List.getElem_cons_succ] at q00 q01 q02 q03 q04
        clear q0
        go_simp) ?_
      refine takeR 12 ⟨some 109, _, _, _, _, _⟩ fun K hK => ?_
      go_simp
      refine (duo_end HY1.out (S := S) (gb := gb) (q := (⟨1, 0, 0, 0, 0⟩ : Ps)) (own := true) (en := q) (er := 0) (by simp)).mono ?_
      rintro en wb ⟨rfl, hO⟩
      have HY2 := Lib.hid (HY1.out.keep0 hO)
      clear hO HY1
      refine hK.out _ _ (HY2.out.box (x := (fq, [.int .i64 q.s, .int .i64 q.o, .int .i64 q.l, .int .i64 q.p, .int .i64 q.m])) (by simp)) (fun hSn => ?_)
      clear hK K hSw0
      have hSw0 := hSn
      clear hSn
      refine takeS 14 ⟨some 111, _, _, _, _, _⟩ ?_
      refine takeS 15 ⟨some 112, _, _, _, _, _⟩ ?_
      refine wpAnyH_done (by kernel_rfl) ?_ _
      clear hSw0
      go_wp2_with fail
      refine (round_any k0 (n : Int) _ HK0.out (by omega) (by omega)).mono ?_
      rintro en w7 ⟨rfl, rfl⟩
      rw [HKN.out]
      go_wp2_with fail
      have HZ := Lib.hid HY2.out.drew
      clear HY2
      refine wp_region_held_drew (S := (fun w' => w'.cell? ⟨ga, oa + kn, none⟩ = some (.int .i64 x.o) ∧ w'.cell? ⟨ga, oa + k1, none⟩ = some (.int .i64 o1))) (by kernel_rfl) (HOC.out _ (HZ.out.grow 0 rfl)) (fun hSw0 => ?_)
      generalize wb.drew = wc at *
      refine takeS 0 ⟨some 117, _, _, _, _, _⟩ ?_
      refine takeS 1 ⟨some 118, _, _, _, _, _⟩ ?_
      refine takeS 2 ⟨some 119, _, _, _, _, _⟩ ?_
      refine takeS 3 ⟨some 120, _, _, _, _, _⟩ ?_
      refine takeS 4 ⟨some 121, _, _, _, _, _⟩ (v := (.int .i64 o1)) (hy := fun w hSw => by
        have q0 := hSw.2
        go_simp) ?_
      refine takeS 5 ⟨some 122, _, _, _, _, _⟩ ?_
      refine takeS 6 ⟨some 123, _, _, _, _, _⟩ ?_
      refine takeS 7 ⟨some 124, _, _, _, _, _⟩ ?_
      refine takeS 8 ⟨some 125, _, _, _, _, _⟩ (v := (.int .i64 x.o)) (hy := fun w hSw => by
        have q0 := hSw.1
        go_simp) ?_
      refine takeS 9 ⟨some 126, _, _, _, _, _⟩ ?_
      refine takeS 10 ⟨some 127, _, _, _, _, _⟩ ?_
      refine takeS 11 ⟨some 18, _, _, _, _, _⟩ ?_
      refine wpAnyH_done (by kernel_rfl) ?_ _
      clear hSw0
      go_wp2_with fail
      refine (round_any a0 (8 * (64 * (sz : Int))) _ HA0.out (by omega) (by omega)).mono ?_
      rintro en w8 ⟨rfl, rfl⟩
      rw [HB0.out]
      go_wp2_with fail
      have HU := Lib.hid HZ.out.drew
      clear HZ
      refine wp_region_held_drew (S := (fun w' => w'.cell? ⟨ga, oa + kn, none⟩ = some (.int .i64 x.o) ∧ w'.cell? ⟨ga, oa + k1, none⟩ = some (.int .i64 o1))) (by kernel_rfl) (HOC.out _ (HU.out.grow 0 rfl)) (fun hSw0 => ?_)
      generalize wc.drew = wu at *
      refine takeS 0 ⟨some 134, _, _, _, _, _⟩ ?_
      refine takeS 2 ⟨some 136, _, _, _, _, _⟩ ?_
      refine takeS 3 ⟨some 137, _, _, _, _, _⟩ ?_
      refine takeS 4 ⟨some 138, _, _, _, _, _⟩ ?_
      refine takeS 5 ⟨some 139, _, _, _, _, _⟩ (v := (.int .i64 x.o)) (hy := fun w hSw => by
        have q0 := hSw.1
        go_simp) ?_
      refine takeS 7 ⟨some 141, _, _, _, _, _⟩ ?_
      refine takeS 8 ⟨some 142, _, _, _, _, _⟩ ?_
      refine takeR 1 ⟨some 135, _, _, _, _, _⟩ fun K hK => ?_
      go_simp
      refine (geom_seg_any gb (⟨3, 8, 64⟩ : Cf) 1 _ (HU.out.fact (f := (fun W => GeoAt W gb 3 8 64)) (by simp)) HC.out).mono ?_
      rintro en wd ⟨rfl, hO⟩
      rw [HSA.out]
      have HU1 := Lib.hid (HU.out.keep0 hO)
      clear hO HU
      refine hK.out _ _ (HOC.out _ (HU1.out.grow 0 rfl)) (fun hSn => ?_)
      clear hK K hSw0
      have hSw0 := hSn
      clear hSn
      refine takeS 6 ⟨some 140, _, _, _, _, _⟩ ?_
      refine takeS 9 ⟨some 143, _, _, _, _, _⟩ ?_
      refine takeS 10 ⟨some 20, _, _, _, _, _⟩ ?_
      refine wpAnyH_done (by kernel_rfl) ?_ _
      clear hSw0
      go_wp2_with fail
      refine (duo_read_own HU1.out (sa + x.o + (jn : Int))).mono ?_
      rw [HE.out, HX.out]
      rintro en w9 ⟨A6, n6, c6, rfl, hd, -⟩
      have h6 := (hd.gi 0 rfl).1
      simp only [bvs_length] at h6
      obtain rfl : n6 = 64 := by rw [HX64.out] at h6; omega
      have hr6 := hd.grow 0 rfl
      obtain ⟨gx, ox, rfl, hc6⟩ := hr6.at_ (by decide)
      obtain ⟨rfl, -⟩ := ownsRow_zero (hd.gi 0 rfl)
      have q0 := hc6 tn (by rw [bvs_length, HX64.out]; exact htl)
      rw [Nat.zero_add, bvs_get, HXT.out] at q0
      have f0 := hd.gown.frozen tn
      have hst := hd.gset 0 rfl (g := gx) rfl tn (.int .u8 (v.toNat : Int))
      have hse : (bvs X).set tn (.int .u8 (v.toNat : Int)) = bvs (X.set tn v) := by unfold bvs; rw [List.map_set]
      simp only [List.set_cons_zero, hse] at hst
      have HST := Lib.hid hst.gout.drew
      clear hst hse hr6 hc6 h6 HU1 hd
      have hl6 : (tn : Int) < 64 := by omega
      have ht6 : ((tn : Int)).toNat = tn := by omega
      have ht0 : 0 ≤ (tn : Int) := by omega
      have hmt : ((mn : Int)).toNat = mn := by omega
      have hm0 : 0 ≤ (mn : Int) := by omega
      go_upto_region 32 with (fail)
      refine still_tail 15 (by kernel_rfl) (by kernel_rfl) ?_
      simp only [List.take_succ_cons, List.take_zero, List.drop_succ_cons, List.drop_zero]
      repeat still_step
      refine wpStill_nil ?_
      go_upto_region 33 with (fail)
      generalize hw10 : World.drew (w9.setCell ⟨gx, tn, none⟩ (.int .u8 (v.toNat : Int))) = w10 at *
      clear hw10 q0 f0 w9
      go_wp2_with fail
      refine (duo_write HST.out (sa + x.o + (jn : Int)) (some ⟨gx, 0, none⟩) 64 c6 (X.set tn v) List.mem_cons_self HHL.out).mono ?_
      rw [HWZ.out]
      rintro en w11 ⟨rfl, hd⟩
      obtain ⟨d3, hd3⟩ : ∃ z, (dd.write (sa + x.o + (jn : Int)) (X.set tn v)).1 = z := ⟨_, rfl⟩
      rw [hd3] at hd HSR3
      have HV := Lib.hid (hd.subF (F' := (fun W => GeoAt W gb 3 8 64) :: (InRows sl l) :: (fun W => Row1 W A n c (sl.map slv)) :: []) (fun f hf => List.mem_cons_of_mem _ hf))
      clear hd HST hd3
      go_wp2_with fail
      refine (duo_walk13 (cf := (⟨3, 8, 64⟩ : Cf)) HV.out (by simp) HC.out 99 (by rw [HSR3.out]; show l1.length ≤ 99; rw [H1L.out]; omega) (by decide)).mono ?_
      rw [HSR3.out]
      rintro en w12 ⟨xs, A2, k2, fs, rfl, hx, hf, hd⟩
      have hxl : xs.length = kn := by have h := congrArg List.length hx; simp only [List.length_map] at h; rw [h]; exact H1L.out
      rw [hxl] at hd ⊢
      have HV2 := Lib.hid (hd.subF (F' := (fun W => GeoAt W gb 3 8 64) :: (InRows sl l) :: (fun W => Row1 W A n c (sl.map slv)) :: []) (fun f hf => List.mem_append_right _ hf))
      have HXX := Lib.hid hx
      have HXL := Lib.hid hxl
      clear hd hx hf hxl HV
      go_wp2_with fail
      have hfp := fun w => field_pos1 x.s x.o x.l x.p x.m w
      have HY := Lib.hid HV2.out.drew
      clear HV2
      refine wp_region_held_drew (S := (fun w' => w'.cell? ⟨ga, oa + kn, none⟩ = some (.int .i64 x.o) ∧ w'.cell? ⟨ga, oa + k1, none⟩ = some (.int .i64 o1))) (by kernel_rfl) (HOC.out _ (HY.out.grow 1 rfl)) (fun hSw0 => ?_)
      generalize w12.drew = wz at *
      refine takeS 0 ⟨some 179, _, _, _, _, _⟩ ?_
      refine takeS 1 ⟨some 180, _, _, _, _, _⟩ ?_
      refine takeS 2 ⟨some 181, _, _, _, _, _⟩ ?_
      refine takeS 3 ⟨some 182, _, _, _, _, _⟩ ?_
      refine takeS 4 ⟨some 183, _, _, _, _, _⟩ ?_
      refine takeS 5 ⟨some 184, _, _, _, _, _⟩ ?_
      refine takeS 8 ⟨some 187, _, _, _, _, _⟩ ?_
      refine takeS 9 ⟨some 188, _, _, _, _, _⟩ ?_
      refine takeS 10 ⟨some 189, _, _, _, _, _⟩ ?_
      refine takeS 11 ⟨some 190, _, _, _, _, _⟩ (v := (.int .i64 x.o)) (hy := fun w hSw => by
        have q0 := hSw.1
        go_simp) ?_
      refine takeR 6 ⟨some 185, _, _, _, _, _⟩ fun K hK => ?_
      go_simp
      refine (duo_end HY.out (S := S) (gb := gb) (q := (⟨1, 0, 0, 0, 0⟩ : Ps)) (own := true) (en := x) (er := 0) (by simp)).mono ?_
      rintro en wb ⟨rfl, hO⟩
      have HY1 := Lib.hid (HY.out.keep0 hO)
      clear hO HY
      refine hK.out _ _ (HOC.out _ (HY1.out.grow 1 rfl)) (fun hSn => ?_)
      clear hK K hSw0
      have hSw0 := hSn
      clear hSn
      refine takeS 7 ⟨some 186, _, _, _, _, _⟩ ?_
      refine takeS 12 ⟨some 191, _, _, _, _, _⟩ ?_
      refine takeS 13 ⟨some 192, _, _, _, _, _⟩ ?_
      refine takeS 14 ⟨some 193, _, _, _, _, _⟩ ?_
      refine takeS 15 ⟨some 194, _, _, _, _, _⟩ ?_
      refine takeR 16 ⟨some 195, _, _, _, _, _⟩ fun K hK => ?_
      go_simp
      refine (duo_err HY1.out (S := S) (gb := gb) (q := (⟨1, 0, 0, 0, 0⟩ : Ps)) (own := true) (en := x) (er := 0) (by simp)).mono ?_
      rintro en wd ⟨rfl, rfl⟩
      refine hK.out _ _ (HOC.out _ (HY1.out.grow 1 rfl)) (fun hSn => ?_)
      clear hK K hSw0
      have hSw0 := hSn
      clear hSn
      refine takeS 17 ⟨some 196, _, _, _, _, _⟩ ?_
      refine takeS 18 ⟨some 197, _, _, _, _, _⟩ ?_
      refine wpAnyH_done (by kernel_rfl) ?_ _
      clear hSw0
      go_wp2_with fail
      go_loopg [24] kn (fun gr i wr => ∃ jj : Nat, jj + gr = kn ∧ i = .int .i64 jj ∧ Duo w wr p rr d3 dd ⟨(S, SB p.D gb (⟨1, 0, 0, 0, 0⟩ : Ps) true x 0) :: (fq, [.int .i64 q.s, .int .i64 q.o, .int .i64 q.l, .int .i64 q.p, .int .i64 q.m]) :: (fp, [.int .i64 1, .int .i64 1, .int .i64 7, .int .i64 3, .int .i64 2]) :: (fc, [.int .i64 3, .int .i64 8, .int .i64 64]) :: [], ⟨58, 6, .slice A2 kn k2, kn, fndV xs⟩ :: [⟨3, 1, .slice (some ⟨ga, oa, none⟩) N1 c5, N1, ivs ofs⟩], (fun W => GeoAt W gb 3 8 64) :: (InRows sl l) :: (fun W => Row1 W A n c (sl.map slv)) :: []⟩)
      case atStart => exact ⟨0, by omega, rfl, HY1.out⟩
      clear HY1
      obtain ⟨jj, hjj, rfl, hd⟩ := hrel
      have HD := Lib.hid hd
      clear hd
      by_cases hlt : jj < kn
      · have hj6 : (jj : Int) < (kn : Int) := by omega
        have hj7 : (jj : Int) < (N1 : Int) := by omega
        have hxj : jj < xs.length := by rw [HXL.out]; exact hlt
        have hlj : jj < l1.length := by rw [H1L.out]; exact hlt
        have hxo : xs[jj].p.o = (l1[jj]).1.o := by
          have h : (xs.map Fnd.pr)[jj]? = l1[jj]? := by rw [HXX.out]
          rw [List.getElem?_map, List.getElem?_eq_getElem hxj, List.getElem?_eq_getElem hlj] at h
          simp only [Option.map_some, Option.some.injEq] at h
          rw [← h]
          rfl
        obtain ⟨oj, hoj⟩ : ∃ z, xs[jj].p.o = z := ⟨_, rfl⟩
        obtain ⟨gf, rfl, -⟩ := fnd_celli (HD.out.gi 0 rfl) hxj HXL.out
        have HOJ : Hid (∀ W : World, W.ownsRow w.heap.size 58 6 (.slice (some ⟨gf, 0, none⟩) kn k2) kn (fndV xs) → Row1 W (some ⟨ga, oa, none⟩) N1 c5 (ivs ofs) → W.cell? ⟨gf, jj * 6, none⟩ = some (.int .i64 oj) ∧ W.cell? ⟨ga, oa + jj, none⟩ = some (.int .i64 oj)) := Lib.hid (fun W h1 h2 => by
          refine ⟨?_, h2.cel (by unfold ivs; rw [List.getElem?_map, HFI.out jj hlj, ← hxo, hoj]; rfl)⟩
          obtain ⟨g3, e3, h3⟩ := fnd_celli h1 hxj HXL.out
          injection e3 with e3
          injection e3 with e3
          subst e3
          rw [h3, hoj])
        clear hxo hoj hxj hlj
        go_wp2_with fail
        have HY := Lib.hid HD.out.drew
        clear HD
        refine wp_region_held_drew (S := (fun w' => w'.cell? ⟨gf, jj * 6, none⟩ = some (.int .i64 oj) ∧ w'.cell? ⟨ga, oa + jj, none⟩ = some (.int .i64 oj))) (by kernel_rfl) (HOJ.out _ (HY.out.gi 0 rfl) (HY.out.grow 1 rfl)) (fun hSw0 => ?_)
        generalize wr.drew = wz at *
        refine takeS 0 ⟨some 203, _, _, _, _, _⟩ ?_
        refine takeS 1 ⟨some 204, _, _, _, _, _⟩ ?_
        refine takeS 2 ⟨some 205, _, _, _, _, _⟩ ?_
        refine takeS 3 ⟨some 206, _, _, _, _, _⟩ ?_
        refine takeS 4 ⟨some 207, _, _, _, _, _⟩ (v := (.int .i64 oj)) (hy := fun w hSw => by
          have q0 := hSw.1
          go_simp) ?_
        refine takeS 5 ⟨some 208, _, _, _, _, _⟩ ?_
        refine takeS 6 ⟨some 209, _, _, _, _, _⟩ ?_
        refine takeS 7 ⟨some 210, _, _, _, _, _⟩ ?_
        refine takeS 8 ⟨some 211, _, _, _, _, _⟩ (v := (.int .i64 oj)) (hy := fun w hSw => by
          have q0 := hSw.2
          go_simp) ?_
        refine takeS 9 ⟨some 212, _, _, _, _, _⟩ ?_
        refine wpAnyH_done (by kernel_rfl) ?_ _
        clear hSw0
        go_wp2_with fail
        go_roundg (gk - 1)
        case measure => omega
        case rel => exact ⟨jj + 1, by omega, by go_num, HY.out⟩
      · obtain rfl : jj = kn := by omega
        have hj6 : ¬ (jj : Int) < (jj : Int) := by omega
        go_wp2_with fail
        refine (awake13_any _).mono ?_
        rintro en w9 ⟨rfl, hO⟩
        have HO := Lib.hid (HD.out.only.trans' hO)
        clear hO HD
        go_wp2_with fail
        refine bodyPost_ret (v := .bool true) (by kernel_rfl) rfl ⟨rfl, HO.out⟩
  · have hpk : ((n : Int) < 1 ∨ (n : Int) > 8) := by omega
    go_enter Tryz.func3, Tryz.ntmps3
    by_cases hb1 : (n : Int) < 1
    · go_wp2_with fail
      refine (awake13_any _).mono ?_
      rintro en w1 ⟨rfl, hO⟩
      go_wp2_with fail
      refine bodyPost_ret (v := .bool true) (by kernel_rfl) rfl ⟨rfl, hO⟩
    · have hb2 : (n : Int) > 8 := by omega
      go_wp2_with fail
      refine (awake13_any _).mono ?_
      rintro en w1 ⟨rfl, hO⟩
      go_wp2_with fail
      refine bodyPost_ret (v := .bool true) (by kernel_rfl) rfl ⟨rfl, hO⟩
theorem walk (a0 : Option Addr) (len0 cap0 : Nat) (l0 : List (List Int)) (a1 : Int) (a2 : Int) (w : World) (w0 : Inss w a0 len0 cap0 l0 ∧ ∀ zs ∈ l0, ∀ z ∈ zs, (Lit.int .i64 z).wf = true) (w1 : (Lit.int .i64 a1).wf = true) (w2 : (Lit.int .i64 a2).wf = true) : Calls Tryz.prog 3 #[.slice a0 len0 cap0, .int .i64 a1, .int .i64 a2] w fun e w' => e = .returned (.bool true) ∧ Below w.heap.size w w' := by
  refine (breaks a0 len0 cap0 l0 a1 a2 w w0.1 w0.2 w1 w2).mono ?_
  rintro e w' ⟨rfl, hO⟩
  exact ⟨rfl, hO.below0⟩
set_option maxRecDepth 100000 in
theorem lifted (os : Os) (started : os.Started) (H : Type) (enc : TypeId × Value → H) :
    ReturnsInHanded {} Tryz.checked os 3 .any (Rows.scanBreaksSpec.pre6 enc Tryz.prog Tryz.f3 Rows.scanBreaksRow.domain false) (Rows.scanBreaksSpec.post enc Tryz.prog Tryz.f3 false true false false) := by
  refine returnsInHanded_of_change (C := Tryz.checked) own started (by kernel_rfl) Tryz.func3
    (ChangeSpec.witness6 (enc := enc) (C := Tryz.checked) false ⟨#[], #[.slice none 0 0, .int .i64 0, .int .i64 0], []⟩ 8 (by kernel_rfl) (by kernel_rfl) (by kernel_rfl) (by kernel_rfl)) ?_
  intro W base args ds gs before hval0 hW hcnd _
  have hval : ∀ (j : Nat) t v, Tryz.f3.params[j]? = some t → args[j]? = some v → Value.okWide Tryz.prog W .any base t v := hval0
  have hW' := hW
  obtain ⟨p, q, hA0, hV, rfl, hfz, hnd⟩ := hW
  have hA : DataW.TrodAll enc Tryz.prog W 0 (fun _ => true) true Tryz.f3.params.toList args.toList ds p := hA0
  rw [Tryz.params3] at hA hval
  obtain ⟨v0, vs0, d0, ds0, p0, q0, hargs, rfl, rfl, h0, r0⟩ := trodAll_cons hA
  obtain ⟨v1, vs1, d1, ds1, p1, q1, rfl, rfl, rfl, h1, r1⟩ := trodAll_cons r0
  obtain ⟨v2, vs2, d2, ds2, p2, q2, rfl, rfl, rfl, h2, r2⟩ := trodAll_cons r1
  obtain ⟨rfl, rfl, rfl⟩ := trodAll_nil r2
  obtain rfl : args = #[v0, v1, v2] := by cases args; simp_all
  obtain ⟨rfl, rfl⟩ := trodVars_none hV
  obtain ⟨a0, len0, cap0, rfl⟩ := okWide_slice Tryz.underlying22 (hval 0 22 v0 rfl rfl)
  have k0 := h0
  have lt0 : ∀ x ∈ p0, x.block < W.heap.size := by obtain ⟨m, hm⟩ := k0; exact DataW.trod_lt m _ _ _ hm
  obtain ⟨l0, w0⟩ : ∃ l, Inss W a0 len0 cap0 l ∧ ∀ zs ∈ l, ∀ z ∈ zs, (Lit.int .i64 z).wf = true := by
    obtain ⟨fuel, hf⟩ := h0
    exact open_inss hf
  obtain ⟨a1, rfl, rfl, rfl, w1⟩ := open_int Tryz.underlying3 (hval 1 3 v1 rfl rfl) h1
  obtain ⟨a2, rfl, rfl, rfl, w2⟩ := open_int Tryz.underlying3 (hval 2 3 v2 rfl rfl) h2
  clear hA0 hval0
  refine (walk a0 len0 cap0 l0 a1 a2 W w0 w1 w2).mono fun e W' ⟨he, bel⟩ => ?_
  subst he
  exact ⟨_, rfl, _, _, _, [], _, [], hW', trodAll_mk1 (shut_bool Tryz.underlying4 _), (trodAll_cons_mk (Below.trod laidOut (by kernel_rfl) (of_decide_eq_true (by kernel_rfl)) k0 bel lt0) (trodAll_cons_mk (shut_int Tryz.underlying3 w1) (trodAll_cons_mk (shut_int Tryz.underlying3 w2) trodAll_mk0))), rfl, bel.frame _, fun h => by cases h⟩
set_option maxRecDepth 100000 in
theorem closed : joinedFacts Tryz.pinned.checked.prog 3 Tryz.f3 Rows.scanBreaksSpec Rows.scanBreaksRow = true := by
  show joinedFacts Tryz.prog 3 Tryz.f3 Rows.scanBreaksSpec Rows.scanBreaksRow = true
  unfold joinedFacts
  simp only [enter_may, enter_lifts, enter_make]
  kernel_rfl
theorem over : Rows.scanBreaksRow.holds Tryz.pinned (OpenSpec.ofChange Rows.scanBreaksSpec) :=
  OpenClaim.holds_of_wide 3 Tryz.f3 rfl rfl rfl rfl rfl rfl rfl ⟨rfl, rfl, rfl, rfl, rfl⟩ rfl rfl rfl rfl rfl (by kernel_rfl) Tryz.func3 closed
    (of_decide_eq_true (by kernel_rfl)) (by unfold Func.isWrapper; first | (rw [if_pos (by decide +kernel)]; kernel_rfl) | (rw [if_neg (by decide +kernel)]; exact ⟨rfl, rfl⟩))
    (fun os started H enc _ => lifted os started H enc)
theorem proved : Rows.ScanBreaksSaid := over
end Go.Proofs.YtgcfdjcpcclcjaaGreat.scanBreaks
