
import Derived.Test.YtgcfdjcpcclcjaaGreatScanStopsH
set_option linter.unusedVariables false
set_option linter.unusedSimpArgs false
namespace Go.Proofs.YtgcfdjcpcclcjaaGreat.scanStops
open Go Go.RowKit Go.Kn Go.Shelf Go.ChangeShapes Go.WideShapes Go.ChangeAt
attribute [local go_sem] Oper.semAt_some
def StC (fk fn : Nat) (k : Int) (m : Nat) : Fr3 := ⟨[(fk, [.int .i64 k]), (fn, [.int .i64 (m : Int)])], [], []⟩
def StJ (fk fn : Nat) (k : Int) (pe : Option Code) (pre : List Fnd) (c : Fr3) (_ : World) : Prop := c = StC fk fn k pre.length ∧ (pe = none ∨ pe = some (.exit 2))
def StM (a0 : Act) (fk fn : Nat) (k : Int) (pre : List Fnd) (x : Fnd) (a : Act) (c : Fr3) (_ : World) : Prop := c = StC fk fn k pre.length ∧ a = { tmps := (#[91, 92].zip (Fnd.enc2 x)).foldl (fun t (p, v) => t.setIfInBounds p v) a0.tmps, defers := [] }
theorem zip2 (T : Array Value) (i j : Nat) (u v : Value) : (#[i, j].zip #[u, v]).foldl (fun t (p, v) => t.setIfInBounds p v) T = (T.setIfInBounds i u).setIfInBounds j v := by
  have h : (#[i, j].zip #[u, v]) = #[(i, u), (j, v)] := by simp
  rw [h]
  rfl
theorem wf7 (j : Nat) (h : (j : Int) < 6) : (Lit.int .i64 (7 * (j : Int))).wf = true := by simp [Lit.wf, IntKind.min, IntKind.max, IntKind.signed, IntKind.bits]; omega
set_option maxRecDepth 100000 in
set_option maxHeartbeats 16000000 in
theorem stops (A : Option Addr) (n c : Nat) (l : List (List Int)) (k0 : Int) (w : World) (hi : Inss w A n c l) (hz : ∀ zs ∈ l, ∀ z ∈ zs, (Lit.int .i64 z).wf = true) (hk0 : (Lit.int .i64 k0).wf = true) :
    Calls Tryz.prog 5 #[.slice A n c, .int .i64 k0] w fun en w' => en = .returned (.bool true) ∧ Only [] w w' := by
  have hlen : l.length = n := hi.len
  obtain ⟨sl, hsl, hw⟩ := hi.old
  have hrow : Row1 w A n c (sl.map slv) := hw.fact _ (List.mem_cons_of_mem _ List.mem_cons_self)
  have hcm := hrow.cm
  have hcl := hrow.le
  unfold maxLen at hcm
  have HL := Lib.hid hlen
  have HSL := Lib.hid hsl
  have H0 := Lib.hid hw
  have HK0 := Lib.hid hk0
  clear hi hlen hsl hw hrow hk0
  by_cases hn : n ≤ 6
  · have hb2 : ¬ (n : Int) > 6 := by omega
    have hc : Cf.Ok (⟨3, 8, 64⟩ : Cf) := ⟨by decide, by decide, by decide⟩
    have hmay : headMay (⟨0, 1, 1, 0, 1⟩ : Ps).head = true := by decide
    obtain ⟨d1, hd1⟩ : ∃ d, d = (Dk.new (⟨3, 8, 64⟩ : Cf).sectors.toNat).puts ((⟨3, 8, 64⟩ : Cf).at_ (⟨0, 1, 1, 0, 1⟩ : Ps).s) (headB (⟨0, 1, 1, 0, 1⟩ : Ps)) := ⟨_, rfl⟩
    have hlg : Lg d1 (⟨3, 8, 64⟩ : Cf) (⟨0, 1, 1, 0, 1⟩ : Ps) [] (⟨0, 1, 1, 0, 1⟩ : Ps) := by rw [hd1]; exact Lg.start (⟨3, 8, 64⟩ : Cf) hc (⟨0, 1, 1, 0, 1⟩ : Ps) (⟨0, 1, 1, 0, 1⟩ : Ps) rfl (by decide) (by decide)
    have hheld : d1.Live ∧ d1.held = [] := by rw [hd1]; exact Dk.Live.puts ⟨rfl, rfl⟩ _ _
    have HC := Lib.hid hc
    have HD1 := Lib.hid hd1
    have HLG := Lib.hid hlg
    have HHE1 := Lib.hid hheld
    have HMAY := Lib.hid hmay
    have H1 := Lib.hid (H0.out.newB #[.int .i64 3, .int .i64 8, .int .i64 64] 25 rfl)
    clear hc hd1 hlg hheld hmay H0
    refine (callsIn_wide (n := 6)).1 (callsIn_of_wp_rets Tryz.func5 rfl ?_)
    simp only [Tryz.ntmps5, List.size_toArray, List.length_cons, List.length_nil, Nat.reduceAdd, Nat.reduceSub, Array.replicate_succ, Array.replicate_zero, List.push_toArray, List.append_toArray, List.nil_append, List.cons_append]
    go_upto_region 4 with (fail)
    generalize hz1 : w.alloc (.cells #[.int .i64 3, .int .i64 8, .int .i64 64] 25) = w1 at *
    obtain ⟨fc, hf3⟩ : ∃ k, k = w.heap.size := ⟨_, rfl⟩
    rw [← hf3] at H1 ⊢
    clear hz1 hf3
    have b3 := H1.out.boxi 0 rfl
    have e0 := b3.cell 0 (by simp)
    have e1 := b3.cell 1 (by simp)
    have e2 := b3.cell 2 (by simp)
    simp only [List.getElem_cons_zero, List.getElem_cons_succ] at e0 e1 e2
    clear b3
    go_wp2_with fail
    refine (desk13_any w w1 (⟨3, 8, 64⟩ : Cf) ⟨[(fc, [.int .i64 3, .int .i64 8, .int .i64 64])], [], [(InRows sl l), (fun W => Row1 W A n c (sl.map slv))]⟩ H1.out HC.out).mono ?_
    rintro en w2 ⟨p, rr, gb, rfl, hd⟩
    have HD := Lib.hid (Duo.newB hd #[.int .i64 0, .int .i64 1, .int .i64 1, .int .i64 0, .int .i64 1] 32 rfl)
    clear hd H1 e0 e1 e2
    go_upto_region 6 with (fail)
    generalize hz2 : w2.alloc (.cells #[.int .i64 0, .int .i64 1, .int .i64 1, .int .i64 0, .int .i64 1] 32) = w3 at *
    generalize w2.heap.size = fp at *
    clear hz2 w2 w1
    have b8 := HD.out.box (x := (fp, [.int .i64 0, .int .i64 1, .int .i64 1, .int .i64 0, .int .i64 1])) (by simp)
    have q0 := b8.cell 0 (by simp)
    have q1 := b8.cell 1 (by simp)
    have q2 := b8.cell 2 (by simp)
    have q3 := b8.cell 3 (by simp)
    have q4 := b8.cell 4 (by simp)
    simp only [List.getElem_cons_zero, List.getElem_cons_succ] at q0 q1 q2 q3 q4
    have b3 := HD.out.box (x := (fc, [.int .i64 3, .int .i64 8, .int .i64 64])) (by simp)
    have e0 := b3.cell 0 (by simp)
    have e1 := b3.cell 1 (by simp)
    have e2 := b3.cell 2 (by simp)
    simp only [List.getElem_cons_zero, List.getElem_cons_succ] at e0 e1 e2
    clear b8 b3
    go_wp2_with fail
    refine (kit_head_any w w3 p rr _ _ (⟨3, 8, 64⟩ : Cf) (⟨0, 1, 1, 0, 1⟩ : Ps) HD.out HC.out HMAY.out (by decide) (by simp [Dk.new])).mono ?_
    rintro en w4 ⟨rfl, hd⟩
    rw [← HD1.out] at hd
    have b8 := hd.box (x := (fp, [.int .i64 0, .int .i64 1, .int .i64 1, .int .i64 0, .int .i64 1])) (by simp)
    clear q0 q1 q2 q3 q4 e0 e1 e2
    have q0 := b8.cell 0 (by simp)
    have q1 := b8.cell 1 (by simp)
    have q2 := b8.cell 2 (by simp)
    have q3 := b8.cell 3 (by simp)
    have q4 := b8.cell 4 (by simp)
    simp only [List.getElem_cons_zero, List.getElem_cons_succ] at q0 q1 q2 q3 q4
    have HD2 := Lib.hid (Duo.newB hd #[.int .i64 0, .int .i64 1, .int .i64 1, .int .i64 0, .int .i64 1] 32 rfl)
    clear b8 hd HD
    go_upto_region 10 with (fail)
    generalize hz4 : w4.alloc (.cells #[.int .i64 0, .int .i64 1, .int .i64 1, .int .i64 0, .int .i64 1] 32) = w5 at *
    generalize w4.heap.size = fq at *
    clear hz4 q0 q1 q2 q3 q4
    go_wp2_with fail
    go_loopg [9, 12] n (fun gr t9 i wr => ∃ (j : Nat) (ll : List (Ps × Rc)) (q : Ps) (dd : Dk), j + gr = n ∧ t9 = .bool true ∧ i = .int .i64 j ∧ Duo w wr p rr dd dd ⟨(fq, [.int .i64 q.s, .int .i64 q.o, .int .i64 q.l, .int .i64 q.p, .int .i64 q.m]) :: (fp, [.int .i64 0, .int .i64 1, .int .i64 1, .int .i64 0, .int .i64 1]) :: (fc, [.int .i64 3, .int .i64 8, .int .i64 64]) :: [], [], (fun W => GeoAt W gb 3 8 64) :: (InRows sl l) :: (fun W => Row1 W A n c (sl.map slv)) :: []⟩ ∧ Lg dd (⟨3, 8, 64⟩ : Cf) (⟨0, 1, 1, 0, 1⟩ : Ps) ll q ∧ ll.length = j ∧ dd.Live ∧ dd.held = [] ∧ q.s = 0 ∧ (1 ≤ q.o ∧ q.o ≤ 1 + 7 * (j : Int)) ∧ q.l = 1 + (j : Int) ∧ (0 ≤ q.p ∧ q.p ≤ 4294967295) ∧ q.m = 1)
    case atStart => exact ⟨0, [], (⟨0, 1, 1, 0, 1⟩ : Ps), d1, by omega, rfl, rfl, HD2.out, HLG.out, rfl, HHE1.out.1, HHE1.out.2, rfl, by decide, rfl, by decide, rfl⟩
    clear HD2 HLG HHE1 HD1
    obtain ⟨j, ll, q, dd, hj, rfl, rfl, hd, hm, hln, hlv, hhe, hqs, hqo, hql, hqp, hqm⟩ := hrel
    have HD := Lib.hid hd
    have HLG := Lib.hid hm
    have HLN := Lib.hid hln
    have HLV := Lib.hid hlv
    have HHE := Lib.hid hhe
    have HQS := Lib.hid hqs
    have HQL := Lib.hid hql
    have HQM := Lib.hid hqm
    obtain ⟨hqo1, hqo2⟩ := hqo
    clear hd hm hln hlv hhe hqs hql hqm
    by_cases hlt : j < n
    · have hjz : j < l.length := by rw [HL.out]; exact hlt
      obtain ⟨zs, hzs⟩ : ∃ z, l[j]? = some z := ⟨_, List.getElem?_eq_getElem hjz⟩
      obtain ⟨⟨s1, s2, s3⟩, hss⟩ : ∃ s, sl[j]? = some s := ⟨_, List.getElem?_eq_getElem (by rw [HSL.out]; exact hjz)⟩
      have hzw := hz zs (List.mem_of_getElem? hzs)
      have hins := HD.out.fact (f := (InRows sl l)) (by simp) j _ zs hss hzs
      have hzl : zs.length = s2 := by have := hins.len; simpa [ivs] using this
      have hcm3 := hins.cm
      have hle3 := hins.le
      unfold maxLen at hcm3
      have hrow := HD.out.fact (f := (fun W => Row1 W A n c (sl.map slv))) (by simp)
      obtain ⟨g, o, rfl, hcell⟩ := hrow.at_ (by omega)
      have HP : Hid (∀ W : World, Row1 W (some ⟨g, o, none⟩) n c (sl.map slv) → W.cell? ⟨g, o + j, none⟩ = some (.slice s1 s2 s3)) := Lib.hid (fun W h => (h.cel (by rw [List.getElem?_map, hss]; rfl)))
      have cz := HP.out _ hrow
      have hlt2 : (j : Int) < (n : Int) := by omega
      have hlt9 : (j : Int) < 6 := by omega
      have HZW := Lib.hid hzw
      have HZL := Lib.hid hzl
      have HZS := Lib.hid hzs
      have HSS := Lib.hid hss
      clear hzs hss hzw hzl hins hrow hcell hjz
      by_cases h6 : (s2 : Int) > 6
      · go_wp2_with fail
        refine (awake13_any _).mono ?_
        rintro en w9 ⟨rfl, hO⟩
        have HO := Lib.hid (HD.out.only.trans' hO)
        clear hO HD
        go_wp2_with fail
        refine marks_ret (v := .bool true) (by kernel_rfl) rfl ⟨rfl, HO.out⟩
      obtain ⟨r, q2, d2, hrun, hr0, hmy, hlg2, hq2, hbl, hd2⟩ := logRun_one HLG.out HC.out zs (7 * j) (by have := HZL.out; omega) (by rw [HQM.out]; decide) (by have := HQL.out; omega) hqp (by show q.o + 7 ≤ 64 - 1; omega)
      have HRUN := Lib.hid hrun
      have HLG2 := Lib.hid hlg2
      have hsum := rcSum_lt hmy
      have hq2b : q2.s = 0 ∧ (1 ≤ q2.o ∧ q2.o ≤ 1 + 7 * ((j : Int) + 1)) ∧ q2.l = 1 + ((j : Int) + 1) ∧ (0 ≤ q2.p ∧ q2.p ≤ 4294967295) ∧ q2.m = 1 := by
        rw [hq2]
        have h1 := HQS.out
        have h2 := HQL.out
        have h3 := HQM.out
        refine ⟨h1, ⟨?_, ?_⟩, ?_, ⟨?_, ?_⟩, h3⟩ <;> simp only <;> omega
      have HQ2 := Lib.hid hq2b
      have hlv : d2.Live ∧ d2.held = [] := by rw [hd2]; exact Dk.Live.puts HLG.out.rdy.live _ _
      have HLV2 := Lib.hid hlv
      have HLN2 : Hid ((ll ++ [(q, r)]).length = j + 1) := Lib.hid (by have := HLN.out; simp [this])
      have HPO : Hid (PsOk (⟨3, 8, 64⟩ : Cf) q) := Lib.hid ⟨⟨by rw [HQM.out]; decide, by have := HQL.out; omega, by omega⟩, by rw [HQS.out]; decide, by omega, by omega⟩
      clear hrun hlg2 hsum hq2b hlv hr0 hmy hq2 hbl hd2 HLG
      have hw7 := IntWalk.i64_in (7 * (j : Int)) (by omega)
      have b := HD.out.box (x := (fc, [.int .i64 3, .int .i64 8, .int .i64 64])) (by simp)
      go_wp2_with fail
      have HY := Lib.hid HD.out.drew
      clear HD b cz
      refine wp_region_held_drew (S := (fun w' => Kn.Own w' fc [.int .i64 3, .int .i64 8, .int .i64 64] ∧ w'.cell? ⟨g, o + j, none⟩ = some (.slice s1 s2 s3))) (by kernel_rfl) ⟨HY.out.box (x := (fc, [.int .i64 3, .int .i64 8, .int .i64 64])) (by simp), HP.out _ (HY.out.fact (f := (fun W => Row1 W (some ⟨g, o, none⟩) n c (sl.map slv))) (by simp))⟩ (fun hSw0 => ?_)
      generalize wr.drew = wz at *
      refine wpAnyH_take (i := 0) (oi := ⟨some 58, _, _, _, _, _⟩) (v := ?_) rfl (by kernel_rfl) (by kernel_rfl) (by kernel_rfl) (fun _ _ _ h => h) (Or.inl ⟨by rfl, ?_⟩) (by assumption) ?_
      rotate_left
      · intro w hSw
        (try dsimp only at hSw)
        go_simp
        all_goals (try with_reducible rfl)
      (try simp only [Act.put, List.setIfInBounds_toArray, List.set_cons_zero, List.set_cons_succ])
      refine wpAnyH_take (i := 1) (oi := ⟨some 59, _, _, _, _, _⟩) (v := ?_) rfl (by kernel_rfl) (by kernel_rfl) (by kernel_rfl) (fun _ _ _ h => h) (Or.inl ⟨by rfl, ?_⟩) (by assumption) ?_
      rotate_left
      · intro w hSw
        (try dsimp only at hSw)
        go_simp
        all_goals (try with_reducible rfl)
      (try simp only [Act.put, List.setIfInBounds_toArray, List.set_cons_zero, List.set_cons_succ])
      refine wpAnyH_take (i := 2) (oi := ⟨some 60, _, _, _, _, _⟩) (v := (.agg #[.int .i64 3, .int .i64 8, .int .i64 64])) rfl (by kernel_rfl) (by kernel_rfl) (by kernel_rfl) (fun _ _ _ h => h) (Or.inl ⟨by rfl, ?_⟩) (by assumption) ?_
      · intro w hSw
        have q0 := hSw.1
        have q00 := q0.cell 0 (by simp)
        have q01 := q0.cell 1 (by simp)
        have q02 := q0.cell 2 (by simp)
        simp only [List.getElem_cons_zero, List.getElem_cons_succ] at q00 q01 q02
        clear q0
        go_simp
      (try simp only [Act.put, List.setIfInBounds_toArray, List.set_cons_zero, List.set_cons_succ])
      refine wpAnyH_take (i := 4) (oi := ⟨some 62, _, _, _, _, _⟩) (v := ?_) rfl (by kernel_rfl) (by kernel_rfl) (by kernel_rfl) (fun _ _ _ h => h) (Or.inl ⟨by rfl, ?_⟩) (by assumption) ?_
      rotate_left
      · intro w hSw
        (try dsimp only at hSw)
        go_simp
        all_goals (try with_reducible rfl)
      (try simp only [Act.put, List.setIfInBounds_toArray, List.set_cons_zero, List.set_cons_succ])
      refine wpAnyH_take (i := 5) (oi := ⟨some 63, _, _, _, _, _⟩) (v := ?_) rfl (by kernel_rfl) (by kernel_rfl) (by kernel_rfl) (fun _ _ _ h => h) (Or.inl ⟨by rfl, ?_⟩) (by assumption) ?_
      rotate_left
      · intro w hSw
        (try dsimp only at hSw)
        go_simp
        all_goals (try with_reducible rfl)
      (try simp only [Act.put, List.setIfInBounds_toArray, List.set_cons_zero, List.set_cons_succ])
      refine wpAnyH_take (i := 6) (oi := ⟨some 64, _, _, _, _, _⟩) (v := ?_) rfl (by kernel_rfl) (by kernel_rfl) (by kernel_rfl) (fun _ _ _ h => h) (Or.inl ⟨by rfl, ?_⟩) (by assumption) ?_
      rotate_left
      · intro w hSw
        (try dsimp only at hSw)
        go_simp
        all_goals (try with_reducible rfl)
      (try simp only [Act.put, List.setIfInBounds_toArray, List.set_cons_zero, List.set_cons_succ])
      refine wpAnyH_take (i := 7) (oi := ⟨some 65, _, _, _, _, _⟩) (v := (.slice s1 s2 s3)) rfl (by kernel_rfl) (by kernel_rfl) (by kernel_rfl) (fun _ _ _ h => h) (Or.inl ⟨by rfl, ?_⟩) (by assumption) ?_
      · intro w hSw
        have q0 := hSw.2
        go_simp
      (try simp only [Act.put, List.setIfInBounds_toArray, List.set_cons_zero, List.set_cons_succ])
      refine wpAnyH_take (i := 8) (oi := ⟨some 66, _, _, _, _, _⟩) (v := ?_) rfl (by kernel_rfl) (by kernel_rfl) (by kernel_rfl) (fun _ _ _ h => h) (Or.inl ⟨by rfl, ?_⟩) (by assumption) ?_
      rotate_left
      · intro w hSw
        (try dsimp only at hSw)
        go_simp
        all_goals (try with_reducible rfl)
      (try simp only [Act.put, List.setIfInBounds_toArray, List.set_cons_zero, List.set_cons_succ])
      refine wpAnyH_take (i := 9) (oi := ⟨some 67, _, _, _, _, _⟩) (v := ?_) rfl (by kernel_rfl) (by kernel_rfl) (by kernel_rfl) (fun _ _ _ h => h) (Or.inl ⟨by rfl, ?_⟩) (by assumption) ?_
      rotate_left
      · intro w hSw
        (try dsimp only at hSw)
        go_simp
        all_goals (try with_reducible rfl)
      (try simp only [Act.put, List.setIfInBounds_toArray, List.set_cons_zero, List.set_cons_succ])
      refine wpAnyH_take (i := 10) (oi := ⟨some 68, _, _, _, _, _⟩) (v := ?_) rfl (by kernel_rfl) (by kernel_rfl) (by kernel_rfl) (fun _ _ _ h => h) (Or.inl ⟨by rfl, ?_⟩) (by assumption) ?_
      rotate_left
      · intro w hSw
        (try dsimp only at hSw)
        go_simp
        all_goals (try with_reducible rfl)
      (try simp only [Act.put, List.setIfInBounds_toArray, List.set_cons_zero, List.set_cons_succ])
      refine wpAnyH_ready (rs := [3, 11]) (by kernel_rfl) (by simp) ?_
      refine AllReadyH.cons (o := ⟨some 61, _, _, _, _, _⟩) rfl (fun K hK => ?_) ?_
      · have b1 := HY.out.box (x := (fq, [.int .i64 q.s, .int .i64 q.o, .int .i64 q.l, .int .i64 q.p, .int .i64 q.m])) (by simp)
        have q0 := b1.cell 0 (by simp)
        have q1 := b1.cell 1 (by simp)
        have q2 := b1.cell 2 (by simp)
        have q3 := b1.cell 3 (by simp)
        have q4 := b1.cell 4 (by simp)
        simp only [List.getElem_cons_zero, List.getElem_cons_succ] at q0 q1 q2 q3 q4
        clear b1
        go_simp
        clear q0 q1 q2 q3 q4
        refine hK.out _ _ hSw0 (fun hSn => ?_)
        clear hK K hSw0
        have hSw0 := hSn
        clear hSn
        (try simp only [Act.put, List.setIfInBounds_toArray, List.set_cons_zero, List.set_cons_succ])
        refine wpAnyH_ready (rs := [11]) (by kernel_rfl) (by simp) ?_
        refine AllReadyH.cons (o := ⟨some 69, _, _, _, _, _⟩) rfl (fun K hK => ?_) AllReadyH.nil
        go_simp
        have HYk := Lib.hid (Duo.krs1 HY.out (sl := sl) (l := l) (by simp) HSS.out HZS.out (7 * (j : Int)) 38)
        clear HY
        generalize hvb : wz.alloc (.cells #[.slice s1 s2 s3, .int .i64 (7 * (j : Int)), .int .i64 0, .int .i64 0, .int .i64 0] 38) = vb at *
        generalize wz.heap.size = gr2 at *
        clear hvb
        refine hK.out _ _ ⟨HYk.out.box (x := (fc, [.int .i64 3, .int .i64 8, .int .i64 64])) (by simp), HP.out _ (HYk.out.fact (f := (fun W => Row1 W (some ⟨g, o, none⟩) n c (sl.map slv))) (by simp))⟩ (fun hSn => ?_)
        clear hK K hSw0
        have hSw0 := hSn
        clear hSn
        (try simp only [Act.put, List.setIfInBounds_toArray, List.set_cons_zero, List.set_cons_succ])
        refine wpAnyH_ready (rs := [12]) (by kernel_rfl) (by simp) ?_
        refine AllReadyH.cons (o := ⟨some 70, _, _, _, _, _⟩) rfl (fun K hK => ?_) AllReadyH.nil
        go_simp
        refine (kit_log_any w _ p rr dd _ (⟨3, 8, 64⟩ : Cf) q (some ⟨gr2, 0, none⟩) 1 1 [⟨zs, 7 * (j : Int), 0, 0, 0⟩] [(s1, s2, s3)] HYk.out List.mem_cons_self ?wf HC.out HPO.out HLV.out HHE.out).mono ?_
        case wf =>
          intro x hx
          rw [List.mem_singleton] at hx
          subst hx
          exact kr_wf HZW.out (wf7 j hlt9)
        rw [HRUN.out]
        rintro en wb ⟨rfl, hd⟩
        have HY2 := Lib.hid (Duo.subF hd (F' := (fun W => GeoAt W gb 3 8 64) :: (InRows sl l) :: (fun W => Row1 W (some ⟨g, o, none⟩) n c (sl.map slv)) :: []) (fun f hf => List.mem_cons_of_mem _ hf))
        clear hd HYk
        refine hK.out _ _ ⟨HY2.out.box (x := (fc, [.int .i64 3, .int .i64 8, .int .i64 64])) (by simp), HP.out _ (HY2.out.fact (f := (fun W => Row1 W (some ⟨g, o, none⟩) n c (sl.map slv))) (by simp))⟩ (fun hSn => ?_)
        clear hK K hSw0
        have hSw0 := hSn
        clear hSn
        (try simp only [Act.put, List.setIfInBounds_toArray, List.set_cons_zero, List.set_cons_succ])
        refine wpAnyH_take (i := 13) (oi := ⟨some 57, _, _, _, _, _⟩) (v := ?_) rfl (by kernel_rfl) (by kernel_rfl) (by kernel_rfl) (fun _ _ _ h => h) (Or.inl ⟨by rfl, ?_⟩) (by assumption) ?_
        rotate_left
        · intro w hSw
          (try dsimp only at hSw)
          go_simp
          all_goals (try with_reducible rfl)
        (try simp only [Act.put, List.setIfInBounds_toArray, List.set_cons_zero, List.set_cons_succ])
        refine wpAnyH_take (i := 14) (oi := ⟨some 71, _, _, _, _, _⟩) (v := ?_) rfl (by kernel_rfl) (by kernel_rfl) (by kernel_rfl) (fun _ _ _ h => h) (Or.inl ⟨by rfl, ?_⟩) (by assumption) ?_
        rotate_left
        · intro w hSw
          (try dsimp only at hSw)
          go_simp
          all_goals (try with_reducible rfl)
        (try simp only [Act.put, List.setIfInBounds_toArray, List.set_cons_zero, List.set_cons_succ])
        refine wpAnyH_take (i := 15) (oi := ⟨some 72, _, _, _, _, _⟩) (v := ?_) rfl (by kernel_rfl) (by kernel_rfl) (by kernel_rfl) (fun _ _ _ h => h) (Or.inl ⟨by rfl, ?_⟩) (by assumption) ?_
        rotate_left
        · intro w hSw
          (try dsimp only at hSw)
          go_simp
          all_goals (try with_reducible rfl)
        (try simp only [Act.put, List.setIfInBounds_toArray, List.set_cons_zero, List.set_cons_succ])
        refine wpAnyH_ready (rs := [16]) (by kernel_rfl) (by simp) ?_
        refine AllReadyH.cons (o := ⟨none, _, _, _, _, _⟩) rfl (fun K hK => ?_) AllReadyH.nil
        refine step_store_own rfl 32 (.tmp 11) (.tmp 71) rfl fq [.int .i64 q.s, .int .i64 q.o, .int .i64 q.l, .int .i64 q.p, .int .i64 q.m] [.int .i64 q2.s, .int .i64 q2.o, .int .i64 q2.l, .int .i64 q2.p, .int .i64 q2.m] (by kernel_rfl) rfl rfl (HY2.out.box (x := (fq, [.int .i64 q.s, .int .i64 q.o, .int .i64 q.l, .int .i64 q.p, .int .i64 q.m])) (by simp)) rfl (by intro u hu; simp at hu; rcases hu with rfl | rfl | rfl | rfl | rfl <;> rfl) ?_
        intro wc ho9 hO9
        have HY3 := Lib.hid (HY2.out.head ho9 hO9)
        clear ho9 hO9 HY2
        refine hK.out _ _ ⟨HY3.out.box (x := (fc, [.int .i64 3, .int .i64 8, .int .i64 64])) (by simp), HP.out _ (HY3.out.fact (f := (fun W => Row1 W (some ⟨g, o, none⟩) n c (sl.map slv))) (by simp))⟩ (fun hSn => ?_)
        clear hK K hSw0
        have hSw0 := hSn
        clear hSn
        (try simp only [Act.put, List.setIfInBounds_toArray, List.set_cons_zero, List.set_cons_succ])
        refine wpAnyH_take (i := 17) (oi := ⟨some 9, _, _, _, _, _⟩) (v := ?_) rfl (by kernel_rfl) (by kernel_rfl) (by kernel_rfl) (fun _ _ _ h => h) (Or.inl ⟨by rfl, ?_⟩) (by assumption) ?_
        rotate_left
        · intro w hSw
          (try dsimp only at hSw)
          go_simp
          all_goals (try with_reducible rfl)
        (try simp only [Act.put, List.setIfInBounds_toArray, List.set_cons_zero, List.set_cons_succ])
        refine wpAnyH_done (by kernel_rfl) ?_ _
        clear hSw0
        go_wp2_with fail
        go_roundg (gk - 1)
        case measure => omega
        case rel => exact ⟨j + 1, ll ++ [(q, r)], q2, d2, by omega, rfl, by go_num, HY3.out, HLG2.out, HLN2.out, HLV2.out.1, HLV2.out.2, HQ2.out.1, ⟨HQ2.out.2.1.1, by have := HQ2.out.2.1.2; push_cast; omega⟩, by have := HQ2.out.2.2.1; push_cast; omega, HQ2.out.2.2.2.1, HQ2.out.2.2.2.2⟩
      refine AllReadyH.cons (o := ⟨some 69, _, _, _, _, _⟩) rfl (fun K hK => ?_) ?_
      · go_simp
        have HYk := Lib.hid (Duo.krs1 HY.out (sl := sl) (l := l) (by simp) HSS.out HZS.out (7 * (j : Int)) 38)
        clear HY
        generalize hvb : wz.alloc (.cells #[.slice s1 s2 s3, .int .i64 (7 * (j : Int)), .int .i64 0, .int .i64 0, .int .i64 0] 38) = vb at *
        generalize wz.heap.size = gr2 at *
        clear hvb
        refine hK.out _ _ ⟨HYk.out.box (x := (fc, [.int .i64 3, .int .i64 8, .int .i64 64])) (by simp), HP.out _ (HYk.out.fact (f := (fun W => Row1 W (some ⟨g, o, none⟩) n c (sl.map slv))) (by simp))⟩ (fun hSn => ?_)
        clear hK K hSw0
        have hSw0 := hSn
        clear hSn
        (try simp only [Act.put, List.setIfInBounds_toArray, List.set_cons_zero, List.set_cons_succ])
        refine wpAnyH_ready (rs := [3]) (by kernel_rfl) (by simp) ?_
        refine AllReadyH.cons (o := ⟨some 61, _, _, _, _, _⟩) rfl (fun K hK => ?_) AllReadyH.nil
        have b1 := HYk.out.box (x := (fq, [.int .i64 q.s, .int .i64 q.o, .int .i64 q.l, .int .i64 q.p, .int .i64 q.m])) (by simp)
        have q0 := b1.cell 0 (by simp)
        have q1 := b1.cell 1 (by simp)
        have q2 := b1.cell 2 (by simp)
        have q3 := b1.cell 3 (by simp)
        have q4 := b1.cell 4 (by simp)
        simp only [List.getElem_cons_zero, List.getElem_cons_succ] at q0 q1 q2 q3 q4
        clear b1
        go_simp
        clear q0 q1 q2 q3 q4
        refine hK.out _ _ hSw0 (fun hSn => ?_)
        clear hK K hSw0
        have hSw0 := hSn
        clear hSn
        (try simp only [Act.put, List.setIfInBounds_toArray, List.set_cons_zero, List.set_cons_succ])
        refine wpAnyH_ready (rs := [12]) (by kernel_rfl) (by simp) ?_
        refine AllReadyH.cons (o := ⟨some 70, _, _, _, _, _⟩) rfl (fun K hK => ?_) AllReadyH.nil
        go_simp
        refine (kit_log_any w _ p rr dd _ (⟨3, 8, 64⟩ : Cf) q (some ⟨gr2, 0, none⟩) 1 1 [⟨zs, 7 * (j : Int), 0, 0, 0⟩] [(s1, s2, s3)] HYk.out List.mem_cons_self ?wf HC.out HPO.out HLV.out HHE.out).mono ?_
        case wf =>
          intro x hx
          rw [List.mem_singleton] at hx
          subst hx
          exact kr_wf HZW.out (wf7 j hlt9)
        rw [HRUN.out]
        rintro en wb ⟨rfl, hd⟩
        have HY2 := Lib.hid (Duo.subF hd (F' := (fun W => GeoAt W gb 3 8 64) :: (InRows sl l) :: (fun W => Row1 W (some ⟨g, o, none⟩) n c (sl.map slv)) :: []) (fun f hf => List.mem_cons_of_mem _ hf))
        clear hd HYk
        refine hK.out _ _ ⟨HY2.out.box (x := (fc, [.int .i64 3, .int .i64 8, .int .i64 64])) (by simp), HP.out _ (HY2.out.fact (f := (fun W => Row1 W (some ⟨g, o, none⟩) n c (sl.map slv))) (by simp))⟩ (fun hSn => ?_)
        clear hK K hSw0
        have hSw0 := hSn
        clear hSn
        (try simp only [Act.put, List.setIfInBounds_toArray, List.set_cons_zero, List.set_cons_succ])
        refine wpAnyH_take (i := 13) (oi := ⟨some 57, _, _, _, _, _⟩) (v := ?_) rfl (by kernel_rfl) (by kernel_rfl) (by kernel_rfl) (fun _ _ _ h => h) (Or.inl ⟨by rfl, ?_⟩) (by assumption) ?_
        rotate_left
        · intro w hSw
          (try dsimp only at hSw)
          go_simp
          all_goals (try with_reducible rfl)
        (try simp only [Act.put, List.setIfInBounds_toArray, List.set_cons_zero, List.set_cons_succ])
        refine wpAnyH_take (i := 14) (oi := ⟨some 71, _, _, _, _, _⟩) (v := ?_) rfl (by kernel_rfl) (by kernel_rfl) (by kernel_rfl) (fun _ _ _ h => h) (Or.inl ⟨by rfl, ?_⟩) (by assumption) ?_
        rotate_left
        · intro w hSw
          (try dsimp only at hSw)
          go_simp
          all_goals (try with_reducible rfl)
        (try simp only [Act.put, List.setIfInBounds_toArray, List.set_cons_zero, List.set_cons_succ])
        refine wpAnyH_take (i := 15) (oi := ⟨some 72, _, _, _, _, _⟩) (v := ?_) rfl (by kernel_rfl) (by kernel_rfl) (by kernel_rfl) (fun _ _ _ h => h) (Or.inl ⟨by rfl, ?_⟩) (by assumption) ?_
        rotate_left
        · intro w hSw
          (try dsimp only at hSw)
          go_simp
          all_goals (try with_reducible rfl)
        (try simp only [Act.put, List.setIfInBounds_toArray, List.set_cons_zero, List.set_cons_succ])
        refine wpAnyH_ready (rs := [16]) (by kernel_rfl) (by simp) ?_
        refine AllReadyH.cons (o := ⟨none, _, _, _, _, _⟩) rfl (fun K hK => ?_) AllReadyH.nil
        refine step_store_own rfl 32 (.tmp 11) (.tmp 71) rfl fq [.int .i64 q.s, .int .i64 q.o, .int .i64 q.l, .int .i64 q.p, .int .i64 q.m] [.int .i64 q2.s, .int .i64 q2.o, .int .i64 q2.l, .int .i64 q2.p, .int .i64 q2.m] (by kernel_rfl) rfl rfl (HY2.out.box (x := (fq, [.int .i64 q.s, .int .i64 q.o, .int .i64 q.l, .int .i64 q.p, .int .i64 q.m])) (by simp)) rfl (by intro u hu; simp at hu; rcases hu with rfl | rfl | rfl | rfl | rfl <;> rfl) ?_
        intro wc ho9 hO9
        have HY3 := Lib.hid (HY2.out.head ho9 hO9)
        clear ho9 hO9 HY2
        refine hK.out _ _ ⟨HY3.out.box (x := (fc, [.int .i64 3, .int .i64 8, .int .i64 64])) (by simp), HP.out _ (HY3.out.fact (f := (fun W => Row1 W (some ⟨g, o, none⟩) n c (sl.map slv))) (by simp))⟩ (fun hSn => ?_)
        clear hK K hSw0
        have hSw0 := hSn
        clear hSn
        (try simp only [Act.put, List.setIfInBounds_toArray, List.set_cons_zero, List.set_cons_succ])
        refine wpAnyH_take (i := 17) (oi := ⟨some 9, _, _, _, _, _⟩) (v := ?_) rfl (by kernel_rfl) (by kernel_rfl) (by kernel_rfl) (fun _ _ _ h => h) (Or.inl ⟨by rfl, ?_⟩) (by assumption) ?_
        rotate_left
        · intro w hSw
          (try dsimp only at hSw)
          go_simp
          all_goals (try with_reducible rfl)
        (try simp only [Act.put, List.setIfInBounds_toArray, List.set_cons_zero, List.set_cons_succ])
        refine wpAnyH_done (by kernel_rfl) ?_ _
        clear hSw0
        go_wp2_with fail
        go_roundg (gk - 1)
        case measure => omega
        case rel => exact ⟨j + 1, ll ++ [(q, r)], q2, d2, by omega, rfl, by go_num, HY3.out, HLG2.out, HLN2.out, HLV2.out.1, HLV2.out.2, HQ2.out.1, ⟨HQ2.out.2.1.1, by have := HQ2.out.2.1.2; push_cast; omega⟩, by have := HQ2.out.2.2.1; push_cast; omega, HQ2.out.2.2.2.1, HQ2.out.2.2.2.2⟩
      exact AllReadyH.nil
    · obtain rfl : n = j := by omega
      clear hlt hj
      have hw1 := IntWalk.i64_in ((n : Int) + 1) (by omega)
      have b8 := HD.out.box (x := (fp, [.int .i64 0, .int .i64 1, .int .i64 1, .int .i64 0, .int .i64 1])) (by simp)
      have q0 := b8.cell 0 (by simp)
      have q1 := b8.cell 1 (by simp)
      have q2 := b8.cell 2 (by simp)
      have q3 := b8.cell 3 (by simp)
      have q4 := b8.cell 4 (by simp)
      simp only [List.getElem_cons_zero, List.getElem_cons_succ] at q0 q1 q2 q3 q4
      clear b8
      go_wp2_with fail
      refine (duo_new HD.out gb (⟨0, 1, 1, 0, 1⟩ : Ps)).mono ?_
      rintro en w2 ⟨S, rfl, hd⟩
      have HD2 := Lib.hid (Duo.newB hd #[.int .i64 0] 3 rfl)
      clear hd HD q0 q1 q2 q3 q4
      go_upto_region 21 with (fail)
      generalize hz2 : w2.alloc (.cells #[.int .i64 0] 3) = w3 at *
      generalize w2.heap.size = fn at *
      clear hz2 w2
      go_wp2_with fail
      refine (round_any k0 ((n : Int) + 1) _ HK0.out (by omega) (by omega)).mono ?_
      rintro en w4 ⟨rfl, rfl⟩
      obtain ⟨k, hk⟩ : ∃ k, k0 % ((n : Int) + 1) = k := ⟨_, rfl⟩
      rw [hk]
      have HD3 := Lib.hid (Duo.newB HD2.out #[.int .i64 k] 3 rfl)
      clear HD2 hk
      go_upto_region 22 with (fail)
      generalize hz3 : w3.alloc (.cells #[.int .i64 k] 3) = w4 at *
      generalize w3.heap.size = fk at *
      clear hz3 w3
      go_wp2_with fail
      refine (records_any _ _).mono ?_
      rintro en w5 ⟨rfl, rfl⟩
      have HD4 := Lib.hid (Duo.newB HD3.out #[.pointer (some ⟨S, 0, none⟩)] 40 rfl)
      clear HD3
      have hfn := fun (w : World) (x y : Array Value) => run_eql_func_nil (P := Tryz.prog) w 68 Tryz.underlying68 (.func 97) x y
      go_upto_region 23 with (fail)
      generalize hz4 : w4.alloc (.cells #[.pointer (some ⟨S, 0, none⟩)] 40) = w5 at *
      generalize w4.heap.size = bS at *
      clear hz4 w4
      go_wp2_with fail
      refine wp_range_join (b := 2) (fun a a' W => ∃ (D m : Nat) (e : Ps), a' = { a with defers := { target := .collected D, args := #[] } :: a.defers } ∧ w.heap.size ≤ D ∧ m ≤ n ∧ Duo w W p rr dd dd ⟨(fk, [.int .i64 k]) :: (fn, [.int .i64 (m : Int)]) :: (S, SB p.D gb (⟨0, 1, 1, 0, 1⟩ : Ps) false e 0) :: (bS, [.pointer (some ⟨S, 0, none⟩)]) :: (fq, [.int .i64 q.s, .int .i64 q.o, .int .i64 q.l, .int .i64 q.p, .int .i64 q.m]) :: (fp, [.int .i64 0, .int .i64 1, .int .i64 1, .int .i64 0, .int .i64 1]) :: (fc, [.int .i64 3, .int .i64 8, .int .i64 64]) :: [], [], (fun W => GeoAt W gb 3 8 64) :: (InRows sl l) :: (fun W => Row1 W A n c (sl.map slv)) :: []⟩ ∧ scanR dd (⟨3, 8, 64⟩ : Cf) false e = (ll.drop m, q, 0) ∧ W.heap[D]? = some (.deferred (some []))) ?rest ?rng
      case rest =>
        rintro a' W ⟨D, m, e, rfl, hD, hm, hd, hsc, hKD⟩
        dsimp only
        obtain ⟨r, hr⟩ : ∃ r, m + r = n := ⟨n - m, by omega⟩
        have hsub : IntKind.i64.wrap ((n : Int) - (m : Int)) = (r : Int) := by rw [show (n : Int) - (m : Int) = (r : Int) from by omega]; exact IntWalk.i64_in _ (by omega)
        have hr6 : r ≤ 6 := by omega
        have HSC := Lib.hid hsc
        have HLR : Hid ((ll.drop m).length = r) := Lib.hid (by rw [List.length_drop, HLN.out]; omega)
        have HSP : Hid (scanR dd (⟨3, 8, 64⟩ : Cf) false (⟨0, 1, 1, 0, 1⟩ : Ps) = (ll, q, 0)) := Lib.hid ((scanR_off (by decide) (by decide)).trans (HLG.out.scan HC.out))
        have HKD := Lib.hid hKD
        have HDD := Lib.hid hD
        have HE0 := Lib.hid hd
        have HR := Lib.hid hr
        clear hD hd hsc hKD hr HD4
        go_wp2_with fail
        refine (duo_end HE0.out (S := S) (gb := gb) (q := (⟨0, 1, 1, 0, 1⟩ : Ps)) (own := false) (en := e) (er := 0) (by simp)).mono ?_
        rintro en v1 ⟨rfl, hO⟩
        have HE1 := Lib.hid (HE0.out.keep0 hO)
        have HKD1 := Lib.hid (hd_only hO HKD.out)
        clear hO HE0 HKD
        go_wp2_with fail
        refine (duo_new_k HE1.out gb e).mono ?_
        rintro en v2 ⟨S2, rfl, hd, hk⟩
        have HE2 := Lib.hid hd
        have HKD2 := Lib.hid (hk.hd HKD1.out)
        clear hd hk HE1 HKD1
        go_wp2_with fail
        refine (duo_walk13_k (cf := (⟨3, 8, 64⟩ : Cf)) HE2.out (by simp) HC.out 99 (by rw [HSC.out, HLR.out]; omega) (by decide)).mono ?_
        rw [HSC.out]
        rintro en v3 ⟨⟨xs, A1, k1, fs1, rfl, hx, -, hd⟩, hk⟩
        have hxl : xs.length = r := by have h := congrArg List.length hx; simp only [List.length_map] at h; rw [h]; exact HLR.out
        rw [hxl] at hd ⊢
        have HE3 := Lib.hid (Duo.permL hd (List.perm_middle (l₁ := [_, _, _])))
        have HKD3 := Lib.hid (hk.hd HKD2.out)
        clear hd hk hx hxl HE2 HKD2
        go_wp2_with fail
        refine (duo_walk13_k (cf := (⟨3, 8, 64⟩ : Cf)) HE3.out (by simp) HC.out 99 (by rw [HSP.out, HLN.out]; omega) (by decide)).mono ?_
        rw [HSP.out]
        rintro en v4 ⟨⟨ys, A2, k2, fs2, rfl, hx, -, hd⟩, hk⟩
        have hxl : ys.length = n := by have h := congrArg List.length hx; simp only [List.length_map] at h; rw [h]; exact HLN.out
        rw [hxl] at hd ⊢
        have HE4 := Lib.hid hd
        have HKD4 := Lib.hid (hk.hd HKD3.out)
        clear hd hk hx hxl HE3 HKD3
        go_wp2_with fail
        have HY0 := Lib.hid HE4.out.drew
        have HKD5 := Lib.hid (hd_only ((Only.refl [] v4).drew) HKD4.out)
        clear HE4 HKD4
        refine wp_region_held_drew (S := (fun w' => Kn.Own w' fn [.int .i64 (m : Int)] ∧ Kn.Own w' fq [.int .i64 q.s, .int .i64 q.o, .int .i64 q.l, .int .i64 q.p, .int .i64 q.m])) (by kernel_rfl) ⟨HY0.out.box (x := (fn, [.int .i64 (m : Int)])) (by simp), HY0.out.box (x := (fq, [.int .i64 q.s, .int .i64 q.o, .int .i64 q.l, .int .i64 q.p, .int .i64 q.m])) (by simp)⟩ (fun hSw0 => ?_)
        generalize v4.drew = vz at *
        refine wpAnyH_take (i := 0) (oi := ⟨some 111, _, _, _, _, _⟩) (v := ?_) rfl (by kernel_rfl) (by kernel_rfl) (by kernel_rfl) (fun _ _ _ h => h) (Or.inl ⟨by rfl, ?_⟩) (by assumption) ?_
        rotate_left
        · intro w hSw
          (try dsimp only at hSw)
          go_simp
          all_goals (try with_reducible rfl)
        (try simp only [Act.put, List.setIfInBounds_toArray, List.set_cons_zero, List.set_cons_succ])
        refine wpAnyH_take (i := 1) (oi := ⟨some 112, _, _, _, _, _⟩) (v := ?_) rfl (by kernel_rfl) (by kernel_rfl) (by kernel_rfl) (fun _ _ _ h => h) (Or.inl ⟨by rfl, ?_⟩) (by assumption) ?_
        rotate_left
        · intro w hSw
          (try dsimp only at hSw)
          go_simp
          all_goals (try with_reducible rfl)
        (try simp only [Act.put, List.setIfInBounds_toArray, List.set_cons_zero, List.set_cons_succ])
        refine wpAnyH_take (i := 2) (oi := ⟨some 113, _, _, _, _, _⟩) (v := ?_) rfl (by kernel_rfl) (by kernel_rfl) (by kernel_rfl) (fun _ _ _ h => h) (Or.inl ⟨by rfl, ?_⟩) (by assumption) ?_
        rotate_left
        · intro w hSw
          (try dsimp only at hSw)
          go_simp
          all_goals (try with_reducible rfl)
        (try simp only [Act.put, List.setIfInBounds_toArray, List.set_cons_zero, List.set_cons_succ])
        refine wpAnyH_take (i := 3) (oi := ⟨some 114, _, _, _, _, _⟩) (v := (.int .i64 (m : Int))) rfl (by kernel_rfl) (by kernel_rfl) (by kernel_rfl) (fun _ _ _ h => h) (Or.inl ⟨by rfl, ?_⟩) (by assumption) ?_
        · intro w hSw
          have q0 := hSw.1.cell 0 (by simp)
          simp only [List.getElem_cons_zero] at q0
          go_simp
        (try simp only [Act.put, List.setIfInBounds_toArray, List.set_cons_zero, List.set_cons_succ])
        refine wpAnyH_take (i := 4) (oi := ⟨some 115, _, _, _, _, _⟩) (v := ?_) rfl (by kernel_rfl) (by kernel_rfl) (by kernel_rfl) (fun _ _ _ h => h) (Or.inl ⟨by rfl, ?_⟩) (by assumption) ?_
        rotate_left
        · intro w hSw
          (try dsimp only at hSw)
          go_simp
          all_goals (try with_reducible rfl)
        (try simp only [Act.put, List.setIfInBounds_toArray, List.set_cons_zero, List.set_cons_succ])
        refine wpAnyH_take (i := 5) (oi := ⟨some 116, _, _, _, _, _⟩) (v := ?_) rfl (by kernel_rfl) (by kernel_rfl) (by kernel_rfl) (fun _ _ _ h => h) (Or.inl ⟨by rfl, ?_⟩) (by assumption) ?_
        rotate_left
        · intro w hSw
          (try dsimp only at hSw)
          go_simp
          all_goals (try with_reducible rfl)
        (try simp only [Act.put, List.setIfInBounds_toArray, List.set_cons_zero, List.set_cons_succ])
        refine wpAnyH_take (i := 6) (oi := ⟨some 117, _, _, _, _, _⟩) (v := ?_) rfl (by kernel_rfl) (by kernel_rfl) (by kernel_rfl) (fun _ _ _ h => h) (Or.inl ⟨by rfl, ?_⟩) (by assumption) ?_
        rotate_left
        · intro w hSw
          (try dsimp only at hSw)
          go_simp
          all_goals (try with_reducible rfl)
        (try simp only [Act.put, List.setIfInBounds_toArray, List.set_cons_zero, List.set_cons_succ])
        refine wpAnyH_take (i := 7) (oi := ⟨some 118, _, _, _, _, _⟩) (v := ?_) rfl (by kernel_rfl) (by kernel_rfl) (by kernel_rfl) (fun _ _ _ h => h) (Or.inl ⟨by rfl, ?_⟩) (by assumption) ?_
        rotate_left
        · intro w hSw
          (try dsimp only at hSw)
          go_simp
          all_goals (try with_reducible rfl)
        (try simp only [Act.put, List.setIfInBounds_toArray, List.set_cons_zero, List.set_cons_succ])
        refine wpAnyH_take (i := 8) (oi := ⟨some 119, _, _, _, _, _⟩) (v := ?_) rfl (by kernel_rfl) (by kernel_rfl) (by kernel_rfl) (fun _ _ _ h => h) (Or.inl ⟨by rfl, ?_⟩) (by assumption) ?_
        rotate_left
        · intro w hSw
          (try dsimp only at hSw)
          go_simp
          all_goals (try with_reducible rfl)
        (try simp only [Act.put, List.setIfInBounds_toArray, List.set_cons_zero, List.set_cons_succ])
        refine wpAnyH_take (i := 9) (oi := ⟨some 120, _, _, _, _, _⟩) (v := ?_) rfl (by kernel_rfl) (by kernel_rfl) (by kernel_rfl) (fun _ _ _ h => h) (Or.inl ⟨by rfl, ?_⟩) (by assumption) ?_
        rotate_left
        · intro w hSw
          (try dsimp only at hSw)
          go_simp
          all_goals (try with_reducible rfl)
        (try simp only [Act.put, List.setIfInBounds_toArray, List.set_cons_zero, List.set_cons_succ])
        refine wpAnyH_take (i := 10) (oi := ⟨some 121, _, _, _, _, _⟩) (v := ?_) rfl (by kernel_rfl) (by kernel_rfl) (by kernel_rfl) (fun _ _ _ h => h) (Or.inl ⟨by rfl, ?_⟩) (by assumption) ?_
        rotate_left
        · intro w hSw
          (try dsimp only at hSw)
          go_simp
          all_goals (try with_reducible rfl)
        (try simp only [Act.put, List.setIfInBounds_toArray, List.set_cons_zero, List.set_cons_succ])
        refine wpAnyH_take (i := 11) (oi := ⟨some 122, _, _, _, _, _⟩) (v := ?_) rfl (by kernel_rfl) (by kernel_rfl) (by kernel_rfl) (fun _ _ _ h => h) (Or.inl ⟨by rfl, ?_⟩) (by assumption) ?_
        rotate_left
        · intro w hSw
          (try dsimp only at hSw)
          go_simp
          all_goals (try with_reducible rfl)
        (try simp only [Act.put, List.setIfInBounds_toArray, List.set_cons_zero, List.set_cons_succ])
        refine wpAnyH_take (i := 12) (oi := ⟨some 123, _, _, _, _, _⟩) (v := ?_) rfl (by kernel_rfl) (by kernel_rfl) (by kernel_rfl) (fun _ _ _ h => h) (Or.inl ⟨by rfl, ?_⟩) (by assumption) ?_
        rotate_left
        · intro w hSw
          (try dsimp only at hSw)
          go_simp
          all_goals (try with_reducible rfl)
        (try simp only [Act.put, List.setIfInBounds_toArray, List.set_cons_zero, List.set_cons_succ])
        refine wpAnyH_take (i := 13) (oi := ⟨some 124, _, _, _, _, _⟩) (v := ?_) rfl (by kernel_rfl) (by kernel_rfl) (by kernel_rfl) (fun _ _ _ h => h) (Or.inl ⟨by rfl, ?_⟩) (by assumption) ?_
        rotate_left
        · intro w hSw
          (try dsimp only at hSw)
          go_simp
          all_goals (try with_reducible rfl)
        (try simp only [Act.put, List.setIfInBounds_toArray, List.set_cons_zero, List.set_cons_succ])
        refine wpAnyH_take (i := 15) (oi := ⟨some 126, _, _, _, _, _⟩) (v := (.agg #[.int .i64 q.s, .int .i64 q.o, .int .i64 q.l, .int .i64 q.p, .int .i64 q.m])) rfl (by kernel_rfl) (by kernel_rfl) (by kernel_rfl) (fun _ _ _ h => h) (Or.inl ⟨by rfl, ?_⟩) (by assumption) ?_
        · intro w hSw
          have q0 := hSw.2
          have q00 := q0.cell 0 (by simp)
          have q01 := q0.cell 1 (by simp)
          have q02 := q0.cell 2 (by simp)
          have q03 := q0.cell 3 (by simp)
          have q04 := q0.cell 4 (by simp)
          simp only [List.getElem_cons_zero, List.getElem_cons_succ] at q00 q01 q02 q03 q04
          clear q0
          go_simp
        (try simp only [Act.put, List.setIfInBounds_toArray, List.set_cons_zero, List.set_cons_succ])
        refine wpAnyH_ready (rs := [14]) (by kernel_rfl) (by simp) ?_
        refine AllReadyH.cons (o := ⟨some 125, _, _, _, _, _⟩) rfl (fun K hK => ?_) AllReadyH.nil
        go_simp
        refine (duo_end HY0.out (S := S) (gb := gb) (q := (⟨0, 1, 1, 0, 1⟩ : Ps)) (own := false) (en := q) (er := 0) (by simp)).mono ?_
        rintro en x0 ⟨rfl, hO⟩
        have HY1 := Lib.hid (HY0.out.keep0 hO)
        have HKD6 := Lib.hid (hd_only hO HKD5.out)
        clear hO HY0 HKD5
        refine hK.out _ _ ⟨HY1.out.box (x := (fn, [.int .i64 (m : Int)])) (by simp), HY1.out.box (x := (fq, [.int .i64 q.s, .int .i64 q.o, .int .i64 q.l, .int .i64 q.p, .int .i64 q.m])) (by simp)⟩ (fun hSn => ?_)
        clear hK K hSw0
        have hSw0 := hSn
        clear hSn
        (try simp only [Act.put, List.setIfInBounds_toArray, List.set_cons_zero, List.set_cons_succ])
        refine wpAnyH_take (i := 16) (oi := ⟨some 127, _, _, _, _, _⟩) (v := ?_) rfl (by kernel_rfl) (by kernel_rfl) (by kernel_rfl) (fun _ _ _ h => h) (Or.inl ⟨by rfl, ?_⟩) (by assumption) ?_
        rotate_left
        · intro w hSw
          (try dsimp only at hSw)
          go_simp
          all_goals (try with_reducible rfl)
        (try simp only [Act.put, List.setIfInBounds_toArray, List.set_cons_zero, List.set_cons_succ])
        refine wpAnyH_take (i := 17) (oi := ⟨some 128, _, _, _, _, _⟩) (v := ?_) rfl (by kernel_rfl) (by kernel_rfl) (by kernel_rfl) (fun _ _ _ h => h) (Or.inl ⟨by rfl, ?_⟩) (by assumption) ?_
        rotate_left
        · intro w hSw
          (try dsimp only at hSw)
          go_simp
          all_goals (try with_reducible rfl)
        (try simp only [Act.put, List.setIfInBounds_toArray, List.set_cons_zero, List.set_cons_succ])
        refine wpAnyH_take (i := 18) (oi := ⟨some 129, _, _, _, _, _⟩) (v := ?_) rfl (by kernel_rfl) (by kernel_rfl) (by kernel_rfl) (fun _ _ _ h => h) (Or.inl ⟨by rfl, ?_⟩) (by assumption) ?_
        rotate_left
        · intro w hSw
          (try dsimp only at hSw)
          go_simp
          all_goals (try with_reducible rfl)
        (try simp only [Act.put, List.setIfInBounds_toArray, List.set_cons_zero, List.set_cons_succ])
        refine wpAnyH_take (i := 19) (oi := ⟨some 130, _, _, _, _, _⟩) (v := ?_) rfl (by kernel_rfl) (by kernel_rfl) (by kernel_rfl) (fun _ _ _ h => h) (Or.inl ⟨by rfl, ?_⟩) (by assumption) ?_
        rotate_left
        · intro w hSw
          (try dsimp only at hSw)
          go_simp
          all_goals (try with_reducible rfl)
        (try simp only [Act.put, List.setIfInBounds_toArray, List.set_cons_zero, List.set_cons_succ])
        refine wpAnyH_take (i := 21) (oi := ⟨some 132, _, _, _, _, _⟩) (v := (.agg #[.int .i64 q.s, .int .i64 q.o, .int .i64 q.l, .int .i64 q.p, .int .i64 q.m])) rfl (by kernel_rfl) (by kernel_rfl) (by kernel_rfl) (fun _ _ _ h => h) (Or.inl ⟨by rfl, ?_⟩) (by assumption) ?_
        · intro w hSw
          have q0 := hSw.2
          have q00 := q0.cell 0 (by simp)
          have q01 := q0.cell 1 (by simp)
          have q02 := q0.cell 2 (by simp)
          have q03 := q0.cell 3 (by simp)
          have q04 := q0.cell 4 (by simp)
          simp only [List.getElem_cons_zero, List.getElem_cons_succ] at q00 q01 q02 q03 q04
          clear q0
          go_simp
        (try simp only [Act.put, List.setIfInBounds_toArray, List.set_cons_zero, List.set_cons_succ])
        refine wpAnyH_ready (rs := [20]) (by kernel_rfl) (by simp) ?_
        refine AllReadyH.cons (o := ⟨some 131, _, _, _, _, _⟩) rfl (fun K hK => ?_) AllReadyH.nil
        go_simp
        refine (duo_end HY1.out (S := S2) (gb := gb) (q := e) (own := false) (en := q) (er := 0) (by simp)).mono ?_
        rintro en x1 ⟨rfl, hO⟩
        have HY2 := Lib.hid (HY1.out.keep0 hO)
        have HKD7 := Lib.hid (hd_only hO HKD6.out)
        clear hO HY1 HKD6
        refine hK.out _ _ ⟨HY2.out.box (x := (fn, [.int .i64 (m : Int)])) (by simp), HY2.out.box (x := (fq, [.int .i64 q.s, .int .i64 q.o, .int .i64 q.l, .int .i64 q.p, .int .i64 q.m])) (by simp)⟩ (fun hSn => ?_)
        clear hK K hSw0
        have hSw0 := hSn
        clear hSn
        (try simp only [Act.put, List.setIfInBounds_toArray, List.set_cons_zero, List.set_cons_succ])
        refine wpAnyH_take (i := 22) (oi := ⟨some 133, _, _, _, _, _⟩) (v := ?_) rfl (by kernel_rfl) (by kernel_rfl) (by kernel_rfl) (fun _ _ _ h => h) (Or.inl ⟨by rfl, ?_⟩) (by assumption) ?_
        rotate_left
        · intro w hSw
          (try dsimp only at hSw)
          go_simp
          all_goals (try with_reducible rfl)
        (try simp only [Act.put, List.setIfInBounds_toArray, List.set_cons_zero, List.set_cons_succ])
        refine wpAnyH_take (i := 23) (oi := ⟨some 134, _, _, _, _, _⟩) (v := ?_) rfl (by kernel_rfl) (by kernel_rfl) (by kernel_rfl) (fun _ _ _ h => h) (Or.inl ⟨by rfl, ?_⟩) (by assumption) ?_
        rotate_left
        · intro w hSw
          (try dsimp only at hSw)
          go_simp
          all_goals (try with_reducible rfl)
        (try simp only [Act.put, List.setIfInBounds_toArray, List.set_cons_zero, List.set_cons_succ])
        refine wpAnyH_take (i := 24) (oi := ⟨some 135, _, _, _, _, _⟩) (v := ?_) rfl (by kernel_rfl) (by kernel_rfl) (by kernel_rfl) (fun _ _ _ h => h) (Or.inl ⟨by rfl, ?_⟩) (by assumption) ?_
        rotate_left
        · intro w hSw
          (try dsimp only at hSw)
          go_simp
          all_goals (try with_reducible rfl)
        (try simp only [Act.put, List.setIfInBounds_toArray, List.set_cons_zero, List.set_cons_succ])
        refine wpAnyH_ready (rs := [25]) (by kernel_rfl) (by simp) ?_
        refine AllReadyH.cons (o := ⟨some 136, _, _, _, _, _⟩) rfl (fun K hK => ?_) AllReadyH.nil
        go_simp
        refine (awake13_any _).mono ?_
        rintro en x2 ⟨rfl, hO⟩
        have HY3 := Lib.hid (HY2.out.keep0 hO)
        have HKD8 := Lib.hid (hd_only hO HKD7.out)
        clear hO HY2 HKD7
        refine hK.out _ _ ⟨HY3.out.box (x := (fn, [.int .i64 (m : Int)])) (by simp), HY3.out.box (x := (fq, [.int .i64 q.s, .int .i64 q.o, .int .i64 q.l, .int .i64 q.p, .int .i64 q.m])) (by simp)⟩ (fun hSn => ?_)
        clear hK K hSw0
        have hSw0 := hSn
        clear hSn
        (try simp only [Act.put, List.setIfInBounds_toArray, List.set_cons_zero, List.set_cons_succ])
        refine wpAnyH_take (i := 26) (oi := ⟨some 137, _, _, _, _, _⟩) (v := ?_) rfl (by kernel_rfl) (by kernel_rfl) (by kernel_rfl) (fun _ _ _ h => h) (Or.inl ⟨by rfl, ?_⟩) (by assumption) ?_
        rotate_left
        · intro w hSw
          (try dsimp only at hSw)
          go_simp
          all_goals (try with_reducible rfl)
        (try simp only [Act.put, List.setIfInBounds_toArray, List.set_cons_zero, List.set_cons_succ])
        refine wpAnyH_take (i := 27) (oi := ⟨some 4, _, _, _, _, _⟩) (v := ?_) rfl (by kernel_rfl) (by kernel_rfl) (by kernel_rfl) (fun _ _ _ h => h) (Or.inl ⟨by rfl, ?_⟩) (by assumption) ?_
        rotate_left
        · intro w hSw
          (try dsimp only at hSw)
          go_simp
          all_goals (try with_reducible rfl)
        (try simp only [Act.put, List.setIfInBounds_toArray, List.set_cons_zero, List.set_cons_succ])
        refine wpAnyH_done (by kernel_rfl) ?_ _
        clear hSw0
        go_wp2_with fail
        refine marks_ret1 (v := .bool true) (D := D) HKD8.out (by kernel_rfl) rfl ⟨rfl, HY3.out.only_put HKD8.out HDD.out⟩
      case rng =>
        intro a0 ha0 Q2 hQ2
        have HA0 := Lib.hid ha0
        have HQ2 := Lib.hid hQ2
        have HSP : Hid (scanR dd (⟨3, 8, 64⟩ : Cf) false (⟨0, 1, 1, 0, 1⟩ : Ps) = (ll, q, 0)) := Lib.hid ((scanR_off (by decide) (by decide)).trans (HLG.out.scan HC.out))
        have HD5 : Hid (Duo w w5 p rr dd dd ⟨(fk, [.int .i64 k]) :: (fn, [.int .i64 (0 : Int)]) :: (S, SB p.D gb (⟨0, 1, 1, 0, 1⟩ : Ps) false (⟨0, 1, 1, 0, 1⟩ : Ps) 0) :: (bS, [.pointer (some ⟨S, 0, none⟩)]) :: (fq, [.int .i64 q.s, .int .i64 q.o, .int .i64 q.l, .int .i64 q.p, .int .i64 q.m]) :: (fp, [.int .i64 0, .int .i64 1, .int .i64 1, .int .i64 0, .int .i64 1]) :: (fc, [.int .i64 3, .int .i64 8, .int .i64 64]) :: [], [], (fun W => GeoAt W gb 3 8 64) :: (InRows sl l) :: (fun W => Row1 W A n c (sl.map slv)) :: []⟩) := Lib.hid (HD4.out.permL (List.perm_middle (l₁ := [_, _, _])).symm)
        obtain ⟨L0, G0, F0, hw, hdk, back⟩ := HD5.out.dk
        have h0 : Wc w w5 (((S, SB p.D gb (⟨0, 1, 1, 0, 1⟩ : Ps) false (⟨0, 1, 1, 0, 1⟩ : Ps) 0) :: ((bS, [.pointer (some ⟨S, 0, none⟩)]) :: (fq, [.int .i64 q.s, .int .i64 q.o, .int .i64 q.l, .int .i64 q.p, .int .i64 q.m]) :: (fp, [.int .i64 0, .int .i64 1, .int .i64 1, .int .i64 0, .int .i64 1]) :: (fc, [.int .i64 3, .int .i64 8, .int .i64 64]) :: [] ++ L0)) ++ [(fk, [.int .i64 k]), (fn, [.int .i64 (0 : Int)])]) (G0 ++ []) (((fun W => GeoAt W gb 3 8 64) :: (InRows sl l) :: (fun W => Row1 W A n c (sl.map slv)) :: [] ++ F0) ++ []) := by
          rw [List.append_nil, List.append_nil]
          exact hw.perm (List.perm_append_comm (l₁ := [_, _])) (List.Perm.refl _)
        have h00 : At3 w w5 ⟨(S, SB p.D gb (⟨0, 1, 1, 0, 1⟩ : Ps) false (⟨0, 1, 1, 0, 1⟩ : Ps) 0) :: ((bS, [.pointer (some ⟨S, 0, none⟩)]) :: (fq, [.int .i64 q.s, .int .i64 q.o, .int .i64 q.l, .int .i64 q.p, .int .i64 q.m]) :: (fp, [.int .i64 0, .int .i64 1, .int .i64 1, .int .i64 0, .int .i64 1]) :: (fc, [.int .i64 3, .int .i64 8, .int .i64 64]) :: [] ++ L0), G0, (fun W => GeoAt W gb 3 8 64) :: (InRows sl l) :: (fun W => Row1 W A n c (sl.map slv)) :: [] ++ F0⟩ (StC fk fn k 0) := h0
        have BACK := Lib.hid back
        have hws := hw.only.size
        clear ha0 hQ2 HD4 HD5 hw back
        refine (wpIn_wide (n := 6)).1 ?_
        refine wpIn_rangeFunc_W (F := Fence.wide) (n := 6) rfl (by decide) (gf := 97) (lb := #[.pointer (some ⟨bS, 0, none⟩)]) (by rw [HA0.out]; rfl) trivial (enters_of Tryz.func97 (by kernel_rfl) rfl)
          (c0 := StC fk fn k 0) (fun W1 _ => records1_seq w W1 S bS gb p dd (⟨3, 8, 64⟩ : Cf) (⟨0, 1, 1, 0, 1⟩ : Ps) false (⟨0, 1, 1, 0, 1⟩ : Ps) 0 ((bS, [.pointer (some ⟨S, 0, none⟩)]) :: (fq, [.int .i64 q.s, .int .i64 q.o, .int .i64 q.l, .int .i64 q.p, .int .i64 q.m]) :: (fp, [.int .i64 0, .int .i64 1, .int .i64 1, .int .i64 0, .int .i64 1]) :: (fc, [.int .i64 3, .int .i64 8, .int .i64 64]) :: [] ++ L0) G0 ((fun W => GeoAt W gb 3 8 64) :: (InRows sl l) :: (fun W => Row1 W A n c (sl.map slv)) :: [] ++ F0) (6 - 1) (by decide) (hdk.mono (fun x hx => List.mem_append_right _ hx)) (by simp) (by simp) HC.out) (fun _ => rfl)
          (StJ fk fn k) (StM a0 fk fn k) (fun pe xs c X Y h _ => h) (fun pre x a c X Y h _ => h) ⟨rfl, .inl rfl⟩ h00 ?assign ?body ?done ?stop
        case assign =>
          rintro lr pre x φ c W1 K hpre ⟨rfl, -⟩ hat hsz hlen hK
          gi_wp2
          exact hK _ _ _ (kf_of_only (S := []) (Only.refl _ _) (by simp)) hat ⟨rfl, rfl⟩
        case body =>
          rintro lr pre x φ c a' W1 hpre ⟨rfl, rfl⟩ hat hsz hlen
          have HF := Lib.hid (Wk.start hat.flip)
          have y0 := HF.out.boxi 0 rfl
          have y1 := HF.out.boxi 1 rfl
          have c0 := y0.cell 0 (by simp)
          have c1 := y1.cell 0 (by simp)
          have f1 := y1.frozen 0
          have l1 := y1.lt
          simp only [List.getElem_cons_zero] at c0 c1
          have hw1 := IntWalk.i64_in ((pre.length : Int) + 1) (by omega)
          have hnd : (fk :: fn :: φ.L.map (·.1)).Nodup := HF.out.nd
          have hne : fk ≠ fn := fun e => (List.nodup_cons.1 hnd).1 (by rw [e]; exact List.mem_cons_self)
          have hne2 : fn ≠ fk := fun e => hne e.symm
          clear y0 y1 hat hpre hnd
          have hw6 := HF.out.put 1 (p := fn) rfl 0 (.int .i64 ((pre.length : Int) + 1))
          have hw7 : At3 w (W1.setCell ⟨fn, 0, none⟩ (.int .i64 ((pre.length : Int) + 1))) φ (StC fk fn k (pre ++ [x]).length) := by
            have e : ((pre ++ [x]).length : Int) = (pre.length : Int) + 1 := by simp
            unfold StC
            rw [e]
            exact At3.unflip hw6.toWc
          have HRES := Lib.hid hw7
          have HKF := Lib.hid (kf_of_kb (B := w5.heap.size) hw6.kb)
          clear hw6 hw7 HF
          simp only [zip2, Fnd.enc2, HA0.out, List.setIfInBounds_toArray, List.set_cons_zero, List.set_cons_succ]
          refine wpIn_block ?_
          by_cases hge : (pre.length : Int) + 1 ≥ k
          · gi_wp2_with fail
            exact ⟨HKF.out, _, HRES.out, rfl, .inr rfl⟩
          · gi_wp2_with fail
            exact ⟨HKF.out, _, HRES.out, rfl, .inl rfl⟩
        case done =>
          rintro D xs φ c W1 hD ⟨fs, rfl, hfs, hxs⟩ ⟨rfl, -⟩ hat hK hsz
          rw [HSP.out] at hat hxs
          have hxl : xs.length = n := by have h := congrArg List.length hxs; simp only [List.length_map] at h; rw [h]; exact HLN.out
          rw [hxl] at hat
          refine (HQ2.out _ _ ⟨D, n, q, rfl, Nat.le_trans hws hD, Nat.le_refl _, BACK.out W1 ⟨(fk, [.int .i64 k]) :: (fn, [.int .i64 (n : Int)]) :: (S, SB p.D gb (⟨0, 1, 1, 0, 1⟩ : Ps) false q 0) :: (bS, [.pointer (some ⟨S, 0, none⟩)]) :: (fq, [.int .i64 q.s, .int .i64 q.o, .int .i64 q.l, .int .i64 q.p, .int .i64 q.m]) :: (fp, [.int .i64 0, .int .i64 1, .int .i64 1, .int .i64 0, .int .i64 1]) :: (fc, [.int .i64 3, .int .i64 8, .int .i64 64]) :: [], [], (fun W => GeoAt W gb 3 8 64) :: (InRows sl l) :: (fun W => Row1 W A n c (sl.map slv)) :: []⟩ (hat.flip.subF (fun f hf => List.mem_append_left _ (List.mem_append_right _ hf))), ?_, hK⟩).1
          rw [List.drop_of_length_le (by rw [HLN.out]; exact Nat.le_refl _)]
          exact (scanR_off ⟨by rw [HQS.out]; decide, by rw [HQS.out]; decide⟩ ⟨hqo1, by show q.o ≤ 64 - 1; omega⟩).trans (scanG_none (HLG.out.none_ HC.out))
        case stop =>
          rintro D cd pre φ c W1 hD ⟨e, fs, rfl, hfs, hpx, pre', x, rfl, hfo⟩ ⟨rfl, hcd⟩ hat hK hsz
          obtain rfl : cd = .exit 2 := by
            rcases hcd with h | h
            · cases h
            · injection h
          rw [HSP.out] at hpx
          have hp2 : pre'.map Fnd.pr ++ [(x.p, x.r)] <+: ll := by have h := hpx; rw [List.map_append] at h; exact h
          have hpl := hp2.length_le
          rw [List.length_append, List.length_map, HLN.out] at hpl
          obtain ⟨⟨g1, g2, g3⟩, g4⟩ := HLG.out.stop HC.out hp2 hfo
          rw [List.length_map] at g4
          have hln2 : (pre' ++ [x]).length = pre'.length + 1 := by simp
          rw [hln2] at hat
          refine wpIn_wide.2 (wp_exit (HQ2.out _ _ ⟨D, pre'.length + 1, e, rfl, Nat.le_trans hws hD, hpl, BACK.out W1 ⟨(fk, [.int .i64 k]) :: (fn, [.int .i64 (((pre'.length + 1 : Nat) : Int) : Int)]) :: (S, SB p.D gb (⟨0, 1, 1, 0, 1⟩ : Ps) false e 0) :: (bS, [.pointer (some ⟨S, 0, none⟩)]) :: (fq, [.int .i64 q.s, .int .i64 q.o, .int .i64 q.l, .int .i64 q.p, .int .i64 q.m]) :: (fp, [.int .i64 0, .int .i64 1, .int .i64 1, .int .i64 0, .int .i64 1]) :: (fc, [.int .i64 3, .int .i64 8, .int .i64 64]) :: [], [], (fun W => GeoAt W gb 3 8 64) :: (InRows sl l) :: (fun W => Row1 W A n c (sl.map slv)) :: []⟩ (hat.flip.subF (fun f hf => List.mem_append_left _ (List.mem_append_right _ hf))), ?_, hK⟩).2)
          exact (scanR_off ⟨by rw [g1]; decide, by rw [g1]; decide⟩ ⟨g2, g3⟩).trans g4
  · have hpk : (n : Int) > 6 := by omega
    go_enter Tryz.func5, Tryz.ntmps5
    go_wp2_with fail
    refine (awake13_any _).mono ?_
    rintro en w1 ⟨rfl, hO⟩
    go_wp2_with fail
    refine bodyPost_ret (v := .bool true) (by kernel_rfl) rfl ⟨rfl, hO⟩
theorem walk (a0 : Option Addr) (len0 cap0 : Nat) (l0 : List (List Int)) (a1 : Int) (w : World) (w0 : Inss w a0 len0 cap0 l0 ∧ ∀ zs ∈ l0, ∀ z ∈ zs, (Lit.int .i64 z).wf = true) (w1 : (Lit.int .i64 a1).wf = true) : Calls Tryz.prog 5 #[.slice a0 len0 cap0, .int .i64 a1] w fun e w' => e = .returned (.bool true) ∧ Below w.heap.size w w' := by
  refine (stops a0 len0 cap0 l0 a1 w w0.1 w0.2 w1).mono ?_
  rintro e w' ⟨rfl, hO⟩
  exact ⟨rfl, hO.below0⟩
set_option maxRecDepth 100000 in
theorem lifted (os : Os) (started : os.Started) (H : Type) (enc : TypeId × Value → H) :
    ReturnsInHanded {} Tryz.checked os 5 .any (Rows.scanStopsSpec.pre6 enc Tryz.prog Tryz.f5 Rows.scanStopsRow.domain false) (Rows.scanStopsSpec.post enc Tryz.prog Tryz.f5 false true false false) := by
  refine returnsInHanded_of_change (C := Tryz.checked) own started (by kernel_rfl) Tryz.func5
    (ChangeSpec.witness6 (enc := enc) (C := Tryz.checked) false ⟨#[], #[.slice none 0 0, .int .i64 0], []⟩ 8 (by kernel_rfl) (by kernel_rfl) (by kernel_rfl) (by kernel_rfl)) ?_
  intro W base args ds gs before hval0 hW hcnd _
  have hval : ∀ (j : Nat) t v, Tryz.f5.params[j]? = some t → args[j]? = some v → Value.okWide Tryz.prog W .any base t v := hval0
  have hW' := hW
  obtain ⟨p, q, hA0, hV, rfl, hfz, hnd⟩ := hW
  have hA : DataW.TrodAll enc Tryz.prog W 0 (fun _ => true) true Tryz.f5.params.toList args.toList ds p := hA0
  rw [Tryz.params5] at hA hval
  obtain ⟨v0, vs0, d0, ds0, p0, q0, hargs, rfl, rfl, h0, r0⟩ := trodAll_cons hA
  obtain ⟨v1, vs1, d1, ds1, p1, q1, rfl, rfl, rfl, h1, r1⟩ := trodAll_cons r0
  obtain ⟨rfl, rfl, rfl⟩ := trodAll_nil r1
  obtain rfl : args = #[v0, v1] := by cases args; simp_all
  obtain ⟨rfl, rfl⟩ := trodVars_none hV
  obtain ⟨a0, len0, cap0, rfl⟩ := okWide_slice Tryz.underlying22 (hval 0 22 v0 rfl rfl)
  have k0 := h0
  have lt0 : ∀ x ∈ p0, x.block < W.heap.size := by obtain ⟨m, hm⟩ := k0; exact DataW.trod_lt m _ _ _ hm
  obtain ⟨l0, w0⟩ : ∃ l, Inss W a0 len0 cap0 l ∧ ∀ zs ∈ l, ∀ z ∈ zs, (Lit.int .i64 z).wf = true := by
    obtain ⟨fuel, hf⟩ := h0
    exact open_inss hf
  obtain ⟨a1, rfl, rfl, rfl, w1⟩ := open_int Tryz.underlying3 (hval 1 3 v1 rfl rfl) h1
  clear hA0 hval0
  refine (walk a0 len0 cap0 l0 a1 W w0 w1).mono fun e W' ⟨he, bel⟩ => ?_
  subst he
  exact ⟨_, rfl, _, _, _, [], _, [], hW', trodAll_mk1 (shut_bool Tryz.underlying4 _), (trodAll_cons_mk (Below.trod laidOut (by kernel_rfl) (of_decide_eq_true (by kernel_rfl)) k0 bel lt0) (trodAll_cons_mk (shut_int Tryz.underlying3 w1) trodAll_mk0)), rfl, bel.frame _, fun h => by cases h⟩
set_option maxRecDepth 100000 in
theorem closed : joinedFacts Tryz.pinned.checked.prog 5 Tryz.f5 Rows.scanStopsSpec Rows.scanStopsRow = true := by
  show joinedFacts Tryz.prog 5 Tryz.f5 Rows.scanStopsSpec Rows.scanStopsRow = true
  unfold joinedFacts
  simp only [enter_may, enter_lifts, enter_make]
  kernel_rfl
theorem over : Rows.scanStopsRow.holds Tryz.pinned (OpenSpec.ofChange Rows.scanStopsSpec) :=
  OpenClaim.holds_of_wide 5 Tryz.f5 rfl rfl rfl rfl rfl rfl rfl ⟨rfl, rfl, rfl, rfl, rfl⟩ rfl rfl rfl rfl rfl (by kernel_rfl) Tryz.func5 closed
    (of_decide_eq_true (by kernel_rfl)) (by unfold Func.isWrapper; first | (rw [if_pos (by decide +kernel)]; kernel_rfl) | (rw [if_neg (by decide +kernel)]; exact ⟨rfl, rfl⟩))
    (fun os started H enc _ => lifted os started H enc)
theorem proved : Rows.ScanStopsSaid := over
end Go.Proofs.YtgcfdjcpcclcjaaGreat.scanStops
