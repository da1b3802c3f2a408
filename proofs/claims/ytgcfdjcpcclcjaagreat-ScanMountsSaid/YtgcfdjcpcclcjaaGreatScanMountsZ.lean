
import Derived.Test.YtgcfdjcpcclcjaaGreatScanMountsH
set_option linter.unusedVariables false
set_option linter.unusedSimpArgs false
namespace Go.Proofs.YtgcfdjcpcclcjaaGreat.scanMounts
open Go Go.RowKit Go.Kn Go.ChangeShapes Go.WideShapes Go.ChangeAt
theorem field_pos1 (s o l p m : Int) (w : World) : (Instr.field 32 (.agg #[.int .i64 s, .int .i64 o, .int .i64 l, .int .i64 p, .int .i64 m]) 1).run Tryz.prog w = .ok (.int .i64 o) w := by kernel_rfl
theorem its_one (w : World) (k b c v : Int) (t : TypeId) : Its (w.alloc (.cells #[.int .i64 k, .int .i64 b, .int .i64 c, .int .i64 v] t)) (some ⟨w.heap.size, 0, none⟩) 1 1 [⟨k, b, c, v⟩] := by
  refine ⟨rfl, Nat.le_refl _, by decide, fun _ => ⟨w.heap.size, 0, rfl, fun i hi => ?_⟩⟩
  obtain rfl : i = 0 := by simp at hi; omega
  simp
set_option maxRecDepth 100000 in
set_option maxHeartbeats 16000000 in
theorem mounts (A : Option Addr) (n c : Nat) (zs : List Int) (w : World) (hi : Ins w A n c zs) (hz : ∀ z ∈ zs, (Lit.int .i64 z).wf = true) :
    Calls Tryz.prog 4 #[.slice A n c] w fun en w' => en = .returned (.bool true) ∧ Only [] w w' := by
  have hlen : zs.length = n := by have := hi.len; simpa [ivs] using this
  have hcm := hi.cm
  have hcl := hi.le
  unfold maxLen at hcm
  have HL := Lib.hid hlen
  have H0 := Lib.hid ((Wc.start w).old (f := (fun W => Ins W A n c zs)) (Row1.fc hi (by simp)))
  clear hi hlen
  by_cases hn : 1 ≤ n ∧ n ≤ 10
  · obtain ⟨hn1, hn2⟩ := hn
    have hb1 : ¬ (n : Int) < 1 := by omega
    have hb2 : ¬ (n : Int) > 10 := by omega
    have hc : Cf.Ok (⟨3, 8, 40⟩ : Cf) := ⟨by decide, by decide, by decide⟩
    have hmay : headMay (⟨4, 1, 1, 0, 5⟩ : Ps).head = true := by decide
    obtain ⟨d1, hd1⟩ : ∃ d, d = (Dk.new (⟨3, 8, 40⟩ : Cf).sectors.toNat).puts ((⟨3, 8, 40⟩ : Cf).at_ (⟨4, 1, 1, 0, 5⟩ : Ps).s) (headB (⟨4, 1, 1, 0, 5⟩ : Ps)) := ⟨_, rfl⟩
    have hlg : Lg d1 (⟨3, 8, 40⟩ : Cf) (⟨4, 1, 1, 0, 5⟩ : Ps) [] (⟨4, 1, 1, 0, 5⟩ : Ps) := by rw [hd1]; exact Lg.start (⟨3, 8, 40⟩ : Cf) hc (⟨4, 1, 1, 0, 5⟩ : Ps) (⟨4, 1, 1, 0, 5⟩ : Ps) rfl (by decide) (by decide)
    have hhd : Hd d1 (⟨3, 8, 40⟩ : Cf) (⟨4, 1, 1, 0, 5⟩ : Ps) := by rw [hd1]; exact Hd.start (⟨3, 8, 40⟩ : Cf) hc (⟨4, 1, 1, 0, 5⟩ : Ps) (by decide) hmay
    have hheld : d1.held = [] := by rw [hd1]; exact (Dk.Live.puts ⟨rfl, rfl⟩ _ _).2
    have HC := Lib.hid hc
    have HD1 := Lib.hid hd1
    have HLG := Lib.hid hlg
    have HHD1 := Lib.hid hhd
    have HHE1 := Lib.hid hheld
    have HMAY := Lib.hid hmay
    have H1 := Lib.hid (H0.out.newB #[.int .i64 3, .int .i64 8, .int .i64 40] 25 rfl)
    clear hc hd1 hlg hhd hheld hmay H0
    go_enter Tryz.func4, Tryz.ntmps4
    go_upto_region 4 with (fail)
    generalize hz1 : w.alloc (.cells #[.int .i64 3, .int .i64 8, .int .i64 40] 25) = w1 at *
    obtain ⟨f3, hf3⟩ : ∃ k, k = w.heap.size := ⟨_, rfl⟩
    rw [← hf3] at H1 ⊢
    clear hz1 hf3
    have b3 := H1.out.boxi 0 rfl
    have e0 := b3.cell 0 (by simp)
    have e1 := b3.cell 1 (by simp)
    have e2 := b3.cell 2 (by simp)
    simp only [List.getElem_cons_zero, List.getElem_cons_succ] at e0 e1 e2
    clear b3
    go_wp2_with fail
    refine (desk13_any w w1 (⟨3, 8, 40⟩ : Cf) ⟨[(f3, [.int .i64 3, .int .i64 8, .int .i64 40])], [], [(fun W => Ins W A n c zs)]⟩ H1.out HC.out).mono ?_
    rintro en w2 ⟨p, rr, gb, rfl, hd⟩
    have HD := Lib.hid (Duo.newB hd #[.int .i64 4, .int .i64 1, .int .i64 1, .int .i64 0, .int .i64 5] 32 rfl)
    clear hd H1 e0 e1 e2
    go_upto_region 6 with (fail)
    generalize hz2 : w2.alloc (.cells #[.int .i64 4, .int .i64 1, .int .i64 1, .int .i64 0, .int .i64 5] 32) = w3 at *
    generalize w2.heap.size = f8 at *
    clear hz2 w2 w1
    have b8 := HD.out.box (x := (f8, [.int .i64 4, .int .i64 1, .int .i64 1, .int .i64 0, .int .i64 5])) (by simp)
    have q0 := b8.cell 0 (by simp)
    have q1 := b8.cell 1 (by simp)
    have q2 := b8.cell 2 (by simp)
    have q3 := b8.cell 3 (by simp)
    have q4 := b8.cell 4 (by simp)
    simp only [List.getElem_cons_zero, List.getElem_cons_succ] at q0 q1 q2 q3 q4
    have b3 := HD.out.box (x := (f3, [.int .i64 3, .int .i64 8, .int .i64 40])) (by simp)
    have e0 := b3.cell 0 (by simp)
    have e1 := b3.cell 1 (by simp)
    have e2 := b3.cell 2 (by simp)
    simp only [List.getElem_cons_zero, List.getElem_cons_succ] at e0 e1 e2
    clear b8 b3
    go_wp2_with fail
    refine (kit_head_any w w3 p rr _ _ (⟨3, 8, 40⟩ : Cf) (⟨4, 1, 1, 0, 5⟩ : Ps) HD.out HC.out HMAY.out (by decide) (by simp [Dk.new])).mono ?_
    rintro en w4 ⟨rfl, hd⟩
    rw [← HD1.out] at hd
    have b8 := hd.box (x := (f8, [.int .i64 4, .int .i64 1, .int .i64 1, .int .i64 0, .int .i64 5])) (by simp)
    clear q0 q1 q2 q3 q4 e0 e1 e2
    have q0 := b8.cell 0 (by simp)
    have q1 := b8.cell 1 (by simp)
    have q2 := b8.cell 2 (by simp)
    have q3 := b8.cell 3 (by simp)
    have q4 := b8.cell 4 (by simp)
    simp only [List.getElem_cons_zero, List.getElem_cons_succ] at q0 q1 q2 q3 q4
    have HD2 := Lib.hid (Duo.newB hd #[.int .i64 4, .int .i64 1, .int .i64 1, .int .i64 0, .int .i64 5] 32 rfl)
    clear b8 hd HD
    go_upto_region 10 with (fail)
    generalize hz4 : w4.alloc (.cells #[.int .i64 4, .int .i64 1, .int .i64 1, .int .i64 0, .int .i64 5] 32) = w5 at *
    generalize w4.heap.size = f11 at *
    clear hz4 q0 q1 q2 q3 q4
    go_wp2_with fail
    go_loopg [9, 10, 12] n (fun gr t9 t10 i wr => ∃ (j want : Nat) (down : Bool) (q : Ps) (dd : Dk), j + gr = n ∧ i = .int .i64 j ∧ t9 = .int .i64 want ∧ t10 = .bool down ∧ Duo w wr p rr dd dd ⟨(f11, [.int .i64 q.s, .int .i64 q.o, .int .i64 q.l, .int .i64 q.p, .int .i64 q.m]) :: (f8, [.int .i64 4, .int .i64 1, .int .i64 1, .int .i64 0, .int .i64 5]) :: (f3, [.int .i64 3, .int .i64 8, .int .i64 40]) :: [], [], (fun W => GeoAt W gb 3 8 40) :: (fun W => Ins W A n c zs) :: []⟩ ∧ Mt dd (⟨3, 8, 40⟩ : Cf) (⟨4, 1, 1, 0, 5⟩ : Ps) q want down ∧ Hd dd (⟨3, 8, 40⟩ : Cf) (⟨4, 1, 1, 0, 5⟩ : Ps) ∧ dd.held = [] ∧ q.s = 4 ∧ q.o = 1 + (j : Int) ∧ q.l = 1 + (j : Int) ∧ (0 ≤ q.p ∧ q.p ≤ 4294967295) ∧ (1 ≤ q.m ∧ q.m ≤ 12) ∧ want ≤ j)
    case atStart => exact ⟨0, 0, false, (⟨4, 1, 1, 0, 5⟩ : Ps), d1, by omega, rfl, rfl, rfl, HD2.out, Mt.start HLG.out rfl, HHD1.out, HHE1.out, rfl, rfl, rfl, by decide, by decide, Nat.le_refl _⟩
    clear HD2 HLG HHD1 HHE1 HD1
    obtain ⟨j, want, down, q, dd, hj, rfl, rfl, rfl, hd, hm, hhd, hhe, hqs, hqo, hql, hqp, hqm, hwj⟩ := hrel
    have HD := Lib.hid hd
    have HM := Lib.hid hm
    have HHD := Lib.hid hhd
    have HHE := Lib.hid hhe
    have HQS := Lib.hid hqs
    have HQ : Hid ((1 ≤ q.l ∧ q.l ≤ 2147483647) ∧ 0 ≤ q.p ∧ q.p ≤ 4294967295) := Lib.hid ⟨⟨by omega, by omega⟩, hqp⟩
    have HQO := Lib.hid hqo
    have HQL := Lib.hid hql
    have hqo1 : 1 ≤ q.o ∧ q.o ≤ 11 := by omega
    have hql1 : 1 ≤ q.l ∧ q.l ≤ 11 := by omega
    obtain ⟨hqo1, hqo2⟩ := hqo1
    obtain ⟨hql1, hql2⟩ := hql1
    clear hd hm hhd hhe hqs hqp hqm hqo hql
    by_cases hlt : j < n
    · have hjz : j < zs.length := by rw [HL.out]; exact hlt
      have hin := HD.out.fact (f := (fun W => Ins W A n c zs)) (by simp)
      obtain ⟨g, o, rfl, hcell⟩ := hin.at_ (by omega)
      have cz := hcell j (by simpa [ivs] using hjz)
      have hz0 := hz zs[j] (List.getElem_mem _)
      obtain ⟨z, hzj⟩ : ∃ z, zs[j] = z := ⟨_, rfl⟩
      have cz2 : wr.cell? ⟨g, o + j, none⟩ = some (.int .i64 z) := by rw [cz, ← hzj]; simp [ivs]
      rw [hzj] at hz0
      have hm0 := Int.emod_nonneg z (b := 12) (by decide)
      have hm1 := Int.emod_lt_of_pos z (b := 12) (by decide)
      have hw1 := IntWalk.i64_in (1 + z % 12) (by omega)
      have hw2 := IntWalk.i64_in ((j : Int) + 1) (by omega)
      have hlt2 : (j : Int) < (n : Int) := by omega
      have HZ0 := Lib.hid hz0
      clear hin hcell cz hz0 hzj
      go_wp2_with fail
      refine (round_any z 12 _ HZ0.out (by decide) (by decide)).mono ?_
      rintro en w2 ⟨rfl, rfl⟩
      obtain ⟨k, hk⟩ : ∃ k, 1 + z % 12 = k := ⟨_, rfl⟩
      have hk1 : 1 ≤ k ∧ k ≤ 12 := by omega
      obtain ⟨hk1, hk2⟩ := hk1
      rw [hk] at hw1
      have hw3 : IntKind.i64.wrap (1 + z % 12) = k := by rw [hk]; exact hw1
      have b11 := HD.out.box (x := (f11, [.int .i64 q.s, .int .i64 q.o, .int .i64 q.l, .int .i64 q.p, .int .i64 q.m])) (by simp)
      have q0 := b11.cell 0 (by simp)
      have q1 := b11.cell 1 (by simp)
      have q2 := b11.cell 2 (by simp)
      have q3 := b11.cell 3 (by simp)
      have q4 := b11.cell 4 (by simp)
      simp only [List.getElem_cons_zero, List.getElem_cons_succ] at q0 q1 q2 q3 q4
      have HDA := Lib.hid (HD.out.alloc (.cells #[.int .i64 3, .int .i64 0, .int .i64 0, .int .i64 ((j : Int) + 1)] 63))
      have hits := its_one wr 3 0 0 ((j : Int) + 1) 63
      have HIT := Lib.hid hits
      clear hits hm0 hm1 hk b11
      go_wp2_with fail
      refine (ref_rec_enc_any k q.l q.p (some ⟨wr.heap.size, 0, none⟩) 1 1 [⟨3, 0, 0, (j : Int) + 1⟩] none 0 0 [] _ HIT.out (Blks.nil _)).mono ?_
      intro en w3 he
      obtain ⟨r, hr⟩ : ∃ r : Rc, r = ⟨k, q.l, q.p, [⟨3, 0, 0, (j : Int) + 1⟩], []⟩ := ⟨_, rfl⟩
      have hmy : rcMay r = true := by rw [hr]; exact mark_may ⟨by omega, by omega⟩ HQ.out.1 HQ.out.2 ⟨by omega, by omega⟩
      rw [← hr, enc_rc hmy] at he
      obtain ⟨gb2, cb, rfl, hb1, hb2, hb3, hb4, hO⟩ := he.of_some
      have hlen : (rcBytes r).length = 64 := by rw [rcBytes_length hmy, hr]; rfl
      rw [hlen] at hb1 ⊢
      have hfc : Fc w3 (fun k => k < (wr.alloc (.cells #[.int .i64 3, .int .i64 0, .int .i64 0, .int .i64 ((j : Int) + 1)] 63)).heap.size) (fun W => Bys W (some ⟨gb2, 0, none⟩) 64 cb (rcBytes r)) := Row1.fc (Row1.of_Own hb4 (by rw [bvs_length, hlen]) hb1 hb2) (fun _ a ha hm => by injection ha with ha; subst ha; simp at hm hb3; omega)
      have HD2 := Lib.hid (HDA.out.addFc hO hfc)
      have hsm := rcSum_lt hmy
      have HS := Lib.hid (HM.out.step HC.out hmy (by rw [hr]) (by rw [hr]) (by rw [hr]) (by rw [hr]; rfl) (by have := HQO.out; show q.o + 1 ≤ 40 - 1; omega))
      have HMY := Lib.hid hmy
      have HR := Lib.hid hr
      obtain ⟨sm, hsm2⟩ : ∃ s : Int, s = (rcSum r : Nat) := ⟨_, rfl⟩
      rw [← hsm2] at HS ⊢
      have hs0 : 0 ≤ sm ∧ sm ≤ 4294967295 := by omega
      have HSM := Lib.hid hs0
      have hrm : r.m = k := by rw [hr]
      rw [hrm] at HS
      have hlo : 64 ≤ (rcBytes r).length := by rw [hlen]; exact Nat.le_refl _
      clear hsm hsm2 hs0 hrm hmy hr hb1 hb2 hb3 hb4 hO hfc HDA HIT HD q0 q1 q2 q3 q4 hw1 hw2 hw3 hlen hlo
      have hat : 2 ≤ Cf.at_ (⟨3, 8, 40⟩ : Cf) 4 ∧ Cf.at_ (⟨3, 8, 40⟩ : Cf) 4 ≤ 4096 := by obtain ⟨e1, e2, e3⟩ := Cf.sec (⟨3, 8, 40⟩ : Cf) HC.out 4 (by decide) (by decide); simp only at e2; omega
      obtain ⟨sa, hsa⟩ : ∃ s, Cf.at_ (⟨3, 8, 40⟩ : Cf) 4 = s := ⟨_, rfl⟩
      rw [hsa] at hat
      have HSA := Lib.hid hsa
      obtain ⟨hat0, hat1⟩ := hat
      have hw4 := IntWalk.i64_in (sa + q.o) (by omega)
      clear hsa
      go_wp2_with fail
      have HY := Lib.hid HD2.out.drew
      clear HD2
      refine wp_region_held_drew (S := (fun w' => Kn.Own w' f11 [.int .i64 q.s, .int .i64 q.o, .int .i64 q.l, .int .i64 q.p, .int .i64 q.m])) (by kernel_rfl) (HY.out.box (x := (f11, [.int .i64 q.s, .int .i64 q.o, .int .i64 q.l, .int .i64 q.p, .int .i64 q.m])) (by simp)) (fun hSw0 => ?_)
      generalize w3.drew = wz at *
      refine wpAnyH_take (i := 0) (oi := ⟨some 74, _, _, _, _, _⟩) (v := ?_) rfl (by kernel_rfl) (by kernel_rfl) (by kernel_rfl) (fun _ _ _ h => h) (Or.inl ⟨by rfl, ?_⟩) (by assumption) ?_
      rotate_left
      · intro w hSw
        (try dsimp only at hSw)
        go_simp
        all_goals (try with_reducible rfl)
      (try simp only [Act.put, List.setIfInBounds_toArray, List.set_cons_zero, List.set_cons_succ])
      refine wpAnyH_take (i := 1) (oi := ⟨some 75, _, _, _, _, _⟩) (v := ?_) rfl (by kernel_rfl) (by kernel_rfl) (by kernel_rfl) (fun _ _ _ h => h) (Or.inl ⟨by rfl, ?_⟩) (by assumption) ?_
      rotate_left
      · intro w hSw
        (try dsimp only at hSw)
        go_simp
        all_goals (try with_reducible rfl)
      (try simp only [Act.put, List.setIfInBounds_toArray, List.set_cons_zero, List.set_cons_succ])
      refine wpAnyH_take (i := 2) (oi := ⟨some 76, _, _, _, _, _⟩) (v := ?_) rfl (by kernel_rfl) (by kernel_rfl) (by kernel_rfl) (fun _ _ _ h => h) (Or.inl ⟨by rfl, ?_⟩) (by assumption) ?_
      rotate_left
      · intro w hSw
        (try dsimp only at hSw)
        go_simp
        all_goals (try with_reducible rfl)
      (try simp only [Act.put, List.setIfInBounds_toArray, List.set_cons_zero, List.set_cons_succ])
      refine wpAnyH_take (i := 3) (oi := ⟨some 77, _, _, _, _, _⟩) (v := ?_) rfl (by kernel_rfl) (by kernel_rfl) (by kernel_rfl) (fun _ _ _ h => h) (Or.inl ⟨by rfl, ?_⟩) (by assumption) ?_
      rotate_left
      · intro w hSw
        (try dsimp only at hSw)
        go_simp
        all_goals (try with_reducible rfl)
      (try simp only [Act.put, List.setIfInBounds_toArray, List.set_cons_zero, List.set_cons_succ])
      refine wpAnyH_take (i := 4) (oi := ⟨some 78, _, _, _, _, _⟩) (v := ?_) rfl (by kernel_rfl) (by kernel_rfl) (by kernel_rfl) (fun _ _ _ h => h) (Or.inl ⟨by rfl, ?_⟩) (by assumption) ?_
      rotate_left
      · intro w hSw
        (try dsimp only at hSw)
        go_simp
        all_goals (try with_reducible rfl)
      (try simp only [Act.put, List.setIfInBounds_toArray, List.set_cons_zero, List.set_cons_succ])
      refine wpAnyH_take (i := 5) (oi := ⟨some 79, _, _, _, _, _⟩) (v := ?_) rfl (by kernel_rfl) (by kernel_rfl) (by kernel_rfl) (fun _ _ _ h => h) (Or.inl ⟨by rfl, ?_⟩) (by assumption) ?_
      rotate_left
      · intro w hSw
        (try dsimp only at hSw)
        go_simp
        all_goals (try with_reducible rfl)
      (try simp only [Act.put, List.setIfInBounds_toArray, List.set_cons_zero, List.set_cons_succ])
      refine wpAnyH_take (i := 7) (oi := ⟨some 81, _, _, _, _, _⟩) (v := ?_) rfl (by kernel_rfl) (by kernel_rfl) (by kernel_rfl) (fun _ _ _ h => h) (Or.inl ⟨by rfl, ?_⟩) (by assumption) ?_
      rotate_left
      · intro w hSw
        (try dsimp only at hSw)
        go_simp
        all_goals (try with_reducible rfl)
      (try simp only [Act.put, List.setIfInBounds_toArray, List.set_cons_zero, List.set_cons_succ])
      refine wpAnyH_take (i := 8) (oi := ⟨some 82, _, _, _, _, _⟩) (v := (.int .i64 q.o)) rfl (by kernel_rfl) (by kernel_rfl) (by kernel_rfl) (fun _ _ _ h => h) (Or.inl ⟨by rfl, ?_⟩) (by assumption) ?_
      · intro w hSw
        have q0 := hSw.cell 1 (by simp)
        simp only [List.getElem_cons_zero, List.getElem_cons_succ] at q0
        go_simp
      (try simp only [Act.put, List.setIfInBounds_toArray, List.set_cons_zero, List.set_cons_succ])
      refine wpAnyH_take (i := 10) (oi := ⟨some 84, _, _, _, _, _⟩) (v := ?_) rfl (by kernel_rfl) (by kernel_rfl) (by kernel_rfl) (fun _ _ _ h => h) (Or.inl ⟨by rfl, ?_⟩) (by assumption) ?_
      rotate_left
      · intro w hSw
        (try dsimp only at hSw)
        go_simp
        all_goals (try with_reducible rfl)
      (try simp only [Act.put, List.setIfInBounds_toArray, List.set_cons_zero, List.set_cons_succ])
      refine wpAnyH_ready (rs := [6]) (by kernel_rfl) (by simp) ?_
      refine AllReadyH.cons (o := ⟨some 80, _, _, _, _, _⟩) rfl (fun K hK => ?_) AllReadyH.nil
      go_simp
      refine (geom_seg_any gb (⟨3, 8, 40⟩ : Cf) 4 _ (HY.out.fact (f := (fun W => GeoAt W gb 3 8 40)) (by simp)) HC.out).mono ?_
      rintro en wa ⟨rfl, hO⟩
      rw [HSA.out]
      have HY1 := Lib.hid (HY.out.keep0 hO)
      clear hO HY
      refine hK.out _ _ (HY1.out.box (x := (f11, [.int .i64 q.s, .int .i64 q.o, .int .i64 q.l, .int .i64 q.p, .int .i64 q.m])) (by simp)) (fun hSn => ?_)
      clear hK K hSw0
      have hSw0 := hSn
      clear hSn
      (try simp only [Act.put, List.setIfInBounds_toArray, List.set_cons_zero, List.set_cons_succ])
      refine wpAnyH_take (i := 9) (oi := ⟨some 83, _, _, _, _, _⟩) (v := ?_) rfl (by kernel_rfl) (by kernel_rfl) (by kernel_rfl) (fun _ _ _ h => h) (Or.inl ⟨by rfl, ?_⟩) (by assumption) ?_
      rotate_left
      · intro w hSw
        (try dsimp only at hSw)
        go_simp
        all_goals (try with_reducible rfl)
      (try simp only [Act.put, List.setIfInBounds_toArray, List.set_cons_zero, List.set_cons_succ])
      refine wpAnyH_ready (rs := [11]) (by kernel_rfl) (by simp) ?_
      refine AllReadyH.cons (o := ⟨some 85, _, _, _, _, _⟩) rfl (fun K hK => ?_) AllReadyH.nil
      go_simp
      refine (kit_put_any w _ p rr dd _ (sa + q.o) (some ⟨gb2, 0, none⟩) 64 cb (rcBytes r) HY1.out List.mem_cons_self (by rw [HHE.out]; decide) (by decide) ⟨by omega, by omega⟩).mono ?_
      rintro en wb ⟨rfl, hd⟩
      have HY2 := Lib.hid hd
      clear hd HY1
      refine hK.out _ _ (HY2.out.box (x := (f11, [.int .i64 q.s, .int .i64 q.o, .int .i64 q.l, .int .i64 q.p, .int .i64 q.m])) (by simp)) (fun hSn => ?_)
      clear hK K hSw0
      have hSw0 := hSn
      clear hSn
      (try simp only [Act.put, List.setIfInBounds_toArray, List.set_cons_zero, List.set_cons_succ])
      refine wpAnyH_take (i := 12) (oi := ⟨some 86, _, _, _, _, _⟩) (v := ?_) rfl (by kernel_rfl) (by kernel_rfl) (by kernel_rfl) (fun _ _ _ h => h) (Or.inl ⟨by rfl, ?_⟩) (by assumption) ?_
      rotate_left
      · intro w hSw
        (try dsimp only at hSw)
        go_simp
        all_goals (try with_reducible rfl)
      (try simp only [Act.put, List.setIfInBounds_toArray, List.set_cons_zero, List.set_cons_succ])
      refine wpAnyH_take (i := 13) (oi := ⟨some 87, _, _, _, _, _⟩) (v := ?_) rfl (by kernel_rfl) (by kernel_rfl) (by kernel_rfl) (fun _ _ _ h => h) (Or.inl ⟨by rfl, ?_⟩) (by assumption) ?_
      rotate_left
      · intro w hSw
        (try dsimp only at hSw)
        go_simp
        all_goals (try with_reducible rfl)
      (try simp only [Act.put, List.setIfInBounds_toArray, List.set_cons_zero, List.set_cons_succ])
      refine wpAnyH_done (by kernel_rfl) ?_ _
      clear hSw0 hw4
      have hae : sa + q.o = Cf.at_ (⟨3, 8, 40⟩ : Cf) q.s + q.o := by rw [HQS.out, HSA.out]
      rw [hae] at HY2
      clear hae
      have HY3 := Lib.hid (HY2.out.subF (F' := (fun W => GeoAt W gb 3 8 40) :: (fun W => Ins W (some ⟨g, o, none⟩) n c zs) :: []) (fun f hf => List.mem_cons_of_mem _ hf))
      clear HY2
      obtain ⟨d2, hd2⟩ : ∃ d2, dd.puts (Cf.at_ (⟨3, 8, 40⟩ : Cf) q.s + q.o) (rcBytes r) = d2 := ⟨_, rfl⟩
      rw [hd2] at HY3 HS
      have hlv := Dk.Live.puts HM.out.rdy.live (Cf.at_ (⟨3, 8, 40⟩ : Cf) q.s + q.o) (rcBytes r)
      rw [hd2] at hlv
      have HHE2 := Lib.hid hlv.2
      have HHD2 : Hid (Hd d2 (⟨3, 8, 40⟩ : Cf) (⟨4, 1, 1, 0, 5⟩ : Ps)) := Lib.hid (by
        obtain ⟨e1, e2, e3⟩ := Cf.sec (⟨3, 8, 40⟩ : Cf) HC.out 4 (by decide) (by decide)
        have hll := HM.out.len
        have hqs := HQS.out
        simp only at e2 hll
        rw [← hd2]
        refine HHD.out.agr (HM.out.rdy.puts_agr (n := 1) (lo := Cf.at_ (⟨3, 8, 40⟩ : Cf) 4) (hi := Cf.at_ (⟨3, 8, 40⟩ : Cf) 4 + 1) (by rw [hqs]; omega) (by rw [rcBytes_length HMY.out, HR.out]; rfl) (by rw [hqs]; omega) (by omega) (.inl (by rw [hqs]; omega))) (Int.le_refl _) (by show Cf.at_ (⟨3, 8, 40⟩ : Cf) 4 < _; omega))
      clear hd2 hlv HHD HHE HM
      have b11 := HY3.out.box (x := (f11, [.int .i64 q.s, .int .i64 q.o, .int .i64 q.l, .int .i64 q.p, .int .i64 q.m])) (by simp)
      have q0 := b11.cell 0 (by simp)
      have q1 := b11.cell 1 (by simp)
      have q2 := b11.cell 2 (by simp)
      have q3 := b11.cell 3 (by simp)
      have q4 := b11.cell 4 (by simp)
      simp only [List.getElem_cons_zero, List.getElem_cons_succ] at q0 q1 q2 q3 q4
      have z0 := b11.frozen 0
      have z1 := b11.frozen 1
      have z2 := b11.frozen 2
      have z3 := b11.frozen 3
      have z4 := b11.frozen 4
      have l11 := b11.lt
      have hw5 := IntWalk.i64_in (q.o + 1) (by omega)
      have hw6 := IntWalk.i64_in (q.l + 1) (by omega)
      have hw7 := IntWalk.i64_in ((want : Int) + 1) (by omega)
      clear b11
      cases down with
      | true =>
        have HS2 : Hid (Mt d2 (⟨3, 8, 40⟩ : Cf) (⟨4, 1, 1, 0, 5⟩ : Ps) ⟨4, q.o + 1, q.l + 1, sm, k⟩ want true) := Lib.hid (by have h := HS.out; rw [HQS.out] at h; simpa using h)
        clear HS
        go_wp2_with fail
        go_roundg (gk - 1)
        case measure => omega
        case rel => exact ⟨j + 1, want, true, ⟨4, q.o + 1, q.l + 1, sm, k⟩, d2, by omega, by go_num, by go_num, rfl, (((((HY3.out.put 0 (b := f11) rfl 0 (.int .i64 4)).put 0 (b := f11) rfl 1 (.int .i64 (q.o + 1))).put 0 (b := f11) rfl 2 (.int .i64 (q.l + 1))).put 0 (b := f11) rfl 3 (.int .i64 sm)).put 0 (b := f11) rfl 4 (.int .i64 k)), HS2.out, HHD2.out, HHE2.out, rfl, by have := HQO.out; simp only; omega, by have := HQL.out; simp only; omega, HSM.out, ⟨hk1, hk2⟩, by omega⟩
      | false =>
        by_cases hkm : k < q.m
        · have HS2 : Hid (Mt d2 (⟨3, 8, 40⟩ : Cf) (⟨4, 1, 1, 0, 5⟩ : Ps) ⟨4, q.o + 1, q.l + 1, sm, k⟩ want true) := Lib.hid (by have h := HS.out; rw [HQS.out] at h; rw [Bool.false_or, decide_eq_true hkm, if_pos rfl] at h; exact h)
          clear HS
          go_wp2_with fail
          go_roundg (gk - 1)
          case measure => omega
          case rel => exact ⟨j + 1, want, true, ⟨4, q.o + 1, q.l + 1, sm, k⟩, d2, by omega, by go_num, by go_num, rfl, (((((HY3.out.put 0 (b := f11) rfl 0 (.int .i64 4)).put 0 (b := f11) rfl 1 (.int .i64 (q.o + 1))).put 0 (b := f11) rfl 2 (.int .i64 (q.l + 1))).put 0 (b := f11) rfl 3 (.int .i64 sm)).put 0 (b := f11) rfl 4 (.int .i64 k)), HS2.out, HHD2.out, HHE2.out, rfl, by have := HQO.out; simp only; omega, by have := HQL.out; simp only; omega, HSM.out, ⟨hk1, hk2⟩, by omega⟩
        · have HS2 : Hid (Mt d2 (⟨3, 8, 40⟩ : Cf) (⟨4, 1, 1, 0, 5⟩ : Ps) ⟨4, q.o + 1, q.l + 1, sm, k⟩ (want + 1) false) := Lib.hid (by have h := HS.out; rw [HQS.out] at h; rw [Bool.false_or, decide_eq_false hkm, if_neg (by decide)] at h; exact h)
          clear HS
          go_wp2_with fail
          go_roundg (gk - 1)
          case measure => omega
          case rel => exact ⟨j + 1, want + 1, false, ⟨4, q.o + 1, q.l + 1, sm, k⟩, d2, by omega, by go_num, by go_num, rfl, (((((HY3.out.put 0 (b := f11) rfl 0 (.int .i64 4)).put 0 (b := f11) rfl 1 (.int .i64 (q.o + 1))).put 0 (b := f11) rfl 2 (.int .i64 (q.l + 1))).put 0 (b := f11) rfl 3 (.int .i64 sm)).put 0 (b := f11) rfl 4 (.int .i64 k)), HS2.out, HHD2.out, HHE2.out, rfl, by have := HQO.out; simp only; omega, by have := HQL.out; simp only; omega, HSM.out, ⟨hk1, hk2⟩, by omega⟩
    · obtain rfl : j = n := by omega
      have hw1 := IntWalk.i64_in (1 + (want : Int)) (by omega)
      have HSCN := Lib.hid ((HHD.out.scan HC.out (by decide)).2)
      obtain ⟨l, qf, hsg, hll, hqf⟩ := HM.out.scan HC.out
      have HSR : Hid (scanR dd (⟨3, 8, 40⟩ : Cf) true ⟨4, 0, 0, 0, 0⟩ = (l, qf, 0)) := Lib.hid (HSCN.out.trans hsg)
      have HLL := Lib.hid hll
      have hqf2 : qf.o = 1 + (want : Int) := hqf
      have HQF := Lib.hid hqf2
      have hj10 : l.length ≤ 99 := by omega
      have HJ := Lib.hid hj10
      clear hsg hll hqf hqf2 hj10
      go_wp2_with fail
      refine (duo_seg HD.out (cf := (⟨3, 8, 40⟩ : Cf)) 4 (by simp) HC.out (by decide)).mono ?_
      rintro en w2 ⟨S, rfl, hd⟩
      have HD2 := Lib.hid hd
      clear hd HD
      go_wp2_with fail
      refine (duo_walk13 (cf := (⟨3, 8, 40⟩ : Cf)) HD2.out (by simp) HC.out 99 (by rw [HSR.out]; exact HJ.out) (by decide)).mono ?_
      rw [HSR.out]
      rintro en w3 ⟨xs, A2, k2, fs, rfl, hx, hf, hd⟩
      have hxl : xs.length = want := by have h := congrArg List.length hx; simp only [List.length_map] at h; rw [h]; exact HLL.out
      rw [hxl] at hd ⊢
      have HD3 := Lib.hid hd
      clear hd HD2 hx hf hxl
      go_wp2_with fail
      refine (duo_end HD3.out List.mem_cons_self).mono ?_
      rintro en w4 ⟨rfl, hO⟩
      simp only
      rw [HQF.out]
      have hfp := field_pos1 qf.s (1 + (want : Int)) qf.l qf.p qf.m
      have HD4 := Lib.hid (HD3.out.keep0 hO)
      clear hO HD3
      go_wp2_with fail
      refine (awake13_any _).mono ?_
      rintro en w5 ⟨rfl, hO⟩
      have HO := Lib.hid (HD4.out.only.trans' hO)
      clear hO HD4
      go_wp2_with fail
      refine bodyPost_ret (v := .bool true) (by kernel_rfl) rfl ⟨rfl, HO.out⟩
  · have hpk : ((n : Int) < 1 ∨ (n : Int) > 10) := by omega
    go_enter Tryz.func4, Tryz.ntmps4
    by_cases hb1 : (n : Int) < 1
    · go_wp2_with fail
      refine (awake13_any _).mono ?_
      rintro en w1 ⟨rfl, hO⟩
      go_wp2_with fail
      refine bodyPost_ret (v := .bool true) (by kernel_rfl) rfl ⟨rfl, hO⟩
    · have hb2 : (n : Int) > 10 := by omega
      go_wp2_with fail
      refine (awake13_any _).mono ?_
      rintro en w1 ⟨rfl, hO⟩
      go_wp2_with fail
      refine bodyPost_ret (v := .bool true) (by kernel_rfl) rfl ⟨rfl, hO⟩
theorem walk (a0 : Option Addr) (len0 cap0 : Nat) (z0 : List Int) (w : World) (w0 : IsRow .i64 w a0 len0 cap0 z0) : Calls Tryz.prog 4 #[.slice a0 len0 cap0] w fun e w' => e = .returned (.bool true) ∧ Below w.heap.size w w' := by
  refine (mounts a0 len0 cap0 _ w w0.ins w0.wf).mono ?_
  rintro e w' ⟨rfl, hO⟩
  exact ⟨rfl, hO.below0⟩
set_option maxRecDepth 100000 in
theorem lifted (os : Os) (started : os.Started) (H : Type) (enc : TypeId × Value → H) :
    ReturnsInHanded {} Tryz.checked os 4 .any (Rows.scanMountsSpec.pre6 enc Tryz.prog Tryz.f4 Rows.scanMountsRow.domain false) (Rows.scanMountsSpec.post enc Tryz.prog Tryz.f4 false true false false) := by
  refine returnsInHanded_of_change (C := Tryz.checked) own started (by kernel_rfl) Tryz.func4
    (ChangeSpec.witness6 (enc := enc) (C := Tryz.checked) false ⟨#[], #[.slice none 0 0], []⟩ 8 (by kernel_rfl) (by kernel_rfl) (by kernel_rfl) (by kernel_rfl)) ?_
  intro W base args ds gs before hval0 hW hcnd _
  have hval : ∀ (j : Nat) t v, Tryz.f4.params[j]? = some t → args[j]? = some v → Value.okWide Tryz.prog W .any base t v := hval0
  have hW' := hW
  obtain ⟨p, q, hA0, hV, rfl, hfz, hnd⟩ := hW
  have hA : DataW.TrodAll enc Tryz.prog W 0 (fun _ => true) true Tryz.f4.params.toList args.toList ds p := hA0
  rw [Tryz.params4] at hA hval
  obtain ⟨v0, vs0, d0, ds0, p0, q0, hargs, rfl, rfl, h0, r0⟩ := trodAll_cons hA
  obtain ⟨rfl, rfl, rfl⟩ := trodAll_nil r0
  obtain rfl : args = #[v0] := by cases args; simp_all
  obtain ⟨rfl, rfl⟩ := trodVars_none hV
  obtain ⟨a0, len0, cap0, rfl⟩ := okWide_slice Tryz.underlying34 (hval 0 34 v0 rfl rfl)
  have k0 := h0
  have lt0 : ∀ x ∈ p0, x.block < W.heap.size := by obtain ⟨m, hm⟩ := k0; exact DataW.trod_lt m _ _ _ hm
  obtain ⟨z0, w0⟩ : ∃ zs, IsRow .i64 W a0 len0 cap0 zs := by
    obtain ⟨fuel, hf⟩ := h0
    rcases open_ints Tryz.underlying34 Tryz.underlying3 (by kernel_rfl) hf with ⟨hcs, _⟩ | ⟨x, l, c, zs, hcs, _, hl, hm, hz, _, hcell, hwz⟩
    · simp [Value.cells] at hcs
      obtain ⟨rfl, rfl, rfl⟩ := hcs
      exact ⟨[], .inl ⟨rfl, rfl, rfl, rfl⟩⟩
    · simp [Value.cells] at hcs
      obtain ⟨rfl, rfl, rfl⟩ := hcs
      exact ⟨zs, .inr ⟨_, rfl, hl, hm, by simpa using hz, hcell, hwz⟩⟩
  clear hA0 hval0
  refine (walk a0 len0 cap0 z0 W w0).mono fun e W' ⟨he, bel⟩ => ?_
  subst he
  exact ⟨_, rfl, _, _, _, [], _, [], hW', trodAll_mk1 (shut_bool Tryz.underlying4 _), (trodAll_cons_mk (Below.trod laidOut (by kernel_rfl) (of_decide_eq_true (by kernel_rfl)) k0 bel lt0) trodAll_mk0), rfl, bel.frame _, fun h => by cases h⟩
set_option maxRecDepth 100000 in
theorem closed : joinedFacts Tryz.pinned.checked.prog 4 Tryz.f4 Rows.scanMountsSpec Rows.scanMountsRow = true := by
  show joinedFacts Tryz.prog 4 Tryz.f4 Rows.scanMountsSpec Rows.scanMountsRow = true
  unfold joinedFacts
  simp only [enter_may, enter_lifts, enter_make]
  kernel_rfl
theorem over : Rows.scanMountsRow.holds Tryz.pinned (OpenSpec.ofChange Rows.scanMountsSpec) :=
  OpenClaim.holds_of_wide 4 Tryz.f4 rfl rfl rfl rfl rfl rfl rfl ⟨rfl, rfl, rfl, rfl, rfl⟩ rfl rfl rfl rfl rfl (by kernel_rfl) Tryz.func4 closed
    (of_decide_eq_true (by kernel_rfl)) (by unfold Func.isWrapper; first | (rw [if_pos (by decide +kernel)]; kernel_rfl) | (rw [if_neg (by decide +kernel)]; exact ⟨rfl, rfl⟩))
    (fun os started H enc _ => lifted os started H enc)
theorem proved : Rows.ScanMountsSaid := over
end Go.Proofs.YtgcfdjcpcclcjaaGreat.scanMounts
