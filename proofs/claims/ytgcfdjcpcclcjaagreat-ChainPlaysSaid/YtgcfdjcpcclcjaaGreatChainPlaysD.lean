/- DkG, DkH, KitA, GeoA, HeadP, HeadM, HeadE, HeadB, CrcC, CrcD, HeadR, HeadF, ScanP, GeoS, KitD, WkP, ScnA, ScnB, ItemD, ItemE: joined by pack.py, without what the claim does not use. -/
import Derived.Test.YtgcfdjcpcclcjaaGreatChainPlaysC
set_option linter.unusedVariables false
set_option linter.unusedSimpArgs false
set_option maxHeartbeats 16000000
set_option maxRecDepth 100000
namespace Go.Proofs.YtgcfdjcpcclcjaaGreat
open Go Go.RowKit Go.Kn
theorem Rsk.gone1 {w0 w : World} {r : RD} {d : Dk} {c : Fr3} (h : Rsk w0 w r d c) (hg : d.gone = true) :
  Rsk w0 ((w.setCell ⟨r.M, 5, none⟩ (.int .i64 (wrap64 (d.acts + 1)))).setCell ⟨r.M, 4, none⟩ (.bool true)) r d.act c := by
 obtain ⟨v, lv, k, ls, sl, hs, hl, hm⟩ := h.mem
 have h1 := ((hm.put 0 (p := r.M) (cs := r.box v lv d) rfl 5 (.int .i64 (wrap64 (d.acts + 1)))).put 0 rfl 4 (.bool true))
 refine ⟨h.ok.act, h.N, h.hs, h.hf, v, lv, k, ls, sl, hs, hl, ?_⟩
 have e : r.L v lv sl d.act c.L = (r.M, [.slice (some ⟨r.s, 0, none⟩) r.N r.cs, v, .slice (some ⟨r.f, 0, none⟩) r.N r.cf, .int .i64 d.fuse, .bool true, .int .i64 (wrap64 (d.acts + 1)), lv]) :: (r.s, sl.map slv) :: (r.f, bls d.faults) :: c.L := by
  simp only [RD.L, RD.box, Dk.act, hg, if_true, Dk.tick]
 rw [e]
 exact h1
theorem Rsk.gone0 {w0 w : World} {r : RD} {d : Dk} {c : Fr3} (h : Rsk w0 w r d c) (hg : d.gone = false) (hf : 0 < d.fuse) :
  Rsk w0 ((w.setCell ⟨r.M, 5, none⟩ (.int .i64 (wrap64 (d.acts + 1)))).setCell ⟨r.M, 3, none⟩ (.int .i64 (d.fuse - 1))) r d.act c := by
 obtain ⟨v, lv, k, ls, sl, hs, hl, hm⟩ := h.mem
 have h1 := ((hm.put 0 (p := r.M) (cs := r.box v lv d) rfl 5 (.int .i64 (wrap64 (d.acts + 1)))).put 0 rfl 3 (.int .i64 (d.fuse - 1)))
 refine ⟨h.ok.act, h.N, h.hs, h.hf, v, lv, k, ls, sl, hs, hl, ?_⟩
 have hof : d.off = false := by unfold Dk.gone at hg; rw [Bool.or_eq_false_iff] at hg; exact hg.1
 have e : r.L v lv sl d.act c.L = (r.M, [.slice (some ⟨r.s, 0, none⟩) r.N r.cs, v, .slice (some ⟨r.f, 0, none⟩) r.N r.cf, .int .i64 (d.fuse - 1), .bool d.off, .int .i64 (wrap64 (d.acts + 1)), lv]) :: (r.s, sl.map slv) :: (r.f, bls d.faults) :: c.L := by
  simp only [RD.L, RD.box, Dk.act, hg, Bool.false_eq_true, if_false, Dk.tick, hof]
  rw [show max (d.fuse - 1) (-1) = d.fuse - 1 from by omega]
 rw [e]
 exact h1
theorem Rsk.gone0' {w0 w : World} {r : RD} {d : Dk} {c : Fr3} (h : Rsk w0 w r d c) (hg : d.gone = false) (hf : d.fuse < 0) :
  Rsk w0 (w.setCell ⟨r.M, 5, none⟩ (.int .i64 (wrap64 (d.acts + 1)))) r d.act c := by
 obtain ⟨v, lv, k, ls, sl, hs, hl, hm⟩ := h.mem
 have h1 := (hm.put 0 (p := r.M) (cs := r.box v lv d) rfl 5 (.int .i64 (wrap64 (d.acts + 1))))
 refine ⟨h.ok.act, h.N, h.hs, h.hf, v, lv, k, ls, sl, hs, hl, ?_⟩
 have hu := h.ok.u
 have hof : d.off = false := by unfold Dk.gone at hg; rw [Bool.or_eq_false_iff] at hg; exact hg.1
 have e : r.L v lv sl d.act c.L = (r.M, [.slice (some ⟨r.s, 0, none⟩) r.N r.cs, v, .slice (some ⟨r.f, 0, none⟩) r.N r.cf, .int .i64 d.fuse, .bool d.off, .int .i64 (wrap64 (d.acts + 1)), lv]) :: (r.s, sl.map slv) :: (r.f, bls d.faults) :: c.L := by
  simp only [RD.L, RD.box, Dk.act, hg, Bool.false_eq_true, if_false, Dk.tick, hof]
  rw [show max (d.fuse - 1) (-1) = d.fuse from by omega]
 rw [e]
 exact h1
theorem rk_act_any (w0 w : World) (r : RD) (d : Dk) (c : Fr3) (h : Rsk w0 w r d c) :
  Calls Tryz.prog 150 #[.pointer (some ⟨r.M, 0, none⟩)] w fun e w' => e = .returned (.bool (!d.gone)) ∧ Rsk w0 w' r d.act c := by
 obtain ⟨v, lv, k, ls, sl, hs, hl, hm⟩ := h.mem
 have hb := hm.boxi 0 (p := r.M) (cs := r.box v lv d) rfl
 have c3 := hb.cell 3 (by simp [RD.box])
 have c4 := hb.cell 4 (by simp [RD.box])
 have c5 := hb.cell 5 (by simp [RD.box])
 have f3 := hb.frozen 3
 have f4 := hb.frozen 4
 have f5 := hb.frozen 5
 simp only [RD.box, g0, gs] at c3 c4 c5
 have hu := h.ok.u
 have hlt := hb.lt
 obtain ⟨hu1, hu2⟩ := hu
 clear hm hb hl
 by_cases hg : d.gone = true
 ·refine (show Calls _ _ _ _ (fun e w' => e = .returned (.bool false) ∧ Rsk w0 w' r d.act c) from ?_).mono (fun e w' h => by rw [hg]; exact h)
  have H := hH (Rsk.gone1 h hg)
  clear h
  unfold Dk.gone at hg
  by_cases ho : d.off = true
  ·rw [ho] at c4
   clear hg ho
   go_enter Tryz.func150, Tryz.ntmps150
   go_wp2
   go_ret
   exact ⟨rfl, H.out⟩
  rw [Bool.not_eq_true] at ho
  have hf : d.fuse = 0 := by rw [ho] at hg; simpa using hg
  rw [ho] at c4
  rw [hf] at c3
  clear hg ho hf hu1 hu2
  go_enter Tryz.func150, Tryz.ntmps150
  go_wp2
  go_ret
  exact ⟨rfl, H.out⟩
 rw [Bool.not_eq_true] at hg
 refine (show Calls _ _ _ _ (fun e w' => e = .returned (.bool true) ∧ Rsk w0 w' r d.act c) from ?_).mono (fun e w' h => by rw [hg]; exact h)
 by_cases hz : 0 < d.fuse
 ·have H := hH (h.gone0 hg hz)
  clear h
  unfold Dk.gone at hg
  rw [Bool.or_eq_false_iff] at hg
  obtain ⟨ho, hf⟩ := hg
  rw [ho] at c4
  have hf : ¬ d.fuse = 0 := by omega
  clear ho
  go_enter Tryz.func150, Tryz.ntmps150
  go_wp2
  go_ret
  exact ⟨rfl, H.out⟩
 have hf0 : ¬ d.fuse = 0 := by
  unfold Dk.gone at hg
  rw [Bool.or_eq_false_iff] at hg
  simpa using hg.2
 have H := hH (h.gone0' hg (by omega))
 clear h
 unfold Dk.gone at hg
 rw [Bool.or_eq_false_iff] at hg
 obtain ⟨ho, hf⟩ := hg
 rw [ho] at c4
 clear ho hf
 go_enter Tryz.func150, Tryz.ntmps150
 go_wp2
 go_ret
 exact ⟨rfl, H.out⟩
theorem Tryz.infoHeld : (Tryz.prog.info? 175).map (fun i => (i.zero, i.size, i.bytes)) = some (some (.agg #[.int .i64 0, .slice none 0 0]), 2, 32) := by kernel_rfl
theorem Rsk.wroteMk {w0 w' : World} {r : RD} {d : Dk} {c : Fr3} {w : World} {v lv : Value} {k kk : Nat} {ls : List Value} {sl hs : List (Option Addr × Nat × Nat)} {b : List UInt8} {s : Option Addr × Nat × Nat} (h : Rsk w0 w r d c) (hh : d.has k = true) (hb : b.length = 64) (hl : hs.length = d.held.length)
  (hm : Wc w0 w' ((r.M, r.box v lv d.act) :: (r.s, sl.map slv) :: (r.f, bls d.faults) :: c.L) (⟨175, 2, v, d.held.length + 1, heldR d.held hs ++ [.int .i64 (k : Int), slv s]⟩ :: ⟨47, 1, lv, kk, ls⟩ :: c.G) ((fun W => Bls W sl d.safe) :: (fun W => Bls W (hs ++ [s]) (d.held.map (·.2) ++ [b])) :: c.F)) :
  Rsk w0 w' r (d.wrote k b) c := by
 refine ⟨h.ok.wrote hh hb, h.N, h.hs, h.hf, v, lv, kk, ls, sl, hs ++ [s], by simp [Dk.wrote, hl], ?_⟩
 have e1 : (d.wrote k b).held = d.held ++ [(k, b)] := by unfold Dk.wrote; simp
 rw [e1, heldR_snoc _ _ hl.symm, List.length_append, List.map_append]
 exact hm
theorem rk_write_any (w0 w : World) (r : RD) (d : Dk) (c : Fr3) (a : Int) (A : Option Addr) (n cc : Nat) (b : List UInt8) (h : Rsk w0 w r d c) (hb : (fun W => Bys W A n cc b) ∈ c.F) (hh : d.held.length ≤ 1000000) :
  Calls Tryz.prog 94 #[.pointer (some ⟨r.M, 0, none⟩), .int .i64 a, .slice A n cc] w fun e w' => e = .returned (.int .i64 (d.write a b).2) ∧ Rsk w0 w' r (d.write a b).1 c := by
 obtain ⟨v, lv, kk, ls, sl, hs, hl, hm⟩ := h.mem
 have hbl : b.length = n := by
  have := (hm.fact _ (mc _ (mc _ hb))).len
  rwa [bvs_length] at this
 have hbx := hm.boxi 0 (p := r.M) (cs := r.box v lv d) rfl
 have c0 := hbx.cell 0 (by simp [RD.box])
 simp only [RD.box, g0, gs] at c0
 have hN := h.N
 have hn := h.ok.n
 have hN1 : 1 ≤ r.N ∧ r.N ≤ 4096 := by omega
 obtain ⟨hN1, hN2⟩ := hN1
 have hha : decide (0 ≤ a ∧ a ≤ (r.N : Int) - 1) = d.has a := by
  unfold Dk.has
  rw [hN]
  by_cases h1 : 0 ≤ a ∧ a ≤ (r.N : Int) - 1
  ·rw [decide_eq_true h1, decide_eq_true (by omega)]
  rw [decide_eq_false h1, decide_eq_false (by omega)]
 have HHA := hH hha
 clear hm hbx hN hn hha hl
 by_cases hok : d.has a = true ∧ b.length = 64
 ·obtain ⟨ho1, ho2⟩ := hok
  obtain rfl : n = 64 := by omega
  by_cases hg : d.gone = true
  ·have e : d.write a b = (d.act, 3) := by unfold Dk.write; simp [ho1, ho2, hg]
   rw [e]
   have H := hH h
   have HG := hH hg
   have HO := hH ho1
   clear h hbl ho2 ho1 hg e
   go_enter Tryz.func94, Tryz.ntmps94
   go_wp2_with fail
   refine (within_any a 0 ((r.N : Int) - 1) _).mono ?_
   rintro e w1 ⟨rfl, rfl⟩
   rw [HHA.out, HO.out]
   go_wp2_with fail
   refine (rk_act_any w0 w r d c H.out).mono ?_
   rintro e w1 ⟨rfl, h1⟩
   rw [HG.out]
   have H1 := hH h1
   clear h1
   go_wp2
   go_ret
   exact ⟨rfl, H1.out⟩
  have e : d.write a b = (d.wrote a b, 0) := by unfold Dk.write; simp [ho1, ho2, hg]
  rw [e]
  rw [Bool.not_eq_true] at hg
  obtain ⟨k, rfl⟩ : ∃ k : Nat, a = k := ⟨a.toNat, by unfold Dk.has at ho1; simp only [decide_eq_true_eq] at ho1; omega⟩
  have H := hH h
  have HG := hH hg
  have HO := hH ho1
  have HB := hH hb
  have HL := hH ho2
  clear h hbl ho2 ho1 hg e hb
  go_enter Tryz.func94, Tryz.ntmps94
  go_wp2_with fail
  refine (within_any (k : Int) 0 ((r.N : Int) - 1) _).mono ?_
  rintro e w1 ⟨rfl, rfl⟩
  rw [HHA.out, HO.out]
  go_wp2_with fail
  refine (rk_act_any w0 w r d c H.out).mono ?_
  rintro e w1 ⟨rfl, h1⟩
  rw [HG.out]
  clear c0 v lv kk ls sl hs
  obtain ⟨v, lv, kk, ls, sl, hs, hl, hm⟩ := h1.mem
  obtain ⟨i1, hi1, hy0, hy1, hy2⟩ := info_parts Tryz.infoHeld
  have hdl : d.act.held.length = d.held.length := rfl
  have hde : d.act.held = d.held := rfl
  rw [hde] at hm hl
  have HHL := hH hl
  have HD7 := hH hm.drew
  clear hm h1 hdl hde hl
  go_wp2_with fail
  refine wp_region_held_drew (S := fun w' => w'.cell? ⟨r.M, 0, none⟩ = some (.slice (some ⟨r.s, 0, none⟩) r.N r.cs)) (by kernel_rfl) (by simpa [RD.box] using (HD7.out.boxi 0 (p := r.M) rfl).cell 0 (by simp [RD.box])) (fun hSw0 => ?_)
  generalize w1.drew = ws at *
  refine tS 0 24 ?_
  refine tS 1 25 ?_
  refine tS 2 26 ?_
  refine tS 3 27 ?_
  refine tS 5 29 ?_
  refine tS 6 30 ?_
  refine tS 7 31 ?_
  refine tS 8 32 ?_
  refine wpAnyH_ready (rs := [4, 9]) (by kernel_rfl) (by simp) ?_
  refine AllReadyH.cons (o := ⟨some 28, _, _, _, _, _⟩) rfl (fun K hK => ?_) ?_
  ·have yq := (HD7.out.boxi 0 (p := r.M) rfl).cell 1 (by simp [RD.box])
   simp only [RD.box, g0, gs] at yq
   go_simp
   clear yq
   refine hK.out _ _ (by simpa [RD.box] using (HD7.out.boxi 0 (p := r.M) rfl).cell 0 (by simp [RD.box])) (fun hSn => ?_)
   clear hK K hSw0
   have hSw0 := hSn
   clear hSn
   refine tR 9 33 fun K hK => ?_
   go_simp
   refine (part_any A 64 cc b 0 64 _ _ (HD7.out.fact _ (mc _ (mc _ HB.out))) (by omega) (by omega) (by omega)).mono ?_
   rintro en va ⟨rfl, ho7, hO⟩
   rw [List.drop_zero, List.take_of_length_le (by rw [HL.out]; omega)] at ho7
   have hbw := HD7.out.only.size
   have HDa := hH (HD7.out.addFc hO (f := fun V => Bys V (some ⟨ws.heap.size, 0, none⟩) 64 64 b) (Row1.fc (Row1.of_Own ho7 (by simp [HL.out]) (Nat.le_refl _) (by simp [maxLen])) (fun _ a ha => by injection ha with ha; subst ha; simp)))
   obtain ⟨g7, hg7⟩ : ∃ g, ws.heap.size = g := ⟨_, rfl⟩
   clear hO ho7 hbw
   rw [hg7] at HDa ⊢
   clear hg7 HD7
   refine hK.out _ _ (by simpa [RD.box] using (HDa.out.boxi 0 (p := r.M) rfl).cell 0 (by simp [RD.box])) (fun hSn => ?_)
   clear hK K hSw0
   have hSw0 := hSn
   clear hSn
   refine tS 10 34 ?_
   refine tR 11 35 fun K hK => ?_
   go_simp
   have HDb := hH (HDa.out.alloc (.cells #[.int .i64 (k : Int), .slice (some ⟨g7, 0, none⟩) 64 64] 175))
   have hnw := news_new va #[.int .i64 (k : Int), .slice (some ⟨g7, 0, none⟩) 64 64] 175 (by simp [maxLen])
   have HNW := hH hnw
   clear hnw
   generalize hvz : va.heap.size = vz at *
   generalize hvb : va.alloc (.cells #[.int .i64 (k : Int), .slice (some ⟨g7, 0, none⟩) 64 64] 175) = vb at *
   clear hvb hvz
   refine hK.out _ _ (by simpa [RD.box] using (HDb.out.boxi 0 (p := r.M) rfl).cell 0 (by simp [RD.box])) (fun hSn => ?_)
   clear hK K hSw0
   have hSw0 := hSn
   clear hSn
   refine tR 12 36 fun K hK => ?_
   have hbw := HDb.out.only.size
   refine step_append_own rfl (.tmp 28) (.tmp 35) 106 rfl w0.heap.size 175 i1 _ 2 32 Tryz.underlying106 hi1 hy0 hy1 hy2 rfl (by decide) v d.held.length (heldR d.held hs) rfl (HDb.out.gi 0 rfl) ⟨vz, 0, none⟩ 1 1 [.int .i64 (k : Int), .slice (some ⟨g7, 0, none⟩) 64 64] rfl rfl HNW.out (by intro u hu; simp at hu; rcases hu with rfl | rfl <;> rfl) (by unfold maxLen; omega) (by omega) hbw ?_
   intro v5 vd hown hgrow hat
   have hdd := HDb.out.gapp 0 rfl hown hgrow hat
   obtain ⟨A8, c8, rfl⟩ := hdd.gform 0 rfl
   simp only [List.set_cons_zero, List.set_cons_succ] at hdd
   have HDd := hH hdd
   clear hdd hown hgrow hat hbw
   refine hK.out _ _ (by simpa [RD.box] using (HDd.out.boxi 0 (p := r.M) rfl).cell 0 (by simp [RD.box])) (fun hSn => ?_)
   clear hK K hSw0
   have hSw0 := hSn
   clear hSn
   refine tS 13 37 ?_
   refine tS 14 38 ?_
   refine Kn.takeR 15 ⟨none, _, _, _, _, _⟩ fun K hK => ?_
   have hxb := HDd.out.boxi 0 (p := r.M) rfl
   have yq := hxb.cell 1 (by simp [RD.box])
   simp only [RD.box, g0, gs] at yq
   have fq := hxb.frozen 1
   go_simp
   clear yq fq hxb
   have hdz := HDd.out.put 0 (p := r.M) rfl 1 (.slice A8 (d.held.length + 1) c8)
   have HDz := hH hdz
   clear hdz
   refine hK.out _ _ (by simpa [RD.box] using (HDz.out.boxi 0 (p := r.M) rfl).cell 0 (by simp [RD.box])) (fun hSn => ?_)
   clear hK K hSw0
   have hSw0 := hSn
   clear hSn
   refine tD ?_ _
   clear hSw0
   go_wp2
   go_ret
   refine ⟨rfl, Rsk.wroteMk (v := .slice A8 (d.held.length + 1) c8) (lv := lv) (sl := sl) (hs := hs) (s := (some ⟨g7, 0, none⟩, 64, 64)) (kk := kk) (ls := ls) H.out HO.out HL.out HHL.out ?_⟩
   refine (HDz.out.fuse (f1 := fun V => Bys V (some ⟨g7, 0, none⟩) 64 64 b) (f2 := fun V => Bls V hs (d.held.map (·.2))) (f := fun V => Bls V (hs ++ [(some ⟨g7, 0, none⟩, 64, 64)]) (d.held.map (·.2) ++ [b])) (by simp) (by simp) (fun V h1 h2 => h2.snoc h1)).subF ?_
   intro f1 hf1
   rcases List.mem_cons.1 hf1 with rfl | hf1
   ·exact mc _ (mc _ List.mem_cons_self)
   rcases List.mem_cons.1 hf1 with rfl | hf1
   ·exact List.mem_cons_self
   exact mc _ (mc _ (mc _ (mc _ hf1)))
  refine AllReadyH.cons (o := ⟨some 33, _, _, _, _, _⟩) rfl (fun K hK => ?_) ?_
  ·go_simp
   refine (part_any A 64 cc b 0 64 _ _ (HD7.out.fact _ (mc _ (mc _ HB.out))) (by omega) (by omega) (by omega)).mono ?_
   rintro en va ⟨rfl, ho7, hO⟩
   rw [List.drop_zero, List.take_of_length_le (by rw [HL.out]; omega)] at ho7
   have hbw := HD7.out.only.size
   have HDa := hH (HD7.out.addFc hO (f := fun V => Bys V (some ⟨ws.heap.size, 0, none⟩) 64 64 b) (Row1.fc (Row1.of_Own ho7 (by simp [HL.out]) (Nat.le_refl _) (by simp [maxLen])) (fun _ a ha => by injection ha with ha; subst ha; simp)))
   obtain ⟨g7, hg7⟩ : ∃ g, ws.heap.size = g := ⟨_, rfl⟩
   clear hO ho7 hbw
   rw [hg7] at HDa ⊢
   clear hg7 HD7
   refine hK.out _ _ (by simpa [RD.box] using (HDa.out.boxi 0 (p := r.M) rfl).cell 0 (by simp [RD.box])) (fun hSn => ?_)
   clear hK K hSw0
   have hSw0 := hSn
   clear hSn
   refine tS 10 34 ?_
   refine wpAnyH_ready (rs := [4, 11]) (by kernel_rfl) (by simp) ?_
   refine AllReadyH.cons (o := ⟨some 28, _, _, _, _, _⟩) rfl (fun K hK => ?_) ?_
   ·have yq := (HDa.out.boxi 0 (p := r.M) rfl).cell 1 (by simp [RD.box])
    simp only [RD.box, g0, gs] at yq
    go_simp
    clear yq
    refine hK.out _ _ (by simpa [RD.box] using (HDa.out.boxi 0 (p := r.M) rfl).cell 0 (by simp [RD.box])) (fun hSn => ?_)
    clear hK K hSw0
    have hSw0 := hSn
    clear hSn
    refine tR 11 35 fun K hK => ?_
    go_simp
    have HDb := hH (HDa.out.alloc (.cells #[.int .i64 (k : Int), .slice (some ⟨g7, 0, none⟩) 64 64] 175))
    have hnw := news_new va #[.int .i64 (k : Int), .slice (some ⟨g7, 0, none⟩) 64 64] 175 (by simp [maxLen])
    have HNW := hH hnw
    clear hnw
    generalize hvz : va.heap.size = vz at *
    generalize hvb : va.alloc (.cells #[.int .i64 (k : Int), .slice (some ⟨g7, 0, none⟩) 64 64] 175) = vb at *
    clear hvb hvz
    refine hK.out _ _ (by simpa [RD.box] using (HDb.out.boxi 0 (p := r.M) rfl).cell 0 (by simp [RD.box])) (fun hSn => ?_)
    clear hK K hSw0
    have hSw0 := hSn
    clear hSn
    refine tR 12 36 fun K hK => ?_
    have hbw := HDb.out.only.size
    refine step_append_own rfl (.tmp 28) (.tmp 35) 106 rfl w0.heap.size 175 i1 _ 2 32 Tryz.underlying106 hi1 hy0 hy1 hy2 rfl (by decide) v d.held.length (heldR d.held hs) rfl (HDb.out.gi 0 rfl) ⟨vz, 0, none⟩ 1 1 [.int .i64 (k : Int), .slice (some ⟨g7, 0, none⟩) 64 64] rfl rfl HNW.out (by intro u hu; simp at hu; rcases hu with rfl | rfl <;> rfl) (by unfold maxLen; omega) (by omega) hbw ?_
    intro v5 vd hown hgrow hat
    have hdd := HDb.out.gapp 0 rfl hown hgrow hat
    obtain ⟨A8, c8, rfl⟩ := hdd.gform 0 rfl
    simp only [List.set_cons_zero, List.set_cons_succ] at hdd
    have HDd := hH hdd
    clear hdd hown hgrow hat hbw
    refine hK.out _ _ (by simpa [RD.box] using (HDd.out.boxi 0 (p := r.M) rfl).cell 0 (by simp [RD.box])) (fun hSn => ?_)
    clear hK K hSw0
    have hSw0 := hSn
    clear hSn
    refine tS 13 37 ?_
    refine tS 14 38 ?_
    refine Kn.takeR 15 ⟨none, _, _, _, _, _⟩ fun K hK => ?_
    have hxb := HDd.out.boxi 0 (p := r.M) rfl
    have yq := hxb.cell 1 (by simp [RD.box])
    simp only [RD.box, g0, gs] at yq
    have fq := hxb.frozen 1
    go_simp
    clear yq fq hxb
    have hdz := HDd.out.put 0 (p := r.M) rfl 1 (.slice A8 (d.held.length + 1) c8)
    have HDz := hH hdz
    clear hdz
    refine hK.out _ _ (by simpa [RD.box] using (HDz.out.boxi 0 (p := r.M) rfl).cell 0 (by simp [RD.box])) (fun hSn => ?_)
    clear hK K hSw0
    have hSw0 := hSn
    clear hSn
    refine tD ?_ _
    clear hSw0
    go_wp2
    go_ret
    refine ⟨rfl, Rsk.wroteMk (v := .slice A8 (d.held.length + 1) c8) (lv := lv) (sl := sl) (hs := hs) (s := (some ⟨g7, 0, none⟩, 64, 64)) (kk := kk) (ls := ls) H.out HO.out HL.out HHL.out ?_⟩
    refine (HDz.out.fuse (f1 := fun V => Bys V (some ⟨g7, 0, none⟩) 64 64 b) (f2 := fun V => Bls V hs (d.held.map (·.2))) (f := fun V => Bls V (hs ++ [(some ⟨g7, 0, none⟩, 64, 64)]) (d.held.map (·.2) ++ [b])) (by simp) (by simp) (fun V h1 h2 => h2.snoc h1)).subF ?_
    intro f1 hf1
    rcases List.mem_cons.1 hf1 with rfl | hf1
    ·exact mc _ (mc _ List.mem_cons_self)
    rcases List.mem_cons.1 hf1 with rfl | hf1
    ·exact List.mem_cons_self
    exact mc _ (mc _ (mc _ (mc _ hf1)))
   refine AllReadyH.cons (o := ⟨some 35, _, _, _, _, _⟩) rfl (fun K hK => ?_) ?_
   ·go_simp
    have HDb := hH (HDa.out.alloc (.cells #[.int .i64 (k : Int), .slice (some ⟨g7, 0, none⟩) 64 64] 175))
    have hnw := news_new va #[.int .i64 (k : Int), .slice (some ⟨g7, 0, none⟩) 64 64] 175 (by simp [maxLen])
    have HNW := hH hnw
    clear hnw
    generalize hvz : va.heap.size = vz at *
    generalize hvb : va.alloc (.cells #[.int .i64 (k : Int), .slice (some ⟨g7, 0, none⟩) 64 64] 175) = vb at *
    clear hvb hvz
    refine hK.out _ _ (by simpa [RD.box] using (HDb.out.boxi 0 (p := r.M) rfl).cell 0 (by simp [RD.box])) (fun hSn => ?_)
    clear hK K hSw0
    have hSw0 := hSn
    clear hSn
    refine tR 4 28 fun K hK => ?_
    have yq := (HDb.out.boxi 0 (p := r.M) rfl).cell 1 (by simp [RD.box])
    simp only [RD.box, g0, gs] at yq
    go_simp
    clear yq
    refine hK.out _ _ (by simpa [RD.box] using (HDb.out.boxi 0 (p := r.M) rfl).cell 0 (by simp [RD.box])) (fun hSn => ?_)
    clear hK K hSw0
    have hSw0 := hSn
    clear hSn
    refine tR 12 36 fun K hK => ?_
    have hbw := HDb.out.only.size
    refine step_append_own rfl (.tmp 28) (.tmp 35) 106 rfl w0.heap.size 175 i1 _ 2 32 Tryz.underlying106 hi1 hy0 hy1 hy2 rfl (by decide) v d.held.length (heldR d.held hs) rfl (HDb.out.gi 0 rfl) ⟨vz, 0, none⟩ 1 1 [.int .i64 (k : Int), .slice (some ⟨g7, 0, none⟩) 64 64] rfl rfl HNW.out (by intro u hu; simp at hu; rcases hu with rfl | rfl <;> rfl) (by unfold maxLen; omega) (by omega) hbw ?_
    intro v5 vd hown hgrow hat
    have hdd := HDb.out.gapp 0 rfl hown hgrow hat
    obtain ⟨A8, c8, rfl⟩ := hdd.gform 0 rfl
    simp only [List.set_cons_zero, List.set_cons_succ] at hdd
    have HDd := hH hdd
    clear hdd hown hgrow hat hbw
    refine hK.out _ _ (by simpa [RD.box] using (HDd.out.boxi 0 (p := r.M) rfl).cell 0 (by simp [RD.box])) (fun hSn => ?_)
    clear hK K hSw0
    have hSw0 := hSn
    clear hSn
    refine tS 13 37 ?_
    refine tS 14 38 ?_
    refine Kn.takeR 15 ⟨none, _, _, _, _, _⟩ fun K hK => ?_
    have hxb := HDd.out.boxi 0 (p := r.M) rfl
    have yq := hxb.cell 1 (by simp [RD.box])
    simp only [RD.box, g0, gs] at yq
    have fq := hxb.frozen 1
    go_simp
    clear yq fq hxb
    have hdz := HDd.out.put 0 (p := r.M) rfl 1 (.slice A8 (d.held.length + 1) c8)
    have HDz := hH hdz
    clear hdz
    refine hK.out _ _ (by simpa [RD.box] using (HDz.out.boxi 0 (p := r.M) rfl).cell 0 (by simp [RD.box])) (fun hSn => ?_)
    clear hK K hSw0
    have hSw0 := hSn
    clear hSn
    refine tD ?_ _
    clear hSw0
    go_wp2
    go_ret
    refine ⟨rfl, Rsk.wroteMk (v := .slice A8 (d.held.length + 1) c8) (lv := lv) (sl := sl) (hs := hs) (s := (some ⟨g7, 0, none⟩, 64, 64)) (kk := kk) (ls := ls) H.out HO.out HL.out HHL.out ?_⟩
    refine (HDz.out.fuse (f1 := fun V => Bys V (some ⟨g7, 0, none⟩) 64 64 b) (f2 := fun V => Bls V hs (d.held.map (·.2))) (f := fun V => Bls V (hs ++ [(some ⟨g7, 0, none⟩, 64, 64)]) (d.held.map (·.2) ++ [b])) (by simp) (by simp) (fun V h1 h2 => h2.snoc h1)).subF ?_
    intro f1 hf1
    rcases List.mem_cons.1 hf1 with rfl | hf1
    ·exact mc _ (mc _ List.mem_cons_self)
    rcases List.mem_cons.1 hf1 with rfl | hf1
    ·exact List.mem_cons_self
    exact mc _ (mc _ (mc _ (mc _ hf1)))
   exact AllReadyH.nil
  exact AllReadyH.nil
 have e : d.write a b = (d, 1) := by
  unfold Dk.write
  rw [if_neg]
  simp only [Bool.and_eq_true, decide_eq_true_eq]
  exact hok
 rw [e]
 have H := hH h
 by_cases ho1 : d.has a = true
 ·have hn2 : ((n : Int) != 64) = true := by
   have : ¬ n = 64 := fun h => hok ⟨ho1, by omega⟩
   simp; omega
  have HO := hH ho1
  clear h hbl hok ho1 e
  go_enter Tryz.func94, Tryz.ntmps94
  go_wp2_with fail
  refine (within_any a 0 ((r.N : Int) - 1) _).mono ?_
  rintro e w1 ⟨rfl, rfl⟩
  rw [HHA.out, HO.out]
  go_wp2
  go_ret
  exact ⟨rfl, H.out⟩
 rw [Bool.not_eq_true] at ho1
 have HO := hH ho1
 clear h hbl hok ho1 e
 go_enter Tryz.func94, Tryz.ntmps94
 go_wp2_with fail
 refine (within_any a 0 ((r.N : Int) - 1) _).mono ?_
 rintro e w1 ⟨rfl, rfl⟩
 rw [HHA.out, HO.out]
 go_wp2
 go_ret
 exact ⟨rfl, H.out⟩
end Go.Proofs.YtgcfdjcpcclcjaaGreat
namespace Go.Kn
open Go Go.RowKit
theorem has_iff {d : Dk} {N : Nat} (hN : d.safe.length = N) (a : Int) : decide (0 ≤ a ∧ a ≤ (N : Int) - 1) = d.has a := by
 unfold Dk.has
 rw [hN]
 by_cases h1 : 0 ≤ a ∧ a ≤ (N : Int) - 1
 ·rw [decide_eq_true h1, decide_eq_true (by omega)]
 rw [decide_eq_false h1, decide_eq_false (by omega)]
theorem Dk.err_off {d : Dk} {a : Int} (h : d.has a = true) (ho : d.off = true) : d.err a = 3 ∧ d.read a = [] := by
 have e : d.err a = 3 := by unfold Dk.err; rw [if_pos h, if_pos ho]
 exact ⟨e, by unfold Dk.read; rw [e]; rfl⟩
theorem Dk.err_bad {d : Dk} {a : Int} (h : d.has a = true) (ho : d.off = false) (hb : d.bad a = true) : d.err a = 4 ∧ d.read a = [] := by
 have e : d.err a = 4 := by unfold Dk.err; rw [if_pos h, if_neg (by simp [ho]), if_pos hb]
 exact ⟨e, by unfold Dk.read; rw [e]; rfl⟩
theorem Dk.err_ok {d : Dk} {a : Int} (h : d.has a = true) (ho : d.off = false) (hb : d.bad a = false) : d.err a = 0 ∧ d.read a = d.sector a := by
 have e : d.err a = 0 := by unfold Dk.err; rw [if_pos h, if_neg (by simp [ho]), if_neg (by simp [hb])]
 exact ⟨e, by unfold Dk.read; rw [if_pos e]⟩
theorem Dk.err_no {d : Dk} {a : Int} (h : d.has a = false) : d.err a = 1 ∧ d.read a = [] := by
 have e : d.err a = 1 := by unfold Dk.err; rw [h]; rfl
 exact ⟨e, by unfold Dk.read; rw [e]; rfl⟩
theorem over_at (s : List (List UInt8)) (h : List (Nat × List UInt8)) (j k : Nat) (hj : j < h.length) (hk : k < s.length) :
  (Dk.over s (h.take (j + 1))).getD k [] = if h[j].1 = k then h[j].2 else (Dk.over s (h.take j)).getD k [] := by
 rw [Dk.over_take _ _ _ hj, List.getD_eq_getElem?_getD, List.getElem?_set]
 have hl : k < (Dk.over s (h.take j)).length := by rw [Dk.over_length]; exact hk
 split
 ·rename_i e
  subst e
  rw [if_pos hl, Option.getD_some]
 rw [← List.getD_eq_getElem?_getD]
end Go.Kn
namespace Go.Proofs.YtgcfdjcpcclcjaaGreat
open Go Go.RowKit Go.Kn
theorem Rsk.flushMk {w0 w w' : World} {r : RD} {d : Dk} {c : Fr3} {v lv : Value} {kk : Nat} {ls : List Value} {sl hs : List (Option Addr × Nat × Nat)} (h : Rsk w0 w r d c)
  (hm : Wc w0 w' ((r.M, r.box v lv d.act) :: (r.s, sl.map slv) :: (r.f, bls d.faults) :: c.L) (⟨175, 2, v, d.held.length, heldR d.held hs⟩ :: ⟨47, 1, lv, kk, ls⟩ :: c.G) ((fun W => Bls W sl d.now) :: (fun W => Bls W hs (d.held.map (·.2))) :: c.F)) :
  Rsk w0 (w'.setCell ⟨r.M, 1, none⟩ (.slice none 0 0)) r d.flushed c := by
 have h1 := (hm.greset).put 0 (p := r.M) (cs := r.box v lv d.act) rfl 1 (.slice none 0 0)
 refine ⟨h.ok.flushed, by show d.now.length = _; rw [Dk.now_length]; exact h.N, h.hs, h.hf, .slice none 0 0, lv, kk, ls, sl, [], rfl, ?_⟩
 refine (h1.addF (fun W => Bls W [] []) (fun W _ => Bls.nil W)).subF ?_
 intro f hf
 rcases List.mem_cons.1 hf with rfl | hf
 ·exact mc _ List.mem_cons_self
 rcases List.mem_cons.1 hf with rfl | hf
 ·exact List.mem_cons_self
 exact mc _ (mc _ (mc _ hf))
theorem Bls.set {w : World} {sl : List (Option Addr × Nat × Nat)} {bl : List (List UInt8)} (h : Bls w sl bl) (k : Nat) {s : Option Addr × Nat × Nat} {b : List UInt8} (hb : Bys w s.1 s.2.1 s.2.2 b) : Bls w (sl.set k s) (bl.set k b) := by
 refine ⟨by rw [List.length_set, List.length_set]; exact h.1, fun i h1 h2 => ?_⟩
 rw [List.length_set] at h1 h2
 by_cases e : k = i
 ·subst e
  rw [List.getElem_set_self, List.getElem_set_self]
  exact hb
 rw [List.getElem_set_ne e, List.getElem_set_ne e]
 exact h.2 i h1 h2
theorem rk_flush_any (w0 w : World) (r : RD) (d : Dk) (c : Fr3) (h : Rsk w0 w r d c) (hh : d.held.length ≤ 1000000) :
  Calls Tryz.prog 96 #[.pointer (some ⟨r.M, 0, none⟩)] w fun e w' => e = .returned (.int .i64 d.flush.2) ∧ Rsk w0 w' r d.flush.1 c := by
 have H := hH h
 by_cases hg : d.gone = true
 ·have e : d.flush = (d.act, 3) := by unfold Dk.flush; rw [if_pos hg]
  rw [e]
  have HG := hH hg
  clear h hg e
  go_enter Tryz.func96, Tryz.ntmps96
  go_wp2_with fail
  refine (rk_act_any w0 w r d c H.out).mono ?_
  rintro e w1 ⟨rfl, h1⟩
  rw [HG.out]
  have H1 := hH h1
  clear h1
  go_wp2
  go_ret
  exact ⟨rfl, H1.out⟩
 have e : d.flush = (d.flushed, 0) := by unfold Dk.flush; rw [if_neg hg]
 rw [e]
 rw [Bool.not_eq_true] at hg
 have hN := h.N
 have hn := h.ok.n
 have HN := hH hN
 have hN1 : 1 ≤ r.N ∧ r.N ≤ 4096 := by omega
 obtain ⟨hN1, hN2⟩ := hN1
 have HG := hH hg
 clear h hg e hN hn
 go_enter Tryz.func96, Tryz.ntmps96
 go_wp2_with fail
 refine (rk_act_any w0 w r d c H.out).mono ?_
 rintro e w1 ⟨rfl, h1⟩
 rw [HG.out]
 obtain ⟨v, lv, kk, ls, sl0, hs, hl, hm⟩ := h1.mem
 have hdl : d.act.held = d.held := rfl
 rw [hdl] at hl hm
 obtain ⟨A, cc, rfl⟩ := hm.gform 0 rfl
 have HM := hH hm
 have HHL := hH hl
 obtain ⟨n, hn⟩ : ∃ n, d.held.length = n := ⟨_, rfl⟩
 rw [hn] at hh HM
 have HL := hH hn
 clear hm h1 hdl hl hn
 go_wp2_with fail
 go_loopg [3] n (fun q i wr => ∃ (j : Nat) (sl : List (Option Addr × Nat × Nat)), j + q = n ∧ i = .int .i64 j ∧ Wc w0 wr ((r.M, r.box (.slice A n cc) lv d.act) :: (r.s, sl.map slv) :: (r.f, bls d.faults) :: c.L) (⟨175, 2, .slice A n cc, n, heldR d.held hs⟩ :: ⟨47, 1, lv, kk, ls⟩ :: c.G) ((fun W => Bls W sl (Dk.over d.safe (d.held.take j))) :: (fun W => Bls W hs (d.held.map (·.2))) :: c.F))
 case atStart => exact ⟨0, sl0, by omega, rfl, HM.out⟩
 obtain ⟨j, sl, hj, rfl, hw⟩ := hrel
 have HW := hH hw
 clear hw HM
 have hbx := HW.out.boxi 0 (p := r.M) rfl
 have c1 := hbx.cell 1 (by simp [RD.box])
 simp only [RD.box, g0, gs] at c1
 clear hbx
 by_cases hlt : j < n
 ·have hjl : j < d.held.length := by rw [HL.out]; exact hlt
  have hok := H.out.ok.h d.held[j] (List.getElem_mem _)
  obtain ⟨A', c', hv, _, _, hcl, _⟩ := (HW.out.gath (x := ⟨175, 2, .slice A n cc, n, heldR d.held hs⟩) List.mem_cons_self).form (by show 0 < 2; omega)
  injection hv with e1 e2 e3
  subst e1 e3
  obtain ⟨g, rfl, _, _, hcells⟩ := hcl (by show 0 < n; omega)
  obtain ⟨g0, g1⟩ := heldR_get d.held hs HHL.out.symm j hjl
  have y0 := hcells _ _ g0
  have y1 := hcells _ _ g1
  have hjh : j < hs.length := by rw [HHL.out]; exact hjl
  have hbb := (HW.out.fi 1 rfl).2 j hjh (by simpa using hjl)
  rw [List.getElem_map] at hbb
  have hov := Dk.over_take d.safe d.held j hjl
  have hsll := (HW.out.fi 0 rfl).1
  rw [Dk.over_length, HN.out] at hsll
  have hbf : ∀ W, Bls W hs (d.held.map (·.2)) → Bys W hs[j].1 hs[j].2.1 hs[j].2.2 d.held[j].2 := fun W hW => by
   have := hW.2 j hjh (by simpa using hjl)
   rwa [List.getElem_map] at this
  have HBF := hH hbf
  have HOV := hH hov
  have HSL := hH hsll
  obtain ⟨⟨A1, n1, k1⟩, hs1⟩ : ∃ s, hs[j] = s := ⟨_, rfl⟩
  rw [hs1] at y1 HBF
  simp only [slv] at y1
  rw [Nat.mul_comm 2 j] at y0 y1
  obtain ⟨x, hx⟩ : ∃ x, d.held[j].1 = x := ⟨_, rfl⟩
  obtain ⟨b, hb⟩ : ∃ b, d.held[j].2 = b := ⟨_, rfl⟩
  rw [hx] at y0 hok HOV
  rw [hb] at HBF HOV
  have hxN := hok.1
  clear hok
  have hxp : x < r.N := by rw [← HN.out]; exact hxN
  have hx1 : (x : Int) < (r.N : Int) := by omega
  have hlt2 : (j : Int) < (n : Int) := by omega
  have HD7 := hH HW.out.drew
  have HY : Hid (wr.cell? ⟨g, j * 2, none⟩ = some (.int .i64 (x : Int)) ∧ wr.cell? ⟨g, j * 2 + 1, none⟩ = some (.slice A1 n1 k1)) := hH ⟨y0, y1⟩
  have hsg : g ≠ r.s := fun e => HW.out.g3 (r.s, sl.map slv) (by simp) _ List.mem_cons_self (by rw [← e]; rfl)
  clear hx hb hcells hcl g0 g1 hbb hov hsll hbf hs1 hjl hjh hxN y0 y1 HW
  go_wp2_with fail
  refine wp_region_held_drew (S := fun w' => w'.cell? ⟨r.M, 0, none⟩ = some (.slice (some ⟨r.s, 0, none⟩) r.N r.cs) ∧ w'.cell? ⟨r.M, 1, none⟩ = some (.slice (some ⟨g, 0, none⟩) n cc) ∧ w'.cell? ⟨g, j * 2, none⟩ = some (.int .i64 (x : Int)) ∧ w'.cell? ⟨g, j * 2 + 1, none⟩ = some (.slice A1 n1 k1)) (by kernel_rfl) ⟨by simpa [RD.box] using (HD7.out.boxi 0 (p := r.M) rfl).cell 0 (by simp [RD.box]), by simpa [RD.box] using (HD7.out.boxi 0 (p := r.M) rfl).cell 1 (by simp [RD.box]), HY.out.1, HY.out.2⟩ (fun hSw0 => ?_)
  generalize wr.drew = ws at *
  refine tS 0 16 ?_
  refine tS 1 17 ?_
  refine tS 2 18 ?_
  refine tS 3 19 ?_
  refine tS 4 20 ?_
  refine tS 5 21 ?_
  refine tS 6 22 ?_
  refine tS 7 23 ?_
  refine tS 8 24 ?_
  refine tS 9 25 ?_
  refine tS 10 26 ?_
  refine tS 11 27 ?_
  refine tS 12 28 ?_
  refine tS 13 29 ?_
  refine tS 14 30 ?_
  refine tS 15 31 ?_
  refine tS 16 32 ?_
  refine tS 17 33 ?_
  refine tS 18 34 ?_
  refine tS 19 35 ?_
  refine tS 20 36 ?_
  refine Kn.takeR 21 ⟨none, _, _, _, _, _⟩ fun K hK => ?_
  have hxb := HD7.out.boxi 1 rfl
  have hsx : x < (sl.map slv).length := by rw [List.length_map, HSL.out]; exact hxp
  have yq := hxb.cell x hsx
  have fq := hxb.frozen x
  generalize (sl.map slv)[x] = old at yq
  have hdz := HD7.out.put 1 rfl x (.slice A1 n1 k1)
  have hmp : (sl.map slv).set x (.slice A1 n1 k1) = (sl.set x (A1, n1, k1)).map slv := by rw [List.map_set]; rfl
  rw [hmp] at hdz
  simp only [List.set_cons_zero, List.set_cons_succ] at hdz
  have HDz := hH hdz
  obtain ⟨s0, s1, s2, s3⟩ := hSw0
  clear hxb hsx hdz hmp
  go_simp
  clear yq fq
  refine hK.out _ _ ⟨by simpa [RD.box] using (HDz.out.boxi 0 (p := r.M) rfl).cell 0 (by simp [RD.box]), by simpa [RD.box] using (HDz.out.boxi 0 (p := r.M) rfl).cell 1 (by simp [RD.box]), cell_set_ne (by simp) s2 _, cell_set_ne (by simp) s3 _⟩ (fun hSn => ?_)
  clear hK K s0 s1 s2 s3 hSn
  refine tD ?_ _
  have HE := hH ((HDz.out.fuse (f1 := fun W => Bls W sl (Dk.over d.safe (d.held.take j))) (f2 := fun W => Bls W hs (d.held.map (·.2))) (f := fun W => Bls W (sl.set x (A1, n1, k1)) (Dk.over d.safe (d.held.take (j + 1)))) (by simp) (by simp) (fun V h1 h2 => by rw [HOV.out]; exact Bls.set h1 x (HBF.out V h2))).subF (F' := (fun W => Bls W (sl.set x (A1, n1, k1)) (Dk.over d.safe (d.held.take (j + 1)))) :: (fun W => Bls W hs (d.held.map (·.2))) :: c.F) (by
   intro f hf
   rcases List.mem_cons.1 hf with rfl | hf
   ·exact List.mem_cons_self
   exact mc _ (mc _ hf)))
  clear HDz HD7
  go_wp2_with fail
  go_roundg (gk - 1)
  case measure => omega
  case rel => exact ⟨j + 1, _, by omega, by go_num, HE.out⟩
 obtain rfl : j = n := by omega
 have hw := HW.out
 rw [List.take_of_length_le (by rw [HL.out]; omega)] at hw
 have HE := hH (H.out.flushMk (v := .slice A j cc) (lv := lv) (kk := kk) (ls := ls) (sl := sl) (hs := hs) (by rw [HL.out]; exact hw))
 have f1 := (hw.boxi 0 (p := r.M) rfl).frozen 1
 clear hw
 go_wp2
 go_ret
 exact ⟨rfl, HE.out⟩
theorem Rsk.faulted {w0 w : World} {r : RD} {d : Dk} {c : Fr3} (h : Rsk w0 w r d c) {k : Nat} (on : Bool) (hk : d.has k = true) : Rsk w0 (w.setCell ⟨r.f, k, none⟩ (.bool on)) r (d.fault k on).1 c := by
 obtain ⟨v, lv, kk, ls, sl, hs, hl, hm⟩ := h.mem
 have h1 := hm.put 2 (p := r.f) (cs := bls d.faults) rfl k (.bool on)
 have e : (d.fault k on).1 = { d with faults := d.faults.set k on } := by unfold Dk.fault; rw [if_pos hk]; rfl
 refine ⟨h.ok.fault _ _, by rw [e]; exact h.N, h.hs, h.hf, v, lv, kk, ls, sl, hs, by rw [e]; exact hl, ?_⟩
 rw [e]
 have e2 : (bls d.faults).set k (.bool on) = bls (d.faults.set k on) := by simp [bls, List.map_set]
 rw [e2] at h1
 exact h1
theorem rk_fault_any (w0 w : World) (r : RD) (d : Dk) (c : Fr3) (a : Int) (on : Bool) (h : Rsk w0 w r d c) :
  Calls Tryz.prog 35 #[.pointer (some ⟨r.M, 0, none⟩), .int .i64 a, .bool on] w fun e w' => e = .returned (.int .i64 (d.fault a on).2) ∧ Rsk w0 w' r (d.fault a on).1 c := by
 obtain ⟨v, lv, kk, ls, sl, hs, hl, hm⟩ := h.mem
 have hbx := hm.boxi 0 (p := r.M) (cs := r.box v lv d) rfl
 have c0 := hbx.cell 0 (by simp [RD.box])
 have c2 := hbx.cell 2 (by simp [RD.box])
 simp only [RD.box, g0, gs] at c0 c2
 have hfb := hm.boxi 2 (p := r.f) (cs := bls d.faults) rfl
 have H := hH h
 have hN := h.N
 have hF := h.ok.f
 have hn := h.ok.n
 have hN1 : 1 ≤ r.N ∧ r.N ≤ 4096 := by omega
 obtain ⟨hN1, hN2⟩ := hN1
 have HHA := hH (has_iff hN a)
 by_cases ho : d.has a = true
 ·have hr : 0 ≤ a ∧ a < (r.N : Int) := by unfold Dk.has at ho; simp only [decide_eq_true_eq] at ho; omega
  obtain ⟨k, rfl⟩ : ∃ k : Nat, a = k := ⟨a.toNat, by omega⟩
  have hkN : k < r.N := by omega
  have HO := hH ho
  have hbl : k < (bls d.faults).length := by rw [bls_length]; omega
  have q0 := hfb.cell k hbl
  have f0 := hfb.frozen k
  have HF := hH (h.faulted on ho)
  have e : (d.fault k on).2 = 0 := by unfold Dk.fault; rw [if_pos ho]
  rw [e]
  generalize (bls d.faults)[k] = old at q0
  clear hm hbx hfb h hN hF hn ho e hl
  go_enter Tryz.func35, Tryz.ntmps35
  go_wp2_with fail
  refine (within_any (k : Int) 0 ((r.N : Int) - 1) _).mono ?_
  rintro e w1 ⟨rfl, rfl⟩
  rw [HHA.out, HO.out]
  go_wp2
  go_ret
  exact ⟨rfl, HF.out⟩
 have e : d.fault a on = (d, 1) := by unfold Dk.fault; rw [if_neg ho]
 rw [e]
 rw [Bool.not_eq_true] at ho
 have HO := hH ho
 clear hm hbx hfb h hN hF hn ho e hl
 go_enter Tryz.func35, Tryz.ntmps35
 go_wp2_with fail
 refine (within_any a 0 ((r.N : Int) - 1) _).mono ?_
 rintro e w1 ⟨rfl, rfl⟩
 rw [HHA.out, HO.out]
 go_wp2
 go_ret
 exact ⟨rfl, H.out⟩
end Go.Proofs.YtgcfdjcpcclcjaaGreat
namespace Go.Kn
open Go Go.RowKit
def Dk.wrs (d : Dk) (a : Int) (b : List UInt8) : Nat → Dk
 | 0 => d
 | i + 1 => ((Dk.wrs d a b i).write (a + (i : Nat)) ((b.drop (64 * i)).take 64)).1
def Dk.puts (d : Dk) (a : Int) (b : List UInt8) : Dk := ((d.wrs a b (b.length / 64)).flush).1
theorem Dk.write_held (d : Dk) (a : Int) (b : List UInt8) : (d.write a b).1.held.length ≤ d.held.length + 1 := by
 unfold Dk.write
 split
 ·split
  ·show d.held.length ≤ _
   omega
  show (d.held ++ [(a.toNat, b)]).length ≤ _
  rw [List.length_append]
  exact Nat.le_refl _
 show d.held.length ≤ _
 omega
theorem Dk.wrs_held (d : Dk) (a : Int) (b : List UInt8) : ∀ i, (d.wrs a b i).held.length ≤ d.held.length + i
 | 0 => Nat.le_refl _
 | i + 1 => by
  have h1 := Dk.wrs_held d a b i
  have h2 := Dk.write_held (d.wrs a b i) (a + (i : Nat)) ((b.drop (64 * i)).take 64)
  show ((Dk.wrs d a b i).write _ _).1.held.length ≤ _
  omega
end Go.Kn
namespace Go.Proofs.YtgcfdjcpcclcjaaGreat
open Go Go.RowKit Go.Kn
theorem Duo.ofRsk {w0 w : World} {p : PD} {r : RD} {d e : Dk} {c : Fr3} {v : Value} (h1 : d.Ok) (h2 : d.safe.length = p.N) (h3 : p.N ≤ p.cs) (h4 : p.N ≤ p.cn) (h5 : p.N ≤ p.cf)
  (h : Rsk w0 w r e ⟨p.L v d c.L, ⟨158, 65, v, d.held.length, heldV d.held⟩ :: c.G, c.F⟩) : Duo w0 w p r d e c := by
 obtain ⟨v', lv, k, ls, sl, hs, hl, hm⟩ := h.mem
 have pl : (p.L v d (r.L v' lv sl e c.L)).Perm (r.L v' lv sl e (p.L v d c.L)) := by
  have := (List.perm_append_comm (l₁ := p.L v d []) (l₂ := r.L v' lv sl e [])).append_right c.L
  simpa [PD.L, RD.L] using this
 have pg : ∀ a b x : Gs, (a :: b :: x :: c.G).Perm (b :: x :: a :: c.G) := fun a b x => (List.Perm.swap _ _ _).trans ((List.Perm.swap _ _ _).cons _)
 exact ⟨h1, h2, h3, h4, h5, h.ok, h.N, h.hs, h.hf, v, v', lv, k, ls, sl, hs, hl, hm.perm pl.symm (pg _ _ _).symm⟩
theorem Duo.imp {w0 w : World} {p : PD} {r : RD} {d e : Dk} {c : Fr3} (h : Duo w0 w p r d e c) {f1 f : World → Prop} (h1 : f1 ∈ c.F) (hf : ∀ W, f1 W → f W) : Duo w0 w p r d e ⟨c.L, c.G, f :: c.F⟩ := by
 obtain ⟨v, v', lv, k, ls, sl, hs, hl, hm⟩ := h.mem
 refine ⟨h.ok, h.N, h.hs, h.hn, h.hf, h.ok', h.N', h.hs', h.hf', v, v', lv, k, ls, sl, hs, hl, ?_⟩
 refine (hm.fuse (f := f) (mc _ (mc _ h1)) (mc _ (mc _ h1)) (fun W h2 _ => hf W h2)).subF ?_
 intro g hg
 simp only [List.mem_cons] at hg ⊢
 rcases hg with hg | hg | hg | hg
 ·exact .inr (.inl hg)
 ·exact .inr (.inr (.inl hg))
 ·exact .inl hg
 exact .inr (.inr (.inr hg))
theorem Duo.subF {w0 w : World} {p : PD} {r : RD} {d e : Dk} {c : Fr3} (h : Duo w0 w p r d e c) {F' : List (World → Prop)} (hF : ∀ f ∈ F', f ∈ c.F) : Duo w0 w p r d e ⟨c.L, c.G, F'⟩ := by
 obtain ⟨v, v', lv, k, ls, sl, hs, hl, hm⟩ := h.mem
 refine ⟨h.ok, h.N, h.hs, h.hn, h.hf, h.ok', h.N', h.hs', h.hf', v, v', lv, k, ls, sl, hs, hl, hm.subF ?_⟩
 intro g hg
 simp only [List.mem_cons] at hg ⊢
 rcases hg with hg | hg | hg
 ·exact .inl hg
 ·exact .inr (.inl hg)
 exact .inr (.inr (hF _ hg))
theorem Duo.fact {w0 w : World} {p : PD} {r : RD} {d e : Dk} {c : Fr3} (h : Duo w0 w p r d e c) {f : World → Prop} (hf : f ∈ c.F) : f w := by
 obtain ⟨v, v', lv, k, ls, sl, hs, hl, hm⟩ := h.mem
 exact hm.fact _ (mc _ (mc _ hf))
def TwoSays (w0 : World) (n : Nat) (c : Fr3) (e : Ending) (w' : World) : Prop := ∃ p r, e = .returned (.tuple #[.pointer (some ⟨p.D, 0, none⟩), .pointer (some ⟨r.M, 0, none⟩), .bool true]) ∧ p.N = n ∧ r.N = n ∧ Duo w0 w' p r (Dk.new n) (Dk.new n) c
theorem kit_two_any (w0 w : World) (n : Nat) (c : Fr3) (h : Wc w0 w c.L c.G c.F) (h1 : 1 ≤ n) (h2 : n ≤ 4096) : Calls Tryz.prog 76 #[.int .i64 (n : Int)] w (TwoSays w0 n c) := by
 have H := hH h
 clear h
 go_enter Tryz.func76, Tryz.ntmps76
 go_wp2_with fail
 refine (dk_new_any n w h1 h2).mono ?_
 rintro e w1 ⟨p, rfl, hpN, hO1, hd⟩
 have hdsk := hd w0 c H.out
 obtain ⟨v, hm⟩ := hdsk.mem
 have HK := hH hdsk
 have HM := hH hm
 have HPN := hH hpN
 clear hd hdsk hm hO1 H hpN
 go_wp2_with fail
 refine (rk_new_any w0 _ n ⟨p.L v (Dk.new n) c.L, _, c.F⟩ HM.out h1 h2).mono ?_
 rintro e w2 ⟨r, rfl, hrN, hr⟩
 have HR := hH (Duo.ofRsk HK.out.ok HK.out.N HK.out.hs HK.out.hn HK.out.hf hr)
 have HRN := hH hrN
 clear hr HM hrN
 go_wp2
 refine bodyPost_ret (v := .tuple #[.pointer (some ⟨p.D, 0, none⟩), .pointer (some ⟨r.M, 0, none⟩), .bool true]) (by kernel_rfl) rfl ?_
 exact ⟨p, r, rfl, HPN.out, HRN.out, HR.out⟩
theorem Bys.chunk {w : World} {A : Option Addr} {n c i : Nat} {b : List UInt8} (h : Bys w A n c b) (hi : 64 * i + 64 ≤ n) : Bys w (cutA A c (64 * i)) 64 (c - 64 * i) ((b.drop (64 * i)).take 64) := by
 have := Row1.cut (l := 64 * i) (m := 64) h hi
 rwa [bvs_cut] at this
theorem kit_put_any (w0 w : World) (p : PD) (r : RD) (d : Dk) (c : Fr3) (a : Int) (A : Option Addr) (n cc : Nat) (b : List UInt8) (h : Duo w0 w p r d d c) (hb : (fun W => Bys W A n cc b) ∈ c.F) (hh : d.held.length ≤ 1000) (hn : n ≤ 65536) (ha : 0 ≤ a ∧ a ≤ 1000000) :
  Calls Tryz.prog 27 #[.pointer (some ⟨p.D, 0, none⟩), .pointer (some ⟨r.M, 0, none⟩), .int .i64 a, .slice A n cc] w fun e w' => e = .returned (.bool true) ∧ Duo w0 w' p r (d.puts a b) (d.puts a b) c := by
 have hby := h.fact hb
 have hbl := hby.len
 have hle := hby.le
 have hcm := hby.cm
 rw [bvs_length] at hbl
 unfold maxLen at hcm
 have H := hH h
 have HB := hH hb
 have HL := hH hbl
 obtain ⟨ha0, ha1⟩ := ha
 clear h hb hby hbl
 go_enter Tryz.func27, Tryz.ntmps27
 go_wp2_with fail
 go_loopg [9] (n / 64) (fun q i wr => ∃ j : Nat, j + q = n / 64 ∧ i = .int .i64 j ∧ Duo w0 wr p r (d.wrs a b j) (d.wrs a b j) c)
 case atStart => exact ⟨0, by omega, rfl, H.out⟩
 obtain ⟨j, hj, rfl, hd⟩ := hrel
 have HD := hH hd
 clear hd
 have hdiv : ((n : Int)).tdiv 64 = ((n / 64 : Nat) : Int) := by rw [Int.tdiv_eq_ediv_of_nonneg (by omega)]; omega
 have hhj := Dk.wrs_held d a b j
 by_cases hlt : j < n / 64
 ·have hjn : 64 * j + 64 ≤ n := by omega
  have hlt2 : (j : Int) < ((n / 64 : Nat) : Int) := by omega
  have hd2 := HD.out.imp HB.out (f := fun W => Bys W (cutA A cc (64 * j)) 64 (cc - 64 * j) ((b.drop (64 * j)).take 64)) (fun W hW => Bys.chunk hW hjn)
  have HD2 := hH hd2
  have hsl : ∀ w, (Instr.slice 47 (.slice A n cc) (some (.int .i64 ((j : Int) * 64))) (some (.int .i64 (((j : Int) + 1) * 64))) none).run Tryz.prog w = .ok (.slice (cutA A cc (64 * j)) 64 (cc - 64 * j)) w := fun w =>
   run_slice1 (P := Tryz.prog) w 47 5 Tryz.underlying47 (by kernel_rfl) A n cc _ _ (64 * j) (64 * j + 64) 64 .i64 .i64 (by omega) (by omega) (by omega) (by omega) (by omega)
  have hw1 := IntWalk.i64_in (a + (j : Int)) (by omega)
  clear hd2 HD
  go_wp2_with fail
  obtain ⟨c1, hF1, hP, back1⟩ := HD2.out.ofP
  refine (dk_write_any w0 _ p _ c1 (a + (j : Int)) (cutA A cc (64 * j)) 64 (cc - 64 * j) ((b.drop (64 * j)).take 64) hP (hF1 _ List.mem_cons_self) (by omega)).mono ?_
  rintro e w1 ⟨rfl, hd1⟩
  have HD3 := hH (back1 _ _ hd1)
  clear hF1 hP back1 hd1 HD2
  go_wp2_with fail
  obtain ⟨c2, hF2, hR, back2⟩ := HD3.out.ofR
  refine (rk_write_any w0 _ r _ c2 (a + (j : Int)) (cutA A cc (64 * j)) 64 (cc - 64 * j) ((b.drop (64 * j)).take 64) hR (hF2 _ List.mem_cons_self) (by omega)).mono ?_
  rintro e w2 ⟨rfl, hd1⟩
  have HD4 := hH ((back2 _ _ hd1).subF (F' := c.F) (fun f hf => mc _ hf))
  clear hF2 hR back2 hd1 HD3
  have hws : ((d.wrs a b j).write (a + (j : Int)) ((b.drop (64 * j)).take 64)).1 = d.wrs a b (j + 1) := rfl
  rw [hws] at HD4
  clear hws hsl
  generalize ((d.wrs a b j).write (a + (j : Int)) ((b.drop (64 * j)).take 64)).2 = z at *
  have hz : (z != z) = false := by simp
  go_wp2_with fail
  go_roundg (gk - 1)
  case measure => omega
  case rel => exact ⟨j + 1, by omega, by go_num, HD4.out⟩
 obtain rfl : j = n / 64 := by omega
 have hlt2 : ¬ ((n / 64 : Nat) : Int) < ((n / 64 : Nat) : Int) := by omega
 go_wp2_with fail
 obtain ⟨c1, hF1, hP, back1⟩ := HD.out.ofP
 refine (dk_flush_any w0 _ p _ c1 hP (by omega)).mono ?_
 rintro e w1 ⟨rfl, hd1⟩
 have HD3 := hH (back1 _ _ hd1)
 clear hF1 hP back1 hd1 HD
 go_wp2_with fail
 obtain ⟨c2, hF2, hR, back2⟩ := HD3.out.ofR
 refine (rk_flush_any w0 _ r _ c2 hR (by omega)).mono ?_
 rintro e w2 ⟨rfl, hd1⟩
 have HD4 := hH (back2 _ _ hd1)
 clear hF2 hR back2 hd1 HD3
 have hpe : d.puts a b = (d.wrs a b (n / 64)).flush.1 := by unfold Dk.puts; rw [HL.out]
 rw [← hpe] at HD4
 generalize (d.wrs a b (n / 64)).flush.2 = z at *
 have HPE := hH hpe
 clear hpe
 go_wp2
 go_ret
 exact ⟨by simp, HD4.out⟩
end Go.Proofs.YtgcfdjcpcclcjaaGreat
namespace Go.Kn
open Go Go.RowKit
/-- a device's numbers that may be -/
def CfOk (b s l : Int) : Prop := (1 ≤ b ∧ b ≤ 64) ∧ (8 ≤ s ∧ s ≤ 32) ∧ (24 ≤ l ∧ l ≤ 64)
/-- a Geom -/
structure GeoAt (w : World) (p : Nat) (b s l : Int) : Prop where
 c0 : w.cell? ⟨p, 0, none⟩ = some (.int .i64 b)
 c1 : w.cell? ⟨p, 1, none⟩ = some (.int .i64 s)
 c2 : w.cell? ⟨p, 2, none⟩ = some (.int .i64 l)
theorem GeoAt.keep0 {w w' : World} {p : Nat} {b s l : Int} (h : GeoAt w p b s l) (hO : Only [] w w') : GeoAt w' p b s l := ⟨hO.cell h.c0 (by simp), hO.cell h.c1 (by simp), hO.cell h.c2 (by simp)⟩
theorem GeoAt.lt {w : World} {p : Nat} {b s l : Int} (h : GeoAt w p b s l) : p < w.heap.size := lt_of_cell h.c0
def upI (n by_ : Int) : Int := (n + by_ - 1) / by_
def pgs (b : Int) : Int := (b + 14) / 15
def rln (s : Int) : Int := (43 + 5 * s + 63) / 64
theorem pgs_bounds {b s l : Int} (h : CfOk b s l) : 1 ≤ pgs b ∧ pgs b ≤ 5 := by unfold pgs; unfold CfOk at h; omega
theorem rln_bounds {b s l : Int} (h : CfOk b s l) : 2 ≤ rln s ∧ rln s ≤ 4 ∧ 43 + 5 * s ≤ 64 * rln s := by unfold rln; unfold CfOk at h; omega
end Go.Kn
namespace Go.Proofs.YtgcfdjcpcclcjaaGreat
open Go Go.RowKit Go.Kn
theorem geom_within_any (n lo hi : Int) (w : World) : Calls Tryz.prog 140 #[.int .i64 n, .int .i64 lo, .int .i64 hi] w fun e w' => e = .returned (.bool (decide (lo ≤ n ∧ n ≤ hi))) ∧ w = w' := by
  go_enter Tryz.func140, Tryz.ntmps140
  by_cases h1 : lo ≤ n <;> by_cases h2 : n ≤ hi <;>
  (go_wp2
   go_ret
   exact ⟨by simp [*], rfl⟩)
theorem geom_up_any (n b : Int) (w : World) (hn : 0 ≤ n ∧ n ≤ 100000) (hb : 0 < b ∧ b ≤ 1000) : Calls Tryz.prog 182 #[.int .i64 n, .int .i64 b] w fun e w' => e = .returned (.int .i64 (upI n b)) ∧ w = w' := by
 have e1 : (n + b - 1).tdiv b = upI n b := Int.tdiv_eq_ediv_of_nonneg (by omega)
 have hq : 0 ≤ upI n b ∧ upI n b ≤ 1000000 := by
  unfold upI
  exact ⟨Int.ediv_nonneg (by omega) (by omega), Int.le_trans (Int.ediv_le_self _ (by omega)) (by omega)⟩
 have hbne : ¬ (b = 0) := by omega
 go_enter Tryz.func182, Tryz.ntmps182
 go_wp2
 all_goals (first | (exfalso; omega) | skip)
 go_ret
 refine ⟨?_, rfl⟩
 rw [← e1]
 rfl
theorem ref_up_any (n b : Int) (w : World) (hn : 0 ≤ n ∧ n ≤ 100000) (hb : 0 < b ∧ b ≤ 1000) : Calls Tryz.prog 155 #[.int .i64 n, .int .i64 b] w fun e w' => e = .returned (.int .i64 (upI n b)) ∧ w = w' := by
 have e1 : (n + b - 1).tdiv b = upI n b := Int.tdiv_eq_ediv_of_nonneg (by omega)
 have hq : 0 ≤ upI n b ∧ upI n b ≤ 1000000 := by
  unfold upI
  exact ⟨Int.ediv_nonneg (by omega) (by omega), Int.le_trans (Int.ediv_le_self _ (by omega)) (by omega)⟩
 have hbne : ¬ (b = 0) := by omega
 go_enter Tryz.func155, Tryz.ntmps155
 go_wp2
 all_goals (first | (exfalso; omega) | skip)
 go_ret
 refine ⟨?_, rfl⟩
 rw [← e1]
 rfl
theorem geom_config_any (p : Nat) (b s l : Int) (w : World) (hg : GeoAt w p b s l) :
  Calls Tryz.prog 162 #[.pointer (some ⟨p, 0, none⟩)] w fun e w' => e = .returned (.agg #[.int .i64 b, .int .i64 s, .int .i64 l]) ∧ Only [] w w' := by
 have hres : Tryz.f162.results = #[.cell 2 25] := by kernel_rfl
 have HRES := hH hres
 obtain ⟨c0, c1, c2⟩ := hg
 have hlt := lt_of_cell c0
 clear hres
 go_enter Tryz.func162, Tryz.ntmps162
 go_wp2
 (try simp only [Exit.inBlock, Exit.then])
 refine bodyPost_ret (v := .agg #[.int .i64 b, .int .i64 s, .int .i64 l]) ?_ rfl ⟨rfl, ?_⟩
 ·simp only [results, HRES.out]
  go_simp
 exact (Only.refl _ _).alloc _
theorem field_cfg0 (b s l : Int) (w : World) : (Instr.field 25 (.agg #[.int .i64 b, .int .i64 s, .int .i64 l]) 0).run Tryz.prog w = .ok (.int .i64 b) w := by kernel_rfl
theorem geom_pages_any (p : Nat) (b s l : Int) (w : World) (hg : GeoAt w p b s l) (hb : CfOk b s l) :
  Calls Tryz.prog 147 #[.pointer (some ⟨p, 0, none⟩)] w fun e w' => e = .returned (.int .i64 (pgs b)) ∧ Only [] w w' := by
 have HG := hH hg
 have HB := hH hb
 have e1 : upI b 15 = pgs b := by unfold upI pgs; congr 1; omega
 have HE := hH e1
 clear hg hb e1
 have hfl := field_cfg0 b s l
 go_enter Tryz.func147, Tryz.ntmps147
 go_wp2_with fail
 refine (geom_config_any p b s l _ HG.out).mono ?_
 rintro e w1 ⟨rfl, hO1⟩
 have HO1 := hH hO1
 clear hO1
 go_wp2_with fail
 refine (geom_up_any b 15 _ (by have := HB.out; unfold CfOk at this; omega) (by decide)).mono ?_
 rintro e w2 ⟨rfl, rfl⟩
 rw [HE.out]
 go_wp2
 go_ret
 exact ⟨rfl, HO1.out⟩
theorem geom_rlen_any (p : Nat) (b s l : Int) (w : World) (hg : GeoAt w p b s l) (hb : CfOk b s l) :
  Calls Tryz.prog 146 #[.pointer (some ⟨p, 0, none⟩)] w fun e w' => e = .returned (.int .i64 (rln s)) ∧ w = w' := by
 obtain ⟨c0, c1, c2⟩ := hg
 have hlt := lt_of_cell c0
 have HB := hH hb
 have e1 : upI (43 + 5 * s) 64 = rln s := by unfold upI rln; congr 1; omega
 have HE := hH e1
 have hs : 8 ≤ s ∧ s ≤ 32 := hb.2.1
 have hw1 := IntWalk.i64_in (5 * s) (by omega)
 have hw2 := IntWalk.i64_in (43 + 5 * s) (by omega)
 clear hb e1
 go_enter Tryz.func146, Tryz.ntmps146
 go_wp2_with fail
 refine (geom_up_any (43 + 5 * s) 64 _ (by omega) (by decide)).mono ?_
 rintro e w2 ⟨rfl, rfl⟩
 rw [HE.out]
 go_wp2
 go_ret
 exact ⟨rfl, rfl⟩
theorem geom_has_any (p : Nat) (b s l x : Int) (w : World) (hg : GeoAt w p b s l) (hb : CfOk b s l) :
  Calls Tryz.prog 80 #[.pointer (some ⟨p, 0, none⟩), .int .i64 x] w fun e w' => e = .returned (.bool (decide (0 ≤ x ∧ x ≤ s - 1))) ∧ w = w' := by
 obtain ⟨c0, c1, c2⟩ := hg
 have hlt := lt_of_cell c0
 have hs : 8 ≤ s ∧ s ≤ 32 := hb.2.1
 have hw1 := IntWalk.i64_in (s - 1) (by omega)
 obtain ⟨bb, hbb⟩ : ∃ bb, decide (0 ≤ x ∧ x ≤ s - 1) = bb := ⟨_, rfl⟩
 have HBB := hH hbb
 rw [hbb]
 clear hb hbb
 go_enter Tryz.func80, Tryz.ntmps80
 go_wp2_with fail
 refine (geom_within_any x 0 (s - 1) _).mono ?_
 rintro e w2 ⟨rfl, rfl⟩
 rw [HBB.out]
 go_wp2
 go_ret
 exact ⟨rfl, rfl⟩
theorem ref_pages_any (b s l : Int) (w : World) (hb : CfOk b s l) :
  Calls Tryz.prog 101 #[.agg #[.int .i64 b, .int .i64 s, .int .i64 l]] w fun e w' => e = .returned (.int .i64 (pgs b)) ∧ Only [] w w' := by
 have e1 : upI b 15 = pgs b := by unfold upI pgs; congr 1; omega
 have HE := hH e1
 have HB := hH hb
 clear e1 hb
 go_enter Tryz.func101, Tryz.ntmps101
 go_wp2_with fail
 refine (ref_up_any b 15 _ (by have := HB.out; unfold CfOk at this; omega) (by decide)).mono ?_
 rintro e w2 ⟨rfl, rfl⟩
 rw [HE.out]
 go_wp2
 go_ret
 exact ⟨rfl, (Only.refl _ _).alloc _⟩
theorem ref_rlen_any (b s l : Int) (w : World) (hb : CfOk b s l) :
  Calls Tryz.prog 100 #[.agg #[.int .i64 b, .int .i64 s, .int .i64 l]] w fun e w' => e = .returned (.int .i64 (rln s)) ∧ Only [] w w' := by
 have e1 : upI (43 + 5 * s) 64 = rln s := by unfold upI rln; congr 1; omega
 have HE := hH e1
 have hs : 8 ≤ s ∧ s ≤ 32 := hb.2.1
 have hw1 := IntWalk.i64_in (5 * s) (by omega)
 have hw2 := IntWalk.i64_in (43 + 5 * s) (by omega)
 clear hb e1
 go_enter Tryz.func100, Tryz.ntmps100
 go_wp2_with fail
 refine (ref_up_any (43 + 5 * s) 64 _ (by omega) (by decide)).mono ?_
 rintro e w2 ⟨rfl, rfl⟩
 rw [HE.out]
 go_wp2
 go_ret
 exact ⟨rfl, (Only.refl _ _).alloc _⟩
end Go.Proofs.YtgcfdjcpcclcjaaGreat
namespace Go.Kn
open Go Go.RowKit
def headMay (i : It) : Bool := decide (0 ≤ i.k ∧ i.k ≤ 31) && decide (1 ≤ i.b ∧ i.b ≤ 2147483647) && decide (1 ≤ i.c ∧ i.c ≤ 2147483647) && decide (0 ≤ i.v ∧ i.v ≤ 4294967295)
def headRow (i : It) : List UInt8 := lay (lay zeros64 0 (les 1 [75, 72, i.k])) 3 (les 4 [i.b, i.c, i.v])
def encHead (i : It) : Option (List UInt8) := if headMay i = true then some (sealed (headRow i)) else none
def headOf (bs : List UInt8) : It := ⟨rd bs 2 1, rd bs 3 4, rd bs 7 4, rd bs 11 4⟩
def decHead (bs : List UInt8) : Option It := decBy encHead headOf bs
theorem headMay_iff {i : It} : headMay i = true ↔ (0 ≤ i.k ∧ i.k ≤ 31) ∧ (1 ≤ i.b ∧ i.b ≤ 2147483647) ∧ (1 ≤ i.c ∧ i.c ≤ 2147483647) ∧ (0 ≤ i.v ∧ i.v ≤ 4294967295) := by
 simp [headMay, and_assoc]
theorem headRow_cat (i : It) : headRow i = cat [(1, 75), (1, 72), (1, i.k), (4, i.b), (4, i.c), (4, i.v)] ++ List.replicate 49 0 := by
 unfold headRow
 rw [les_cat 1, lay_cat _ _ 3 4 _ rfl (by simp [zeros64]), lay_zero, cat_length]
 rfl
theorem headRow_length (i : It) : (headRow i).length = 64 := by
 rw [headRow_cat, List.length_append, cat_length]
 rfl
theorem encHead_len {i : It} {b : List UInt8} (h : encHead i = some b) : b.length = 64 := by
 unfold encHead at h
 split at h
 ·injection h with h
  rw [← h]
  exact sealed_length _ (headRow_length i)
 cases h
theorem encHead_closed {i : It} {b : List UInt8} (h : encHead i = some b) : Closed b 60 := by
 unfold encHead at h
 split at h
 ·injection h with h
  rw [← h]
  exact sealed_closed _ (headRow_length i)
 cases h
theorem encHead_rd {i : It} {b : List UInt8} (h : encHead i = some b) (k n : Nat) (hk : k + n ≤ 60) : rd b k n = rd (headRow i) k n := by
 unfold encHead at h
 split at h
 ·injection h with h
  rw [← h]
  exact rd_sealed _ (headRow_length i) k n hk
 cases h
theorem encHead_may {i : It} {b : List UInt8} (h : encHead i = some b) : headMay i = true := by
 unfold encHead at h
 split at h
 ·assumption
 cases h
theorem encHead_of {i : It} {b : List UInt8} (h : encHead i = some b) : headOf b = i := by
 obtain ⟨h0, h1, h2, h3⟩ := headMay_iff.1 (encHead_may h)
 have e : (256 : Int) ^ 1 = 256 := rfl
 have e4 : (256 : Int) ^ 4 = 4294967296 := rfl
 unfold headOf
 rw [encHead_rd h 2 1 (by decide), encHead_rd h 3 4 (by decide), encHead_rd h 7 4 (by decide), encHead_rd h 11 4 (by decide), headRow_cat]
 have g0 := cat_get [(1, 75), (1, 72)] 1 i.k [(4, i.b), (4, i.c), (4, i.v)] (List.replicate 49 0) (by omega)
 have g1 := cat_get [(1, 75), (1, 72), (1, i.k)] 4 i.b [(4, i.c), (4, i.v)] (List.replicate 49 0) (by omega)
 have g2 := cat_get [(1, 75), (1, 72), (1, i.k), (4, i.b)] 4 i.c [(4, i.v)] (List.replicate 49 0) (by omega)
 have g3 := cat_get [(1, 75), (1, 72), (1, i.k), (4, i.b), (4, i.c)] 4 i.v [] (List.replicate 49 0) (by omega)
 simp only [wid, List.map_cons, List.map_nil, List.sum_cons, List.sum_nil, List.cons_append, List.nil_append, Nat.reduceAdd] at g0 g1 g2 g3
 rw [g0, g1, g2, g3]
theorem encHead_signs {i : It} {b : List UInt8} (h : encHead i = some b) : b[0]? = some 75 ∧ b[1]? = some 72 := by
 unfold encHead at h
 split at h
 ·injection h with h
  have e : headRow i = 75 :: 72 :: (cat [(1, i.k), (4, i.b), (4, i.c), (4, i.v)] ++ List.replicate 49 0) := by rw [headRow_cat]; rfl
  have h2 : ((headRow i).take 60)[0]? = some 75 ∧ ((headRow i).take 60)[1]? = some 72 := by rw [e]; exact ⟨rfl, rfl⟩
  rw [← h, sealed_eq _ (headRow_length i), List.getElem?_append_left (by rw [List.length_take, headRow_length]; decide), List.getElem?_append_left (by rw [List.length_take, headRow_length]; decide)]
  exact h2
 cases h
theorem decHead_signs {bs : List UInt8} (h : ¬ (bs.length = 64 ∧ bs[0]? = some 75 ∧ bs[1]? = some 72)) : decHead bs = none := by
 cases hd : decHead bs with
 | none => rfl
 | some x =>
  have he := decBy_enc hd
  exact absurd ⟨encHead_len he, encHead_signs he⟩ h
theorem head_back {i : It} (h : headMay i = true) : ∃ b, encHead i = some b ∧ b.length = 64 ∧ Closed b 60 ∧ decHead b = some i := by
 have he : encHead i = some (sealed (headRow i)) := by unfold encHead; rw [if_pos h]
 exact ⟨_, he, encHead_len he, encHead_closed he, decBy_back (encHead_of he) he⟩
end Go.Kn
namespace Go.Kn
open Go Go.RowKit
theorem headRow_ref (i : It) : lay (lay (lay zeros64 0 [75, 72]) 2 (le 1 i.k.toNat)) 3 (les 4 [i.b, i.c, i.v]) = headRow i := by
 have e : lay (lay zeros64 0 [75, 72]) 2 (le 1 i.k.toNat) = lay zeros64 0 (les 1 [75, 72, i.k]) := by
  have h := lay_lay zeros64 0 [75, 72] (le 1 i.k.toNat) (by simp [zeros64])
  simp only [List.length_cons, List.length_nil, Nat.zero_add, Nat.reduceAdd] at h
  rw [h]
  rfl
 rw [e]
 rfl
/-- what a reader of heads answers -/
def HeadSays (w : World) (o : Option It) (err : Int) (e : Ending) (w' : World) : Prop :=
 e = .returned (.tuple #[.agg (o.getD ⟨0, 0, 0, 0⟩).vals, .int .i64 (if o.isSome then 0 else err)]) ∧ Only [] w w'
end Go.Kn
namespace Go.Proofs.YtgcfdjcpcclcjaaGreat
open Go Go.RowKit Go.Kn
theorem head_within_any (n lo hi : Int) (w : World) : Calls Tryz.prog 212 #[.int .i64 n, .int .i64 lo, .int .i64 hi] w fun e w' => e = .returned (.bool (decide (lo ≤ n ∧ n ≤ hi))) ∧ w = w' := by
  go_enter Tryz.func212, Tryz.ntmps212
  by_cases h1 : lo ≤ n <;> by_cases h2 : n ≤ hi <;>
  (go_wp2
   go_ret
   exact ⟨by simp [*], rfl⟩)
theorem head_may_any (k b c v : Int) (w : World) :
  Calls Tryz.prog 195 #[.agg #[.int .i64 k, .int .i64 b, .int .i64 c, .int .i64 v]] w fun e w' => e = .returned (.bool (headMay ⟨k, b, c, v⟩)) ∧ Only [] w w' := by
 go_enter Tryz.func195, Tryz.ntmps195
 go_wp2_with (first | (go_at_call 212; refine (head_within_any _ _ _ _).mono ?_; rintro e w' ⟨rfl, rfl⟩))
 all_goals (go_ret; exact ⟨by simp [headMay, *], (Only.refl _ _).alloc _⟩)
theorem ref_head_may_any (k b c v : Int) (w : World) :
  Calls Tryz.prog 143 #[.agg #[.int .i64 k, .int .i64 b, .int .i64 c, .int .i64 v]] w fun e w' => e = .returned (.bool (headMay ⟨k, b, c, v⟩)) ∧ Only [] w w' := by
 go_enter Tryz.func143, Tryz.ntmps143
 go_wp2_with (first | (go_at_call 99; refine (within_any _ _ _ _).mono ?_; rintro e w' ⟨rfl, rfl⟩))
 all_goals (go_ret; exact ⟨by simp [headMay, *], (Only.refl _ _).alloc _⟩)
end Go.Proofs.YtgcfdjcpcclcjaaGreat
namespace Go.Proofs.YtgcfdjcpcclcjaaGreat
open Go Go.RowKit Go.Kn
theorem head_enc_own (f0 f1 f2 f3 : Int) (w : World) :
  Calls Tryz.prog 171 #[.agg #[.int .i64 f0, .int .i64 f1, .int .i64 f2, .int .i64 f3]] w (EncOwn w (encHead ⟨f0, f1, f2, f3⟩)) := by
 cases hm : headMay ⟨f0, f1, f2, f3⟩
 ·have HM := hH hm
  clear hm
  go_enter Tryz.func171, Tryz.ntmps171
  go_wp2_with fail
  refine (head_may_any f0 f1 f2 f3 _).mono ?_
  rintro e w1 ⟨rfl, hO1⟩
  rw [HM.out]
  go_wp2
  go_ret2
  exact EncOwn.no (by unfold encHead; rw [HM.out]; rfl) (((Only.refl _ _).alloc _).trans' hO1)
 have HM := hH hm
 have HF0 : Hid (Fit 1 [75, 72, f0]) := hH (by have := headMay_iff.1 hm; simp only [fit_cons, fit_nil, Int.reducePow, and_true] at *; omega)
 have HF1 : Hid (Fit 4 [f1, f2, f3]) := hH (by have := headMay_iff.1 hm; simp only [fit_cons, fit_nil, Int.reducePow, and_true] at *; omega)
 have HE : Hid (encHead ⟨f0, f1, f2, f3⟩ = some (sealed (headRow ⟨f0, f1, f2, f3⟩))) := hH (by unfold encHead; rw [if_pos hm])
 have HLR := hH (headRow_length ⟨f0, f1, f2, f3⟩)
 clear hm
 go_enter Tryz.func171, Tryz.ntmps171
 go_wp2_with fail
 refine (head_may_any f0 f1 f2 f3 _).mono ?_
 rintro e w1 ⟨rfl, hO1⟩
 rw [HM.out]
 have HB1 := hH ((Own.new w #[.int .i64 f0, .int .i64 f1, .int .i64 f2, .int .i64 f3] 143).keep0 hO1)
 have HO1 := hH (((Only.refl [] w).alloc (.cells #[.int .i64 f0, .int .i64 f1, .int .i64 f2, .int .i64 f3] 143)).trans' hO1)
 have HSZ : Hid (w.heap.size ≤ w.heap.size) := hH (Nat.le_refl _)
 clear hO1
 go_wp2_with fail
 generalize hbb : w.heap.size = b at HB1 HSZ ⊢
 have HBB := hH hbb
 clear hbb
 refine (new_any 64 _ (by decide) (by decide)).mono ?_
 rintro e w2 ⟨p, g, rfl, hp, hg, hr, hO⟩
 have HS : Hid (Encs w w2 p g 0 b zeros64 [.int .i64 f0, .int .i64 f1, .int .i64 f2, .int .i64 f3]) := hH (Encs.start HB1.out HO1.out hp hg hr hO)
 have hgg : b < w1.heap.size := HB1.out.lt
 clear hr hO HB1
 obtain ⟨x0, x1, x2, x3⟩ := Kn.own4 HS.out.box
 go_wp2_with fail
 have LX : zeros64.length = 64 := by first | rfl | (simp [lay_length, zeros64]) | (rw [lay_length _ _ _ (by simp [lay_length, zeros64])]; simp [lay_length, zeros64])
 refine (put_any p g 0 zeros64 1 _ 3 3 [75, 72, f0] _ (by exact HS.out.row.alloc _) (by exact ins_built _ [75, 72, f0] _ 3 rfl (by omega)) (by exact ne_built HS.out.row) (by decide) (by rw [LX]; decide) HF0.out).mono ?_
 rintro e w3 ⟨rfl, hr, hO⟩
 have HS0 : Hid (Encs w w3 p g 3 b (lay zeros64 0 (les 1 [75, 72, f0])) [.int .i64 f0, .int .i64 f1, .int .i64 f2, .int .i64 f3]) := hH ((HS.out.alloc _).put hr hO)
 clear hr hO LX HS x0 x1 x2 x3
 have HS := HS0
 clear HS0
 obtain ⟨x0, x1, x2, x3⟩ := Kn.own4 HS.out.box
 go_wp2_with fail
 have LX : (lay zeros64 0 (les 1 [75, 72, f0])).length = 64 := by first | rfl | (simp [lay_length, zeros64]) | (rw [lay_length _ _ _ (by simp [lay_length, zeros64])]; simp [lay_length, zeros64])
 refine (put_any p g 3 (lay zeros64 0 (les 1 [75, 72, f0])) 4 _ 3 3 [f1, f2, f3] _ (by exact HS.out.row.alloc _) (by exact ins_built _ [f1, f2, f3] _ 3 rfl (by omega)) (by exact ne_built HS.out.row) (by decide) (by rw [LX]; decide) HF1.out).mono ?_
 rintro e w4 ⟨rfl, hr, hO⟩
 have HS1 : Hid (Encs w w4 p g 15 b (lay (lay zeros64 0 (les 1 [75, 72, f0])) 3 (les 4 [f1, f2, f3])) [.int .i64 f0, .int .i64 f1, .int .i64 f2, .int .i64 f3]) := hH ((HS.out.alloc _).put hr hO)
 clear hr hO LX HS x0 x1 x2 x3
 have HS := HS1
 clear HS1
 go_wp2_with fail
 have HX : Hid ((lay (lay zeros64 0 (les 1 [75, 72, f0])) 3 (les 4 [f1, f2, f3])) = headRow ⟨f0, f1, f2, f3⟩) := hH rfl
 rw [HX.out] at HS
 generalize headRow ⟨f0, f1, f2, f3⟩ = X at *
 clear HX
 refine (bytes_any p g 15 X _ (by exact HS.out.row)).mono ?_
 rintro e w8 ⟨A4, c4, rfl, hc4, hm4, hpos4, hO4⟩
 obtain ⟨g4, rfl, hg4, ho4⟩ := hpos4 (by rw [HLR.out]; decide)
 rw [HLR.out] at hc4 ⊢
 have HO4 := hH (HS.out.only.trans' hO4)
 have HW4 := hH ho4
 have hgw : w.heap.size ≤ g4 := Nat.le_trans HS.out.only.size hg4
 clear hpos4 hO4 ho4 HS
 go_wp2_with fail
 refine (crc_seal_any g4 c4 X 60 _ HLR.out hc4 hm4 (by exact HW4.out)).mono ?_
 rintro e w9 ⟨rfl, ho5, hO5⟩
 have HO5 := hH (HO4.out.trans hO5 (by simpa using hgw) : Only [] w w9)
 have HW5 := hH ho5
 clear ho5 hO5
 go_wp2
 go_ret2
 have hl := sealed_length X HLR.out
 exact EncOwn.yes HE.out hl hc4 hm4 hgw HW5.out HO5.out
theorem head_enc_any (f0 f1 f2 f3 : Int) (w : World) :
  Calls Tryz.prog 171 #[.agg #[.int .i64 f0, .int .i64 f1, .int .i64 f2, .int .i64 f3]] w (EncSays w (encHead ⟨f0, f1, f2, f3⟩)) :=
 (head_enc_own f0 f1 f2 f3 w).mono fun _ _ h => h.says
end Go.Proofs.YtgcfdjcpcclcjaaGreat
namespace Go.Proofs.YtgcfdjcpcclcjaaGreat
open Go Go.RowKit Go.Kn
theorem head_dec_any (A : Option Addr) (n c : Nat) (bs : List UInt8) (w : World) (hi : Bys w A n c bs) (hn : n ≤ 65536) :
  Calls Tryz.prog 184 #[.slice A n c] w (HeadSays w (decHead bs) 2) := by
 have hlen := hi.len
 rw [bvs_length] at hlen
 have HI := hH hi
 have HL := hH hlen
 clear hi hlen
 have hres : Tryz.f184.results = #[.cell 2 143, .tmp 3] := by kernel_rfl
 have HRES := hH hres
 clear hres
 go_enter Tryz.func184, Tryz.ntmps184
 go_wp2_with fail
 have HF0 := hH (Own.new w #[.int .i64 0, .int .i64 0, .int .i64 0, .int .i64 0] 143)
 have HO0 := hH ((Only.refl [] w).alloc (.cells #[.int .i64 0, .int .i64 0, .int .i64 0, .int .i64 0] 143))
 have HI0 := hH (HI.out.alloc (.cells #[.int .i64 0, .int .i64 0, .int .i64 0, .int .i64 0] 143))
 have HSZ : Hid (w.heap.size ≤ w.heap.size) := hH (Nat.le_refl _)
 generalize w.alloc (.cells #[.int .i64 0, .int .i64 0, .int .i64 0, .int .i64 0] 143) = w0 at *
 generalize hf : w.heap.size = f at HF0 HSZ ⊢
 have HFF := hH hf
 clear hf
 refine (from_any A n c bs _ HI0.out hn).mono ?_
 rintro e w1 ⟨p, g, rfl, hp, hg, hr, hO⟩
 have HD := hH (Decs.start HF0.out (by rw [HFF.out]; exact Nat.le_refl _) HO0.out hp hg hr hO)
 have hfg : f < w0.heap.size := HF0.out.lt
 clear hr hO HF0
 go_wp2_with fail
 refine (take_all p g 0 bs 2 _ (by exact HD.out.row)).mono ?_
 rintro e w2 ⟨A2, c2, rfl, _, _, hr, hO⟩
 have HD1 := hH (HD.out.got hr hO)
 generalize hk : takeK bs 0 2 = k0 at *
 generalize takeOk bs 0 2 = o0 at *
 generalize takeB bs 0 2 = b0 at *
 have HK0 := hH hk
 clear hr hO hk HD
 have HD := HD1
 clear HD1
 go_wp2_with fail
 refine (get_all p g k0 bs 1 _ (by exact HD.out.row)).mono ?_
 rintro e v0 ⟨rfl, hr, hO⟩
 have hn := HD.out.got hr hO
 generalize hx : ((getN bs k0 1 : Nat) : Int) = x0 at *
 have HX0 := hH hx
 generalize hk : getK bs k0 1 = k1 at *
 have HK1 := hH hk
 generalize getOk bs k0 1 = o1 at *
 have q0 := hn.box.cell 0 (by simp)
 have z0 := hn.box.frozen 0
 simp only [g0, gs] at q0
 have hm := hn.put 0 (.int .i64 x0)
 simp only [List.set_cons_zero, List.set_cons_succ] at hm
 have HD1 := hH hm
 clear hr hO hx hk hn hm HD
 have HD := HD1
 clear HD1
 go_wp2_with fail
 clear q0 z0
 refine (get_all p g k1 bs 4 _ (by exact HD.out.row)).mono ?_
 rintro e v1 ⟨rfl, hr, hO⟩
 have hn := HD.out.got hr hO
 generalize hx : ((getN bs k1 4 : Nat) : Int) = x1 at *
 have HX1 := hH hx
 generalize hk : getK bs k1 4 = k2 at *
 have HK2 := hH hk
 generalize getOk bs k1 4 = o2 at *
 have q0 := hn.box.cell 1 (by simp)
 have z0 := hn.box.frozen 1
 simp only [g0, gs] at q0
 have hm := hn.put 1 (.int .i64 x1)
 simp only [List.set_cons_zero, List.set_cons_succ] at hm
 have HD1 := hH hm
 clear hr hO hx hk hn hm HD
 have HD := HD1
 clear HD1
 go_wp2_with fail
 clear q0 z0
 refine (get_all p g k2 bs 4 _ (by exact HD.out.row)).mono ?_
 rintro e v2 ⟨rfl, hr, hO⟩
 have hn := HD.out.got hr hO
 generalize hx : ((getN bs k2 4 : Nat) : Int) = x2 at *
 have HX2 := hH hx
 generalize hk : getK bs k2 4 = k3 at *
 have HK3 := hH hk
 generalize getOk bs k2 4 = o3 at *
 have q0 := hn.box.cell 2 (by simp)
 have z0 := hn.box.frozen 2
 simp only [g0, gs] at q0
 have hm := hn.put 2 (.int .i64 x2)
 simp only [List.set_cons_zero, List.set_cons_succ] at hm
 have HD1 := hH hm
 clear hr hO hx hk hn hm HD
 have HD := HD1
 clear HD1
 go_wp2_with fail
 clear q0 z0
 refine (get_all p g k3 bs 4 _ (by exact HD.out.row)).mono ?_
 rintro e v3 ⟨rfl, hr, hO⟩
 have hn := HD.out.got hr hO
 generalize hx : ((getN bs k3 4 : Nat) : Int) = x3 at *
 have HX3 := hH hx
 generalize hk : getK bs k3 4 = k4 at *
 have HK4 := hH hk
 generalize getOk bs k3 4 = o4 at *
 have q0 := hn.box.cell 3 (by simp)
 have z0 := hn.box.frozen 3
 simp only [g0, gs] at q0
 have hm := hn.put 3 (.int .i64 x3)
 simp only [List.set_cons_zero, List.set_cons_succ] at hm
 have HD1 := hH hm
 clear hr hO hx hk hn hm HD
 have HD := HD1
 clear HD1
 generalize hwl : v3.setCell ⟨f, 3, none⟩ (.int .i64 x3) = wl at *
 obtain ⟨y0, y1, y2, y3⟩ := Kn.own4 HD.out.box
 go_wp2_with fail
 clear hwl
 have HDS : Hid ((if encHead ⟨x0, x1, x2, x3⟩ = some bs then some ⟨x0, x1, x2, x3⟩ else none) = decHead bs) := hH (decBy_same (enc := encHead) (of := headOf) (bs := bs) (x := ⟨x0, x1, x2, x3⟩) (N := 64) (fun _ _ h => encHead_len h) (fun h => by
  have e0 := (took_at (bs := bs) (k := 0) (n := 2) (by omega)).2
  have a0 : k0 = 2 := by rw [← HK0.out]; exact e0
  have g0 := got_at (bs := bs) (k := 2) (n := 1) (by omega) (by omega)
  have a1 : k1 = 3 := by rw [← HK1.out, a0]; exact g0.2
  have d0 : x0 = rd bs 2 1 := by rw [← HX0.out, a0]; exact g0.1
  have g1 := got_at (bs := bs) (k := 3) (n := 4) (by omega) (by omega)
  have a2 : k2 = 7 := by rw [← HK2.out, a1]; exact g1.2
  have d1 : x1 = rd bs 3 4 := by rw [← HX1.out, a1]; exact g1.1
  have g2 := got_at (bs := bs) (k := 7) (n := 4) (by omega) (by omega)
  have a3 : k3 = 11 := by rw [← HK3.out, a2]; exact g2.2
  have d2 : x2 = rd bs 7 4 := by rw [← HX2.out, a2]; exact g2.1
  have g3 := got_at (bs := bs) (k := 11) (n := 4) (by omega) (by omega)
  have a4 : k4 = 15 := by rw [← HK4.out, a3]; exact g3.2
  have d3 : x3 = rd bs 11 4 := by rw [← HX3.out, a3]; exact g3.1
  unfold headOf
  rw [d0, d1, d2, d3]))
 clear q0 z0 HX0 HX1 HX2 HX3 HK0 HK1 HK2 HK3 HK4
 refine (head_enc_any x0 x1 x2 x3 _).mono ?_
 rintro e w8 ⟨A3, c3, rfl, hb3, _, hO3⟩
 have HB := hH (HI.out.keep0 (HD.out.only.trans' hO3))
 have HD3 := hH (HD.out.keep hO3)
 clear hO3 HD y0 y1 y2 y3
 have HSB : Hid (w.heap.size ≤ f) := hH HD3.out.hf
 cases hen : encHead ⟨x0, x1, x2, x3⟩ with
 | none =>
  have HNO : Hid (decHead bs = none) := hH (by rw [← HDS.out, hen]; rfl)
  rw [hen] at hb3
  clear hb3 hen HDS
  obtain ⟨y0, y1, y2, y3⟩ := Kn.own4 HD3.out.box
  have z0 := HD3.out.box.frozen 0
  have z1 := HD3.out.box.frozen 1
  have z2 := HD3.out.box.frozen 2
  have z3 := HD3.out.box.frozen 3
  simp only [Option.getD_none, Option.isSome_none, List.length_nil]
  go_wp2
  (try simp only [Exit.inBlock, Exit.then])
  refine bodyPost_ret (v := .tuple #[.agg #[.int .i64 0, .int .i64 0, .int .i64 0, .int .i64 0], .int .i64 2]) ?_ rfl ?_
  ·simp only [results, HRES.out]
   go_simp
  rw [HNO.out]
  exact ⟨rfl, ((((HD3.out.only.set (.inr HSB.out) _).set (.inr HSB.out) _).set (.inr HSB.out) _).set (.inr HSB.out) _)⟩
 | some ys =>
  rw [hen] at hb3
  simp only [Option.getD_some] at hb3
  have HB3 := hH hb3
  have HEN := hH hen
  clear hb3 hen
  simp only [Option.getD_some, Option.isSome_some, if_true]
  go_wp2_with fail
  refine (bytes_equal_any A3 ys.length c3 ys A n c bs _ (by exact HB3.out) (by exact HB.out)).mono ?_
  rintro e w9 ⟨rfl, rfl⟩
  by_cases hyb : ys = bs
  ·have hd : decide (ys = bs) = true := by simp [hyb]
   have HYES : Hid (decHead bs = some ⟨x0, x1, x2, x3⟩) := hH (by rw [← HDS.out, HEN.out, hyb, if_pos rfl])
   rw [hd]
   clear hd hyb HEN HDS
   obtain ⟨y0, y1, y2, y3⟩ := Kn.own4 HD3.out.box
   have z0 := HD3.out.box.frozen 0
   have z1 := HD3.out.box.frozen 1
   have z2 := HD3.out.box.frozen 2
   have z3 := HD3.out.box.frozen 3
   go_wp2
   (try simp only [Exit.inBlock, Exit.then])
   refine bodyPost_ret (v := .tuple #[.agg #[.int .i64 x0, .int .i64 x1, .int .i64 x2, .int .i64 x3], .int .i64 0]) ?_ rfl ?_
   ·simp only [results, HRES.out]
    go_simp
   rw [HYES.out]
   exact ⟨rfl, ((((HD3.out.only.set (.inr HSB.out) _).set (.inr HSB.out) _).set (.inr HSB.out) _).set (.inr HSB.out) _)⟩
  have hd : decide (ys = bs) = false := by simp [hyb]
  have HYES : Hid (decHead bs = none) := hH (by rw [← HDS.out, HEN.out, if_neg (by intro h; injection h with h; exact hyb h)])
  rw [hd]
  clear hd hyb HEN HDS
  obtain ⟨y0, y1, y2, y3⟩ := Kn.own4 HD3.out.box
  have z0 := HD3.out.box.frozen 0
  have z1 := HD3.out.box.frozen 1
  have z2 := HD3.out.box.frozen 2
  have z3 := HD3.out.box.frozen 3
  go_wp2
  (try simp only [Exit.inBlock, Exit.then])
  refine bodyPost_ret (v := .tuple #[.agg #[.int .i64 0, .int .i64 0, .int .i64 0, .int .i64 0], .int .i64 2]) ?_ rfl ?_
  ·simp only [results, HRES.out]
   go_simp
  rw [HYES.out]
  exact ⟨rfl, ((((HD3.out.only.set (.inr HSB.out) _).set (.inr HSB.out) _).set (.inr HSB.out) _).set (.inr HSB.out) _)⟩
end Go.Proofs.YtgcfdjcpcclcjaaGreat
namespace Go.Kn
open Go Go.RowKit
theorem div_pow_succ (k t : Nat) : k / 2 ^ t / 2 = k / 2 ^ (t + 1) := by rw [Nat.div_div_eq_div_mul, Nat.pow_succ]
end Go.Kn
namespace Go.Proofs.YtgcfdjcpcclcjaaGreat
open Go Go.RowKit Go.Kn
theorem ref_more_any (s : Nat) (A : Option Addr) (n c : Nat) (bs : List UInt8) (w : World) (hs : s < 4294967296) (hi : Bys w A n c bs) :
  Calls Tryz.prog 91 #[.int .i64 s, .slice A n c] w fun e w' => e = .returned (.int .i64 ((4294967295 - cadd (4294967295 - s) bs : Nat) : Int)) ∧ Only [] w w' := by
 have hlen := hi.len
 rw [bvs_length] at hlen
 have hle := hi.le
 have hcm := hi.cm
 unfold maxLen at hcm
 have HI := hH hi
 have HL := hH hlen
 clear hi hlen
 have hwf : (Lit.int .i64 (s : Int)).wf = true := by simp [Lit.wf, IntKind.min, IntKind.max, IntKind.signed, IntKind.bits]; omega
 have hsm : (s : Int) % 4294967296 = s := by omega
 go_enter Tryz.func91, Tryz.ntmps91
 go_wp2_with fail
 refine (mod_any (s : Int) 4294967296 _ hwf (by decide) (by decide)).mono ?_
 rintro e w1 ⟨rfl, rfl⟩
 rw [hsm]
 have hnb := bits_not_u32 s hs
 have hx : 4294967295 - s < 4294967296 := by omega
 generalize hxx : 4294967295 - s = x at *
 have HXX := hH hxx
 clear hxx hwf hsm
 go_wp2_with fail
 go_loopg [5, 6] n (fun r v i wr => ∃ j : Nat, j + r = n ∧ i = .int .i64 j ∧ v = .int .u32 (cadd x (bs.take j) : Nat) ∧ Only [] w wr)
 case atStart => exact ⟨0, by omega, rfl, by simp [cadd], Only.refl _ _⟩
 obtain ⟨j, hj, rfl, rfl, hO⟩ := hrel
 have HO := hH hO
 have hlx := cadd_lt hx (bs.take j)
 clear hO
 by_cases hlt : j < n
 ·have hjz : j < bs.length := by rw [HL.out]; exact hlt
  obtain ⟨a, o, rfl, hc⟩ := HI.out.at_ (by omega)
  have q0 := hc j (by simpa using hjz)
  rw [bvs_get] at q0
  have c0 := HO.out.cell q0 (by simp)
  have hsn : cadd x (bs.take (j + 1)) = cbyte (cadd x (bs.take j)) bs[j] := by rw [List.take_succ_eq_append_getElem hjz, cadd_snoc]
  have HSN := hH hsn
  clear hc q0 hsn
  generalize bs[j] = cc at *
  generalize cadd x (bs.take j) = y at *
  have hlt2 : (j : Int) < (n : Int) := by omega
  have hge : 0 ≤ (j : Int) := by omega
  have htn : ((j : Int)).toNat = j := by omega
  have hcc : cc.toNat < 256 := cc.toNat_lt
  go_wp2_with fail
  rename World => w2
  obtain ⟨gk0, hgk0⟩ : ∃ g0, g0 = gk := ⟨gk, rfl⟩
  go_loopg [5, 7, 8] 8 (fun r v d i ws => ∃ t : Nat, t + r = 8 ∧ i = .int .i64 t ∧ v = .int .u32 (cbits cc.toNat y t : Nat) ∧ d = .int .u32 (cc.toNat / 2 ^ t : Nat) ∧ ws = w2)
  case atStart => exact ⟨0, by omega, rfl, rfl, by simp, rfl⟩
  obtain ⟨t, ht, rfl, rfl, rfl, rfl⟩ := hrel
  have hlz := cbits_lt hlx cc.toNat t
  have hzz : cbits cc.toNat y (t + 1) = cstep (cbits cc.toNat y t) (cc.toNat / 2 ^ t) := rfl
  have HZ := hH hzz
  clear hzz
  by_cases ht8 : t < 8
  ·have ht2 : (t : Int) < 8 := by omega
   have htg : 0 ≤ (t : Int) := by omega
   have htt : ((t : Int)).toNat = t := by omega
   have hdt : cc.toNat / 2 ^ t < 256 := Nat.lt_of_le_of_lt (Nat.div_le_self _ _) hcc
   have hcond := crc_cond (cbits cc.toNat y t) (cc.toNat / 2 ^ t) hlz hdt
   have hxp := bits_xor_u32_nat (cbits cc.toNat y t / 2) 2197175160 (by omega) (by decide)
   rw [show ((cbits cc.toNat y t / 2 : Nat) : Int) = ((cbits cc.toNat y t : Nat) : Int) / 2 from by simp, show ((2197175160 : Nat) : Int) = 2197175160 from rfl] at hxp
   have hz2 : ((cbits cc.toNat y t / 2 : Nat) : Int) = ((cbits cc.toNat y t : Nat) : Int) / 2 := by simp
   have hd2 : ((cc.toNat / 2 ^ t : Nat) : Int) / 2 = ((cc.toNat / 2 ^ (t + 1) : Nat) : Int) := by rw [← div_pow_succ]; rfl
   have HXP := hH hxp
   have HZ2 := hH hz2
   have HD2 := hH hd2
   clear hxp hz2 hd2
   generalize cc.toNat / 2 ^ t = d at *
   generalize cbits cc.toNat y t = z at *
   generalize cc.toNat = k at *
   by_cases hb : (z ^^^ d) % 2 = 1
   ·rw [decide_eq_true hb] at hcond
    have HC := hH hb
    clear hb
    go_wp2_with fail
    go_roundg (gk - 1)
    case measure => omega
    refine ⟨t + 1, by omega, by go_num, ?_, ?_, rfl⟩
    ·rw [HXP.out, HZ.out]
     unfold cstep
     rw [if_pos HC.out]
    rw [HD2.out]
   rw [decide_eq_false hb] at hcond
   have HC := hH hb
   clear hb
   go_wp2_with fail
   go_roundg (gk - 1)
   case measure => omega
   refine ⟨t + 1, by omega, by go_num, ?_, ?_, rfl⟩
   ·rw [HZ.out]
    unfold cstep
    rw [if_neg HC.out, HZ2.out]
   rw [HD2.out]
  obtain rfl : t = 8 := by omega
  have HSB : Hid (cadd x (bs.take (j + 1)) = cbits cc.toNat y 8) := hH HSN.out
  generalize cbits cc.toNat y 8 = z at *
  go_wp2_with fail
  go_roundg (gk0 - 1)
  case measure => omega
  case rel => exact ⟨j + 1, by omega, by go_num, by rw [HSB.out], HO.out⟩
 obtain rfl : j = n := by omega
 have htk : bs.take j = bs := List.take_of_length_le (by rw [HL.out]; omega)
 rw [htk] at hlx ⊢
 have hn := bits_not_u32 (cadd x bs) hlx
 have HXX' := hH (rfl : cadd x bs = cadd x bs)
 generalize hyy : cadd x bs = y at *
 have HYY := hH hyy
 have hr : 4294967295 - y < 4294967296 := by omega
 generalize hzz : 4294967295 - y = z at *
 have HZZ := hH hzz
 clear hyy hzz hnb
 go_wp2
 go_ret
 refine ⟨?_, HO.out⟩
 rw [HXX.out, HYY.out, HZZ.out]
 simp
theorem ref_sum_any (A : Option Addr) (n c : Nat) (bs : List UInt8) (w : World) (hi : Bys w A n c bs) :
  Calls Tryz.prog 92 #[.slice A n c] w fun e w' => e = .returned (.int .i64 (csum bs : Nat)) ∧ Only [] w w' := by
 go_enter Tryz.func92, Tryz.ntmps92
 go_wp2_with fail
 refine (ref_more_any 0 A n c bs _ (by decide) hi).mono ?_
 rintro e w1 ⟨rfl, hO⟩
 go_wp2
 go_ret
 exact ⟨rfl, hO⟩
end Go.Proofs.YtgcfdjcpcclcjaaGreat
namespace Go.Proofs.YtgcfdjcpcclcjaaGreat
open Go Go.RowKit Go.Kn
theorem ref_closed_any (p g k : Nat) (bs : List UInt8) (w : World) (h : RowAt w p g bs k) (hl : bs.length = 64) :
  Calls Tryz.prog 144 #[.pointer (some ⟨p, 0, none⟩)] w fun e w' => ∃ c, e = .returned (.slice (some ⟨g, 0, none⟩) 64 c) ∧ 64 ≤ c ∧ c ≤ maxLen ∧ Kn.Own w' g (bvs (sealed bs)) ∧ Only [p, g] w w' := by
 obtain ⟨old, c, hf0, hcl, hf1, _, _⟩ := h.facts hl (show 0 < 64 by omega)
 have hpz := h.pz 1
 have hcm : c ≤ maxLen := by
  obtain ⟨A', c', h1, _, h3, _⟩ := h.fb
  rw [h1] at hf0
  injection hf0 with hf0
  injection hf0 with _ _ hcc
  omega
 have hpl := h.place 60 (by omega)
 have HL := hH hl
 have HP := hH hpl
 have hO0 : Only [p] w (w.setCell ⟨p, 1, none⟩ (.int .i64 ((60 : Nat) : Int))) := (Only.refl _ _).set (by simp) _
 have HO0 := hH hO0
 have H := hH h
 clear hpl hl hO0 h
 go_enter Tryz.func144, Tryz.ntmps144
 go_wp2_with fail
 have e60 : ((60 : Nat) : Int) = 60 := rfl
 rw [e60] at HP HO0
 have hb : Bys (w.setCell ⟨p, 1, none⟩ (.int .i64 60)) (some ⟨g, 0, none⟩) 60 c (bs.take 60) := by
  have h1 := (HP.out.own (by have := HL.out; omega)).take 60
  rw [show (bvs bs).take 60 = bvs (bs.take 60) from by simp [bvs, List.map_take]] at h1
  exact Row1.of_Own h1 (by simp; have := HL.out; omega) (by omega) hcm
 generalize w.setCell ⟨p, 1, none⟩ (.int .i64 60) = w0 at *
 refine (ref_sum_any (some ⟨g, 0, none⟩) 60 c (bs.take 60) _ (by exact hb)).mono ?_
 rintro e w1 ⟨rfl, hO1⟩
 have HR1 := hH (HP.out.keep0 hO1)
 have HO1 := hH (HO0.out.trans' (hO1.mono (by simp)))
 have hs := csum_lt (bs.take 60)
 have hsd : sealed bs = lay bs 60 (le 4 (csum (bs.take 60))) := rfl
 have HSD := hH hsd
 clear hO1 hb HP HO0 H hf0 hf1 hpz hsd
 generalize csum (bs.take 60) = s at *
 go_wp2_with fail
 refine (ref_one_any p g 60 bs 4 (s : Int) _ (by exact HR1.out) (by decide) (by rw [HL.out]; decide) ⟨by omega, by have e : (256 : Int) ^ 4 = 4294967296 := rfl; omega⟩).mono ?_
 rintro e w2 ⟨rfl, hr2, hO2⟩
 have e3 : ((s : Nat) : Int).toNat = s := by omega
 rw [e3, ← HSD.out] at hr2
 have hl2 := sealed_length bs HL.out
 obtain ⟨A2, c2, hc2, hle2, hm2, hA2⟩ := hr2.fb
 have hA := hA2 (by omega)
 subst hA
 rw [hl2] at hc2 hle2
 have HOW := hH (hr2.own (by omega))
 have HO2 := hH (((HO1.out.mono (T := [p, g]) (by simp)).trans' hO2) : Only [p, g] w w2)
 clear hr2 hO2 hA2 hl2
 go_wp2
 go_ret
 exact ⟨c2, rfl, hle2, hm2, HOW.out, HO2.out⟩
end Go.Proofs.YtgcfdjcpcclcjaaGreat
namespace Go.Proofs.YtgcfdjcpcclcjaaGreat
open Go Go.RowKit Go.Kn
theorem ref_head_enc_own (f0 f1 f2 f3 : Int) (w : World) :
  Calls Tryz.prog 78 #[.agg #[.int .i64 f0, .int .i64 f1, .int .i64 f2, .int .i64 f3]] w (EncOwn w (encHead ⟨f0, f1, f2, f3⟩)) := by
 cases hm : headMay ⟨f0, f1, f2, f3⟩
 ·have HM := hH hm
  clear hm
  go_enter Tryz.func78, Tryz.ntmps78
  go_wp2_with fail
  refine (ref_head_may_any f0 f1 f2 f3 _).mono ?_
  rintro e w1 ⟨rfl, hO1⟩
  rw [HM.out]
  go_wp2
  go_ret2
  exact EncOwn.no (by unfold encHead; rw [HM.out]; rfl) (((Only.refl _ _).alloc _).trans' hO1)
 have HM := hH hm
 have HF0 : Hid (0 ≤ f0 ∧ f0 < 256 ^ 1) := hH (by have := headMay_iff.1 hm; simp only [Int.reducePow] at *; omega)
 have HF1 : Hid (Fit 4 [f1, f2, f3]) := hH (by have := headMay_iff.1 hm; simp only [fit_cons, fit_nil, Int.reducePow, and_true] at *; omega)
 have HE : Hid (encHead ⟨f0, f1, f2, f3⟩ = some (sealed (headRow ⟨f0, f1, f2, f3⟩))) := hH (by unfold encHead; rw [if_pos hm])
 have HLR := hH (headRow_length ⟨f0, f1, f2, f3⟩)
 clear hm
 go_enter Tryz.func78, Tryz.ntmps78
 go_wp2_with fail
 refine (ref_head_may_any f0 f1 f2 f3 _).mono ?_
 rintro e w1 ⟨rfl, hO1⟩
 rw [HM.out]
 have HB1 := hH ((Own.new w #[.int .i64 f0, .int .i64 f1, .int .i64 f2, .int .i64 f3] 143).keep0 hO1)
 have HO1 := hH (((Only.refl [] w).alloc (.cells #[.int .i64 f0, .int .i64 f1, .int .i64 f2, .int .i64 f3] 143)).trans' hO1)
 have HSZ : Hid (w.heap.size ≤ w.heap.size) := hH (Nat.le_refl _)
 clear hO1
 go_wp2_with fail
 generalize hbb : w.heap.size = b at HB1 HSZ ⊢
 have HBB := hH hbb
 clear hbb
 refine (ref_begun_any 64 75 72 75 72 _ rfl rfl (by decide) (by decide)).mono ?_
 rintro e w2 ⟨p, g, rfl, hp, hg, hr, hO⟩
 have HS : Hid (Encs w w2 p g 2 b (lay zeros64 0 [75, 72]) [.int .i64 f0, .int .i64 f1, .int .i64 f2, .int .i64 f3]) := hH (Encs.start HB1.out HO1.out hp hg hr hO)
 have hgg : b < w1.heap.size := HB1.out.lt
 clear hr hO HB1
 obtain ⟨x0, x1, x2, x3⟩ := Kn.own4 HS.out.box
 go_wp2_with fail
 have LX : (lay zeros64 0 [75, 72]).length = 64 := by first | rfl | (simp [lay_length, zeros64]) | (rw [lay_length _ _ _ (by simp [lay_length, zeros64])]; simp [lay_length, zeros64])
 refine (ref_one_any p g 2 (lay zeros64 0 [75, 72]) 1 f0 _ (by exact HS.out.row) (by decide) (by rw [LX]; decide) HF0.out).mono ?_
 rintro e w3 ⟨rfl, hr, hO⟩
 have HS0 : Hid (Encs w w3 p g 3 b (lay (lay zeros64 0 [75, 72]) 2 (le 1 f0.toNat)) [.int .i64 f0, .int .i64 f1, .int .i64 f2, .int .i64 f3]) := hH (HS.out.put hr hO)
 clear hr hO LX HS x0 x1 x2 x3
 have HS := HS0
 clear HS0
 obtain ⟨x0, x1, x2, x3⟩ := Kn.own4 HS.out.box
 go_wp2_with fail
 have LX : (lay (lay zeros64 0 [75, 72]) 2 (le 1 f0.toNat)).length = 64 := by first | rfl | (simp [lay_length, zeros64]) | (rw [lay_length _ _ _ (by simp [lay_length, zeros64])]; simp [lay_length, zeros64])
 refine (ref_put_any p g 3 (lay (lay zeros64 0 [75, 72]) 2 (le 1 f0.toNat)) 4 _ 3 3 [f1, f2, f3] _ (by exact HS.out.row.alloc _) (by exact ins_built _ [f1, f2, f3] _ 3 rfl (by omega)) (by exact ne_built HS.out.row) (by decide) (by rw [LX]; decide) HF1.out).mono ?_
 rintro e w4 ⟨rfl, hr, hO⟩
 have HS1 : Hid (Encs w w4 p g 15 b (lay (lay (lay zeros64 0 [75, 72]) 2 (le 1 f0.toNat)) 3 (les 4 [f1, f2, f3])) [.int .i64 f0, .int .i64 f1, .int .i64 f2, .int .i64 f3]) := hH ((HS.out.alloc _).put hr hO)
 clear hr hO LX HS x0 x1 x2 x3
 have HS := HS1
 clear HS1
 go_wp2_with fail
 have HX : Hid ((lay (lay (lay zeros64 0 [75, 72]) 2 (le 1 f0.toNat)) 3 (les 4 [f1, f2, f3])) = headRow ⟨f0, f1, f2, f3⟩) := hH (headRow_ref ⟨f0, f1, f2, f3⟩)
 rw [HX.out] at HS
 generalize headRow ⟨f0, f1, f2, f3⟩ = X at *
 clear HX
 refine (ref_closed_any p g 15 X _ (by exact HS.out.row) HLR.out).mono ?_
 rintro e w8 ⟨c4, rfl, hc4, hm4, ho5, hO5⟩
 have hgw : w.heap.size ≤ g := HS.out.hg
 have HO5 := hH (HS.out.only.trans hO5 (by simp [HS.out.hg, HS.out.hp]) : Only [] w w8)
 have HW5 := hH ho5
 clear ho5 hO5 HS
 go_wp2
 go_ret2
 have hl := sealed_length X HLR.out
 exact EncOwn.yes HE.out hl hc4 hm4 hgw HW5.out HO5.out
theorem ref_head_enc_any (f0 f1 f2 f3 : Int) (w : World) :
  Calls Tryz.prog 78 #[.agg #[.int .i64 f0, .int .i64 f1, .int .i64 f2, .int .i64 f3]] w (EncSays w (encHead ⟨f0, f1, f2, f3⟩)) :=
 (ref_head_enc_own f0 f1 f2 f3 w).mono fun _ _ h => h.says
theorem ref_head_dec_any (A : Option Addr) (n c : Nat) (bs : List UInt8) (w : World) (hi : Bys w A n c bs) (hn : n ≤ 65536) :
  Calls Tryz.prog 104 #[.slice A n c] w (HeadSays w (decHead bs) 2) := by
 have hlen := hi.len
 rw [bvs_length] at hlen
 have HI := hH hi
 have HL := hH hlen
 clear hi hlen
 have hres : Tryz.f104.results = #[.cell 2 143, .tmp 3] := by kernel_rfl
 have HRES := hH hres
 clear hres
 by_cases hst : bs.length = 64 ∧ bs[0]? = some 75 ∧ bs[1]? = some 72
 case neg =>
  have HNO := hH (decHead_signs hst)
  have HD0 : Hid (decide (bs.length = 64 ∧ bs[0]? = some 75 ∧ bs[1]? = some 72) = false) := hH (decide_eq_false hst)
  clear hst
  go_enter Tryz.func104, Tryz.ntmps104
  go_wp2_with fail
  refine (ref_starts_any A n c bs 64 75 72 64 75 72 _ (by exact (HI.out.alloc _).alloc _) rfl rfl rfl (by decide)).mono ?_
  rintro e w' ⟨rfl, rfl⟩
  rw [HD0.out]
  go_wp2
  (try simp only [Exit.inBlock, Exit.then])
  refine bodyPost_ret (v := .tuple #[.agg #[.int .i64 0, .int .i64 0, .int .i64 0, .int .i64 0], .int .i64 2]) ?_ rfl ?_
  ·simp only [results, HRES.out]
   go_simp
  rw [HNO.out]
  exact ⟨rfl, by first | exact ((Only.refl _ _).alloc _).alloc _ | exact ((((((Only.refl [] w).alloc _).alloc _).set (.inr (by simp)) _).set (.inr (by simp)) _).set (.inr (by simp)) _).set (.inr (by simp)) _ | exact (((((((Only.refl [] w).alloc _).alloc _).set (.inr (by simp)) _).set (.inr (by simp)) _).set (.inr (by simp)) _).set (.inr (by simp)) _).set (.inr (by simp)) _⟩
 have h64 : n = 64 := by rw [← HL.out]; exact hst.1
 subst h64
 have HD0 : Hid (decide (bs.length = 64 ∧ bs[0]? = some 75 ∧ bs[1]? = some 72) = true) := hH (decide_eq_true hst)
 clear hst
 go_enter Tryz.func104, Tryz.ntmps104
 go_wp2_with fail
 refine (ref_starts_any A 64 c bs 64 75 72 64 75 72 _ (by exact (HI.out.alloc _).alloc _) rfl rfl rfl (by decide)).mono ?_
 rintro e w' ⟨rfl, rfl⟩
 rw [HD0.out]
 have HRC : Hid (Kn.Own ((w.alloc (.cells #[.int .i64 0, .int .i64 0, .int .i64 0, .int .i64 0] 143)).alloc (.cells #[.int .i64 0, .int .i64 0, .int .i64 0, .int .i64 0] 143)) w.heap.size [.int .i64 0, .int .i64 0, .int .i64 0, .int .i64 0]) := hH ((Own.new w #[.int .i64 0, .int .i64 0, .int .i64 0, .int .i64 0] 143).alloc (.cells #[.int .i64 0, .int .i64 0, .int .i64 0, .int .i64 0] 143))
 have HF0 := hH (Own.new (w.alloc (.cells #[.int .i64 0, .int .i64 0, .int .i64 0, .int .i64 0] 143)) #[.int .i64 0, .int .i64 0, .int .i64 0, .int .i64 0] 143)
 have HO0 := hH (((Only.refl [] w).alloc (.cells #[.int .i64 0, .int .i64 0, .int .i64 0, .int .i64 0] 143)).alloc (.cells #[.int .i64 0, .int .i64 0, .int .i64 0, .int .i64 0] 143))
 have HI0 := hH ((HI.out.alloc (.cells #[.int .i64 0, .int .i64 0, .int .i64 0, .int .i64 0] 143)).alloc (.cells #[.int .i64 0, .int .i64 0, .int .i64 0, .int .i64 0] 143))
 generalize (w.alloc (.cells #[.int .i64 0, .int .i64 0, .int .i64 0, .int .i64 0] 143)).alloc (.cells #[.int .i64 0, .int .i64 0, .int .i64 0, .int .i64 0] 143) = w0 at *
 have hfs : (w.alloc (.cells #[.int .i64 0, .int .i64 0, .int .i64 0, .int .i64 0] 143)).heap.size = w.heap.size + 1 := by simp
 rw [hfs] at HF0
 clear hfs
 go_wp2_with fail
 generalize hf : w.heap.size + 1 = f at HF0 ⊢
 have HFF := hH hf
 clear hf
 refine (ref_from_any A 64 c bs _ HI0.out (by decide)).mono ?_
 rintro e w1 ⟨p, g, rfl, hp, hg, hr, hO⟩
 have HRC1 := hH (HRC.out.keep0 hO)
 have HD := hH (Decs.start HF0.out (by have := HFF.out; omega) HO0.out hp hg hr hO)
 have hfg : f < w0.heap.size := HF0.out.lt
 have hwg : w.heap.size < w0.heap.size := HRC.out.lt
 have hpz := HD.out.row.pz 1
 have hpk := HD.out.row.fk
 have hcz := HD.out.row.lp
 clear hr hO HF0 HRC
 go_wp2_with fail
 have HD1 := hH (HD.out.place (k' := 2) (by rw [HL.out]; decide))
 have HRC2 := hH (HRC1.out.far (p := ⟨p, 1, none⟩) (by show p ≠ w.heap.size; omega) (.int .i64 ((2 : Nat) : Int)))
 have e2 : ((2 : Nat) : Int) = 2 := rfl
 rw [e2] at HD1 HRC2
 clear HD HRC1 hpz hpk hcz e2
 have HD := HD1
 have HRC := HRC2
 clear HD1 HRC2
 refine (ref_num_any p g 2 bs 1 _ (by exact HD.out.row) (by decide) (by rw [HL.out]; decide)).mono ?_
 rintro e v0 ⟨rfl, hr, hO⟩
 have hn := HD.out.got hr hO
 have hrc := HRC.out.keep hO (by simp; omega)
 generalize hx : ((num ((bs.drop 2).take 1) : Nat) : Int) = x0 at *
 have HX0 : Hid (x0 = rd bs 2 1) := hH hx.symm
 have q0 := hn.box.cell 0 (by simp)
 have z0 := hn.box.frozen 0
 simp only [g0, gs] at q0
 have hm := hn.put 0 (.int .i64 x0)
 simp only [List.set_cons_zero, List.set_cons_succ] at hm
 have HD1 := hH hm
 have HRC1 := hH (hrc.far (p := ⟨f, 0, none⟩) (by have := HFF.out; show f ≠ w.heap.size; omega) (.int .i64 x0))
 clear hr hO hx hn hm HD HRC hrc
 have HD := HD1
 have HRC := HRC1
 clear HD1 HRC1
 go_wp2_with fail
 clear q0 z0
 refine (ref_num_any p g 3 bs 4 _ (by exact HD.out.row) (by decide) (by rw [HL.out]; decide)).mono ?_
 rintro e v1 ⟨rfl, hr, hO⟩
 have hn := HD.out.got hr hO
 have hrc := HRC.out.keep hO (by simp; omega)
 generalize hx : ((num ((bs.drop 3).take 4) : Nat) : Int) = x1 at *
 have HX1 : Hid (x1 = rd bs 3 4) := hH hx.symm
 have q0 := hn.box.cell 1 (by simp)
 have z0 := hn.box.frozen 1
 simp only [g0, gs] at q0
 have hm := hn.put 1 (.int .i64 x1)
 simp only [List.set_cons_zero, List.set_cons_succ] at hm
 have HD1 := hH hm
 have HRC1 := hH (hrc.far (p := ⟨f, 1, none⟩) (by have := HFF.out; show f ≠ w.heap.size; omega) (.int .i64 x1))
 clear hr hO hx hn hm HD HRC hrc
 have HD := HD1
 have HRC := HRC1
 clear HD1 HRC1
 go_wp2_with fail
 clear q0 z0
 refine (ref_num_any p g 7 bs 4 _ (by exact HD.out.row) (by decide) (by rw [HL.out]; decide)).mono ?_
 rintro e v2 ⟨rfl, hr, hO⟩
 have hn := HD.out.got hr hO
 have hrc := HRC.out.keep hO (by simp; omega)
 generalize hx : ((num ((bs.drop 7).take 4) : Nat) : Int) = x2 at *
 have HX2 : Hid (x2 = rd bs 7 4) := hH hx.symm
 have q0 := hn.box.cell 2 (by simp)
 have z0 := hn.box.frozen 2
 simp only [g0, gs] at q0
 have hm := hn.put 2 (.int .i64 x2)
 simp only [List.set_cons_zero, List.set_cons_succ] at hm
 have HD1 := hH hm
 have HRC1 := hH (hrc.far (p := ⟨f, 2, none⟩) (by have := HFF.out; show f ≠ w.heap.size; omega) (.int .i64 x2))
 clear hr hO hx hn hm HD HRC hrc
 have HD := HD1
 have HRC := HRC1
 clear HD1 HRC1
 go_wp2_with fail
 clear q0 z0
 refine (ref_num_any p g 11 bs 4 _ (by exact HD.out.row) (by decide) (by rw [HL.out]; decide)).mono ?_
 rintro e v3 ⟨rfl, hr, hO⟩
 have hn := HD.out.got hr hO
 have hrc := HRC.out.keep hO (by simp; omega)
 generalize hx : ((num ((bs.drop 11).take 4) : Nat) : Int) = x3 at *
 have HX3 : Hid (x3 = rd bs 11 4) := hH hx.symm
 have q0 := hn.box.cell 3 (by simp)
 have z0 := hn.box.frozen 3
 simp only [g0, gs] at q0
 have hm := hn.put 3 (.int .i64 x3)
 simp only [List.set_cons_zero, List.set_cons_succ] at hm
 have HD1 := hH hm
 have HRC1 := hH (hrc.far (p := ⟨f, 3, none⟩) (by have := HFF.out; show f ≠ w.heap.size; omega) (.int .i64 x3))
 clear hr hO hx hn hm HD HRC hrc
 have HD := HD1
 have HRC := HRC1
 clear HD1 HRC1
 generalize hwl : v3.setCell ⟨f, 3, none⟩ (.int .i64 x3) = wl at *
 obtain ⟨y0, y1, y2, y3⟩ := Kn.own4 HD.out.box
 go_wp2_with fail
 clear hwl
 have HDS : Hid ((if encHead ⟨x0, x1, x2, x3⟩ = some bs then some ⟨x0, x1, x2, x3⟩ else none) = decHead bs) := hH (by
  have e : (⟨x0, x1, x2, x3⟩ : It) = headOf bs := by
   unfold headOf
   rw [HX0.out, HX1.out, HX2.out, HX3.out]
  rw [e]
  rfl)
 clear q0 z0 HX0 HX1 HX2 HX3
 refine (ref_head_enc_any x0 x1 x2 x3 _).mono ?_
 rintro e w8 ⟨A3, c3, rfl, hb3, _, hO3⟩
 have HB := hH (HI.out.keep0 (HD.out.only.trans' hO3))
 have HD3 := hH (HD.out.keep hO3)
 have HRC3 := hH (HRC.out.keep0 hO3)
 clear hO3 HD y0 y1 y2 y3 HRC
 have HSB : Hid (w.heap.size ≤ w.heap.size) := hH (Nat.le_refl _)
 cases hen : encHead ⟨x0, x1, x2, x3⟩ with
 | none =>
  have HNO : Hid (decHead bs = none) := hH (by rw [← HDS.out, hen]; rfl)
  rw [hen] at hb3
  clear hb3 hen HDS
  obtain ⟨y0, y1, y2, y3⟩ := Kn.own4 HD3.out.box
  obtain ⟨r0, r1, r2, r3⟩ := Kn.own4 HRC3.out
  have z0 := HRC3.out.frozen 0
  have z1 := HRC3.out.frozen 1
  have z2 := HRC3.out.frozen 2
  have z3 := HRC3.out.frozen 3
  simp only [Option.getD_none, Option.isSome_none, List.length_nil]
  go_wp2
  (try simp only [Exit.inBlock, Exit.then])
  refine bodyPost_ret (v := .tuple #[.agg #[.int .i64 0, .int .i64 0, .int .i64 0, .int .i64 0], .int .i64 2]) ?_ rfl ?_
  ·simp only [results, HRES.out]
   go_simp
  rw [HNO.out]
  exact ⟨rfl, ((((HD3.out.only.set (.inr HSB.out) _).set (.inr HSB.out) _).set (.inr HSB.out) _).set (.inr HSB.out) _)⟩
 | some ys =>
  rw [hen] at hb3
  simp only [Option.getD_some] at hb3
  have HB3 := hH hb3
  have HEN := hH hen
  clear hb3 hen
  simp only [Option.getD_some, Option.isSome_some, if_true]
  go_wp2_with fail
  refine (equal_any A3 ys.length c3 ys A 64 c bs _ (by exact HB3.out) (by exact HB.out)).mono ?_
  rintro e w9 ⟨rfl, k9, rfl⟩
  have HD4 := hH (HD3.out.keep ((Only.refl _ _).drewN k9))
  have HRC4 := hH (HRC3.out.drewN k9)
  generalize w8.drewN k9 = w10 at *
  clear HD3 HRC3
  have HD3 := HD4
  have HRC3 := HRC4
  clear HD4 HRC4
  by_cases hyb : ys = bs
  ·have hd : decide (ys = bs) = true := by simp [hyb]
   have HYES : Hid (decHead bs = some ⟨x0, x1, x2, x3⟩) := hH (by rw [← HDS.out, HEN.out, hyb, if_pos rfl])
   rw [hd]
   clear hd hyb HEN HDS
   obtain ⟨y0, y1, y2, y3⟩ := Kn.own4 HD3.out.box
   obtain ⟨r0, r1, r2, r3⟩ := Kn.own4 HRC3.out
   have z0 := HRC3.out.frozen 0
   have z1 := HRC3.out.frozen 1
   have z2 := HRC3.out.frozen 2
   have z3 := HRC3.out.frozen 3
   go_wp2
   (try simp only [Exit.inBlock, Exit.then])
   refine bodyPost_ret (v := .tuple #[.agg #[.int .i64 x0, .int .i64 x1, .int .i64 x2, .int .i64 x3], .int .i64 0]) ?_ rfl ?_
   ·simp only [results, HRES.out]
    go_simp
   rw [HYES.out]
   exact ⟨rfl, ((((HD3.out.only.set (.inr HSB.out) _).set (.inr HSB.out) _).set (.inr HSB.out) _).set (.inr HSB.out) _)⟩
  have hd : decide (ys = bs) = false := by simp [hyb]
  have HYES : Hid (decHead bs = none) := hH (by rw [← HDS.out, HEN.out, if_neg (by intro h; injection h with h; exact hyb h)])
  rw [hd]
  clear hd hyb HEN HDS
  obtain ⟨y0, y1, y2, y3⟩ := Kn.own4 HD3.out.box
  obtain ⟨r0, r1, r2, r3⟩ := Kn.own4 HRC3.out
  have z0 := HRC3.out.frozen 0
  have z1 := HRC3.out.frozen 1
  have z2 := HRC3.out.frozen 2
  have z3 := HRC3.out.frozen 3
  go_wp2
  (try simp only [Exit.inBlock, Exit.then])
  refine bodyPost_ret (v := .tuple #[.agg #[.int .i64 0, .int .i64 0, .int .i64 0, .int .i64 0], .int .i64 2]) ?_ rfl ?_
  ·simp only [results, HRES.out]
   go_simp
  rw [HYES.out]
  exact ⟨rfl, ((((HD3.out.only.set (.inr HSB.out) _).set (.inr HSB.out) _).set (.inr HSB.out) _).set (.inr HSB.out) _)⟩
end Go.Proofs.YtgcfdjcpcclcjaaGreat
namespace Go.Kn
open Go Go.RowKit
/-- does what was read fit a place -/
def headFits (o : Option It) (s l pv m : Int) : Bool := match o with
 | none => false
 | some h => (h.k == s) && (h.c == l) && (h.v == pv) && decide (m ≤ h.b)
end Go.Kn
namespace Go.Proofs.YtgcfdjcpcclcjaaGreat
open Go Go.RowKit Go.Kn
theorem head_fits_any (A : Option Addr) (n c : Nat) (bs : List UInt8) (s off l pv m : Int) (w : World) (hi : Bys w A n c bs) (hn : n ≤ 65536) :
  Calls Tryz.prog 185 #[.slice A n c, .agg #[.int .i64 s, .int .i64 off, .int .i64 l, .int .i64 pv, .int .i64 m]] w fun e w' => e = .returned (.bool (headFits (decHead bs) s l pv m)) ∧ Only [] w w' := by
 have HI := hH hi
 clear hi
 go_enter Tryz.func185, Tryz.ntmps185
 go_wp2_with fail
 refine (head_dec_any A n c bs _ (by exact HI.out.alloc _) hn).mono ?_
 rintro e w1 ⟨rfl, hO1⟩
 have p0 := hO1.cell (p := ⟨w.heap.size, 0, none⟩) (v := .int .i64 s) (by simp) (by simp)
 have p2 := hO1.cell (p := ⟨w.heap.size, 2, none⟩) (v := .int .i64 l) (by simp) (by simp)
 have p3 := hO1.cell (p := ⟨w.heap.size, 3, none⟩) (v := .int .i64 pv) (by simp) (by simp)
 have p4 := hO1.cell (p := ⟨w.heap.size, 4, none⟩) (v := .int .i64 m) (by simp) (by simp)
 have hsz : w.heap.size < w1.heap.size := by have := hO1.size; simp at this; omega
 have HO1 := hH (((Only.refl [] w).alloc (.cells #[.int .i64 s, .int .i64 off, .int .i64 l, .int .i64 pv, .int .i64 m] 32)).trans' hO1)
 clear hO1
 cases hd : decHead bs with
 | none =>
  have HD := hH hd
  clear hd
  simp only [Option.getD_none, Option.isSome_none, It.vals]
  go_wp2
  go_ret
  exact ⟨by rw [HD.out]; rfl, HO1.out.alloc _⟩
 | some h =>
  obtain ⟨hk, hb, hc, hv⟩ := h
  have HD := hH hd
  clear hd
  simp only [Option.getD_some, Option.isSome_some, It.vals, if_true]
  go_wp2
  all_goals (go_ret; exact ⟨by rw [HD.out]; simp [headFits, *], HO1.out.alloc _⟩)
theorem ref_head_fits_any (A : Option Addr) (n c : Nat) (bs : List UInt8) (s off l pv m : Int) (w : World) (hi : Bys w A n c bs) (hn : n ≤ 65536) :
  Calls Tryz.prog 103 #[.slice A n c, .agg #[.int .i64 s, .int .i64 off, .int .i64 l, .int .i64 pv, .int .i64 m]] w fun e w' => e = .returned (.bool (headFits (decHead bs) s l pv m)) ∧ Only [] w w' := by
 have HI := hH hi
 clear hi
 go_enter Tryz.func103, Tryz.ntmps103
 go_wp2_with fail
 refine (ref_head_dec_any A n c bs _ (by exact HI.out.alloc _) hn).mono ?_
 rintro e w1 ⟨rfl, hO1⟩
 have p0 := hO1.cell (p := ⟨w.heap.size, 0, none⟩) (v := .int .i64 s) (by simp) (by simp)
 have p2 := hO1.cell (p := ⟨w.heap.size, 2, none⟩) (v := .int .i64 l) (by simp) (by simp)
 have p3 := hO1.cell (p := ⟨w.heap.size, 3, none⟩) (v := .int .i64 pv) (by simp) (by simp)
 have p4 := hO1.cell (p := ⟨w.heap.size, 4, none⟩) (v := .int .i64 m) (by simp) (by simp)
 have hsz : w.heap.size < w1.heap.size := by have := hO1.size; simp at this; omega
 have HO1 := hH (((Only.refl [] w).alloc (.cells #[.int .i64 s, .int .i64 off, .int .i64 l, .int .i64 pv, .int .i64 m] 32)).trans' hO1)
 clear hO1
 cases hd : decHead bs with
 | none =>
  have HD := hH hd
  clear hd
  simp only [Option.getD_none, Option.isSome_none, It.vals]
  go_wp2
  go_ret
  exact ⟨by rw [HD.out]; rfl, HO1.out.alloc _⟩
 | some h =>
  obtain ⟨hk, hb, hc, hv⟩ := h
  have HD := hH hd
  clear hd
  simp only [Option.getD_some, Option.isSome_some, It.vals, if_true]
  go_wp2
  all_goals (go_ret; exact ⟨by rw [HD.out]; simp [headFits, *], HO1.out.alloc _⟩)
end Go.Proofs.YtgcfdjcpcclcjaaGreat
namespace Go.Kn
open Go Go.RowKit
structure Ps where
 s : Int
 o : Int
 l : Int
 p : Int
 m : Int
def Ps.vals (p : Ps) : List Value := [.int .i64 p.s, .int .i64 p.o, .int .i64 p.l, .int .i64 p.p, .int .i64 p.m]
structure Cf where
 b : Int
 s : Int
 l : Int
abbrev Cf.Ok (c : Cf) : Prop := CfOk c.b c.s c.l
/-- where a segment begins -/
def Cf.at_ (c : Cf) (k : Int) : Int := if 0 ≤ k ∧ k ≤ c.s - 1 then 2 + 2 * rln c.s + 4 * pgs c.b + k * c.l else -1
def Cf.sectors (c : Cf) : Int := 2 + 2 * rln c.s + 4 * pgs c.b + c.s * c.l
/-- so many sectors from one on, and the first error -/
def gat (d : Dk) (a : Int) (n : Nat) : List UInt8 := (List.range n).flatMap fun i => d.read (a + (i : Nat))
def gerr (d : Dk) (a : Int) : Nat → Int
 | 0 => 0
 | n + 1 => if gerr d a n = 0 then d.err (a + n) else gerr d a n
theorem gat_succ (d : Dk) (a : Int) (n : Nat) : gat d a (n + 1) = gat d a n ++ d.read (a + (n : Nat)) := by simp [gat, List.range_succ]
theorem gat_one (d : Dk) (a : Int) : gat d a 1 = d.read a := by simp [gat]
theorem gerr_one (d : Dk) (a : Int) : gerr d a 1 = d.err a := by simp [gerr]
theorem gerr_succ (d : Dk) (a : Int) (n : Nat) : gerr d a (n + 1) = if gerr d a n = 0 then d.err (a + (n : Nat)) else gerr d a n := rfl
theorem gerr_le {d : Dk} {a : Int} {n m : Nat} (h : gerr d a n = 0) (hm : m ≤ n) : gerr d a m = 0 := by
  induction n with
  | zero => obtain rfl : m = 0 := by omega
            rfl
  | succ n ih =>
    rw [gerr_succ] at h
    split at h
    · rename_i h0
      rcases Nat.lt_or_ge n m with h2 | h2
      · obtain rfl : m = n + 1 := by omega
        rw [gerr_succ, if_pos h0]; exact h
      exact ih h0 h2
    rename_i h0; exact absurd h h0
theorem gerr_stop {d : Dk} {a : Int} {n m : Nat} (h : gerr d a m ≠ 0) (hm : m ≤ n) : gerr d a n = gerr d a m := by
  induction n with
  | zero => obtain rfl : m = 0 := by omega
            rfl
  | succ n ih =>
    rcases Nat.lt_or_ge n m with h2 | h2
    · obtain rfl : m = n + 1 := by omega
      rfl
    have := ih h2
    rw [gerr_succ, if_neg (by rw [this]; exact h), this]
theorem gat_len {d : Dk} (hd : d.Ok) {a : Int} : ∀ n, gerr d a n = 0 → (gat d a n).length = 64 * n
 | 0, _ => rfl
 | n + 1, h => by
  have h0 := gerr_le h (Nat.le_succ n)
  rw [gerr_succ, if_pos h0] at h
  rw [gat_succ, List.length_append, gat_len hd n h0, Dk.read_64 hd h]
  omega
/-- the segment that a record tells -/
def nextOf (r : Rc) : Option Int := (r.its.find? fun i => i.k == 7).map (·.v)
/-- the record that follows a place, and the place behind it; the error -/
def follow (d : Dk) (c : Cf) (p : Ps) : Option (Rc × Ps) × Int :=
 if 1 ≤ p.o ∧ p.o ≤ c.l - 1 then
  if d.err (c.at_ p.s + p.o) = 0 then
   if sizeRc (d.read (c.at_ p.s + p.o)) = 0 ∨ c.l < p.o + (sizeRc (d.read (c.at_ p.s + p.o)) : Nat) then (none, 0)
   else if gerr d (c.at_ p.s + p.o) (sizeRc (d.read (c.at_ p.s + p.o))) = 0 then
    match decRc (gat d (c.at_ p.s + p.o) (sizeRc (d.read (c.at_ p.s + p.o)))) with
    | none => (none, 0)
    | some (r, sum) => if r.n = p.l ∧ r.p = p.p ∧ p.m ≤ r.m then (some (r, ⟨p.s, p.o + (sizeRc (d.read (c.at_ p.s + p.o)) : Nat), p.l + 1, (sum : Nat), r.m⟩), 0) else (none, 0)
   else (none, gerr d (c.at_ p.s + p.o) (sizeRc (d.read (c.at_ p.s + p.o))))
  else (none, d.err (c.at_ p.s + p.o))
 else (none, 0)
/-- gone through from a place on: what is told, the place behind it, the error -/
def scanG (d : Dk) (c : Cf) : Nat → Ps → List (Ps × Rc) × Ps × Int
 | 0, p => ([], p, 0)
 | k + 1, p => match follow d c p with
  | (none, e) => ([], p, e)
  | (some (r, q), _) => if (nextOf r).isSome then ([(p, r)], q, 0) else ((p, r) :: (scanG d c k q).1, (scanG d c k q).2)
/-- where it begins; does it; the error -/
def scanB (d : Dk) (c : Cf) (own : Bool) (p : Ps) : Ps × Bool × Int :=
 if (0 ≤ p.s ∧ p.s ≤ c.s - 1) ∧ 0 ≤ p.o ∧ p.o < c.l then
  if 0 < p.o then (p, true, 0)
  else if d.err (c.at_ p.s) = 0 then
   match decHead (d.read (c.at_ p.s)) with
   | none => (p, false, 0)
   | some h => if (own || headFits (some h) p.s p.l p.p p.m) = true then (⟨p.s, 1, h.c, h.v, h.b⟩, true, 0) else (p, false, 0)
  else (p, false, d.err (c.at_ p.s))
 else (p, false, 0)
def scanR (d : Dk) (c : Cf) (own : Bool) (p : Ps) : List (Ps × Rc) × Ps × Int :=
 if (scanB d c own p).2.1 then scanG d c 65 (scanB d c own p).1 else ([], (scanB d c own p).1, (scanB d c own p).2.2)
end Go.Kn
namespace Go.Kn
open Go Go.RowKit
def Cf.vals (c : Cf) : Array Value := #[.int .i64 c.b, .int .i64 c.s, .int .i64 c.l]
theorem Cf.prod (c : Cf) (h : c.Ok) (k : Int) (h0 : 0 ≤ k) (h1 : k ≤ c.s) : 0 ≤ k * c.l ∧ k * c.l ≤ 2048 := by
 obtain ⟨_, hs, hl⟩ := h
 refine ⟨Int.mul_nonneg h0 (by omega), ?_⟩
 have := Int.mul_le_mul (show k ≤ 32 by omega) (show c.l ≤ 64 by omega) (by omega) (by omega)
 omega
end Go.Kn
namespace Go.Proofs.YtgcfdjcpcclcjaaGreat
open Go Go.RowKit Go.Kn
theorem geom_segs_any (p : Nat) (b s l : Int) (w : World) (hg : GeoAt w p b s l) (hb : CfOk b s l) :
  Calls Tryz.prog 82 #[.pointer (some ⟨p, 0, none⟩)] w fun e w' => e = .returned (.int .i64 (2 + 2 * rln s + 4 * pgs b)) ∧ Only [] w w' := by
 have HG := hH hg
 have HB := hH hb
 have h1 := rln_bounds hb
 have h2 := pgs_bounds hb
 have hw1 := IntWalk.i64_in (2 * pgs b) (by omega)
 have hw2 := IntWalk.i64_in (rln s + 2 * pgs b) (by omega)
 have hw3 := IntWalk.i64_in (2 * (rln s + 2 * pgs b)) (by omega)
 have hw4 := IntWalk.i64_in (2 + 2 * (rln s + 2 * pgs b)) (by omega)
 obtain ⟨r1, r2, r3⟩ := h1
 obtain ⟨g1, g2⟩ := h2
 clear hg hb r3
 go_enter Tryz.func82, Tryz.ntmps82
 go_wp2_with fail
 refine (geom_rlen_any p b s l _ HG.out HB.out).mono ?_
 rintro e w1 ⟨rfl, rfl⟩
 go_wp2_with fail
 refine (geom_pages_any p b s l _ HG.out HB.out).mono ?_
 rintro e w2 ⟨rfl, hO⟩
 have HO := hH hO
 clear hO
 have he : 2 + 2 * (rln s + 2 * pgs b) = 2 + 2 * rln s + 4 * pgs b := by omega
 have HE := hH he
 clear he
 go_wp2
 go_ret
 exact ⟨by rw [HE.out]; rfl, HO.out⟩
theorem geom_seg_any (p : Nat) (c : Cf) (k : Int) (w : World) (hg : GeoAt w p c.b c.s c.l) (hb : c.Ok) :
  Calls Tryz.prog 22 #[.pointer (some ⟨p, 0, none⟩), .int .i64 k] w fun e w' => e = .returned (.int .i64 (c.at_ k)) ∧ Only [] w w' := by
 have HG := hH hg
 have HB := hH hb
 by_cases hk : 0 ≤ k ∧ k ≤ c.s - 1
 ·have e : c.at_ k = 2 + 2 * rln c.s + 4 * pgs c.b + k * c.l := by unfold Cf.at_; rw [if_pos hk]
  rw [e]
  obtain ⟨m1, m2⟩ := Cf.prod c hb k hk.1 (by omega)
  have h1 := rln_bounds hb
  have h2 := pgs_bounds hb
  have hq : 2 ≤ 2 + 2 * rln c.s + 4 * pgs c.b ∧ 2 + 2 * rln c.s + 4 * pgs c.b ≤ 30 := by omega
  have HK := hH (decide_eq_true hk)
  have hw1 := IntWalk.i64_in (k * c.l) (by omega)
  have hw2 := IntWalk.i64_in (2 + 2 * rln c.s + 4 * pgs c.b + k * c.l) (by omega)
  obtain ⟨Q, hQ⟩ : ∃ q, 2 + 2 * rln c.s + 4 * pgs c.b = q := ⟨_, rfl⟩
  rw [hQ] at hw2 hq ⊢
  have HQ := hH hQ
  obtain ⟨hq1, hq2⟩ := hq
  clear hg hb h1 h2 hk e hQ
  go_enter Tryz.func22, Tryz.ntmps22
  go_wp2_with fail
  refine (geom_has_any p c.b c.s c.l k _ HG.out HB.out).mono ?_
  rintro e w1 ⟨rfl, rfl⟩
  rw [HK.out]
  go_wp2_with fail
  have HG7 := hH (HG.out.keep0 (Only.refl [] w).drew)
  have HO7 := hH (Only.refl [] w).drew
  refine wp_region_held_drew (S := fun w' => w'.cell? ⟨p, 2, none⟩ = some (.int .i64 c.l)) (by kernel_rfl) HG7.out.c2 (fun hSw0 => ?_)
  generalize w.drew = ws at *
  refine tS 0 9 ?_
  refine tS 2 11 ?_
  refine tS 3 12 ?_
  refine tS 4 13 ?_
  refine tS 5 14 ?_
  refine tS 6 15 ?_
  refine tS 7 16 ?_
  refine tS 8 17 ?_
  refine tR 1 10 fun K hK => ?_
  go_simp
  refine (geom_segs_any p c.b c.s c.l _ HG7.out HB.out).mono ?_
  rintro e w2 ⟨rfl, hO⟩
  rw [HQ.out]
  have HO8 := hH (HO7.out.trans' hO)
  have HG8 := hH (HG7.out.keep0 hO)
  clear hO
  refine hK.out _ _ HG8.out.c2 (fun hSn => ?_)
  clear hK K hSw0
  have hSw0 := hSn
  clear hSn
  refine tS 9 18 ?_
  refine tS 10 4 ?_
  refine tD ?_ _
  clear hSw0
  go_wp2
  go_ret
  exact ⟨rfl, HO8.out⟩
 have e : c.at_ k = -1 := by unfold Cf.at_; rw [if_neg hk]
 rw [e]
 have HK := hH (decide_eq_false hk)
 clear hg hb hk e
 go_enter Tryz.func22, Tryz.ntmps22
 go_wp2_with fail
 refine (geom_has_any p c.b c.s c.l k _ HG.out HB.out).mono ?_
 rintro e w1 ⟨rfl, rfl⟩
 rw [HK.out]
 go_wp2
 go_ret
 exact ⟨rfl, Only.refl _ _⟩
theorem ref_segat_any (c : Cf) (k : Int) (w : World) (hb : c.Ok) :
  Calls Tryz.prog 32 #[.agg #[.int .i64 c.b, .int .i64 c.s, .int .i64 c.l], .int .i64 k] w fun e w' => e = .returned (.int .i64 (c.at_ k)) ∧ Only [] w w' := by
 have HB := hH hb
 have hss : 8 ≤ c.s ∧ c.s ≤ 32 := hb.2.1
 have hw0 := IntWalk.i64_in (c.s - 1) (by omega)
 obtain ⟨hs1, hs2⟩ := hss
 by_cases hk : 0 ≤ k ∧ k ≤ c.s - 1
 ·have e : c.at_ k = 2 + 2 * rln c.s + 4 * pgs c.b + k * c.l := by unfold Cf.at_; rw [if_pos hk]
  rw [e]
  obtain ⟨m1, m2⟩ := Cf.prod c hb k hk.1 (by omega)
  have h1 := rln_bounds hb
  have h2 := pgs_bounds hb
  have HK := hH (decide_eq_true hk)
  have hx1 := IntWalk.i64_in (2 * rln c.s) (by omega)
  have hx2 := IntWalk.i64_in (2 + 2 * rln c.s) (by omega)
  have hx3 := IntWalk.i64_in (4 * pgs c.b) (by omega)
  have hx4 := IntWalk.i64_in (2 + 2 * rln c.s + 4 * pgs c.b) (by omega)
  have hw1 := IntWalk.i64_in (k * c.l) (by omega)
  have hw2 := IntWalk.i64_in (2 + 2 * rln c.s + 4 * pgs c.b + k * c.l) (by omega)
  clear hb h1 h2 hk e
  go_enter Tryz.func32, Tryz.ntmps32
  have ho0 := Own.new w #[.int .i64 c.b, .int .i64 c.s, .int .i64 c.l] 25
  have HX0 := hH ho0
  have HO0 := hH ((Only.refl [] w).alloc (.cells #[.int .i64 c.b, .int .i64 c.s, .int .i64 c.l] 25))
  clear ho0
  go_wp2_with fail
  generalize w.alloc (.cells #[.int .i64 c.b, .int .i64 c.s, .int .i64 c.l] 25) = wa at *
  generalize w.heap.size = fb at *
  refine (within_any k 0 (c.s - 1) _).mono ?_
  rintro e w1 ⟨rfl, rfl⟩
  rw [HK.out]
  go_wp2_with fail
  have HX7 := hH HX0.out.drew
  have HO7 := hH HO0.out.drew
  refine wp_region_held_drew (S := fun w' => w'.cell? ⟨fb, 0, none⟩ = some (.int .i64 c.b) ∧ w'.cell? ⟨fb, 1, none⟩ = some (.int .i64 c.s) ∧ w'.cell? ⟨fb, 2, none⟩ = some (.int .i64 c.l)) (by kernel_rfl) ⟨HX7.out.cell 0 (by simp), HX7.out.cell 1 (by simp), HX7.out.cell 2 (by simp)⟩ (fun hSw0 => ?_)
  generalize wa.drew = ws at *
  refine tS 0 11 ?_
  refine tS 4 15 ?_
  refine tS 8 19 ?_
  refine tS 9 20 ?_
  refine tS 10 21 ?_
  refine tS 11 22 ?_
  refine tR 1 12 fun K hK => ?_
  go_simp
  refine (ref_rlen_any c.b c.s c.l _ HB.out).mono ?_
  rintro e w9 ⟨rfl, hO⟩
  have HO8 := hH (HO7.out.trans' hO)
  have HX8 := hH (HX7.out.keep0 hO)
  clear hO
  refine hK.out _ _ ⟨HX8.out.cell 0 (by simp), HX8.out.cell 1 (by simp), HX8.out.cell 2 (by simp)⟩ (fun hSn => ?_)
  clear hK K hSw0
  have hSw0 := hSn
  clear hSn
  refine tS 2 13 ?_
  refine tS 3 14 ?_
  refine tR 5 16 fun K hK => ?_
  go_simp
  refine (ref_pages_any c.b c.s c.l _ HB.out).mono ?_
  rintro e w10 ⟨rfl, hO⟩
  have HO9 := hH (HO8.out.trans' hO)
  have HX9 := hH (HX8.out.keep0 hO)
  clear hO
  refine hK.out _ _ ⟨HX9.out.cell 0 (by simp), HX9.out.cell 1 (by simp), HX9.out.cell 2 (by simp)⟩ (fun hSn => ?_)
  clear hK K hSw0
  have hSw0 := hSn
  clear hSn
  refine tS 6 17 ?_
  refine tS 7 18 ?_
  refine tS 12 23 ?_
  refine tS 13 4 ?_
  refine tD ?_ _
  clear hSw0
  go_wp2
  go_ret
  exact ⟨rfl, HO9.out⟩
 have e : c.at_ k = -1 := by unfold Cf.at_; rw [if_neg hk]
 rw [e]
 have HK := hH (decide_eq_false hk)
 clear hb hk e
 go_enter Tryz.func32, Tryz.ntmps32
 go_wp2_with fail
 refine (within_any k 0 (c.s - 1) _).mono ?_
 rintro e w1 ⟨rfl, rfl⟩
 rw [HK.out]
 go_wp2
 go_ret
 exact ⟨rfl, (Only.refl _ _).alloc _⟩
theorem Cf.at0 (c : Cf) (h : c.Ok) : c.at_ 0 = 2 + 2 * rln c.s + 4 * pgs c.b := by
 unfold Cf.at_
 obtain ⟨_, hs, hl⟩ := h
 rw [if_pos (by omega)]
 omega
theorem ref_sectors_any (c : Cf) (w : World) (hb : c.Ok) :
  Calls Tryz.prog 77 #[.agg #[.int .i64 c.b, .int .i64 c.s, .int .i64 c.l]] w fun e w' => e = .returned (.int .i64 c.sectors) ∧ Only [] w w' := by
 have HB := hH hb
 have hss : 8 ≤ c.s ∧ c.s ≤ 32 := hb.2.1
 obtain ⟨m1, m2⟩ := Cf.prod c hb c.s (by omega) (by omega)
 have h1 := rln_bounds hb
 have h2 := pgs_bounds hb
 have h3 := Cf.at0 c hb
 have hw1 := IntWalk.i64_in (c.s * c.l) (by omega)
 have hw2 := IntWalk.i64_in (c.at_ 0 + c.s * c.l) (by omega)
 have hE : c.sectors = c.at_ 0 + c.s * c.l := by rw [h3]; rfl
 have HE := hH hE
 obtain ⟨Q, hQ⟩ : ∃ q, c.at_ 0 = q := ⟨_, rfl⟩
 rw [hQ] at hw2 HE
 have hqb : 2 ≤ Q ∧ Q ≤ 30 := by omega
 have HQ := hH hQ
 obtain ⟨hq1, hq2⟩ := hqb
 clear hb h1 h2 h3 hE hss hQ
 go_enter Tryz.func77, Tryz.ntmps77
 have ho0 := Own.new w #[.int .i64 c.b, .int .i64 c.s, .int .i64 c.l] 25
 have HX0 := hH ho0
 have HO0 := hH ((Only.refl [] w).alloc (.cells #[.int .i64 c.b, .int .i64 c.s, .int .i64 c.l] 25))
 clear ho0
 go_wp2_with fail
 generalize w.alloc (.cells #[.int .i64 c.b, .int .i64 c.s, .int .i64 c.l] 25) = wa at *
 generalize w.heap.size = fb at *
 have HX7 := hH HX0.out.drew
 have HO7 := hH HO0.out.drew
 refine wp_region_held_drew (S := fun w' => w'.cell? ⟨fb, 0, none⟩ = some (.int .i64 c.b) ∧ w'.cell? ⟨fb, 1, none⟩ = some (.int .i64 c.s) ∧ w'.cell? ⟨fb, 2, none⟩ = some (.int .i64 c.l)) (by kernel_rfl) ⟨HX7.out.cell 0 (by simp), HX7.out.cell 1 (by simp), HX7.out.cell 2 (by simp)⟩ (fun hSw0 => ?_)
 generalize wa.drew = ws at *
 refine tS 0 3 ?_
 refine tS 2 5 ?_
 refine tS 3 6 ?_
 refine tS 4 7 ?_
 refine tS 5 8 ?_
 refine tS 6 9 ?_
 refine tR 1 4 fun K hK => ?_
 go_simp
 refine (ref_segat_any c 0 _ HB.out).mono ?_
 rintro e w9 ⟨rfl, hO⟩
 rw [HQ.out]
 have HO8 := hH (HO7.out.trans' hO)
 have HX8 := hH (HX7.out.keep0 hO)
 clear hO
 refine hK.out _ _ ⟨HX8.out.cell 0 (by simp), HX8.out.cell 1 (by simp), HX8.out.cell 2 (by simp)⟩ (fun hSn => ?_)
 clear hK K hSw0
 have hSw0 := hSn
 clear hSn
 refine tS 7 10 ?_
 refine tS 8 2 ?_
 refine tD ?_ _
 clear hSw0
 go_wp2
 go_ret
 exact ⟨by rw [HE.out]; rfl, HO8.out⟩
end Go.Proofs.YtgcfdjcpcclcjaaGreat
namespace Go.Kn
open Go Go.RowKit
def Ps.head (p : Ps) : It := ⟨p.s, p.m, p.l, p.p⟩
def headB (p : Ps) : List UInt8 := sealed (headRow p.head)
theorem headB_length (p : Ps) : (headB p).length = 64 := sealed_length _ (headRow_length _)
theorem headB_enc {p : Ps} (h : headMay p.head = true) : encHead p.head = some (headB p) := by unfold encHead; rw [if_pos h]; rfl
theorem encOwn_some {w w' : World} {bs : List UInt8} {e : Ending} (h : EncOwn w (some bs) e w') : ∃ g c, e = .returned (.tuple #[.slice (some ⟨g, 0, none⟩) bs.length c, .int .i64 0]) ∧ bs.length ≤ c ∧ c ≤ maxLen ∧ w.heap.size ≤ g ∧ Own w' g (bvs bs) ∧ Only [] w w' := by
 rcases h with ⟨h, _⟩ | ⟨bs', g, c, h, rest⟩
 ·cases h
 injection h with h
 subst h
 exact ⟨g, c, rest⟩
end Go.Kn
namespace Go.Proofs.YtgcfdjcpcclcjaaGreat
open Go Go.RowKit Go.Kn
/-- the frame of both disks comes to the front -/
theorem Duo.fr {w0 w : World} {p : PD} {r : RD} {d e : Dk} {c : Fr3} (h : Duo w0 w p r d e c) : ∃ L0 G0 F0, Wc w0 w (c.L ++ L0) (c.G ++ G0) (c.F ++ F0) ∧ ∀ w' (c' : Fr3), Wc w0 w' (c'.L ++ L0) (c'.G ++ G0) (c'.F ++ F0) → Duo w0 w' p r d e c' := by
 obtain ⟨v, v', lv, k, ls, sl, hs, hl, hm⟩ := h.mem
 have pl : ∀ L, (p.L v d (r.L v' lv sl e L)).Perm (L ++ p.L v d (r.L v' lv sl e [])) := fun L => by
  have := List.perm_append_comm (l₁ := p.L v d (r.L v' lv sl e [])) (l₂ := L)
  simpa [PD.L, RD.L] using this
 have pg : ∀ (a b x : Gs) G, (a :: b :: x :: G).Perm (G ++ [a, b, x]) := fun a b x G => by
  have := List.perm_append_comm (l₁ := [a, b, x]) (l₂ := G)
  simpa using this
 refine ⟨p.L v d (r.L v' lv sl e []), [⟨158, 65, v, d.held.length, heldV d.held⟩, ⟨175, 2, v', e.held.length, heldR e.held hs⟩, ⟨47, 1, lv, k, ls⟩], [(fun W => Bls W sl e.safe), (fun W => Bls W hs (e.held.map (·.2)))], ?_, fun w' c' h' => ?_⟩
 ·refine (hm.perm (pl _) (pg _ _ _ _)).subF ?_
  intro f hf
  rcases List.mem_append.1 hf with hf | hf
  ·exact mc _ (mc _ hf)
  simp only [List.mem_cons, List.not_mem_nil, or_false] at hf ⊢
  rcases hf with hf | hf
  ·exact .inl hf
  exact .inr (.inl hf)
 refine ⟨h.ok, h.N, h.hs, h.hn, h.hf, h.ok', h.N', h.hs', h.hf', v, v', lv, k, ls, sl, hs, hl, (h'.perm (pl _).symm (pg _ _ _ _).symm).subF ?_⟩
 intro f hf
 simp only [List.mem_cons] at hf
 rcases hf with hf | hf | hf
 ·exact List.mem_append.2 (.inr (by simp [hf]))
 ·exact List.mem_append.2 (.inr (by simp [hf]))
 exact List.mem_append.2 (.inl hf)
theorem Duo.addFc {w0 w w' : World} {p : PD} {r : RD} {d e : Dk} {c : Fr3} (h : Duo w0 w p r d e c) (hO : Only [] w w') {f : World → Prop} (hf : Fc w' (fun k => k < w.heap.size) f) : Duo w0 w' p r d e ⟨c.L, c.G, f :: c.F⟩ := by
 obtain ⟨L0, G0, F0, hw, back⟩ := h.fr
 exact back w' ⟨c.L, c.G, f :: c.F⟩ (hw.addFc hO hf)
theorem Duo.newB {w0 w : World} {p : PD} {r : RD} {d e : Dk} {c : Fr3} (h : Duo w0 w p r d e c) (cs : Array Value) (t : TypeId) {b : Nat} (hb : w.heap.size = b) : Duo w0 (w.alloc (.cells cs t)) p r d e ⟨(b, cs.toList) :: c.L, c.G, c.F⟩ := by
 obtain ⟨L0, G0, F0, hw, back⟩ := h.fr
 exact back _ ⟨(b, cs.toList) :: c.L, c.G, c.F⟩ (hw.newB cs t hb)
theorem Duo.ldrop {w0 w : World} {p : PD} {r : RD} {d e : Dk} {x : Nat × List Value} {L : List (Nat × List Value)} {G : List Gs} {F : List (World → Prop)} (h : Duo w0 w p r d e ⟨x :: L, G, F⟩) : Duo w0 w p r d e ⟨L, G, F⟩ := by
 obtain ⟨L0, G0, F0, hw, back⟩ := h.fr
 exact back _ ⟨L, G, F⟩ hw.ldrop
theorem Duo.box {w0 w : World} {p : PD} {r : RD} {d e : Dk} {c : Fr3} (h : Duo w0 w p r d e c) {x : Nat × List Value} (hx : x ∈ c.L) : Kn.Own w x.1 x.2 := by
 obtain ⟨L0, G0, F0, hw, back⟩ := h.fr
 exact hw.own x (List.mem_append.2 (.inl hx))
theorem Duo.only {w0 w : World} {p : PD} {r : RD} {d e : Dk} {c : Fr3} (h : Duo w0 w p r d e c) : Only [] w0 w := by
 obtain ⟨L0, G0, F0, hw, back⟩ := h.fr
 exact hw.only
theorem kit_head_any (w0 w : World) (p : PD) (r : RD) (d : Dk) (c : Fr3) (cf : Cf) (q : Ps) (h : Duo w0 w p r d d c) (hc : cf.Ok) (hq : headMay q.head = true) (hs : q.s ≤ cf.s - 1) (hh : d.held.length ≤ 1000) :
  Calls Tryz.prog 16 #[.pointer (some ⟨p.D, 0, none⟩), .pointer (some ⟨r.M, 0, none⟩), .agg #[.int .i64 cf.b, .int .i64 cf.s, .int .i64 cf.l], .agg #[.int .i64 q.s, .int .i64 q.o, .int .i64 q.l, .int .i64 q.p, .int .i64 q.m]] w fun e w' => e = .returned (.bool true) ∧ Duo w0 w' p r (d.puts (cf.at_ q.s) (headB q)) (d.puts (cf.at_ q.s) (headB q)) c := by
 have H := hH ((h.newB #[.int .i64 cf.b, .int .i64 cf.s, .int .i64 cf.l] 25 rfl).newB #[.int .i64 q.s, .int .i64 q.o, .int .i64 q.l, .int .i64 q.p, .int .i64 q.m] 32 rfl)
 have HC := hH hc
 have HQ := hH hq
 have hs0 : 0 ≤ q.s := by
  have := hq
  unfold headMay at this
  simp only [Bool.and_eq_true, decide_eq_true_eq] at this
  exact this.1.1.1.1
 obtain ⟨m1, m2⟩ := Cf.prod cf hc q.s hs0 (by omega)
 have hat : 0 ≤ cf.at_ q.s ∧ cf.at_ q.s ≤ 100000 := by
  have h1 := rln_bounds hc
  have h2 := pgs_bounds hc
  unfold Cf.at_
  rw [if_pos ⟨hs0, hs⟩]
  omega
 have HAT := hH hat
 have HES := hH (headB_enc hq)
 clear h hc hq hat
 go_enter Tryz.func16, Tryz.ntmps16
 go_wp2_with fail
 generalize (w.alloc (.cells #[.int .i64 cf.b, .int .i64 cf.s, .int .i64 cf.l] 25)).alloc (.cells #[.int .i64 q.s, .int .i64 q.o, .int .i64 q.l, .int .i64 q.p, .int .i64 q.m] 32) = wa at *
 have hsz : (w.alloc (.cells #[.int .i64 cf.b, .int .i64 cf.s, .int .i64 cf.l] 25)).heap.size = w.heap.size + 1 := by simp
 rw [hsz] at H
 clear hsz
 generalize w.heap.size = fb at *
 generalize fb + 1 = fq at *
 refine (ref_head_enc_own q.s q.m q.l q.p _).mono ?_
 rintro e w2 hen
 rw [show (⟨q.s, q.m, q.l, q.p⟩ : It) = q.head from rfl, HES.out] at hen
 obtain ⟨g, cc, rfl, hcc, hcm, hg, hown, hO⟩ := encOwn_some hen
 rw [headB_length] at hcc
 have hD := H.out.addFc hO (f := fun W => Bys W (some ⟨g, 0, none⟩) 64 cc (headB q)) (Row1.fc (Row1.of_Own hown (by rw [bvs_length, headB_length]) hcc hcm) (fun _ a ha => by injection ha with ha; subst ha; simp; omega))
 have HD := hH hD
 have b1 := hD.box (x := (fb, [.int .i64 cf.b, .int .i64 cf.s, .int .i64 cf.l])) (by simp)
 have b2 := hD.box (x := (fq, [.int .i64 q.s, .int .i64 q.o, .int .i64 q.l, .int .i64 q.p, .int .i64 q.m])) (by simp)
 have x0 := b1.cell 0 (by simp)
 have x1 := b1.cell 1 (by simp)
 have x2 := b1.cell 2 (by simp)
 have y0 := b2.cell 0 (by simp)
 simp only [g0, gs] at x0 x1 x2 y0
 rw [headB_length]
 clear H hen hown hO hD b1 b2 hg
 go_wp2_with fail
 refine (ref_segat_any cf q.s _ HC.out).mono ?_
 rintro e w3 ⟨rfl, hO⟩
 have HD2 := hH (HD.out.keep0 hO)
 clear hO HD x0 x1 x2 y0
 go_wp2_with fail
 refine (kit_put_any w0 _ p r d _ (cf.at_ q.s) (some ⟨g, 0, none⟩) 64 cc (headB q) HD2.out List.mem_cons_self hh (by decide) (by have := HAT.out; omega)).mono ?_
 rintro e w4 ⟨rfl, hd⟩
 have HD3 := hH (Duo.subF hd.ldrop.ldrop (F' := c.F) (fun f hf => mc _ hf))
 clear hd HD2
 go_wp2
 go_ret
 exact ⟨rfl, HD3.out⟩
end Go.Proofs.YtgcfdjcpcclcjaaGreat
namespace Go.Kn
open Go Go.RowKit
/-- Wc; since w1 the non-cells lie as they lay -/
structure Wk (w0 w1 w : World) (L : List (Nat × List Value)) (G : List Gs) (F : List (World → Prop)) : Prop extends Wc w0 w L G F where
 kb : Kb w1.heap.size w1 w
section
variable {w0 w1 w w' : World} {L L' : List (Nat × List Value)} {G G' : List Gs} {F F' : List (World → Prop)}
theorem Wk.hs (h : Wk w0 w1 w L G F) : w1.heap.size ≤ w.heap.size := h.kb.size
theorem Wk.start (h : Wc w0 w L G F) : Wk w0 w w L G F := ⟨h, Kb.refl _ _⟩
theorem Wk.to (h : Wk w0 w1 w L G F) (g : Wc w0 w' L' G' F') (hk : Kb w1.heap.size w w') : Wk w0 w1 w' L' G' F' := ⟨g, h.kb.trans hk⟩
theorem Wk.same (h : Wk w0 w1 w L G F) (g : Wc w0 w L' G' F') : Wk w0 w1 w L' G' F' := ⟨g, h.kb⟩
theorem kb_only0 {B : Nat} (hO : Only [] w w') : Kb B w w' := Kb.of_only hO (by simp)
theorem Wk.keep0 (h : Wk w0 w1 w L G F) (hO : Only [] w w') : Wk w0 w1 w' L G F := h.to (h.toWc.keep0 hO) (kb_only0 hO)
theorem Wk.drew (h : Wk w0 w1 w L G F) : Wk w0 w1 w.drew L G F := h.keep0 (Only.refl _ _).drew
theorem Wk.drewN (h : Wk w0 w1 w L G F) (n : Nat) : Wk w0 w1 (w.drewN n) L G F := h.keep0 ((Only.refl _ _).drewN n)
theorem Wk.alloc (h : Wk w0 w1 w L G F) (o : Obj) : Wk w0 w1 (w.alloc o) L G F := h.keep0 ((Only.refl _ _).alloc o)
theorem Wk.newB (h : Wk w0 w1 w L G F) (cs : Array Value) (t : TypeId) {b : Nat} (hb : w.heap.size = b) : Wk w0 w1 (w.alloc (.cells cs t)) ((b, cs.toList) :: L) G F := h.to (h.toWc.newB cs t hb) (kb_only0 ((Only.refl _ _).alloc _))
theorem Wk.call1 (h : Wk w0 w1 w L G F) (i : Nat) {p : Nat} {cs cs' : List Value} (hi : L[i]? = some (p, cs)) (ho : Own w' p cs') (hO : Only [p] w w') : Wk w0 w1 w' (L.set i (p, cs')) G F :=
 h.to (h.toWc.call1 i hi ho hO) (Kb.of_only hO (by
  intro k hk o hq
  rw [List.mem_singleton] at hk
  subst hk
  exact (h.toWc.boxi i hi).isCells o hq))
theorem Wk.put (h : Wk w0 w1 w L G F) (i : Nat) {p : Nat} {cs : List Value} (hi : L[i]? = some (p, cs)) (j : Nat) (u : Value) : Wk w0 w1 (w.setCell ⟨p, j, none⟩ u) (L.set i (p, cs.set j u)) G F :=
 h.to (h.toWc.put i hi j u) (Kb.of_only ((Only.refl [p] w).set (.inl (by simp)) u) (by
  intro k hk o hq
  rw [List.mem_singleton] at hk
  subst hk
  exact (h.toWc.boxi i hi).isCells o hq))
theorem Wk.gapp (h : Wk w0 w1 w L G F) (i : Nat) {x : Gs} (hi : G[i]? = some x) {v' : Value} {n' : Nat} {ys : List Value} (ho : w'.ownsRow w0.heap.size x.e x.sz v' n' ys) (hg : w.grownBy w' x.v.ownBlock) (hat : v'.ownBlock = x.v.ownBlock ∨ v'.ownBlock = some w.heap.size) :
  Wk w0 w1 w' L (G.set i ⟨x.e, x.sz, v', n', ys⟩) F :=
 h.to (h.toWc.gapp i hi ho hg hat) ⟨hg.size, by
  intro k o _ hk hc
  have hlt := lt_of_obj hk
  by_cases hm : x.v.ownBlock = some k
  ·have := h.toWc.cellsBlock (.inr ⟨x, List.mem_of_getElem? hi, hm⟩) o hk
   rw [this] at hc
   cases hc
  rw [← hk]
  exact hg.block k hlt (fun e => hm e.symm)⟩
theorem Wk.addFc (h : Wk w0 w1 w L G F) (hO : Only [] w w') {f : World → Prop} (hf : Fc w' (fun k => k < w.heap.size) f) : Wk w0 w1 w' L G (f :: F) := h.to (h.toWc.addFc hO hf) (kb_only0 hO)
theorem Wk.sub (h : Wk w0 w1 w L G F) {L' : List (Nat × List Value)} {F' : List (World → Prop)} (hL : L'.Sublist L) (hF : ∀ f ∈ F', f ∈ F) : Wk w0 w1 w L' G F' := h.same (h.toWc.sub hL hF)
theorem Wk.perm (h : Wk w0 w1 w L G F) (hL : L.Perm L') (hG : G.Perm G') : Wk w0 w1 w L' G' F := h.same (h.toWc.perm hL hG)
theorem Wk.subG (h : Wk w0 w1 w L G F) (hG : G'.Sublist G) : Wk w0 w1 w L G' F := h.same (h.toWc.subG hG)
theorem Wk.subF (h : Wk w0 w1 w L G F) {F' : List (World → Prop)} (hF : ∀ f ∈ F', f ∈ F) : Wk w0 w1 w L G F' := h.same (h.toWc.subF hF)
theorem Wk.gdrop {g : Gs} (h : Wk w0 w1 w L (g :: G) F) : Wk w0 w1 w L G F := h.same h.toWc.gdrop
theorem Wk.ldrop {x : Nat × List Value} (h : Wk w0 w1 w (x :: L) G F) : Wk w0 w1 w L G F := h.same h.toWc.ldrop
end
end Go.Kn
namespace Go.Proofs.YtgcfdjcpcclcjaaGreat
open Go Go.RowKit Go.Kn
structure DskRd (w : World) (p : PD) (d : Dk) : Prop where
 ok : d.Ok
 N : d.safe.length = p.N
 D_ : ∃ v, Kn.Own w p.D (p.box v d)
 n_ : Kn.Own w p.n (flat d.now)
 f_ : Kn.Own w p.f (bls d.faults)
/-- the disk is among some boxes -/
structure DkIn (p : PD) (d : Dk) (L : List (Nat × List Value)) : Prop where
 ok : d.Ok
 N : d.safe.length = p.N
 D_ : ∃ v, (p.D, p.box v d) ∈ L
 n_ : (p.n, flat d.now) ∈ L
 f_ : (p.f, bls d.faults) ∈ L
theorem DkIn.rd {w : World} {p : PD} {d : Dk} {L L' : List (Nat × List Value)} (h : DkIn p d L) (hw : ∀ x ∈ L', Kn.Own w x.1 x.2) (hL : ∀ x ∈ L, x ∈ L') : DskRd w p d :=
 ⟨h.ok, h.N, by obtain ⟨v, hv⟩ := h.D_; exact ⟨v, hw _ (hL _ hv)⟩, hw _ (hL _ h.n_), hw _ (hL _ h.f_)⟩
theorem DkIn.mono {p : PD} {d : Dk} {L L' : List (Nat × List Value)} (h : DkIn p d L) (hL : ∀ x ∈ L, x ∈ L') : DkIn p d L' := ⟨h.ok, h.N, by obtain ⟨v, hv⟩ := h.D_; exact ⟨v, hL _ hv⟩, hL _ h.n_, hL _ h.f_⟩
theorem dk_has_rd (w : World) (p : PD) (d : Dk) (a : Int) (h : DskRd w p d) :
    Calls Tryz.prog 83 #[.pointer (some ⟨p.D, 0, none⟩), .int .i64 a] w fun e w' => e = .returned (.bool (d.has a)) ∧ w = w' := by
  obtain ⟨v, hb⟩ := h.D_
  have c1 := hb.cell 1 (by simp [PD.box])
  have hN := h.N
  have hn := h.ok.n
  have hlt : decide (a < (p.N : Int)) = decide (a < (d.safe.length : Int)) := by rw [hN]
  simp only [PD.box, g0, gs] at c1
  have HN := hH hN
  have hn' : 1 ≤ p.N ∧ p.N ≤ 4096 := by omega
  obtain ⟨hn1, hn2⟩ := hn'
  clear hb hN hn hlt h
  go_enter Tryz.func83, Tryz.ntmps83
  by_cases h1 : 0 ≤ a <;> by_cases h2 : a < (p.N : Int) <;>
  (go_wp2
   go_ret
   exact ⟨by unfold Dk.has; rw [HN.out]; simp [*], rfl⟩)
theorem dk_read_rd (w : World) (p : PD) (d : Dk) (a : Int) (h : DskRd w p d) :
  Calls Tryz.prog 23 #[.pointer (some ⟨p.D, 0, none⟩), .int .i64 a] w (RdSays w (d.read a) (d.err a)) := by
 obtain ⟨v, hbx⟩ := h.D_
 have c1 := hbx.cell 1 (by simp [PD.box])
 have c3 := hbx.cell 3 (by simp [PD.box])
 have c6 := hbx.cell 6 (by simp [PD.box])
 simp only [PD.box, g0, gs] at c1 c3 c6
 have hfb := h.f_
 have hnb := h.n_
 have H := hH h
 have hN := h.N
 have hF := h.ok.f
 have hn := h.ok.n
 by_cases ho : d.has a = true
 ·have hr : 0 ≤ a ∧ a < (p.N : Int) := by unfold Dk.has at ho; simp only [decide_eq_true_eq] at ho; omega
  obtain ⟨k, rfl⟩ : ∃ k : Nat, a = k := ⟨a.toNat, by omega⟩
  have hkN : k < p.N := by omega
  have hN1 : 1 ≤ p.N ∧ p.N ≤ 4096 := by omega
  obtain ⟨hN1, hN2⟩ := hN1
  have HO := hH ho
  by_cases hof : d.off = true
  ·have e1 : d.err k = 3 := by unfold Dk.err; rw [if_pos ho, if_pos hof]
   have e2 : d.read k = [] := by unfold Dk.read; rw [e1]; rfl
   rw [e1, e2]
   rw [hof] at c6
   clear hbx hfb hnb h hN hF hn ho hof e1 e2 c1 c3
   go_enter Tryz.func23, Tryz.ntmps23
   go_wp2_with fail
   refine (dk_has_rd w p d k H.out).mono ?_
   rintro e w1 ⟨rfl, rfl⟩
   rw [HO.out]
   go_wp2
   go_ret2
   exact RdSays.none _ _
  rw [Bool.not_eq_true] at hof
  have hbl : k < (bls d.faults).length := by rw [bls_length]; omega
  have q0 := hfb.cell k hbl
  have hbg : (bls d.faults)[k] = .bool (d.bad k) := by
   unfold Dk.bad
   rw [bls_get, List.getD_eq_getElem?_getD, show ((k : Int)).toNat = k from by omega, List.getElem?_eq_getElem (by omega), Option.getD_some]
  rw [hbg] at q0
  rw [hof] at c6
  by_cases hb : d.bad k = true
  ·have e1 : d.err k = 4 := by unfold Dk.err; rw [if_pos ho, if_neg (by simp [hof]), if_pos hb]
   have e2 : d.read k = [] := by unfold Dk.read; rw [e1]; rfl
   rw [e1, e2]
   rw [hb] at q0
   clear hbx hfb hnb h hN hF hn ho hof e1 e2 c1 hbg hbl hb
   go_enter Tryz.func23, Tryz.ntmps23
   go_wp2_with fail
   refine (dk_has_rd w p d k H.out).mono ?_
   rintro e w1 ⟨rfl, rfl⟩
   rw [HO.out]
   go_wp2
   go_ret2
   exact RdSays.none _ _
  rw [Bool.not_eq_true] at hb
  have e1 : d.err k = 0 := by unfold Dk.err; rw [if_pos ho, if_neg (by simp [hof]), if_neg (by simp [hb])]
  have e2 : d.read k = d.sector k := by unfold Dk.read; rw [if_pos e1]
  rw [e1, e2]
  rw [hb] at q0
  have hkl : k < d.now.length := by rw [Dk.now_length]; omega
  have hsec : d.sector k = d.now[k] := by
   unfold Dk.sector
   rw [List.getD_eq_getElem?_getD, show ((k : Int)).toNat = k from by omega, List.getElem?_eq_getElem hkl, Option.getD_some]
  have hrow := Row1.subrow (n := 0) (o := 64 * k) (m := 64) (c := 64) hnb (by rw [flat_length _ h.ok.now64, Dk.now_length]; omega) (Nat.le_refl _) (by simp [maxLen])
  rw [flat_cut _ h.ok.now64 k hkl, ← hsec, Nat.mul_comm 64 k] at hrow
  have hsl := Dk.sector_64 h.ok ho
  have HR := hH hrow
  clear hbx hfb hnb h hN hF hn ho hof e1 e2 hbg hbl hb hrow hsec hkl
  go_enter Tryz.func23, Tryz.ntmps23
  go_wp2_with fail
  refine (dk_has_rd w p d k H.out).mono ?_
  rintro e w1 ⟨rfl, rfl⟩
  rw [HO.out]
  go_wp2_with fail
  refine (clone_any _ 64 64 _ _ (by exact HR.out) (by decide)).mono ?_
  rintro e w1 ⟨A, cc, rfl, hcc, hcm, hpos, hO⟩
  have hfc := MadeBys.fc hcc hcm hpos
  rw [hsl] at hfc
  have HF := hH hfc
  have HO1 := hH hO
  clear hfc hpos hO
  go_wp2
  go_ret2
  exact ⟨A, _, cc, rfl, HF.out, HO1.out⟩
 have e1 : d.err a = 1 := by unfold Dk.err; rw [if_neg ho]
 have e2 : d.read a = [] := by unfold Dk.read; rw [e1]; rfl
 rw [e1, e2]
 rw [Bool.not_eq_true] at ho
 have HO := hH ho
 clear hbx hfb hnb h hN hF hn ho e1 e2
 go_enter Tryz.func23, Tryz.ntmps23
 go_wp2_with fail
 refine (dk_has_rd w p d a H.out).mono ?_
 rintro e w1 ⟨rfl, rfl⟩
 rw [HO.out]
 go_wp2
 go_ret2
 exact RdSays.none _ _
/-- the cells of a Scan -/
def SB (D gb : Nat) (p : Ps) (own : Bool) (e : Ps) (er : Int) : List Value :=
 [.pointer (some ⟨D, 0, none⟩), .pointer (some ⟨gb, 0, none⟩), .int .i64 p.s, .int .i64 p.o, .int .i64 p.l, .int .i64 p.p, .int .i64 p.m, .bool own, .int .i64 e.s, .int .i64 e.o, .int .i64 e.l, .int .i64 e.p, .int .i64 e.m, .int .i64 er]
def ReadSays (w0 wb : World) (S D gb : Nat) (p : Ps) (own : Bool) (e : Ps) (L : List (Nat × List Value)) (G : List Gs) (F : List (World → Prop)) (b : List UInt8) (er : Int) (en : Ending) (w' : World) : Prop :=
 ∃ A n c, en = .returned (.tuple #[.slice A n c, .bool (decide (er = 0))]) ∧ Wk w0 wb w' ((S, SB D gb p own e er) :: L) G ((fun W => Bys W A n c b) :: F)
theorem scan_read_any {wb : World} (w0 w : World) (S gb : Nat) (pd : PD) (d : Dk) (p : Ps) (own : Bool) (e : Ps) (er : Int) (L : List (Nat × List Value)) (G : List Gs) (F : List (World → Prop)) (a : Int)
  (hw : Wk w0 wb w ((S, SB pd.D gb p own e er) :: L) G F) (hd : DkIn pd d L) :
  Calls Tryz.prog 183 #[.pointer (some ⟨S, 0, none⟩), .int .i64 a] w (ReadSays w0 wb S pd.D gb p own e L G F (d.read a) (d.err a)) := by
 have hb := hw.boxi 0 rfl
 have c0 := hb.cell 0 (by simp [SB])
 simp only [SB, List.getElem_cons_zero] at c0
 have H := hH hw
 have HR := hH (hd.rd hw.own (fun x hx => mc _ hx))
 clear hw hb hd
 go_enter Tryz.func183, Tryz.ntmps183
 go_wp2_with fail
 refine (dk_read_rd w pd d a HR.out).mono ?_
 rintro en w1 ⟨A, n, c, rfl, hfc, hO⟩
 have HW := hH (H.out.addFc hO hfc)
 have h13 := (HW.out.boxi 0 (p := S) rfl)
 have y0 := h13.cell 13 (by simp [SB])
 have f13 := h13.frozen 13
 simp only [SB, g0, gs] at y0
 have HE := hH (HW.out.put 0 (p := S) rfl 13 (.int .i64 (d.err a)))
 obtain ⟨z, hz⟩ : ∃ z, d.err a = z := ⟨_, rfl⟩
 rw [hz] at HE ⊢
 have HZ := hH hz
 clear hfc hO h13 H HR hz
 by_cases h0 : z = 0
 ·subst h0
  go_wp2_with fail
  go_quiet (fail)
  go_wp2
  go_ret2
  rw [HZ.out]
  exact ⟨A, n, c, rfl, HE.out.drewN _⟩
 have h1 : (z == 0) = false := by simpa using h0
 go_wp2_with fail
 go_quiet (fail)
 go_wp2
 go_ret2
 rw [HZ.out]
 exact ⟨A, n, c, by rw [decide_eq_false h0]; rfl, HE.out.drewN _⟩
theorem scan_end_any {wb : World} (w0 w : World) (S gb D : Nat) (p : Ps) (own : Bool) (e : Ps) (er : Int) (L : List (Nat × List Value)) (G : List Gs) (F : List (World → Prop))
  (hw : Wk w0 wb w ((S, SB D gb p own e er) :: L) G F) :
  Calls Tryz.prog 20 #[.pointer (some ⟨S, 0, none⟩)] w fun en w' => en = .returned (.agg #[.int .i64 e.s, .int .i64 e.o, .int .i64 e.l, .int .i64 e.p, .int .i64 e.m]) ∧ Only [] w w' := by
 have hres : Tryz.f20.results = #[.cell 2 32] := by kernel_rfl
 have HRES := hH hres
 have hb := hw.boxi 0 rfl
 have c0 := hb.cell 8 (by simp [SB])
 have c1 := hb.cell 9 (by simp [SB])
 have c2 := hb.cell 10 (by simp [SB])
 have c3 := hb.cell 11 (by simp [SB])
 have c4 := hb.cell 12 (by simp [SB])
 simp only [SB, g0, gs] at c0 c1 c2 c3 c4
 have hlt := hb.lt
 clear hw hb hres
 go_enter Tryz.func20, Tryz.ntmps20
 go_wp2
 (try simp only [Exit.inBlock, Exit.then])
 refine bodyPost_ret (v := .agg #[.int .i64 e.s, .int .i64 e.o, .int .i64 e.l, .int .i64 e.p, .int .i64 e.m]) ?_ rfl ⟨rfl, ?_⟩
 ·simp only [results, HRES.out]
  go_simp
 exact (Only.refl _ _).alloc _
theorem scan_err_any {wb : World} (w0 w : World) (S gb D : Nat) (p : Ps) (own : Bool) (e : Ps) (er : Int) (L : List (Nat × List Value)) (G : List Gs) (F : List (World → Prop))
  (hw : Wk w0 wb w ((S, SB D gb p own e er) :: L) G F) :
  Calls Tryz.prog 25 #[.pointer (some ⟨S, 0, none⟩)] w fun en w' => en = .returned (.int .i64 er) ∧ w = w' := by
 have hb := hw.boxi 0 rfl
 have c0 := hb.cell 13 (by simp [SB])
 simp only [SB, g0, gs] at c0
 clear hw hb
 go_enter Tryz.func25, Tryz.ntmps25
 go_wp2
 go_ret
 exact ⟨rfl, rfl⟩
/-- scan.New -/
def NewS (w0 wb : World) (D gb : Nat) (p : Ps) (own : Bool) (L : List (Nat × List Value)) (G : List Gs) (F : List (World → Prop)) (en : Ending) (w' : World) : Prop := ∃ S, en = .returned (.pointer (some ⟨S, 0, none⟩)) ∧ Wk w0 wb w' ((S, SB D gb p own p 0) :: L) G F
theorem scan_new_any {wb : World} (w0 w : World) (D gb : Nat) (p : Ps) (L : List (Nat × List Value)) (G : List Gs) (F : List (World → Prop)) (hw : Wk w0 wb w L G F) :
  Calls Tryz.prog 28 #[.pointer (some ⟨D, 0, none⟩), .pointer (some ⟨gb, 0, none⟩), .agg #[.int .i64 p.s, .int .i64 p.o, .int .i64 p.l, .int .i64 p.p, .int .i64 p.m]] w (NewS w0 wb D gb p false L G F) := by
 have H := hH hw
 clear hw
 go_enter Tryz.func28, Tryz.ntmps28
 go_wp2
 go_ret
 exact ⟨_, rfl, (H.out.alloc (.cells #[.int .i64 p.s, .int .i64 p.o, .int .i64 p.l, .int .i64 p.p, .int .i64 p.m] 32)).newB #[.pointer (some ⟨D, 0, none⟩), .pointer (some ⟨gb, 0, none⟩), .int .i64 p.s, .int .i64 p.o, .int .i64 p.l, .int .i64 p.p, .int .i64 p.m, .bool false, .int .i64 p.s, .int .i64 p.o, .int .i64 p.l, .int .i64 p.p, .int .i64 p.m, .int .i64 0] 147 (by simp)⟩
end Go.Proofs.YtgcfdjcpcclcjaaGreat
namespace Go.Kn
open Go Go.RowKit
def is7 (i : It) : Bool := i.k == 7
theorem nextOf_eq (r : Rc) : nextOf r = (r.its.find? is7).map (·.v) := rfl
theorem find_at {l : List It} {j : Nat} (hj : j < l.length) (h0 : (l.take j).find? is7 = none) (h1 : is7 l[j] = true) : l.find? is7 = some l[j] := by
 have e : l = l.take j ++ l[j] :: l.drop (j + 1) := by rw [List.getElem_cons_drop, List.take_append_drop]
 have e2 : l.find? is7 = (l.take j ++ l[j] :: l.drop (j + 1)).find? is7 := congrArg _ e
 rw [e2, List.find?_append, h0, List.find?_cons, h1]
 rfl
theorem find_step {l : List It} {j : Nat} (hj : j < l.length) (h0 : (l.take j).find? is7 = none) (h1 : is7 l[j] = false) : (l.take (j + 1)).find? is7 = none := by
 rw [List.take_succ_eq_append_getElem hj, List.find?_append, h0, List.find?_cons, h1]
 rfl
def IdxSays (w : World) (l : List It) (e : Ending) (w' : World) : Prop := Only [] w w' ∧ ((l.find? is7 = none ∧ e = .returned (.int .i64 (-1))) ∨ ∃ (j : Nat) (h : j < l.length), l.find? is7 = some l[j] ∧ e = .returned (.int .i64 j))
end Go.Kn
namespace Go.Proofs.YtgcfdjcpcclcjaaGreat
open Go Go.RowKit Go.Kn Go.Shelf
theorem next1_any (k b c v : Int) (w : World) : Calls Tryz.prog 189 #[.agg #[.int .i64 k, .int .i64 b, .int .i64 c, .int .i64 v]] w fun e w' => e = .returned (.bool (k == 7)) ∧ Only [] w w' := by
 go_enter Tryz.func189, Tryz.ntmps189
 by_cases h : k = 7
 ·subst h
  go_wp2
  go_ret
  exact ⟨rfl, (Only.refl _ _).alloc _⟩
 have h1 : (k == 7) = false := by simpa using h
 go_wp2
 go_ret
 exact ⟨by simp [h], (Only.refl _ _).alloc _⟩
theorem next_index_any (A : Option Addr) (n c : Nat) (l : List It) (w : World) (hi : Its w A n c l) :
  Calls Tryz.prog 188 #[.slice A n c, .func (.func 189) #[] #[]] w (IdxSays w l) := by
 have hlen := hi.len
 have hcm := hi.cm
 have hcl := hi.le
 unfold maxLen at hcm
 have HI := hH hi
 have HL := hH hlen
 clear hi hlen
 have eg : ∀ args w, (callFunc 189 args).run Tryz.prog w = .ok (.enter 189 args) w := enters_of Tryz.func189 (by kernel_rfl) rfl
 go_enter Tryz.func188, Tryz.ntmps188
 go_wp2_with fail
 go_loopg [5, 8] n (fun r _ i wr => ∃ j : Nat, j + r = n ∧ i = .int .i64 j ∧ Only [] w wr ∧ (l.take j).find? is7 = none)
 case atStart => exact ⟨0, by omega, rfl, Only.refl _ _, by simp⟩
 obtain ⟨j, hj, rfl, hO, hal⟩ := hrel
 have HAL := hH hal
 have HO := hH hO
 clear hal hO
 by_cases hlt : j < n
 ·have hjz : j < l.length := by rw [HL.out]; exact hlt
  obtain ⟨a, o, rfl, hc⟩ := (HI.out.keep0 HO.out).at_ (by omega)
  obtain ⟨c0, c1, c2, c3⟩ := hc j hjz
  obtain ⟨⟨ik, ib, ic, iv⟩, hit⟩ : ∃ i, l[j] = i := ⟨_, rfl⟩
  have HIT := hH hit
  rw [hit] at c0 c1 c2 c3
  simp only at c0 c1 c2 c3
  have h7 : is7 l[j] = (ik == 7) := by rw [hit]; rfl
  have H7 := hH h7
  clear hc hit h7
  have hlt2 : (j : Int) < (n : Int) := by omega
  go_wp2_with fail
  refine (next1_any ik ib ic iv _).mono ?_
  rintro e w2 ⟨rfl, hO2⟩
  have HO2 := hH (HO.out.trans' hO2)
  clear hO2 c0 c1 c2 c3
  by_cases hm : ik = 7
  ·subst hm
   have H8 : Hid (is7 l[j] = true) := hH H7.out
   go_wp2
   go_ret
   exact ⟨HO2.out, .inr ⟨j, hjz, find_at hjz HAL.out H8.out, rfl⟩⟩
  have h1 : (ik == 7) = false := by simpa using hm
  have H8 : Hid (is7 l[j] = false) := hH (by rw [H7.out, h1])
  have HM := hH hm
  clear hm
  go_wp2
  go_roundg (gk - 1)
  case measure => omega
  case rel => exact ⟨j + 1, by omega, by go_num, HO2.out, find_step hjz HAL.out H8.out⟩
 obtain rfl : j = n := by omega
 have hfull : l.take j = l := List.take_of_length_le (by rw [HL.out]; omega)
 have hal := HAL.out
 rw [hfull] at hal
 have HAL' := hH hal
 clear hal hfull
 go_wp2
 go_ret
 exact ⟨HO.out, .inl ⟨HAL'.out, rfl⟩⟩
theorem rec_next_any (x : Rc) (s t : Option Addr × Nat × Nat) (w : World) (hi : Its w s.1 s.2.1 s.2.2 x.its) :
  Calls Tryz.prog 154 #[.agg (x.cells s t)] w fun e w' => e = .returned (.tuple #[.int .i64 ((nextOf x).getD 0), .bool (nextOf x).isSome]) ∧ Only [] w w' := by
 obtain ⟨s1, s2, s3⟩ := s
 obtain ⟨t1, t2, t3⟩ := t
 have hcm := hi.cm
 have hcl := hi.le
 have hlen := hi.len
 unfold maxLen at hcm
 simp only at hi hcm hcl hlen
 have HB := hH (Own.new w #[.int .i64 x.m, .int .i64 x.n, .int .i64 x.p, .slice s1 s2 s3, .slice t1 t2 t3] 56)
 have HO := hH ((Only.refl [] w).alloc (.cells #[.int .i64 x.m, .int .i64 x.n, .int .i64 x.p, .slice s1 s2 s3, .slice t1 t2 t3] 56))
 have HI := hH (hi.keep0 HO.out)
 have HL := hH hlen
 clear hi hlen
 unfold Rc.cells
 simp only [slv]
 go_enter Tryz.func154, Tryz.ntmps154
 go_wp2_with fail
 refine (next_index_any s1 s2 s3 x.its _ HI.out).mono ?_
 rintro e w2 ⟨hO2, ⟨hf, rfl⟩ | ⟨j, hj, hf, rfl⟩⟩
 ·have e1 : nextOf x = none := by rw [nextOf_eq, hf]; rfl
  have E1 := hH e1
  have HO2 := hH (HO.out.trans' hO2)
  clear hf e1 hO2
  go_wp2
  go_ret2
  exact ⟨by rw [E1.out]; rfl, HO2.out⟩
 have e1 : nextOf x = some (x.its[j]).v := by rw [nextOf_eq, hf]; rfl
 have E1 := hH e1
 have hb := HB.out.keep0 hO2
 have y3 := hb.cell 3 (by simp)
 simp only [g0, gs] at y3
 have hjn : j < s2 := by rw [← HL.out]; exact hj
 obtain ⟨a, o, rfl, hc⟩ := (HI.out.keep0 hO2).at_ (by omega)
 obtain ⟨c0, c1, c2, c3⟩ := hc j hj
 have HO2 := hH (HO.out.trans' hO2)
 generalize (x.its[j]).v = iv at *
 have hlt2 : (j : Int) < (s2 : Int) := by omega
 clear hf e1 hO2 hc c0 c1 c2 hb hj
 go_wp2
 go_ret2
 exact ⟨by rw [E1.out]; rfl, HO2.out⟩
end Go.Proofs.YtgcfdjcpcclcjaaGreat
namespace Go.Kn
open Go Go.RowKit
instance : DecidableEq It := fun a b => by
 obtain ⟨a1, a2, a3, a4⟩ := a
 obtain ⟨b1, b2, b3, b4⟩ := b
 exact decidable_of_iff (a1 = b1 ∧ a2 = b2 ∧ a3 = b3 ∧ a4 = b4) (by simp)
end Go.Kn
namespace Go.Proofs.YtgcfdjcpcclcjaaGreat
open Go Go.RowKit Go.Kn
@[go_sem] theorem eq_item (a b c d e f g h : Int) (w : World) : (Op.equalIn 10000 63 (.agg #[.int .i64 a, .int .i64 b, .int .i64 c, .int .i64 d]) (.agg #[.int .i64 e, .int .i64 f, .int .i64 g, .int .i64 h])).run Tryz.prog w = .ok (a == e && b == f && c == g && d == h) w := by
 have u3 := Tryz.underlying3
 have a3 := Tryz.isAgg3
 have z3 := Tryz.sizeOf3
 have hS : Tryz.prog.underlying 63 = some (.struct (Tryz.prog.fieldsOf 63)) := by kernel_rfl
 rw [show (10000 : Nat) = 9999 + 1 from rfl, run_equalIn_agg w 9999 63 _ _ hS Tryz.stoodInHeld63]
 simp only [Program.fieldsOf, Tryz.underlying63]
 go_simp
 by_cases h1 : a = e <;> by_cases h2 : b = f <;> by_cases h3 : c = g <;> by_cases h4 : d = h <;> simp [h1, h2, h3, h4]
theorem alike_items_any (A : Option Addr) (n c : Nat) (xs : List It) (B : Option Addr) (m d : Nat) (ys : List It) (w : World) (hx : Its w A n c xs) (hy : Its w B m d ys) :
  Calls Tryz.prog 70 #[.slice A n c, .slice B m d] w fun e w' => e = .returned (.bool (decide (xs = ys))) ∧ ∃ k, w' = w.drewN k := by
 have hlx := hx.len
 have hly := hy.len
 have hcm := hx.cm
 have hcl := hx.le
 have hdm := hy.cm
 have hdl := hy.le
 unfold maxLen at hcm hdm
 have HX := hH hx
 have HY := hH hy
 have HLX := hH hlx
 have HLY := hH hly
 clear hx hy hlx hly
 by_cases hnm : n = m
 ·subst hnm
  go_enter Tryz.func70, Tryz.ntmps70
  go_wp2_with fail
  go_loopg [5] n (fun r i wr => ∃ j : Nat, j + r = n ∧ i = .int .i64 j ∧ (∃ k, wr = w.drewN k) ∧ xs.take j = ys.take j)
  case atStart => exact ⟨0, by omega, rfl, ⟨0, rfl⟩, by simp⟩
  obtain ⟨j, hj, rfl, ⟨k, rfl⟩, htk⟩ := hrel
  have HT := hH htk
  clear htk
  by_cases hlt : j < n
  ·have hjx : j < xs.length := by rw [HLX.out]; exact hlt
   have hjy : j < ys.length := by rw [HLY.out]; exact hlt
   obtain ⟨ga, oa, rfl, hca⟩ := HX.out.at_ (by omega)
   obtain ⟨gb, ob, rfl, hcb⟩ := HY.out.at_ (by omega)
   obtain ⟨p0, p1, p2, p3⟩ := hca j hjx
   obtain ⟨q0, q1, q2, q3⟩ := hcb j hjy
   clear hca hcb
   have hlt2 : (j : Int) < (n : Int) := by omega
   have hge : 0 ≤ (j : Int) := by omega
   have htn : ((j : Int)).toNat = j := by omega
   have hxy : decide (xs[j] = ys[j]) = (xs[j].k == ys[j].k && xs[j].b == ys[j].b && xs[j].c == ys[j].c && xs[j].v == ys[j].v) := by
    rcases hh : xs[j] with ⟨a1, a2, a3, a4⟩
    rcases hh2 : ys[j] with ⟨b1, b2, b3, b4⟩
    rw [Bool.eq_iff_iff]; simp [and_assoc]
   have HXY := hH hxy
   clear hxy
   generalize hg0 : xs[j].k = x0 at *
   generalize hg1 : xs[j].b = x1 at *
   generalize hg2 : xs[j].c = x2 at *
   generalize hg3 : xs[j].v = x3 at *
   generalize hg4 : ys[j].k = y0 at *
   generalize hg5 : ys[j].b = y1 at *
   generalize hg6 : ys[j].c = y2 at *
   generalize hg7 : ys[j].v = y3 at *
   clear hg0 hg1 hg2 hg3 hg4 hg5 hg6 hg7
   have hgd := Tryz.eqGuardType63
   by_cases hb : x0 = y0 ∧ x1 = y1 ∧ x2 = y2 ∧ x3 = y3
   ·obtain ⟨rfl, rfl, rfl, rfl⟩ := hb
    go_wp2_with fail
    go_quiet (fail)
    go_wp2
    go_roundg (gk - 1)
    case measure => omega
    refine ⟨j + 1, by omega, by go_num, ⟨_, rfl⟩, ?_⟩
    have h1 := HXY.out
    simp at h1
    rw [List.take_succ_eq_append_getElem hjx, List.take_succ_eq_append_getElem hjy, HT.out, h1]
   have hd : xs ≠ ys := by
    intro h
    subst h
    have := HXY.out
    simp at this
    exact hb (by simp [this])
   have HD := hH hd
   clear hd
   have hc : x0 ≠ y0 ∨ (x0 = y0 ∧ x1 ≠ y1) ∨ (x0 = y0 ∧ x1 = y1 ∧ x2 ≠ y2) ∨ (x0 = y0 ∧ x1 = y1 ∧ x2 = y2 ∧ x3 ≠ y3) := by omega
   clear hb HXY
   rcases hc with h0 | ⟨rfl, h0⟩ | ⟨rfl, rfl, h0⟩ | ⟨rfl, rfl, rfl, h0⟩
   all_goals
    go_wp2_with fail
    go_quiet (fail)
    go_wp2
    go_ret
    exact ⟨by simp [HD.out], k + nq, by rw [World.drewN_drewN]⟩
  obtain rfl : j = n := by omega
  go_wp2
  go_ret
  have : xs = ys := by
   have := HT.out
   rwa [List.take_of_length_le (by rw [HLX.out]; omega), List.take_of_length_le (by rw [HLY.out]; omega)] at this
  exact ⟨by simp [this], k, rfl⟩
 have hd : xs ≠ ys := fun h => hnm (by subst h; have := HLX.out; have := HLY.out; omega)
 have hne : ((n : Int) != (m : Int)) = true := by rw [bne_iff_ne]; omega
 go_enter Tryz.func70, Tryz.ntmps70
 go_wp2
 go_ret
 exact ⟨by simp [hd], 0, rfl⟩
end Go.Proofs.YtgcfdjcpcclcjaaGreat
namespace Go.Proofs.YtgcfdjcpcclcjaaGreat
open Go Go.RowKit Go.Kn
theorem dec_long {bs : List UInt8} (h : 42 < bs.length ∨ bs.length % 7 ≠ 0) : decItems bs = none := by
 unfold decItems
 rw [if_neg (by omega)]
theorem dec_badat {bs : List UInt8} {j m : Nat} (h1 : bs.length = 7 * m) (hj : j < m) (hm : (itAt bs j).may = false) : decItems bs = none := by
 unfold decItems
 rw [if_neg]
 rintro ⟨_, _, ha⟩
 have h2 : bs.length / 7 = m := by omega
 rw [h2] at ha
 have := List.all_eq_true.1 ha (itAt bs j) (by simp only [parse, List.mem_map, List.mem_range]; exact ⟨j, hj, rfl⟩)
 rw [hm] at this
 cases this
theorem dec_good {bs : List UInt8} {m : Nat} (h1 : bs.length = 7 * m) (h6 : bs.length ≤ 42) (hm : (parse bs m).all It.may = true) : decItems bs = some (parse bs m) := by
 unfold decItems
 have h2 : bs.length / 7 = m := by omega
 rw [h2, if_pos ⟨h6, by omega, hm⟩]
theorem ref_item_of_any (A : Option Addr) (n c : Nat) (bs : List UInt8) (w : World) (hi : Bys w A n c bs) :
  Calls Tryz.prog 192 #[.slice A n c] w (DecSays w (decItems bs) 2) := by
 obtain ⟨i0, hi0, hz0, hz1, hz2⟩ := info_parts Tryz.infoItem
 have hlen := hi.len
 rw [bvs_length] at hlen
 have hcl := hi.le
 have hcm := hi.cm
 unfold maxLen at hcm
 have HI := hH hi
 have HL := hH hlen
 clear hi hlen
 by_cases h42 : 42 < n
 ·have hd : decide (42 < (n : Int)) = true := by simp; omega
  go_enter Tryz.func192, Tryz.ntmps192
  go_wp2
  go_ret2
  exact DecSays.no (dec_long (by have := HL.out; omega)) (Only.refl _ _)
 have hd : decide (42 < (n : Int)) = false := by simp; omega
 by_cases h7 : n % 7 = 0
 ·obtain ⟨m, rfl⟩ : ∃ m, n = 7 * m := ⟨n / 7, by omega⟩
  have ht : ((7 * m : Nat) : Int).tmod 7 = 0 := by rw [Int.tmod_eq_emod_of_nonneg (by omega)]; omega
  go_enter Tryz.func192, Tryz.ntmps192
  go_wp2_with fail
  refine (ref_from_any A (7 * m) c bs _ HI.out (by omega)).mono ?_
  rintro e w1 ⟨p, g, rfl, hp, hg, hr1, hO1⟩
  have HR1 := hH hr1
  have HO1 := hH hO1
  clear hr1 hO1
  go_wp2_with fail
  go_loopg [5] m (fun r v wr => ∃ (j : Nat), j + r = m ∧ GathN wr w.heap.size 63 4 v j (itsV (parse bs j)) ∧ RowAt wr p g bs (7 * j) ∧ Only [] w wr ∧ (∀ q, v.ownBlock = some q → q ≠ p ∧ q ≠ g) ∧ (parse bs j).all It.may = true)
  case atStart => exact ⟨0, by omega, GathN.nil _ _ _ _ HO1.out.size, HR1.out, HO1.out, by simp [Value.ownBlock], by simp [parse]⟩
  obtain ⟨j, hj, hG, hr, hO, hne, hal⟩ := hrel
  have HG := hH hG
  have HR := hH hr
  have HO := hH hO
  have HNE := hH hne
  have HAL := hH hal
  obtain ⟨Al, cl, rfl, hits, hown⟩ := hG.its (parse_length bs j)
  have HITS := hH hits
  have HOWN := hH hown
  have hlp := hr.lp
  have hlg := hr.lg
  have hfk := hr.fk
  clear hG hr hO hne hal hits hown
  by_cases hgo : j < m
  ·have hx : ((7 * j : Nat) : Int) < ((7 * m : Nat) : Int) := by omega
   have hf0 : w.heap.size ≤ wr.heap.size := HO.out.size
   go_wp2_with fail
   generalize hf : wr.heap.size = f at *
   have hb0 : Kn.Own (wr.alloc (.cells #[.int .i64 0, .int .i64 0, .int .i64 0, .int .i64 0] 63)) f [.int .i64 0, .int .i64 0, .int .i64 0, .int .i64 0] := by rw [← hf]; exact Own.new _ _ _
   have hm0 : Mid w (wr.alloc (.cells #[.int .i64 0, .int .i64 0, .int .i64 0, .int .i64 0] 63)) p g (7 * j) f 63 bs (.slice Al j cl) j (itsV (parse bs j)) [.int .i64 0, .int .i64 0, .int .i64 0, .int .i64 0] :=
    ⟨HR.out.alloc _, hb0, HO.out.alloc _, HG.out.keep0 ((Only.refl _ _).alloc _), fun q hq => ⟨(HNE.out q hq).1, (HNE.out q hq).2, by have := (HOWN.out q hq).2; omega⟩, by omega, by omega, hf0, hp⟩
   generalize wr.alloc (.cells #[.int .i64 0, .int .i64 0, .int .i64 0, .int .i64 0] 63) = wb at *
   clear hb0 HR HO HG hfk
   refine (ref_num_any p g (7 * j) bs 1 _ (by exact hm0.row) (by decide) (by have := HL.out; omega)).mono ?_
   rintro e w3 ⟨rfl, hr3, hO3⟩
   have hn0 := hm0.got hr3 hO3
   generalize hx0 : ((num ((bs.drop (7 * j)).take 1) : Nat) : Int) = x0 at *
   have HX0 := hH hx0
   have q0 := hn0.box.cell 0 (by simp)
   have z0 := hn0.box.frozen 0
   simp only [g0] at q0
   have hm1 := hn0.put 0 (.int .i64 x0)
   simp only [List.set_cons_zero] at hm1
   have HM1 := hH hm1
   clear hr3 hO3 hx0 hn0 hm0 hm1
   go_wp2_with fail
   refine (ref_num_any p g (7 * j + 1) bs 1 _ (by exact HM1.out.row) (by decide) (by have := HL.out; omega)).mono ?_
   rintro e w4 ⟨rfl, hr3, hO3⟩
   have hn1 := HM1.out.got hr3 hO3
   generalize hx1 : ((num ((bs.drop (7 * j + 1)).take 1) : Nat) : Int) = x1 at *
   have HX1 := hH hx1
   have q0 := hn1.box.cell 1 (by simp)
   have z0 := hn1.box.frozen 1
   simp only [g0, gs] at q0
   have hm2 := hn1.put 1 (.int .i64 x1)
   simp only [List.set_cons_zero, List.set_cons_succ] at hm2
   have HM2 := hH hm2
   clear hr3 hO3 hx1 hn1 HM1 hm2
   go_wp2_with fail
   refine (ref_num_any p g (7 * j + 1 + 1) bs 1 _ (by exact HM2.out.row) (by decide) (by have := HL.out; omega)).mono ?_
   rintro e w5 ⟨rfl, hr3, hO3⟩
   have hn2 := HM2.out.got hr3 hO3
   generalize hx2 : ((num ((bs.drop (7 * j + 1 + 1)).take 1) : Nat) : Int) = x2 at *
   have HX2 := hH hx2
   have q0 := hn2.box.cell 2 (by simp)
   have z0 := hn2.box.frozen 2
   simp only [g0, gs] at q0
   have hm3 := hn2.put 2 (.int .i64 x2)
   simp only [List.set_cons_zero, List.set_cons_succ] at hm3
   have HM3 := hH hm3
   clear hr3 hO3 hx2 hn2 HM2 hm3
   go_wp2_with fail
   refine (ref_num_any p g (7 * j + 1 + 1 + 1) bs 4 _ (by exact HM3.out.row) (by decide) (by have := HL.out; omega)).mono ?_
   rintro e w6 ⟨rfl, hr3, hO3⟩
   have hn3 := HM3.out.got hr3 hO3
   generalize hx3 : ((num ((bs.drop (7 * j + 1 + 1 + 1)).take 4) : Nat) : Int) = x3 at *
   have HX3 := hH hx3
   have q0 := hn3.box.cell 3 (by simp)
   have z0 := hn3.box.frozen 3
   simp only [g0, gs] at q0
   have hm4 := hn3.put 3 (.int .i64 x3)
   simp only [List.set_cons_zero, List.set_cons_succ] at hm4
   have HM4 := hH hm4
   clear hr3 hO3 hx3 hn3 HM3 hm4
   generalize hw7 : w6.setCell ⟨f, 3, none⟩ (.int .i64 x3) = w7 at *
   obtain ⟨y0, y1, y2, y3⟩ := Kn.own4 HM4.out.box
   have HIT : Hid ((⟨x0, x1, x2, x3⟩ : It) = itAt bs j) := hH (by rw [← HX0.out, ← HX1.out, ← HX2.out, ← HX3.out]; rfl)
   go_wp2_with fail
   refine (ref_item_may_any x0 x1 x2 x3 _).mono ?_
   rintro e w8 ⟨rfl, hO8⟩
   replace y0 := hO8.cell y0 (by simp)
   replace y1 := hO8.cell y1 (by simp)
   replace y2 := hO8.cell y2 (by simp)
   replace y3 := hO8.cell y3 (by simp)
   have hR8 := HM4.out.row.keep0 hO8
   have hG8 := HM4.out.gath.keep0 hO8
   have hO80 := HM4.out.only.trans' hO8
   have HR8 := hH hR8
   have HG8 := hH hG8
   have HO8 := hH hO80
   have hmne := HM4.out.ne
   have HME := hH hmne
   clear hO8 hR8 hG8 hO80 hmne HM4
   cases hmm : It.may ⟨x0, x1, x2, x3⟩
   ·have hbad := dec_badat (m := m) HL.out hgo (by rw [← HIT.out]; exact hmm)
    go_wp2
    go_ret2
    exact DecSays.no hbad HO8.out
   have HMM := hH hmm
   clear hmm
   have hnw := news_new w8 #[.int .i64 x0, .int .i64 x1, .int .i64 x2, .int .i64 x3] 63 (by simp [maxLen])
   have hone := itsV_one [⟨x0, x1, x2, x3⟩]
   have hbase := HO8.out.size
   have hm6 : m ≤ 6 := by omega
   go_wp2_with (first
    | (at_builtin; refine wpList_append_own_at _ rfl (.tmp 40) (.tmp 42) 53 rfl w.heap.size 63 i0 _ 4 32 Tryz.underlying53 hi0 hz0 hz1 hz2 rfl (by decide) (.slice Al j cl) j (itsV (parse bs j)) rfl ((HG8.out.keep0 ((Only.refl _ _).alloc _)).1) ⟨w8.heap.size, 0, none⟩ 1 1 (itsV [⟨x0, x1, x2, x3⟩]) rfl rfl hnw hone (by unfold maxLen; omega) (by omega) (by simp; omega) ?_; intro v' w9 hown hgrow _ hat)
    | fail)
   go_roundg (gk - 1)
   case measure => omega
   have hO7 : Only [] w (w8.alloc (.cells #[.int .i64 x0, .int .i64 x1, .int .i64 x2, .int .i64 x3] 63)) := HO8.out.alloc _
   have hG7 := HG8.out.keep0 ((Only.refl _ w8).alloc (.cells #[.int .i64 x0, .int .i64 x1, .int .i64 x2, .int .i64 x3] 63))
   obtain ⟨hG9, hO9⟩ := hG7.grown hO7 rfl hown hgrow
   have hR7 := HR8.out.alloc (.cells #[.int .i64 x0, .int .i64 x1, .int .i64 x2, .int .i64 x3] 63)
   have hS : Only ((Value.slice Al j cl).ownBlock.toList) (w8.alloc (.cells #[.int .i64 x0, .int .i64 x1, .int .i64 x2, .int .i64 x3] 63)) w9 := (Only.refl _ _).grown hgrow fun q hq => .inl (by rw [hq]; simp)
   have hR9 := hR7.keep hS (fun hq => (HME.out p (by simpa using hq)).1 rfl) (fun hq => (HME.out g (by simpa using hq)).2.1 rfl)
   have hlp8 := HR8.out.lp
   have hlg8 := HR8.out.lg
   rw [← itsV_append, HIT.out, ← parse_succ] at hG9
   refine ⟨j + 1, by omega, hG9, hR9, hO9, ?_, ?_⟩
   ·intro q hq
    rcases hat with hat | hat
    ·exact HNE.out q (by rw [← hat]; exact hq)
    rw [hat] at hq
    injection hq with hq
    simp at hq
    omega
   rw [parse_succ, List.all_append, HAL.out]
   simp [← HIT.out, HMM.out]
  obtain rfl : j = m := by omega
  go_wp2
  go_ret2
  have hg := dec_good HL.out (by have := HL.out; omega) HAL.out
  refine ⟨Al, cl, by simp [hg], by simpa [hg] using HITS.out, ?_, HO.out⟩
  intro _ a ha
  subst ha
  exact (HOWN.out a.block rfl).1
 have ht : ¬ (n : Int).tmod 7 = 0 := by rw [Int.tmod_eq_emod_of_nonneg (by omega)]; omega
 have ht2 : ((n : Int).tmod 7 != 0) = true := by simpa using ht
 go_enter Tryz.func192, Tryz.ntmps192
 go_wp2
 go_ret2
 exact DecSays.no (dec_long (by have := HL.out; omega)) (Only.refl _ _)
end Go.Proofs.YtgcfdjcpcclcjaaGreat
