/- DkG, DkH, KitA, GeoA, HeadP, HeadM, HeadE, HeadB, CrcC, CrcD, HeadR, HeadF, ScanP, GeoS, KitD, WkP, ScnA, ScnB, ItemD, KitB: joined by pack.py, without what the claim does not use. -/
import Derived.Test.YtgcfdjcpcclcjaaGreatChainCutC
set_option linter.unusedVariables false
set_option linter.unusedSimpArgs false
namespace Go.Proofs.YtgcfdjcpcclcjaaGreat
open Go Go.RowKit Go.Kn
theorem Rsk.gone1 {w0 w : World} {r : RD} {d : Dk} {c : Fr3} (h : Rsk w0 w r d c) (hg : d.gone = true) :
  Rsk w0 ((w.setCell ⟨r.M, 5, none⟩ (.int .i64 (wrap64 (d.acts + 1)))).setCell ⟨r.M, 4, none⟩ (.bool true)) r d.act c := by
 obtain ⟨v, lv, k, ls, sl, hs, hl, hm⟩ := h.mem
 have h1 := ((hm.put 0 (p := r.M) (cs := r.box v lv d) rfl 5 (.int .i64 (wrap64 (d.acts + 1)))).put 0 rfl 4 (.bool true))
 refine ⟨h.ok.act, h.N, h.hs, h.hf, v, lv, k, ls, sl, hs, hl, ?_⟩
 have e : r.L v lv sl d.act c.L = (r.M, [.slice (some ⟨r.s, 0, none⟩) r.N r.cs, v, .slice (some ⟨r.f, 0, none⟩) r.N r.cf, .int .i64 d.fuse, .bool true, .int .i64 (wrap64 (d.acts + 1)), lv]) :: (r.s, sl.map slv) :: (r.f, bls d.faults) :: c.L := by
  simp only [RD.L, RD.box, Dk.act, hg, if_true, Dk.tick]
 rw [e]
 exact h1
theorem Rsk.gone0 {w0 w : World} {r : RD} {d : Dk} {c : Fr3} (h : Rsk w0 w r d c) (hg : d.gone = false) (hf : 0 < d.fuse) :
  Rsk w0 ((w.setCell ⟨r.M, 5, none⟩ (.int .i64 (wrap64 (d.acts + 1)))).setCell ⟨r.M, 3, none⟩ (.int .i64 (d.fuse - 1))) r d.act c := by
 obtain ⟨v, lv, k, ls, sl, hs, hl, hm⟩ := h.mem
 have h1 := ((hm.put 0 (p := r.M) (cs := r.box v lv d) rfl 5 (.int .i64 (wrap64 (d.acts + 1)))).put 0 rfl 3 (.int .i64 (d.fuse - 1)))
 refine ⟨h.ok.act, h.N, h.hs, h.hf, v, lv, k, ls, sl, hs, hl, ?_⟩
 have hof : d.off = false := by unfold Dk.gone at hg; rw [Bool.or_eq_false_iff] at hg; exact hg.1
 have e : r.L v lv sl d.act c.L = (r.M, [.slice (some ⟨r.s, 0, none⟩) r.N r.cs, v, .slice (some ⟨r.f, 0, none⟩) r.N r.cf, .int .i64 (d.fuse - 1), .bool d.off, .int .i64 (wrap64 (d.acts + 1)), lv]) :: (r.s, sl.map slv) :: (r.f, bls d.faults) :: c.L := by
  simp only [RD.L, RD.box, Dk.act, hg, Bool.false_eq_true, if_false, Dk.tick, hof]
  rw [show max (d.fuse - 1) (-1) = d.fuse - 1 from by omega]
 rw [e]
 exact h1
theorem Rsk.gone0' {w0 w : World} {r : RD} {d : Dk} {c : Fr3} (h : Rsk w0 w r d c) (hg : d.gone = false) (hf : d.fuse < 0) :
  Rsk w0 (w.setCell ⟨r.M, 5, none⟩ (.int .i64 (wrap64 (d.acts + 1)))) r d.act c := by
 obtain ⟨v, lv, k, ls, sl, hs, hl, hm⟩ := h.mem
 have h1 := (hm.put 0 (p := r.M) (cs := r.box v lv d) rfl 5 (.int .i64 (wrap64 (d.acts + 1))))
 refine ⟨h.ok.act, h.N, h.hs, h.hf, v, lv, k, ls, sl, hs, hl, ?_⟩
 have hu := h.ok.u
 have hof : d.off = false := by unfold Dk.gone at hg; rw [Bool.or_eq_false_iff] at hg; exact hg.1
 have e : r.L v lv sl d.act c.L = (r.M, [.slice (some ⟨r.s, 0, none⟩) r.N r.cs, v, .slice (some ⟨r.f, 0, none⟩) r.N r.cf, .int .i64 d.fuse, .bool d.off, .int .i64 (wrap64 (d.acts + 1)), lv]) :: (r.s, sl.map slv) :: (r.f, bls d.faults) :: c.L := by
  simp only [RD.L, RD.box, Dk.act, hg, Bool.false_eq_true, if_false, Dk.tick, hof]
  rw [show max (d.fuse - 1) (-1) = d.fuse from by omega]
 rw [e]
 exact h1
theorem rk_act_any (w0 w : World) (r : RD) (d : Dk) (c : Fr3) (h : Rsk w0 w r d c) :
  Calls Tryz.prog 150 #[.pointer (some ⟨r.M, 0, none⟩)] w fun e w' => e = .returned (.bool (!d.gone)) ∧ Rsk w0 w' r d.act c := by
 obtain ⟨v, lv, k, ls, sl, hs, hl, hm⟩ := h.mem
 have hb := hm.boxi 0 (p := r.M) (cs := r.box v lv d) rfl
 have c3 := hb.cell 3 (by simp [RD.box])
 have c4 := hb.cell 4 (by simp [RD.box])
 have c5 := hb.cell 5 (by simp [RD.box])
 have f3 := hb.frozen 3
 have f4 := hb.frozen 4
 have f5 := hb.frozen 5
 simp only [RD.box, List.getElem_cons_zero, List.getElem_cons_succ] at c3 c4 c5
 have hu := h.ok.u
 have hlt := hb.lt
 obtain ⟨hu1, hu2⟩ := hu
 clear hm hb hl
 by_cases hg : d.gone = true
 ·refine (show Calls _ _ _ _ (fun e w' => e = .returned (.bool false) ∧ Rsk w0 w' r d.act c) from ?_).mono (fun e w' h => by rw [hg]; exact h)
  have H := Lib.hid (Rsk.gone1 h hg)
  clear h
  unfold Dk.gone at hg
  by_cases ho : d.off = true
  ·rw [ho] at c4
   clear hg ho
   go_enter Tryz.func150, Tryz.ntmps150
   go_wp2
   go_ret
   exact ⟨rfl, H.out⟩
  ·rw [Bool.not_eq_true] at ho
   have hf : d.fuse = 0 := by rw [ho] at hg; simpa using hg
   rw [ho] at c4
   rw [hf] at c3
   clear hg ho hf hu1 hu2
   go_enter Tryz.func150, Tryz.ntmps150
   go_wp2
   go_ret
   exact ⟨rfl, H.out⟩
 ·rw [Bool.not_eq_true] at hg
  refine (show Calls _ _ _ _ (fun e w' => e = .returned (.bool true) ∧ Rsk w0 w' r d.act c) from ?_).mono (fun e w' h => by rw [hg]; exact h)
  by_cases hz : 0 < d.fuse
  ·have H := Lib.hid (h.gone0 hg hz)
   clear h
   unfold Dk.gone at hg
   rw [Bool.or_eq_false_iff] at hg
   obtain ⟨ho, hf⟩ := hg
   rw [ho] at c4
   have hf : ¬ d.fuse = 0 := by omega
   clear ho
   go_enter Tryz.func150, Tryz.ntmps150
   go_wp2
   go_ret
   exact ⟨rfl, H.out⟩
  ·have hf0 : ¬ d.fuse = 0 := by
    unfold Dk.gone at hg
    rw [Bool.or_eq_false_iff] at hg
    simpa using hg.2
   have H := Lib.hid (h.gone0' hg (by omega))
   clear h
   unfold Dk.gone at hg
   rw [Bool.or_eq_false_iff] at hg
   obtain ⟨ho, hf⟩ := hg
   rw [ho] at c4
   clear ho hf
   go_enter Tryz.func150, Tryz.ntmps150
   go_wp2
   go_ret
   exact ⟨rfl, H.out⟩
theorem Tryz.infoHeld : (Tryz.prog.info? 175).map (fun i => (i.zero, i.size, i.bytes)) = some (some (.agg #[.int .i64 0, .slice none 0 0]), 2, 32) := by kernel_rfl
theorem Rsk.wroteMk {w0 w' : World} {r : RD} {d : Dk} {c : Fr3} {w : World} {v lv : Value} {k kk : Nat} {ls : List Value} {sl hs : List (Option Addr × Nat × Nat)} {b : List UInt8} {s : Option Addr × Nat × Nat} (h : Rsk w0 w r d c) (hh : d.has k = true) (hb : b.length = 64) (hl : hs.length = d.held.length)
  (hm : Wc w0 w' ((r.M, r.box v lv d.act) :: (r.s, sl.map slv) :: (r.f, bls d.faults) :: c.L) (⟨175, 2, v, d.held.length + 1, heldR d.held hs ++ [.int .i64 (k : Int), slv s]⟩ :: ⟨47, 1, lv, kk, ls⟩ :: c.G) ((fun W => Bls W sl d.safe) :: (fun W => Bls W (hs ++ [s]) (d.held.map (·.2) ++ [b])) :: c.F)) :
  Rsk w0 w' r (d.wrote k b) c := by
 refine ⟨h.ok.wrote hh hb, h.N, h.hs, h.hf, v, lv, kk, ls, sl, hs ++ [s], by simp [Dk.wrote, hl], ?_⟩
 have e1 : (d.wrote k b).held = d.held ++ [(k, b)] := by unfold Dk.wrote; simp
 rw [e1, heldR_snoc _ _ hl.symm, List.length_append, List.map_append]
 exact hm
set_option maxRecDepth 100000 in
set_option maxHeartbeats 4000000 in
theorem rk_write_any (w0 w : World) (r : RD) (d : Dk) (c : Fr3) (a : Int) (A : Option Addr) (n cc : Nat) (b : List UInt8) (h : Rsk w0 w r d c) (hb : (fun W => Bys W A n cc b) ∈ c.F) (hh : d.held.length ≤ 1000000) :
  Calls Tryz.prog 94 #[.pointer (some ⟨r.M, 0, none⟩), .int .i64 a, .slice A n cc] w fun e w' => e = .returned (.int .i64 (d.write a b).2) ∧ Rsk w0 w' r (d.write a b).1 c := by
 obtain ⟨v, lv, kk, ls, sl, hs, hl, hm⟩ := h.mem
 have hbl : b.length = n := by
  have := (hm.fact _ (List.mem_cons_of_mem _ (List.mem_cons_of_mem _ hb))).len
  rwa [bvs_length] at this
 have hbx := hm.boxi 0 (p := r.M) (cs := r.box v lv d) rfl
 have c0 := hbx.cell 0 (by simp [RD.box])
 simp only [RD.box, List.getElem_cons_zero, List.getElem_cons_succ] at c0
 have hN := h.N
 have hn := h.ok.n
 have hN1 : 1 ≤ r.N ∧ r.N ≤ 4096 := by omega
 obtain ⟨hN1, hN2⟩ := hN1
 have hha : decide (0 ≤ a ∧ a ≤ (r.N : Int) - 1) = d.has a := by
  unfold Dk.has
  rw [hN]
  by_cases h1 : 0 ≤ a ∧ a ≤ (r.N : Int) - 1
  ·rw [decide_eq_true h1, decide_eq_true (by omega)]
  ·rw [decide_eq_false h1, decide_eq_false (by omega)]
 have HHA := Lib.hid hha
 clear hm hbx hN hn hha hl
 by_cases hok : d.has a = true ∧ b.length = 64
 ·obtain ⟨ho1, ho2⟩ := hok
  obtain rfl : n = 64 := by omega
  by_cases hg : d.gone = true
  ·have e : d.write a b = (d.act, 3) := by unfold Dk.write; simp [ho1, ho2, hg]
   rw [e]
   have H := Lib.hid h
   have HG := Lib.hid hg
   have HO := Lib.hid ho1
   clear h hbl ho2 ho1 hg e
   go_enter Tryz.func94, Tryz.ntmps94
   go_wp2_with fail
   refine (within_any a 0 ((r.N : Int) - 1) _).mono ?_
   rintro e w1 ⟨rfl, rfl⟩
   rw [HHA.out, HO.out]
   go_wp2_with fail
   refine (rk_act_any w0 w r d c H.out).mono ?_
   rintro e w1 ⟨rfl, h1⟩
   rw [HG.out]
   have H1 := Lib.hid h1
   clear h1
   go_wp2
   go_ret
   exact ⟨rfl, H1.out⟩
  ·have e : d.write a b = (d.wrote a b, 0) := by unfold Dk.write; simp [ho1, ho2, hg]
   rw [e]
   rw [Bool.not_eq_true] at hg
   obtain ⟨k, rfl⟩ : ∃ k : Nat, a = k := ⟨a.toNat, by unfold Dk.has at ho1; simp only [decide_eq_true_eq] at ho1; omega⟩
   have H := Lib.hid h
   have HG := Lib.hid hg
   have HO := Lib.hid ho1
   have HB := Lib.hid hb
   have HL := Lib.hid ho2
   clear h hbl ho2 ho1 hg e hb
   go_enter Tryz.func94, Tryz.ntmps94
   go_wp2_with fail
   refine (within_any (k : Int) 0 ((r.N : Int) - 1) _).mono ?_
   rintro e w1 ⟨rfl, rfl⟩
   rw [HHA.out, HO.out]
   go_wp2_with fail
   refine (rk_act_any w0 w r d c H.out).mono ?_
   rintro e w1 ⟨rfl, h1⟩
   rw [HG.out]
   clear c0 v lv kk ls sl hs
   obtain ⟨v, lv, kk, ls, sl, hs, hl, hm⟩ := h1.mem
   obtain ⟨i1, hi1, hy0, hy1, hy2⟩ := info_parts Tryz.infoHeld
   have hdl : d.act.held.length = d.held.length := rfl
   have hde : d.act.held = d.held := rfl
   rw [hde] at hm hl
   have HHL := Lib.hid hl
   have HD7 := Lib.hid hm.drew
   clear hm h1 hdl hde hl
   go_wp2_with fail
   refine wp_region_held_drew (S := fun w' => w'.cell? ⟨r.M, 0, none⟩ = some (.slice (some ⟨r.s, 0, none⟩) r.N r.cs)) (by kernel_rfl) (by simpa [RD.box] using (HD7.out.boxi 0 (p := r.M) rfl).cell 0 (by simp [RD.box])) (fun hSw0 => ?_)
   generalize w1.drew = ws at *
   refine Kn.takeS 0 ⟨some 24, _, _, _, _, _⟩ ?_
   refine Kn.takeS 1 ⟨some 25, _, _, _, _, _⟩ ?_
   refine Kn.takeS 2 ⟨some 26, _, _, _, _, _⟩ ?_
   refine Kn.takeS 3 ⟨some 27, _, _, _, _, _⟩ ?_
   refine Kn.takeS 5 ⟨some 29, _, _, _, _, _⟩ ?_
   refine Kn.takeS 6 ⟨some 30, _, _, _, _, _⟩ ?_
   refine Kn.takeS 7 ⟨some 31, _, _, _, _, _⟩ ?_
   refine Kn.takeS 8 ⟨some 32, _, _, _, _, _⟩ ?_
   refine wpAnyH_ready (rs := [4, 9]) (by kernel_rfl) (by simp) ?_
   refine AllReadyH.cons (o := ⟨some 28, _, _, _, _, _⟩) rfl (fun K hK => ?_) ?_
   ·have yq := (HD7.out.boxi 0 (p := r.M) rfl).cell 1 (by simp [RD.box])
    simp only [RD.box, List.getElem_cons_zero, List.getElem_cons_succ] at yq
    go_simp
    clear yq
    refine hK.out _ _ (by simpa [RD.box] using (HD7.out.boxi 0 (p := r.M) rfl).cell 0 (by simp [RD.box])) (fun hSn => ?_)
    clear hK K hSw0
    have hSw0 := hSn
    clear hSn
    refine Kn.takeR 9 ⟨some 33, _, _, _, _, _⟩ fun K hK => ?_
    go_simp
    refine (part_any A 64 cc b 0 64 _ _ (HD7.out.fact _ (List.mem_cons_of_mem _ (List.mem_cons_of_mem _ HB.out))) (by omega) (by omega) (by omega)).mono ?_
    rintro en va ⟨rfl, ho7, hO⟩
    rw [List.drop_zero, List.take_of_length_le (by rw [HL.out]; omega)] at ho7
    have hbw := HD7.out.only.size
    have HDa := Lib.hid (HD7.out.addFc hO (f := fun V => Bys V (some ⟨ws.heap.size, 0, none⟩) 64 64 b) (Row1.fc (Row1.of_Own ho7 (by simp [HL.out]) (Nat.le_refl _) (by simp [maxLen])) (fun _ a ha => by injection ha with ha; subst ha; simp)))
    obtain ⟨g7, hg7⟩ : ∃ g, ws.heap.size = g := ⟨_, rfl⟩
    clear hO ho7 hbw
    rw [hg7] at HDa ⊢
    clear hg7 HD7
    refine hK.out _ _ (by simpa [RD.box] using (HDa.out.boxi 0 (p := r.M) rfl).cell 0 (by simp [RD.box])) (fun hSn => ?_)
    clear hK K hSw0
    have hSw0 := hSn
    clear hSn
    refine Kn.takeS 10 ⟨some 34, _, _, _, _, _⟩ ?_
    refine Kn.takeR 11 ⟨some 35, _, _, _, _, _⟩ fun K hK => ?_
    go_simp
    have HDb := Lib.hid (HDa.out.alloc (.cells #[.int .i64 (k : Int), .slice (some ⟨g7, 0, none⟩) 64 64] 175))
    have hnw := news_new va #[.int .i64 (k : Int), .slice (some ⟨g7, 0, none⟩) 64 64] 175 (by simp [maxLen])
    have HNW := Lib.hid hnw
    clear hnw
    generalize hvz : va.heap.size = vz at *
    generalize hvb : va.alloc (.cells #[.int .i64 (k : Int), .slice (some ⟨g7, 0, none⟩) 64 64] 175) = vb at *
    clear hvb hvz
    refine hK.out _ _ (by simpa [RD.box] using (HDb.out.boxi 0 (p := r.M) rfl).cell 0 (by simp [RD.box])) (fun hSn => ?_)
    clear hK K hSw0
    have hSw0 := hSn
    clear hSn
    refine Kn.takeR 12 ⟨some 36, _, _, _, _, _⟩ fun K hK => ?_
    have hbw := HDb.out.only.size
    refine step_append_own rfl (.tmp 28) (.tmp 35) 106 rfl w0.heap.size 175 i1 _ 2 32 Tryz.underlying106 hi1 hy0 hy1 hy2 rfl (by decide) v d.held.length (heldR d.held hs) rfl (HDb.out.gi 0 rfl) ⟨vz, 0, none⟩ 1 1 [.int .i64 (k : Int), .slice (some ⟨g7, 0, none⟩) 64 64] rfl rfl HNW.out (by intro u hu; simp at hu; rcases hu with rfl | rfl <;> rfl) (by unfold maxLen; omega) (by omega) hbw ?_
    intro v5 vd hown hgrow hat
    have hdd := HDb.out.gapp 0 rfl hown hgrow hat
    obtain ⟨A8, c8, rfl⟩ := hdd.gform 0 rfl
    simp only [List.set_cons_zero, List.set_cons_succ] at hdd
    have HDd := Lib.hid hdd
    clear hdd hown hgrow hat hbw
    refine hK.out _ _ (by simpa [RD.box] using (HDd.out.boxi 0 (p := r.M) rfl).cell 0 (by simp [RD.box])) (fun hSn => ?_)
    clear hK K hSw0
    have hSw0 := hSn
    clear hSn
    refine Kn.takeS 13 ⟨some 37, _, _, _, _, _⟩ ?_
    refine Kn.takeS 14 ⟨some 38, _, _, _, _, _⟩ ?_
    refine Kn.takeR 15 ⟨none, _, _, _, _, _⟩ fun K hK => ?_
    have hxb := HDd.out.boxi 0 (p := r.M) rfl
    have yq := hxb.cell 1 (by simp [RD.box])
    simp only [RD.box, List.getElem_cons_zero, List.getElem_cons_succ] at yq
    have fq := hxb.frozen 1
    go_simp
    clear yq fq hxb
    have hdz := HDd.out.put 0 (p := r.M) rfl 1 (.slice A8 (d.held.length + 1) c8)
    have HDz := Lib.hid hdz
    clear hdz
    refine hK.out _ _ (by simpa [RD.box] using (HDz.out.boxi 0 (p := r.M) rfl).cell 0 (by simp [RD.box])) (fun hSn => ?_)
    clear hK K hSw0
    have hSw0 := hSn
    clear hSn
    refine wpAnyH_done (by kernel_rfl) ?_ _
    clear hSw0
    go_wp2
    go_ret
    refine ⟨rfl, Rsk.wroteMk (v := .slice A8 (d.held.length + 1) c8) (lv := lv) (sl := sl) (hs := hs) (s := (some ⟨g7, 0, none⟩, 64, 64)) (kk := kk) (ls := ls) H.out HO.out HL.out HHL.out ?_⟩
    refine (HDz.out.fuse (f1 := fun V => Bys V (some ⟨g7, 0, none⟩) 64 64 b) (f2 := fun V => Bls V hs (d.held.map (·.2))) (f := fun V => Bls V (hs ++ [(some ⟨g7, 0, none⟩, 64, 64)]) (d.held.map (·.2) ++ [b])) (by simp) (by simp) (fun V h1 h2 => h2.snoc h1)).subF ?_
    intro f1 hf1
    rcases List.mem_cons.1 hf1 with rfl | hf1
    ·exact List.mem_cons_of_mem _ (List.mem_cons_of_mem _ List.mem_cons_self)
    ·rcases List.mem_cons.1 hf1 with rfl | hf1
     ·exact List.mem_cons_self
     ·exact List.mem_cons_of_mem _ (List.mem_cons_of_mem _ (List.mem_cons_of_mem _ (List.mem_cons_of_mem _ hf1)))
   refine AllReadyH.cons (o := ⟨some 33, _, _, _, _, _⟩) rfl (fun K hK => ?_) ?_
   ·go_simp
    refine (part_any A 64 cc b 0 64 _ _ (HD7.out.fact _ (List.mem_cons_of_mem _ (List.mem_cons_of_mem _ HB.out))) (by omega) (by omega) (by omega)).mono ?_
    rintro en va ⟨rfl, ho7, hO⟩
    rw [List.drop_zero, List.take_of_length_le (by rw [HL.out]; omega)] at ho7
    have hbw := HD7.out.only.size
    have HDa := Lib.hid (HD7.out.addFc hO (f := fun V => Bys V (some ⟨ws.heap.size, 0, none⟩) 64 64 b) (Row1.fc (Row1.of_Own ho7 (by simp [HL.out]) (Nat.le_refl _) (by simp [maxLen])) (fun _ a ha => by injection ha with ha; subst ha; simp)))
    obtain ⟨g7, hg7⟩ : ∃ g, ws.heap.size = g := ⟨_, rfl⟩
    clear hO ho7 hbw
    rw [hg7] at HDa ⊢
    clear hg7 HD7
    refine hK.out _ _ (by simpa [RD.box] using (HDa.out.boxi 0 (p := r.M) rfl).cell 0 (by simp [RD.box])) (fun hSn => ?_)
    clear hK K hSw0
    have hSw0 := hSn
    clear hSn
    refine Kn.takeS 10 ⟨some 34, _, _, _, _, _⟩ ?_
    refine wpAnyH_ready (rs := [4, 11]) (by kernel_rfl) (by simp) ?_
    refine AllReadyH.cons (o := ⟨some 28, _, _, _, _, _⟩) rfl (fun K hK => ?_) ?_
    ·have yq := (HDa.out.boxi 0 (p := r.M) rfl).cell 1 (by simp [RD.box])
     simp only [RD.box, List.getElem_cons_zero, List.getElem_cons_succ] at yq
     go_simp
     clear yq
     refine hK.out _ _ (by simpa [RD.box] using (HDa.out.boxi 0 (p := r.M) rfl).cell 0 (by simp [RD.box])) (fun hSn => ?_)
     clear hK K hSw0
     have hSw0 := hSn
     clear hSn
     refine Kn.takeR 11 ⟨some 35, _, _, _, _, _⟩ fun K hK => ?_
     go_simp
     have HDb := Lib.hid (HDa.out.alloc (.cells #[.int .i64 (k : Int), .slice (some ⟨g7, 0, none⟩) 64 64] 175))
     have hnw := news_new va #[.int .i64 (k : Int), .slice (some ⟨g7, 0, none⟩) 64 64] 175 (by simp [maxLen])
     have HNW := Lib.hid hnw
     clear hnw
     generalize hvz : va.heap.size = vz at *
     generalize hvb : va.alloc (.cells #[.int .i64 (k : Int), .slice (some ⟨g7, 0, none⟩) 64 64] 175) = vb at *
     clear hvb hvz
     refine hK.out _ _ (by simpa [RD.box] using (HDb.out.boxi 0 (p := r.M) rfl).cell 0 (by simp [RD.box])) (fun hSn => ?_)
     clear hK K hSw0
     have hSw0 := hSn
     clear hSn
     refine Kn.takeR 12 ⟨some 36, _, _, _, _, _⟩ fun K hK => ?_
     have hbw := HDb.out.only.size
     refine step_append_own rfl (.tmp 28) (.tmp 35) 106 rfl w0.heap.size 175 i1 _ 2 32 Tryz.underlying106 hi1 hy0 hy1 hy2 rfl (by decide) v d.held.length (heldR d.held hs) rfl (HDb.out.gi 0 rfl) ⟨vz, 0, none⟩ 1 1 [.int .i64 (k : Int), .slice (some ⟨g7, 0, none⟩) 64 64] rfl rfl HNW.out (by intro u hu; simp at hu; rcases hu with rfl | rfl <;> rfl) (by unfold maxLen; omega) (by omega) hbw ?_
     intro v5 vd hown hgrow hat
     have hdd := HDb.out.gapp 0 rfl hown hgrow hat
     obtain ⟨A8, c8, rfl⟩ := hdd.gform 0 rfl
     simp only [List.set_cons_zero, List.set_cons_succ] at hdd
     have HDd := Lib.hid hdd
     clear hdd hown hgrow hat hbw
     refine hK.out _ _ (by simpa [RD.box] using (HDd.out.boxi 0 (p := r.M) rfl).cell 0 (by simp [RD.box])) (fun hSn => ?_)
     clear hK K hSw0
     have hSw0 := hSn
     clear hSn
     refine Kn.takeS 13 ⟨some 37, _, _, _, _, _⟩ ?_
     refine Kn.takeS 14 ⟨some 38, _, _, _, _, _⟩ ?_
     refine Kn.takeR 15 ⟨none, _, _, _, _, _⟩ fun K hK => ?_
     have hxb := HDd.out.boxi 0 (p := r.M) rfl
     have yq := hxb.cell 1 (by simp [RD.box])
     simp only [RD.box, List.getElem_cons_zero, List.getElem_cons_succ] at yq
     have fq := hxb.frozen 1
     go_simp
     clear yq fq hxb
     have hdz := HDd.out.put 0 (p := r.M) rfl 1 (.slice A8 (d.held.length + 1) c8)
     have HDz := Lib.hid hdz
     clear hdz
     refine hK.out _ _ (by simpa [RD.box] using (HDz.out.boxi 0 (p := r.M) rfl).cell 0 (by simp [RD.box])) (fun hSn => ?_)
     clear hK K hSw0
     have hSw0 := hSn
     clear hSn
     refine wpAnyH_done (by kernel_rfl) ?_ _
     clear hSw0
     go_wp2
     go_ret
     refine ⟨rfl, Rsk.wroteMk (v := .slice A8 (d.held.length + 1) c8) (lv := lv) (sl := sl) (hs := hs) (s := (some ⟨g7, 0, none⟩, 64, 64)) (kk := kk) (ls := ls) H.out HO.out HL.out HHL.out ?_⟩
     refine (HDz.out.fuse (f1 := fun V => Bys V (some ⟨g7, 0, none⟩) 64 64 b) (f2 := fun V => Bls V hs (d.held.map (·.2))) (f := fun V => Bls V (hs ++ [(some ⟨g7, 0, none⟩, 64, 64)]) (d.held.map (·.2) ++ [b])) (by simp) (by simp) (fun V h1 h2 => h2.snoc h1)).subF ?_
     intro f1 hf1
     rcases List.mem_cons.1 hf1 with rfl | hf1
     ·exact List.mem_cons_of_mem _ (List.mem_cons_of_mem _ List.mem_cons_self)
     ·rcases List.mem_cons.1 hf1 with rfl | hf1
      ·exact List.mem_cons_self
      ·exact List.mem_cons_of_mem _ (List.mem_cons_of_mem _ (List.mem_cons_of_mem _ (List.mem_cons_of_mem _ hf1)))
    refine AllReadyH.cons (o := ⟨some 35, _, _, _, _, _⟩) rfl (fun K hK => ?_) ?_
    ·go_simp
     have HDb := Lib.hid (HDa.out.alloc (.cells #[.int .i64 (k : Int), .slice (some ⟨g7, 0, none⟩) 64 64] 175))
     have hnw := news_new va #[.int .i64 (k : Int), .slice (some ⟨g7, 0, none⟩) 64 64] 175 (by simp [maxLen])
     have HNW := Lib.hid hnw
     clear hnw
     generalize hvz : va.heap.size = vz at *
     generalize hvb : va.alloc (.cells #[.int .i64 (k : Int), .slice (some ⟨g7, 0, none⟩) 64 64] 175) = vb at *
     clear hvb hvz
     refine hK.out _ _ (by simpa [RD.box] using (HDb.out.boxi 0 (p := r.M) rfl).cell 0 (by simp [RD.box])) (fun hSn => ?_)
     clear hK K hSw0
     have hSw0 := hSn
     clear hSn
     refine Kn.takeR 4 ⟨some 28, _, _, _, _, _⟩ fun K hK => ?_
     have yq := (HDb.out.boxi 0 (p := r.M) rfl).cell 1 (by simp [RD.box])
     simp only [RD.box, List.getElem_cons_zero, List.getElem_cons_succ] at yq
     go_simp
     clear yq
     refine hK.out _ _ (by simpa [RD.box] using (HDb.out.boxi 0 (p := r.M) rfl).cell 0 (by simp [RD.box])) (fun hSn => ?_)
     clear hK K hSw0
     have hSw0 := hSn
     clear hSn
     refine Kn.takeR 12 ⟨some 36, _, _, _, _, _⟩ fun K hK => ?_
     have hbw := HDb.out.only.size
     refine step_append_own rfl (.tmp 28) (.tmp 35) 106 rfl w0.heap.size 175 i1 _ 2 32 Tryz.underlying106 hi1 hy0 hy1 hy2 rfl (by decide) v d.held.length (heldR d.held hs) rfl (HDb.out.gi 0 rfl) ⟨vz, 0, none⟩ 1 1 [.int .i64 (k : Int), .slice (some ⟨g7, 0, none⟩) 64 64] rfl rfl HNW.out (by intro u hu; simp at hu; rcases hu with rfl | rfl <;> rfl) (by unfold maxLen; omega) (by omega) hbw ?_
     intro v5 vd hown hgrow hat
     have hdd := HDb.out.gapp 0 rfl hown hgrow hat
     obtain ⟨A8, c8, rfl⟩ := hdd.gform 0 rfl
     simp only [List.set_cons_zero, List.set_cons_succ] at hdd
     have HDd := Lib.hid hdd
     clear hdd hown hgrow hat hbw
     refine hK.out _ _ (by simpa [RD.box] using (HDd.out.boxi 0 (p := r.M) rfl).cell 0 (by simp [RD.box])) (fun hSn => ?_)
     clear hK K hSw0
     have hSw0 := hSn
     clear hSn
     refine Kn.takeS 13 ⟨some 37, _, _, _, _, _⟩ ?_
     refine Kn.takeS 14 ⟨some 38, _, _, _, _, _⟩ ?_
     refine Kn.takeR 15 ⟨none, _, _, _, _, _⟩ fun K hK => ?_
     have hxb := HDd.out.boxi 0 (p := r.M) rfl
     have yq := hxb.cell 1 (by simp [RD.box])
     simp only [RD.box, List.getElem_cons_zero, List.getElem_cons_succ] at yq
     have fq := hxb.frozen 1
     go_simp
     clear yq fq hxb
     have hdz := HDd.out.put 0 (p := r.M) rfl 1 (.slice A8 (d.held.length + 1) c8)
     have HDz := Lib.hid hdz
     clear hdz
     refine hK.out _ _ (by simpa [RD.box] using (HDz.out.boxi 0 (p := r.M) rfl).cell 0 (by simp [RD.box])) (fun hSn => ?_)
     clear hK K hSw0
     have hSw0 := hSn
     clear hSn
     refine wpAnyH_done (by kernel_rfl) ?_ _
     clear hSw0
     go_wp2
     go_ret
     refine ⟨rfl, Rsk.wroteMk (v := .slice A8 (d.held.length + 1) c8) (lv := lv) (sl := sl) (hs := hs) (s := (some ⟨g7, 0, none⟩, 64, 64)) (kk := kk) (ls := ls) H.out HO.out HL.out HHL.out ?_⟩
     refine (HDz.out.fuse (f1 := fun V => Bys V (some ⟨g7, 0, none⟩) 64 64 b) (f2 := fun V => Bls V hs (d.held.map (·.2))) (f := fun V => Bls V (hs ++ [(some ⟨g7, 0, none⟩, 64, 64)]) (d.held.map (·.2) ++ [b])) (by simp) (by simp) (fun V h1 h2 => h2.snoc h1)).subF ?_
     intro f1 hf1
     rcases List.mem_cons.1 hf1 with rfl | hf1
     ·exact List.mem_cons_of_mem _ (List.mem_cons_of_mem _ List.mem_cons_self)
     ·rcases List.mem_cons.1 hf1 with rfl | hf1
      ·exact List.mem_cons_self
      ·exact List.mem_cons_of_mem _ (List.mem_cons_of_mem _ (List.mem_cons_of_mem _ (List.mem_cons_of_mem _ hf1)))
    exact AllReadyH.nil
   exact AllReadyH.nil
 ·have e : d.write a b = (d, 1) := by
   unfold Dk.write
   rw [if_neg]
   simp only [Bool.and_eq_true, decide_eq_true_eq]
   exact hok
  rw [e]
  have H := Lib.hid h
  by_cases ho1 : d.has a = true
  ·have hn2 : ((n : Int) != 64) = true := by
    have : ¬ n = 64 := fun h => hok ⟨ho1, by omega⟩
    simp; omega
   have HO := Lib.hid ho1
   clear h hbl hok ho1 e
   go_enter Tryz.func94, Tryz.ntmps94
   go_wp2_with fail
   refine (within_any a 0 ((r.N : Int) - 1) _).mono ?_
   rintro e w1 ⟨rfl, rfl⟩
   rw [HHA.out, HO.out]
   go_wp2
   go_ret
   exact ⟨rfl, H.out⟩
  ·rw [Bool.not_eq_true] at ho1
   have HO := Lib.hid ho1
   clear h hbl hok ho1 e
   go_enter Tryz.func94, Tryz.ntmps94
   go_wp2_with fail
   refine (within_any a 0 ((r.N : Int) - 1) _).mono ?_
   rintro e w1 ⟨rfl, rfl⟩
   rw [HHA.out, HO.out]
   go_wp2
   go_ret
   exact ⟨rfl, H.out⟩
end Go.Proofs.YtgcfdjcpcclcjaaGreat
namespace Go.Proofs.YtgcfdjcpcclcjaaGreat
open Go Go.RowKit Go.Kn
theorem Rsk.flushMk {w0 w w' : World} {r : RD} {d : Dk} {c : Fr3} {v lv : Value} {kk : Nat} {ls : List Value} {sl hs : List (Option Addr × Nat × Nat)} (h : Rsk w0 w r d c)
  (hm : Wc w0 w' ((r.M, r.box v lv d.act) :: (r.s, sl.map slv) :: (r.f, bls d.faults) :: c.L) (⟨175, 2, v, d.held.length, heldR d.held hs⟩ :: ⟨47, 1, lv, kk, ls⟩ :: c.G) ((fun W => Bls W sl d.now) :: (fun W => Bls W hs (d.held.map (·.2))) :: c.F)) :
  Rsk w0 (w'.setCell ⟨r.M, 1, none⟩ (.slice none 0 0)) r d.flushed c := by
 have h1 := (hm.greset).put 0 (p := r.M) (cs := r.box v lv d.act) rfl 1 (.slice none 0 0)
 refine ⟨h.ok.flushed, by show d.now.length = _; rw [Dk.now_length]; exact h.N, h.hs, h.hf, .slice none 0 0, lv, kk, ls, sl, [], rfl, ?_⟩
 refine (h1.addF (fun W => Bls W [] []) (fun W _ => Bls.nil W)).subF ?_
 intro f hf
 rcases List.mem_cons.1 hf with rfl | hf
 ·exact List.mem_cons_of_mem _ List.mem_cons_self
 ·rcases List.mem_cons.1 hf with rfl | hf
  ·exact List.mem_cons_self
  ·exact List.mem_cons_of_mem _ (List.mem_cons_of_mem _ (List.mem_cons_of_mem _ hf))
theorem Bls.set {w : World} {sl : List (Option Addr × Nat × Nat)} {bl : List (List UInt8)} (h : Bls w sl bl) (k : Nat) {s : Option Addr × Nat × Nat} {b : List UInt8} (hb : Bys w s.1 s.2.1 s.2.2 b) : Bls w (sl.set k s) (bl.set k b) := by
 refine ⟨by rw [List.length_set, List.length_set]; exact h.1, fun i h1 h2 => ?_⟩
 rw [List.length_set] at h1 h2
 by_cases e : k = i
 ·subst e
  rw [List.getElem_set_self, List.getElem_set_self]
  exact hb
 ·rw [List.getElem_set_ne e, List.getElem_set_ne e]
  exact h.2 i h1 h2
set_option maxRecDepth 100000 in
set_option maxHeartbeats 4000000 in
theorem rk_flush_any (w0 w : World) (r : RD) (d : Dk) (c : Fr3) (h : Rsk w0 w r d c) (hh : d.held.length ≤ 1000000) :
  Calls Tryz.prog 96 #[.pointer (some ⟨r.M, 0, none⟩)] w fun e w' => e = .returned (.int .i64 d.flush.2) ∧ Rsk w0 w' r d.flush.1 c := by
 have H := Lib.hid h
 by_cases hg : d.gone = true
 ·have e : d.flush = (d.act, 3) := by unfold Dk.flush; rw [if_pos hg]
  rw [e]
  have HG := Lib.hid hg
  clear h hg e
  go_enter Tryz.func96, Tryz.ntmps96
  go_wp2_with fail
  refine (rk_act_any w0 w r d c H.out).mono ?_
  rintro e w1 ⟨rfl, h1⟩
  rw [HG.out]
  have H1 := Lib.hid h1
  clear h1
  go_wp2
  go_ret
  exact ⟨rfl, H1.out⟩
 ·have e : d.flush = (d.flushed, 0) := by unfold Dk.flush; rw [if_neg hg]
  rw [e]
  rw [Bool.not_eq_true] at hg
  have hN := h.N
  have hn := h.ok.n
  have HN := Lib.hid hN
  have hN1 : 1 ≤ r.N ∧ r.N ≤ 4096 := by omega
  obtain ⟨hN1, hN2⟩ := hN1
  have HG := Lib.hid hg
  clear h hg e hN hn
  go_enter Tryz.func96, Tryz.ntmps96
  go_wp2_with fail
  refine (rk_act_any w0 w r d c H.out).mono ?_
  rintro e w1 ⟨rfl, h1⟩
  rw [HG.out]
  obtain ⟨v, lv, kk, ls, sl0, hs, hl, hm⟩ := h1.mem
  have hdl : d.act.held = d.held := rfl
  rw [hdl] at hl hm
  obtain ⟨A, cc, rfl⟩ := hm.gform 0 rfl
  have HM := Lib.hid hm
  have HHL := Lib.hid hl
  obtain ⟨n, hn⟩ : ∃ n, d.held.length = n := ⟨_, rfl⟩
  rw [hn] at hh HM
  have HL := Lib.hid hn
  clear hm h1 hdl hl hn
  go_wp2_with fail
  go_loopg [3] n (fun q i wr => ∃ (j : Nat) (sl : List (Option Addr × Nat × Nat)), j + q = n ∧ i = .int .i64 j ∧ Wc w0 wr ((r.M, r.box (.slice A n cc) lv d.act) :: (r.s, sl.map slv) :: (r.f, bls d.faults) :: c.L) (⟨175, 2, .slice A n cc, n, heldR d.held hs⟩ :: ⟨47, 1, lv, kk, ls⟩ :: c.G) ((fun W => Bls W sl (Dk.over d.safe (d.held.take j))) :: (fun W => Bls W hs (d.held.map (·.2))) :: c.F))
  case atStart => exact ⟨0, sl0, by omega, rfl, HM.out⟩
  obtain ⟨j, sl, hj, rfl, hw⟩ := hrel
  have HW := Lib.hid hw
  clear hw HM
  have hbx := HW.out.boxi 0 (p := r.M) rfl
  have c1 := hbx.cell 1 (by simp [RD.box])
  simp only [RD.box, List.getElem_cons_zero, List.getElem_cons_succ] at c1
  clear hbx
  by_cases hlt : j < n
  ·have hjl : j < d.held.length := by rw [HL.out]; exact hlt
   have hok := H.out.ok.h d.held[j] (List.getElem_mem _)
   obtain ⟨A', c', hv, _, _, hcl, _⟩ := (HW.out.gath (x := ⟨175, 2, .slice A n cc, n, heldR d.held hs⟩) List.mem_cons_self).form (by show 0 < 2; omega)
   injection hv with e1 e2 e3
   subst e1 e3
   obtain ⟨g, rfl, _, _, hcells⟩ := hcl (by show 0 < n; omega)
   obtain ⟨g0, g1⟩ := heldR_get d.held hs HHL.out.symm j hjl
   have y0 := hcells _ _ g0
   have y1 := hcells _ _ g1
   have hjh : j < hs.length := by rw [HHL.out]; exact hjl
   have hbb := (HW.out.fi 1 rfl).2 j hjh (by simpa using hjl)
   rw [List.getElem_map] at hbb
   have hov := Dk.over_take d.safe d.held j hjl
   have hsll := (HW.out.fi 0 rfl).1
   rw [Dk.over_length, HN.out] at hsll
   have hbf : ∀ W, Bls W hs (d.held.map (·.2)) → Bys W hs[j].1 hs[j].2.1 hs[j].2.2 d.held[j].2 := fun W hW => by
    have := hW.2 j hjh (by simpa using hjl)
    rwa [List.getElem_map] at this
   have HBF := Lib.hid hbf
   have HOV := Lib.hid hov
   have HSL := Lib.hid hsll
   obtain ⟨⟨A1, n1, k1⟩, hs1⟩ : ∃ s, hs[j] = s := ⟨_, rfl⟩
   rw [hs1] at y1 HBF
   simp only [slv] at y1
   rw [Nat.mul_comm 2 j] at y0 y1
   obtain ⟨x, hx⟩ : ∃ x, d.held[j].1 = x := ⟨_, rfl⟩
   obtain ⟨b, hb⟩ : ∃ b, d.held[j].2 = b := ⟨_, rfl⟩
   rw [hx] at y0 hok HOV
   rw [hb] at HBF HOV
   have hxN := hok.1
   clear hok
   have hxp : x < r.N := by rw [← HN.out]; exact hxN
   have hx1 : (x : Int) < (r.N : Int) := by omega
   have hlt2 : (j : Int) < (n : Int) := by omega
   have HD7 := Lib.hid HW.out.drew
   have HY : Hid (wr.cell? ⟨g, j * 2, none⟩ = some (.int .i64 (x : Int)) ∧ wr.cell? ⟨g, j * 2 + 1, none⟩ = some (.slice A1 n1 k1)) := Lib.hid ⟨y0, y1⟩
   have hsg : g ≠ r.s := fun e => HW.out.g3 (r.s, sl.map slv) (by simp) _ List.mem_cons_self (by rw [← e]; rfl)
   clear hx hb hcells hcl g0 g1 hbb hov hsll hbf hs1 hjl hjh hxN y0 y1 HW
   go_wp2_with fail
   refine wp_region_held_drew (S := fun w' => w'.cell? ⟨r.M, 0, none⟩ = some (.slice (some ⟨r.s, 0, none⟩) r.N r.cs) ∧ w'.cell? ⟨r.M, 1, none⟩ = some (.slice (some ⟨g, 0, none⟩) n cc) ∧ w'.cell? ⟨g, j * 2, none⟩ = some (.int .i64 (x : Int)) ∧ w'.cell? ⟨g, j * 2 + 1, none⟩ = some (.slice A1 n1 k1)) (by kernel_rfl) ⟨by simpa [RD.box] using (HD7.out.boxi 0 (p := r.M) rfl).cell 0 (by simp [RD.box]), by simpa [RD.box] using (HD7.out.boxi 0 (p := r.M) rfl).cell 1 (by simp [RD.box]), HY.out.1, HY.out.2⟩ (fun hSw0 => ?_)
   generalize wr.drew = ws at *
   refine Kn.takeS 0 ⟨some 16, _, _, _, _, _⟩ ?_
   refine Kn.takeS 1 ⟨some 17, _, _, _, _, _⟩ ?_
   refine Kn.takeS 2 ⟨some 18, _, _, _, _, _⟩ ?_
   refine Kn.takeS 3 ⟨some 19, _, _, _, _, _⟩ ?_
   refine Kn.takeS 4 ⟨some 20, _, _, _, _, _⟩ ?_
   refine Kn.takeS 5 ⟨some 21, _, _, _, _, _⟩ ?_
   refine Kn.takeS 6 ⟨some 22, _, _, _, _, _⟩ ?_
   refine Kn.takeS 7 ⟨some 23, _, _, _, _, _⟩ ?_
   refine Kn.takeS 8 ⟨some 24, _, _, _, _, _⟩ ?_
   refine Kn.takeS 9 ⟨some 25, _, _, _, _, _⟩ ?_
   refine Kn.takeS 10 ⟨some 26, _, _, _, _, _⟩ ?_
   refine Kn.takeS 11 ⟨some 27, _, _, _, _, _⟩ ?_
   refine Kn.takeS 12 ⟨some 28, _, _, _, _, _⟩ ?_
   refine Kn.takeS 13 ⟨some 29, _, _, _, _, _⟩ ?_
   refine Kn.takeS 14 ⟨some 30, _, _, _, _, _⟩ ?_
   refine Kn.takeS 15 ⟨some 31, _, _, _, _, _⟩ ?_
   refine Kn.takeS 16 ⟨some 32, _, _, _, _, _⟩ ?_
   refine Kn.takeS 17 ⟨some 33, _, _, _, _, _⟩ ?_
   refine Kn.takeS 18 ⟨some 34, _, _, _, _, _⟩ ?_
   refine Kn.takeS 19 ⟨some 35, _, _, _, _, _⟩ ?_
   refine Kn.takeS 20 ⟨some 36, _, _, _, _, _⟩ ?_
   refine Kn.takeR 21 ⟨none, _, _, _, _, _⟩ fun K hK => ?_
   have hxb := HD7.out.boxi 1 rfl
   have hsx : x < (sl.map slv).length := by rw [List.length_map, HSL.out]; exact hxp
   have yq := hxb.cell x hsx
   have fq := hxb.frozen x
   generalize (sl.map slv)[x] = old at yq
   have hdz := HD7.out.put 1 rfl x (.slice A1 n1 k1)
   have hmp : (sl.map slv).set x (.slice A1 n1 k1) = (sl.set x (A1, n1, k1)).map slv := by rw [List.map_set]; rfl
   rw [hmp] at hdz
   simp only [List.set_cons_zero, List.set_cons_succ] at hdz
   have HDz := Lib.hid hdz
   obtain ⟨s0, s1, s2, s3⟩ := hSw0
   clear hxb hsx hdz hmp
   go_simp
   clear yq fq
   refine hK.out _ _ ⟨by simpa [RD.box] using (HDz.out.boxi 0 (p := r.M) rfl).cell 0 (by simp [RD.box]), by simpa [RD.box] using (HDz.out.boxi 0 (p := r.M) rfl).cell 1 (by simp [RD.box]), cell_set_ne (by simp) s2 _, cell_set_ne (by simp) s3 _⟩ (fun hSn => ?_)
   clear hK K s0 s1 s2 s3 hSn
   refine wpAnyH_done (by kernel_rfl) ?_ _
   have HE := Lib.hid ((HDz.out.fuse (f1 := fun W => Bls W sl (Dk.over d.safe (d.held.take j))) (f2 := fun W => Bls W hs (d.held.map (·.2))) (f := fun W => Bls W (sl.set x (A1, n1, k1)) (Dk.over d.safe (d.held.take (j + 1)))) (by simp) (by simp) (fun V h1 h2 => by rw [HOV.out]; exact Bls.set h1 x (HBF.out V h2))).subF (F' := (fun W => Bls W (sl.set x (A1, n1, k1)) (Dk.over d.safe (d.held.take (j + 1)))) :: (fun W => Bls W hs (d.held.map (·.2))) :: c.F) (by
    intro f hf
    rcases List.mem_cons.1 hf with rfl | hf
    ·exact List.mem_cons_self
    ·exact List.mem_cons_of_mem _ (List.mem_cons_of_mem _ hf)))
   clear HDz HD7
   go_wp2_with fail
   go_roundg (gk - 1)
   case measure => omega
   case rel => exact ⟨j + 1, _, by omega, by go_num, HE.out⟩
  ·obtain rfl : j = n := by omega
   have hw := HW.out
   rw [List.take_of_length_le (by rw [HL.out]; omega)] at hw
   have HE := Lib.hid (H.out.flushMk (v := .slice A j cc) (lv := lv) (kk := kk) (ls := ls) (sl := sl) (hs := hs) (by rw [HL.out]; exact hw))
   have f1 := (hw.boxi 0 (p := r.M) rfl).frozen 1
   clear hw
   go_wp2
   go_ret
   exact ⟨rfl, HE.out⟩
end Go.Proofs.YtgcfdjcpcclcjaaGreat
namespace Go.Kn
open Go Go.RowKit
def Dk.wrs (d : Dk) (a : Int) (b : List UInt8) : Nat → Dk
 | 0 => d
 | i + 1 => ((Dk.wrs d a b i).write (a + (i : Nat)) ((b.drop (64 * i)).take 64)).1
def Dk.puts (d : Dk) (a : Int) (b : List UInt8) : Dk := ((d.wrs a b (b.length / 64)).flush).1
theorem Dk.write_held (d : Dk) (a : Int) (b : List UInt8) : (d.write a b).1.held.length ≤ d.held.length + 1 := by
 unfold Dk.write
 split
 ·split
  ·show d.held.length ≤ _
   omega
  ·show (d.held ++ [(a.toNat, b)]).length ≤ _
   rw [List.length_append]
   exact Nat.le_refl _
 ·show d.held.length ≤ _
  omega
theorem Dk.wrs_held (d : Dk) (a : Int) (b : List UInt8) : ∀ i, (d.wrs a b i).held.length ≤ d.held.length + i
 | 0 => Nat.le_refl _
 | i + 1 => by
  have h1 := Dk.wrs_held d a b i
  have h2 := Dk.write_held (d.wrs a b i) (a + (i : Nat)) ((b.drop (64 * i)).take 64)
  show ((Dk.wrs d a b i).write _ _).1.held.length ≤ _
  omega
end Go.Kn
namespace Go.Proofs.YtgcfdjcpcclcjaaGreat
open Go Go.RowKit Go.Kn
theorem Duo.ofRsk {w0 w : World} {p : PD} {r : RD} {d e : Dk} {c : Fr3} {v : Value} (h1 : d.Ok) (h2 : d.safe.length = p.N) (h3 : p.N ≤ p.cs) (h4 : p.N ≤ p.cn) (h5 : p.N ≤ p.cf)
  (h : Rsk w0 w r e ⟨p.L v d c.L, ⟨158, 65, v, d.held.length, heldV d.held⟩ :: c.G, c.F⟩) : Duo w0 w p r d e c := by
 obtain ⟨v', lv, k, ls, sl, hs, hl, hm⟩ := h.mem
 have pl : (p.L v d (r.L v' lv sl e c.L)).Perm (r.L v' lv sl e (p.L v d c.L)) := by
  have := (List.perm_append_comm (l₁ := p.L v d []) (l₂ := r.L v' lv sl e [])).append_right c.L
  simpa [PD.L, RD.L] using this
 have pg : ∀ a b x : Gs, (a :: b :: x :: c.G).Perm (b :: x :: a :: c.G) := fun a b x => (List.Perm.swap _ _ _).trans ((List.Perm.swap _ _ _).cons _)
 exact ⟨h1, h2, h3, h4, h5, h.ok, h.N, h.hs, h.hf, v, v', lv, k, ls, sl, hs, hl, hm.perm pl.symm (pg _ _ _).symm⟩
theorem Duo.imp {w0 w : World} {p : PD} {r : RD} {d e : Dk} {c : Fr3} (h : Duo w0 w p r d e c) {f1 f : World → Prop} (h1 : f1 ∈ c.F) (hf : ∀ W, f1 W → f W) : Duo w0 w p r d e ⟨c.L, c.G, f :: c.F⟩ := by
 obtain ⟨v, v', lv, k, ls, sl, hs, hl, hm⟩ := h.mem
 refine ⟨h.ok, h.N, h.hs, h.hn, h.hf, h.ok', h.N', h.hs', h.hf', v, v', lv, k, ls, sl, hs, hl, ?_⟩
 refine (hm.fuse (f := f) (List.mem_cons_of_mem _ (List.mem_cons_of_mem _ h1)) (List.mem_cons_of_mem _ (List.mem_cons_of_mem _ h1)) (fun W h2 _ => hf W h2)).subF ?_
 intro g hg
 simp only [List.mem_cons] at hg ⊢
 rcases hg with hg | hg | hg | hg
 ·exact .inr (.inl hg)
 ·exact .inr (.inr (.inl hg))
 ·exact .inl hg
 ·exact .inr (.inr (.inr hg))
theorem Duo.subF {w0 w : World} {p : PD} {r : RD} {d e : Dk} {c : Fr3} (h : Duo w0 w p r d e c) {F' : List (World → Prop)} (hF : ∀ f ∈ F', f ∈ c.F) : Duo w0 w p r d e ⟨c.L, c.G, F'⟩ := by
 obtain ⟨v, v', lv, k, ls, sl, hs, hl, hm⟩ := h.mem
 refine ⟨h.ok, h.N, h.hs, h.hn, h.hf, h.ok', h.N', h.hs', h.hf', v, v', lv, k, ls, sl, hs, hl, hm.subF ?_⟩
 intro g hg
 simp only [List.mem_cons] at hg ⊢
 rcases hg with hg | hg | hg
 ·exact .inl hg
 ·exact .inr (.inl hg)
 ·exact .inr (.inr (hF _ hg))
theorem Duo.fact {w0 w : World} {p : PD} {r : RD} {d e : Dk} {c : Fr3} (h : Duo w0 w p r d e c) {f : World → Prop} (hf : f ∈ c.F) : f w := by
 obtain ⟨v, v', lv, k, ls, sl, hs, hl, hm⟩ := h.mem
 exact hm.fact _ (List.mem_cons_of_mem _ (List.mem_cons_of_mem _ hf))
def TwoSays (w0 : World) (n : Nat) (c : Fr3) (e : Ending) (w' : World) : Prop := ∃ p r, e = .returned (.tuple #[.pointer (some ⟨p.D, 0, none⟩), .pointer (some ⟨r.M, 0, none⟩), .bool true]) ∧ p.N = n ∧ r.N = n ∧ Duo w0 w' p r (Dk.new n) (Dk.new n) c
set_option maxRecDepth 100000 in
set_option maxHeartbeats 4000000 in
theorem kit_two_any (w0 w : World) (n : Nat) (c : Fr3) (h : Wc w0 w c.L c.G c.F) (h1 : 1 ≤ n) (h2 : n ≤ 4096) : Calls Tryz.prog 76 #[.int .i64 (n : Int)] w (TwoSays w0 n c) := by
 have H := Lib.hid h
 clear h
 go_enter Tryz.func76, Tryz.ntmps76
 go_wp2_with fail
 refine (dk_new_any n w h1 h2).mono ?_
 rintro e w1 ⟨p, rfl, hpN, hO1, hd⟩
 have hdsk := hd w0 c H.out
 obtain ⟨v, hm⟩ := hdsk.mem
 have HK := Lib.hid hdsk
 have HM := Lib.hid hm
 have HPN := Lib.hid hpN
 clear hd hdsk hm hO1 H hpN
 go_wp2_with fail
 refine (rk_new_any w0 _ n ⟨p.L v (Dk.new n) c.L, _, c.F⟩ HM.out h1 h2).mono ?_
 rintro e w2 ⟨r, rfl, hrN, hr⟩
 have HR := Lib.hid (Duo.ofRsk HK.out.ok HK.out.N HK.out.hs HK.out.hn HK.out.hf hr)
 have HRN := Lib.hid hrN
 clear hr HM hrN
 go_wp2
 refine bodyPost_ret (v := .tuple #[.pointer (some ⟨p.D, 0, none⟩), .pointer (some ⟨r.M, 0, none⟩), .bool true]) (by kernel_rfl) rfl ?_
 exact ⟨p, r, rfl, HPN.out, HRN.out, HR.out⟩
theorem Bys.chunk {w : World} {A : Option Addr} {n c i : Nat} {b : List UInt8} (h : Bys w A n c b) (hi : 64 * i + 64 ≤ n) : Bys w (cutA A c (64 * i)) 64 (c - 64 * i) ((b.drop (64 * i)).take 64) := by
 have := Row1.cut (l := 64 * i) (m := 64) h hi
 rwa [bvs_cut] at this
set_option maxRecDepth 100000 in
set_option maxHeartbeats 4000000 in
theorem kit_put_any (w0 w : World) (p : PD) (r : RD) (d : Dk) (c : Fr3) (a : Int) (A : Option Addr) (n cc : Nat) (b : List UInt8) (h : Duo w0 w p r d d c) (hb : (fun W => Bys W A n cc b) ∈ c.F) (hh : d.held.length ≤ 1000) (hn : n ≤ 65536) (ha : 0 ≤ a ∧ a ≤ 1000000) :
  Calls Tryz.prog 27 #[.pointer (some ⟨p.D, 0, none⟩), .pointer (some ⟨r.M, 0, none⟩), .int .i64 a, .slice A n cc] w fun e w' => e = .returned (.bool true) ∧ Duo w0 w' p r (d.puts a b) (d.puts a b) c := by
 have hby := h.fact hb
 have hbl := hby.len
 have hle := hby.le
 have hcm := hby.cm
 rw [bvs_length] at hbl
 unfold maxLen at hcm
 have H := Lib.hid h
 have HB := Lib.hid hb
 have HL := Lib.hid hbl
 obtain ⟨ha0, ha1⟩ := ha
 clear h hb hby hbl
 go_enter Tryz.func27, Tryz.ntmps27
 go_wp2_with fail
 go_loopg [9] (n / 64) (fun q i wr => ∃ j : Nat, j + q = n / 64 ∧ i = .int .i64 j ∧ Duo w0 wr p r (d.wrs a b j) (d.wrs a b j) c)
 case atStart => exact ⟨0, by omega, rfl, H.out⟩
 obtain ⟨j, hj, rfl, hd⟩ := hrel
 have HD := Lib.hid hd
 clear hd
 have hdiv : ((n : Int)).tdiv 64 = ((n / 64 : Nat) : Int) := by rw [Int.tdiv_eq_ediv_of_nonneg (by omega)]; omega
 have hhj := Dk.wrs_held d a b j
 by_cases hlt : j < n / 64
 ·have hjn : 64 * j + 64 ≤ n := by omega
  have hlt2 : (j : Int) < ((n / 64 : Nat) : Int) := by omega
  have hd2 := HD.out.imp HB.out (f := fun W => Bys W (cutA A cc (64 * j)) 64 (cc - 64 * j) ((b.drop (64 * j)).take 64)) (fun W hW => Bys.chunk hW hjn)
  have HD2 := Lib.hid hd2
  have hsl : ∀ w, (Instr.slice 47 (.slice A n cc) (some (.int .i64 ((j : Int) * 64))) (some (.int .i64 (((j : Int) + 1) * 64))) none).run Tryz.prog w = .ok (.slice (cutA A cc (64 * j)) 64 (cc - 64 * j)) w := fun w =>
   run_slice1 (P := Tryz.prog) w 47 5 Tryz.underlying47 (by kernel_rfl) A n cc _ _ (64 * j) (64 * j + 64) 64 .i64 .i64 (by omega) (by omega) (by omega) (by omega) (by omega)
  have hw1 := IntWalk.i64_in (a + (j : Int)) (by omega)
  clear hd2 HD
  go_wp2_with fail
  obtain ⟨c1, hF1, hP, back1⟩ := HD2.out.ofP
  refine (dk_write_any w0 _ p _ c1 (a + (j : Int)) (cutA A cc (64 * j)) 64 (cc - 64 * j) ((b.drop (64 * j)).take 64) hP (hF1 _ List.mem_cons_self) (by omega)).mono ?_
  rintro e w1 ⟨rfl, hd1⟩
  have HD3 := Lib.hid (back1 _ _ hd1)
  clear hF1 hP back1 hd1 HD2
  go_wp2_with fail
  obtain ⟨c2, hF2, hR, back2⟩ := HD3.out.ofR
  refine (rk_write_any w0 _ r _ c2 (a + (j : Int)) (cutA A cc (64 * j)) 64 (cc - 64 * j) ((b.drop (64 * j)).take 64) hR (hF2 _ List.mem_cons_self) (by omega)).mono ?_
  rintro e w2 ⟨rfl, hd1⟩
  have HD4 := Lib.hid ((back2 _ _ hd1).subF (F' := c.F) (fun f hf => List.mem_cons_of_mem _ hf))
  clear hF2 hR back2 hd1 HD3
  have hws : ((d.wrs a b j).write (a + (j : Int)) ((b.drop (64 * j)).take 64)).1 = d.wrs a b (j + 1) := rfl
  rw [hws] at HD4
  clear hws hsl
  generalize ((d.wrs a b j).write (a + (j : Int)) ((b.drop (64 * j)).take 64)).2 = z at *
  have hz : (z != z) = false := by simp
  go_wp2_with fail
  go_roundg (gk - 1)
  case measure => omega
  case rel => exact ⟨j + 1, by omega, by go_num, HD4.out⟩
 ·obtain rfl : j = n / 64 := by omega
  have hlt2 : ¬ ((n / 64 : Nat) : Int) < ((n / 64 : Nat) : Int) := by omega
  go_wp2_with fail
  obtain ⟨c1, hF1, hP, back1⟩ := HD.out.ofP
  refine (dk_flush_any w0 _ p _ c1 hP (by omega)).mono ?_
  rintro e w1 ⟨rfl, hd1⟩
  have HD3 := Lib.hid (back1 _ _ hd1)
  clear hF1 hP back1 hd1 HD
  go_wp2_with fail
  obtain ⟨c2, hF2, hR, back2⟩ := HD3.out.ofR
  refine (rk_flush_any w0 _ r _ c2 hR (by omega)).mono ?_
  rintro e w2 ⟨rfl, hd1⟩
  have HD4 := Lib.hid (back2 _ _ hd1)
  clear hF2 hR back2 hd1 HD3
  have hpe : d.puts a b = (d.wrs a b (n / 64)).flush.1 := by unfold Dk.puts; rw [HL.out]
  rw [← hpe] at HD4
  generalize (d.wrs a b (n / 64)).flush.2 = z at *
  have HPE := Lib.hid hpe
  clear hpe
  go_wp2
  go_ret
  exact ⟨by simp, HD4.out⟩
end Go.Proofs.YtgcfdjcpcclcjaaGreat
namespace Go.Kn
open Go Go.RowKit
/-- a device's numbers that may be -/
def CfOk (b s l : Int) : Prop := (1 ≤ b ∧ b ≤ 64) ∧ (8 ≤ s ∧ s ≤ 32) ∧ (24 ≤ l ∧ l ≤ 64)
/-- a Geom -/
structure GeoAt (w : World) (p : Nat) (b s l : Int) : Prop where
 c0 : w.cell? ⟨p, 0, none⟩ = some (.int .i64 b)
 c1 : w.cell? ⟨p, 1, none⟩ = some (.int .i64 s)
 c2 : w.cell? ⟨p, 2, none⟩ = some (.int .i64 l)
theorem GeoAt.keep0 {w w' : World} {p : Nat} {b s l : Int} (h : GeoAt w p b s l) (hO : Only [] w w') : GeoAt w' p b s l := ⟨hO.cell h.c0 (by simp), hO.cell h.c1 (by simp), hO.cell h.c2 (by simp)⟩
theorem GeoAt.lt {w : World} {p : Nat} {b s l : Int} (h : GeoAt w p b s l) : p < w.heap.size := lt_of_cell h.c0
def upI (n by_ : Int) : Int := (n + by_ - 1) / by_
def pgs (b : Int) : Int := (b + 14) / 15
def rln (s : Int) : Int := (43 + 5 * s + 63) / 64
theorem pgs_bounds {b s l : Int} (h : CfOk b s l) : 1 ≤ pgs b ∧ pgs b ≤ 5 := by unfold pgs; unfold CfOk at h; omega
theorem rln_bounds {b s l : Int} (h : CfOk b s l) : 2 ≤ rln s ∧ rln s ≤ 4 ∧ 43 + 5 * s ≤ 64 * rln s := by unfold rln; unfold CfOk at h; omega
end Go.Kn
namespace Go.Proofs.YtgcfdjcpcclcjaaGreat
open Go Go.RowKit Go.Kn
theorem geom_within_any (n lo hi : Int) (w : World) : Calls Tryz.prog 140 #[.int .i64 n, .int .i64 lo, .int .i64 hi] w fun e w' => e = .returned (.bool (decide (lo ≤ n ∧ n ≤ hi))) ∧ w = w' := by
  go_enter Tryz.func140, Tryz.ntmps140
  by_cases h1 : lo ≤ n <;> by_cases h2 : n ≤ hi <;>
  (go_wp2
   go_ret
   exact ⟨by simp [*], rfl⟩)
theorem geom_up_any (n b : Int) (w : World) (hn : 0 ≤ n ∧ n ≤ 100000) (hb : 0 < b ∧ b ≤ 1000) : Calls Tryz.prog 182 #[.int .i64 n, .int .i64 b] w fun e w' => e = .returned (.int .i64 (upI n b)) ∧ w = w' := by
 have e1 : (n + b - 1).tdiv b = upI n b := Int.tdiv_eq_ediv_of_nonneg (by omega)
 have hq : 0 ≤ upI n b ∧ upI n b ≤ 1000000 := by
  unfold upI
  exact ⟨Int.ediv_nonneg (by omega) (by omega), Int.le_trans (Int.ediv_le_self _ (by omega)) (by omega)⟩
 have hbne : ¬ (b = 0) := by omega
 go_enter Tryz.func182, Tryz.ntmps182
 go_wp2
 all_goals (first | (exfalso; omega) | skip)
 go_ret
 refine ⟨?_, rfl⟩
 rw [← e1]
 rfl
theorem ref_up_any (n b : Int) (w : World) (hn : 0 ≤ n ∧ n ≤ 100000) (hb : 0 < b ∧ b ≤ 1000) : Calls Tryz.prog 155 #[.int .i64 n, .int .i64 b] w fun e w' => e = .returned (.int .i64 (upI n b)) ∧ w = w' := by
 have e1 : (n + b - 1).tdiv b = upI n b := Int.tdiv_eq_ediv_of_nonneg (by omega)
 have hq : 0 ≤ upI n b ∧ upI n b ≤ 1000000 := by
  unfold upI
  exact ⟨Int.ediv_nonneg (by omega) (by omega), Int.le_trans (Int.ediv_le_self _ (by omega)) (by omega)⟩
 have hbne : ¬ (b = 0) := by omega
 go_enter Tryz.func155, Tryz.ntmps155
 go_wp2
 all_goals (first | (exfalso; omega) | skip)
 go_ret
 refine ⟨?_, rfl⟩
 rw [← e1]
 rfl
theorem geom_config_any (p : Nat) (b s l : Int) (w : World) (hg : GeoAt w p b s l) :
  Calls Tryz.prog 162 #[.pointer (some ⟨p, 0, none⟩)] w fun e w' => e = .returned (.agg #[.int .i64 b, .int .i64 s, .int .i64 l]) ∧ Only [] w w' := by
 have hres : Tryz.f162.results = #[.cell 2 25] := by kernel_rfl
 have HRES := Lib.hid hres
 obtain ⟨c0, c1, c2⟩ := hg
 have hlt := lt_of_cell c0
 clear hres
 go_enter Tryz.func162, Tryz.ntmps162
 go_wp2
 (try simp only [Exit.inBlock, Exit.then])
 refine bodyPost_ret (v := .agg #[.int .i64 b, .int .i64 s, .int .i64 l]) ?_ rfl ⟨rfl, ?_⟩
 ·simp only [results, HRES.out]
  go_simp
 ·exact (Only.refl _ _).alloc _
theorem field_cfg0 (b s l : Int) (w : World) : (Instr.field 25 (.agg #[.int .i64 b, .int .i64 s, .int .i64 l]) 0).run Tryz.prog w = .ok (.int .i64 b) w := by kernel_rfl
set_option maxRecDepth 100000 in
theorem geom_pages_any (p : Nat) (b s l : Int) (w : World) (hg : GeoAt w p b s l) (hb : CfOk b s l) :
  Calls Tryz.prog 147 #[.pointer (some ⟨p, 0, none⟩)] w fun e w' => e = .returned (.int .i64 (pgs b)) ∧ Only [] w w' := by
 have HG := Lib.hid hg
 have HB := Lib.hid hb
 have e1 : upI b 15 = pgs b := by unfold upI pgs; congr 1; omega
 have HE := Lib.hid e1
 clear hg hb e1
 have hfl := field_cfg0 b s l
 go_enter Tryz.func147, Tryz.ntmps147
 go_wp2_with fail
 refine (geom_config_any p b s l _ HG.out).mono ?_
 rintro e w1 ⟨rfl, hO1⟩
 have HO1 := Lib.hid hO1
 clear hO1
 go_wp2_with fail
 refine (geom_up_any b 15 _ (by have := HB.out; unfold CfOk at this; omega) (by decide)).mono ?_
 rintro e w2 ⟨rfl, rfl⟩
 rw [HE.out]
 go_wp2
 go_ret
 exact ⟨rfl, HO1.out⟩
theorem geom_rlen_any (p : Nat) (b s l : Int) (w : World) (hg : GeoAt w p b s l) (hb : CfOk b s l) :
  Calls Tryz.prog 146 #[.pointer (some ⟨p, 0, none⟩)] w fun e w' => e = .returned (.int .i64 (rln s)) ∧ w = w' := by
 obtain ⟨c0, c1, c2⟩ := hg
 have hlt := lt_of_cell c0
 have HB := Lib.hid hb
 have e1 : upI (43 + 5 * s) 64 = rln s := by unfold upI rln; congr 1; omega
 have HE := Lib.hid e1
 have hs : 8 ≤ s ∧ s ≤ 32 := hb.2.1
 have hw1 := IntWalk.i64_in (5 * s) (by omega)
 have hw2 := IntWalk.i64_in (43 + 5 * s) (by omega)
 clear hb e1
 go_enter Tryz.func146, Tryz.ntmps146
 go_wp2_with fail
 refine (geom_up_any (43 + 5 * s) 64 _ (by omega) (by decide)).mono ?_
 rintro e w2 ⟨rfl, rfl⟩
 rw [HE.out]
 go_wp2
 go_ret
 exact ⟨rfl, rfl⟩
theorem geom_has_any (p : Nat) (b s l x : Int) (w : World) (hg : GeoAt w p b s l) (hb : CfOk b s l) :
  Calls Tryz.prog 80 #[.pointer (some ⟨p, 0, none⟩), .int .i64 x] w fun e w' => e = .returned (.bool (decide (0 ≤ x ∧ x ≤ s - 1))) ∧ w = w' := by
 obtain ⟨c0, c1, c2⟩ := hg
 have hlt := lt_of_cell c0
 have hs : 8 ≤ s ∧ s ≤ 32 := hb.2.1
 have hw1 := IntWalk.i64_in (s - 1) (by omega)
 obtain ⟨bb, hbb⟩ : ∃ bb, decide (0 ≤ x ∧ x ≤ s - 1) = bb := ⟨_, rfl⟩
 have HBB := Lib.hid hbb
 rw [hbb]
 clear hb hbb
 go_enter Tryz.func80, Tryz.ntmps80
 go_wp2_with fail
 refine (geom_within_any x 0 (s - 1) _).mono ?_
 rintro e w2 ⟨rfl, rfl⟩
 rw [HBB.out]
 go_wp2
 go_ret
 exact ⟨rfl, rfl⟩
set_option maxRecDepth 100000 in
theorem ref_pages_any (b s l : Int) (w : World) (hb : CfOk b s l) :
  Calls Tryz.prog 101 #[.agg #[.int .i64 b, .int .i64 s, .int .i64 l]] w fun e w' => e = .returned (.int .i64 (pgs b)) ∧ Only [] w w' := by
 have e1 : upI b 15 = pgs b := by unfold upI pgs; congr 1; omega
 have HE := Lib.hid e1
 have HB := Lib.hid hb
 clear e1 hb
 go_enter Tryz.func101, Tryz.ntmps101
 go_wp2_with fail
 refine (ref_up_any b 15 _ (by have := HB.out; unfold CfOk at this; omega) (by decide)).mono ?_
 rintro e w2 ⟨rfl, rfl⟩
 rw [HE.out]
 go_wp2
 go_ret
 exact ⟨rfl, (Only.refl _ _).alloc _⟩
theorem ref_rlen_any (b s l : Int) (w : World) (hb : CfOk b s l) :
  Calls Tryz.prog 100 #[.agg #[.int .i64 b, .int .i64 s, .int .i64 l]] w fun e w' => e = .returned (.int .i64 (rln s)) ∧ Only [] w w' := by
 have e1 : upI (43 + 5 * s) 64 = rln s := by unfold upI rln; congr 1; omega
 have HE := Lib.hid e1
 have hs : 8 ≤ s ∧ s ≤ 32 := hb.2.1
 have hw1 := IntWalk.i64_in (5 * s) (by omega)
 have hw2 := IntWalk.i64_in (43 + 5 * s) (by omega)
 clear hb e1
 go_enter Tryz.func100, Tryz.ntmps100
 go_wp2_with fail
 refine (ref_up_any (43 + 5 * s) 64 _ (by omega) (by decide)).mono ?_
 rintro e w2 ⟨rfl, rfl⟩
 rw [HE.out]
 go_wp2
 go_ret
 exact ⟨rfl, (Only.refl _ _).alloc _⟩
end Go.Proofs.YtgcfdjcpcclcjaaGreat
namespace Go.Kn
open Go Go.RowKit
def headMay (i : It) : Bool := decide (0 ≤ i.k ∧ i.k ≤ 31) && decide (1 ≤ i.b ∧ i.b ≤ 2147483647) && decide (1 ≤ i.c ∧ i.c ≤ 2147483647) && decide (0 ≤ i.v ∧ i.v ≤ 4294967295)
def headRow (i : It) : List UInt8 := lay (lay zeros64 0 (les 1 [75, 72, i.k])) 3 (les 4 [i.b, i.c, i.v])
def encHead (i : It) : Option (List UInt8) := if headMay i = true then some (sealed (headRow i)) else none
def headOf (bs : List UInt8) : It := ⟨rd bs 2 1, rd bs 3 4, rd bs 7 4, rd bs 11 4⟩
def decHead (bs : List UInt8) : Option It := decBy encHead headOf bs
theorem headMay_iff {i : It} : headMay i = true ↔ (0 ≤ i.k ∧ i.k ≤ 31) ∧ (1 ≤ i.b ∧ i.b ≤ 2147483647) ∧ (1 ≤ i.c ∧ i.c ≤ 2147483647) ∧ (0 ≤ i.v ∧ i.v ≤ 4294967295) := by
 simp [headMay, and_assoc]
theorem headRow_cat (i : It) : headRow i = cat [(1, 75), (1, 72), (1, i.k), (4, i.b), (4, i.c), (4, i.v)] ++ List.replicate 49 0 := by
 unfold headRow
 rw [les_cat 1, lay_cat _ _ 3 4 _ rfl (by simp [zeros64]), lay_zero, cat_length]
 rfl
theorem headRow_length (i : It) : (headRow i).length = 64 := by
 rw [headRow_cat, List.length_append, cat_length]
 rfl
theorem encHead_len {i : It} {b : List UInt8} (h : encHead i = some b) : b.length = 64 := by
 unfold encHead at h
 split at h
 ·injection h with h
  rw [← h]
  exact sealed_length _ (headRow_length i)
 ·cases h
theorem encHead_closed {i : It} {b : List UInt8} (h : encHead i = some b) : Closed b 60 := by
 unfold encHead at h
 split at h
 ·injection h with h
  rw [← h]
  exact sealed_closed _ (headRow_length i)
 ·cases h
theorem encHead_rd {i : It} {b : List UInt8} (h : encHead i = some b) (k n : Nat) (hk : k + n ≤ 60) : rd b k n = rd (headRow i) k n := by
 unfold encHead at h
 split at h
 ·injection h with h
  rw [← h]
  exact rd_sealed _ (headRow_length i) k n hk
 ·cases h
theorem encHead_may {i : It} {b : List UInt8} (h : encHead i = some b) : headMay i = true := by
 unfold encHead at h
 split at h
 ·assumption
 ·cases h
theorem encHead_of {i : It} {b : List UInt8} (h : encHead i = some b) : headOf b = i := by
 obtain ⟨h0, h1, h2, h3⟩ := headMay_iff.1 (encHead_may h)
 have e : (256 : Int) ^ 1 = 256 := rfl
 have e4 : (256 : Int) ^ 4 = 4294967296 := rfl
 unfold headOf
 rw [encHead_rd h 2 1 (by decide), encHead_rd h 3 4 (by decide), encHead_rd h 7 4 (by decide), encHead_rd h 11 4 (by decide), headRow_cat]
 have g0 := cat_get [(1, 75), (1, 72)] 1 i.k [(4, i.b), (4, i.c), (4, i.v)] (List.replicate 49 0) (by omega)
 have g1 := cat_get [(1, 75), (1, 72), (1, i.k)] 4 i.b [(4, i.c), (4, i.v)] (List.replicate 49 0) (by omega)
 have g2 := cat_get [(1, 75), (1, 72), (1, i.k), (4, i.b)] 4 i.c [(4, i.v)] (List.replicate 49 0) (by omega)
 have g3 := cat_get [(1, 75), (1, 72), (1, i.k), (4, i.b), (4, i.c)] 4 i.v [] (List.replicate 49 0) (by omega)
 simp only [wid, List.map_cons, List.map_nil, List.sum_cons, List.sum_nil, List.cons_append, List.nil_append, Nat.reduceAdd] at g0 g1 g2 g3
 rw [g0, g1, g2, g3]
theorem head_back {i : It} (h : headMay i = true) : ∃ b, encHead i = some b ∧ b.length = 64 ∧ Closed b 60 ∧ decHead b = some i := by
 have he : encHead i = some (sealed (headRow i)) := by unfold encHead; rw [if_pos h]
 exact ⟨_, he, encHead_len he, encHead_closed he, decBy_back (encHead_of he) he⟩
end Go.Kn
namespace Go.Kn
open Go Go.RowKit
theorem headRow_ref (i : It) : lay (lay (lay zeros64 0 [75, 72]) 2 (le 1 i.k.toNat)) 3 (les 4 [i.b, i.c, i.v]) = headRow i := by
 have e : lay (lay zeros64 0 [75, 72]) 2 (le 1 i.k.toNat) = lay zeros64 0 (les 1 [75, 72, i.k]) := by
  have h := lay_lay zeros64 0 [75, 72] (le 1 i.k.toNat) (by simp [zeros64])
  simp only [List.length_cons, List.length_nil, Nat.zero_add, Nat.reduceAdd] at h
  rw [h]
  rfl
 rw [e]
 rfl
/-- what a reader of heads answers -/
def HeadSays (w : World) (o : Option It) (err : Int) (e : Ending) (w' : World) : Prop :=
 e = .returned (.tuple #[.agg (o.getD ⟨0, 0, 0, 0⟩).vals, .int .i64 (if o.isSome then 0 else err)]) ∧ Only [] w w'
end Go.Kn
namespace Go.Proofs.YtgcfdjcpcclcjaaGreat
open Go Go.RowKit Go.Kn
theorem head_within_any (n lo hi : Int) (w : World) : Calls Tryz.prog 212 #[.int .i64 n, .int .i64 lo, .int .i64 hi] w fun e w' => e = .returned (.bool (decide (lo ≤ n ∧ n ≤ hi))) ∧ w = w' := by
  go_enter Tryz.func212, Tryz.ntmps212
  by_cases h1 : lo ≤ n <;> by_cases h2 : n ≤ hi <;>
  (go_wp2
   go_ret
   exact ⟨by simp [*], rfl⟩)
set_option maxRecDepth 100000 in
set_option maxHeartbeats 1000000 in
theorem head_may_any (k b c v : Int) (w : World) :
  Calls Tryz.prog 195 #[.agg #[.int .i64 k, .int .i64 b, .int .i64 c, .int .i64 v]] w fun e w' => e = .returned (.bool (headMay ⟨k, b, c, v⟩)) ∧ Only [] w w' := by
 go_enter Tryz.func195, Tryz.ntmps195
 go_wp2_with (first | (go_at_call 212; refine (head_within_any _ _ _ _).mono ?_; rintro e w' ⟨rfl, rfl⟩))
 all_goals (go_ret; exact ⟨by simp [headMay, *], (Only.refl _ _).alloc _⟩)
set_option maxRecDepth 100000 in
set_option maxHeartbeats 1000000 in
theorem ref_head_may_any (k b c v : Int) (w : World) :
  Calls Tryz.prog 143 #[.agg #[.int .i64 k, .int .i64 b, .int .i64 c, .int .i64 v]] w fun e w' => e = .returned (.bool (headMay ⟨k, b, c, v⟩)) ∧ Only [] w w' := by
 go_enter Tryz.func143, Tryz.ntmps143
 go_wp2_with (first | (go_at_call 99; refine (within_any _ _ _ _).mono ?_; rintro e w' ⟨rfl, rfl⟩))
 all_goals (go_ret; exact ⟨by simp [headMay, *], (Only.refl _ _).alloc _⟩)
end Go.Proofs.YtgcfdjcpcclcjaaGreat
namespace Go.Proofs.YtgcfdjcpcclcjaaGreat
open Go Go.RowKit Go.Kn
set_option maxRecDepth 100000 in
set_option maxHeartbeats 4000000 in
theorem head_enc_own (f0 f1 f2 f3 : Int) (w : World) :
  Calls Tryz.prog 171 #[.agg #[.int .i64 f0, .int .i64 f1, .int .i64 f2, .int .i64 f3]] w (EncOwn w (encHead ⟨f0, f1, f2, f3⟩)) := by
 cases hm : headMay ⟨f0, f1, f2, f3⟩
 ·have HM := Lib.hid hm
  clear hm
  go_enter Tryz.func171, Tryz.ntmps171
  go_wp2_with fail
  refine (head_may_any f0 f1 f2 f3 _).mono ?_
  rintro e w1 ⟨rfl, hO1⟩
  rw [HM.out]
  go_wp2
  go_ret2
  exact EncOwn.no (by unfold encHead; rw [HM.out]; rfl) (((Only.refl _ _).alloc _).trans' hO1)
 ·have HM := Lib.hid hm
  have HF0 : Hid (Fit 1 [75, 72, f0]) := Lib.hid (by have := headMay_iff.1 hm; simp only [fit_cons, fit_nil, Int.reducePow, and_true] at *; omega)
  have HF1 : Hid (Fit 4 [f1, f2, f3]) := Lib.hid (by have := headMay_iff.1 hm; simp only [fit_cons, fit_nil, Int.reducePow, and_true] at *; omega)
  have HE : Hid (encHead ⟨f0, f1, f2, f3⟩ = some (sealed (headRow ⟨f0, f1, f2, f3⟩))) := Lib.hid (by unfold encHead; rw [if_pos hm])
  have HLR := Lib.hid (headRow_length ⟨f0, f1, f2, f3⟩)
  clear hm
  go_enter Tryz.func171, Tryz.ntmps171
  go_wp2_with fail
  refine (head_may_any f0 f1 f2 f3 _).mono ?_
  rintro e w1 ⟨rfl, hO1⟩
  rw [HM.out]
  have HB1 := Lib.hid ((Own.new w #[.int .i64 f0, .int .i64 f1, .int .i64 f2, .int .i64 f3] 143).keep0 hO1)
  have HO1 := Lib.hid (((Only.refl [] w).alloc (.cells #[.int .i64 f0, .int .i64 f1, .int .i64 f2, .int .i64 f3] 143)).trans' hO1)
  have HSZ : Hid (w.heap.size ≤ w.heap.size) := Lib.hid (Nat.le_refl _)
  clear hO1
  go_wp2_with fail
  generalize hbb : w.heap.size = b at HB1 HSZ ⊢
  have HBB := Lib.hid hbb
  clear hbb
  refine (new_any 64 _ (by decide) (by decide)).mono ?_
  rintro e w2 ⟨p, g, rfl, hp, hg, hr, hO⟩
  have HS : Hid (Encs w w2 p g 0 b zeros64 [.int .i64 f0, .int .i64 f1, .int .i64 f2, .int .i64 f3]) := Lib.hid (Encs.start HB1.out HO1.out hp hg hr hO)
  have hgg : b < w1.heap.size := HB1.out.lt
  clear hr hO HB1
  obtain ⟨x0, x1, x2, x3⟩ := Kn.own4 HS.out.box
  go_wp2_with fail
  have LX : zeros64.length = 64 := by first | rfl | (simp [lay_length, zeros64]) | (rw [lay_length _ _ _ (by simp [lay_length, zeros64])]; simp [lay_length, zeros64])
  refine (put_any p g 0 zeros64 1 _ 3 3 [75, 72, f0] _ (by exact HS.out.row.alloc _) (by exact ins_built _ [75, 72, f0] _ 3 rfl (by omega)) (by exact ne_built HS.out.row) (by decide) (by rw [LX]; decide) HF0.out).mono ?_
  rintro e w3 ⟨rfl, hr, hO⟩
  have HS0 : Hid (Encs w w3 p g 3 b (lay zeros64 0 (les 1 [75, 72, f0])) [.int .i64 f0, .int .i64 f1, .int .i64 f2, .int .i64 f3]) := Lib.hid ((HS.out.alloc _).put hr hO)
  clear hr hO LX HS x0 x1 x2 x3
  have HS := HS0
  clear HS0
  obtain ⟨x0, x1, x2, x3⟩ := Kn.own4 HS.out.box
  go_wp2_with fail
  have LX : (lay zeros64 0 (les 1 [75, 72, f0])).length = 64 := by first | rfl | (simp [lay_length, zeros64]) | (rw [lay_length _ _ _ (by simp [lay_length, zeros64])]; simp [lay_length, zeros64])
  refine (put_any p g 3 (lay zeros64 0 (les 1 [75, 72, f0])) 4 _ 3 3 [f1, f2, f3] _ (by exact HS.out.row.alloc _) (by exact ins_built _ [f1, f2, f3] _ 3 rfl (by omega)) (by exact ne_built HS.out.row) (by decide) (by rw [LX]; decide) HF1.out).mono ?_
  rintro e w4 ⟨rfl, hr, hO⟩
  have HS1 : Hid (Encs w w4 p g 15 b (lay (lay zeros64 0 (les 1 [75, 72, f0])) 3 (les 4 [f1, f2, f3])) [.int .i64 f0, .int .i64 f1, .int .i64 f2, .int .i64 f3]) := Lib.hid ((HS.out.alloc _).put hr hO)
  clear hr hO LX HS x0 x1 x2 x3
  have HS := HS1
  clear HS1
  go_wp2_with fail
  have HX : Hid ((lay (lay zeros64 0 (les 1 [75, 72, f0])) 3 (les 4 [f1, f2, f3])) = headRow ⟨f0, f1, f2, f3⟩) := Lib.hid rfl
  rw [HX.out] at HS
  generalize headRow ⟨f0, f1, f2, f3⟩ = X at *
  clear HX
  refine (bytes_any p g 15 X _ (by exact HS.out.row)).mono ?_
  rintro e w8 ⟨A4, c4, rfl, hc4, hm4, hpos4, hO4⟩
  obtain ⟨g4, rfl, hg4, ho4⟩ := hpos4 (by rw [HLR.out]; decide)
  rw [HLR.out] at hc4 ⊢
  have HO4 := Lib.hid (HS.out.only.trans' hO4)
  have HW4 := Lib.hid ho4
  have hgw : w.heap.size ≤ g4 := Nat.le_trans HS.out.only.size hg4
  clear hpos4 hO4 ho4 HS
  go_wp2_with fail
  refine (crc_seal_any g4 c4 X 60 _ HLR.out hc4 hm4 (by exact HW4.out)).mono ?_
  rintro e w9 ⟨rfl, ho5, hO5⟩
  have HO5 := Lib.hid (HO4.out.trans hO5 (by simpa using hgw) : Only [] w w9)
  have HW5 := Lib.hid ho5
  clear ho5 hO5
  go_wp2
  go_ret2
  have hl := sealed_length X HLR.out
  exact EncOwn.yes HE.out hl hc4 hm4 hgw HW5.out HO5.out
theorem head_enc_any (f0 f1 f2 f3 : Int) (w : World) :
  Calls Tryz.prog 171 #[.agg #[.int .i64 f0, .int .i64 f1, .int .i64 f2, .int .i64 f3]] w (EncSays w (encHead ⟨f0, f1, f2, f3⟩)) :=
 (head_enc_own f0 f1 f2 f3 w).mono fun _ _ h => h.says
end Go.Proofs.YtgcfdjcpcclcjaaGreat
namespace Go.Proofs.YtgcfdjcpcclcjaaGreat
open Go Go.RowKit Go.Kn
set_option maxRecDepth 100000 in
set_option maxHeartbeats 4000000 in
theorem head_dec_any (A : Option Addr) (n c : Nat) (bs : List UInt8) (w : World) (hi : Bys w A n c bs) (hn : n ≤ 65536) :
  Calls Tryz.prog 184 #[.slice A n c] w (HeadSays w (decHead bs) 2) := by
 have hlen := hi.len
 rw [bvs_length] at hlen
 have HI := Lib.hid hi
 have HL := Lib.hid hlen
 clear hi hlen
 have hres : Tryz.f184.results = #[.cell 2 143, .tmp 3] := by kernel_rfl
 have HRES := Lib.hid hres
 clear hres
 go_enter Tryz.func184, Tryz.ntmps184
 go_wp2_with fail
 have HF0 := Lib.hid (Own.new w #[.int .i64 0, .int .i64 0, .int .i64 0, .int .i64 0] 143)
 have HO0 := Lib.hid ((Only.refl [] w).alloc (.cells #[.int .i64 0, .int .i64 0, .int .i64 0, .int .i64 0] 143))
 have HI0 := Lib.hid (HI.out.alloc (.cells #[.int .i64 0, .int .i64 0, .int .i64 0, .int .i64 0] 143))
 have HSZ : Hid (w.heap.size ≤ w.heap.size) := Lib.hid (Nat.le_refl _)
 generalize w.alloc (.cells #[.int .i64 0, .int .i64 0, .int .i64 0, .int .i64 0] 143) = w0 at *
 generalize hf : w.heap.size = f at HF0 HSZ ⊢
 have HFF := Lib.hid hf
 clear hf
 refine (from_any A n c bs _ HI0.out hn).mono ?_
 rintro e w1 ⟨p, g, rfl, hp, hg, hr, hO⟩
 have HD := Lib.hid (Decs.start HF0.out (by rw [HFF.out]; exact Nat.le_refl _) HO0.out hp hg hr hO)
 have hfg : f < w0.heap.size := HF0.out.lt
 clear hr hO HF0
 go_wp2_with fail
 refine (take_all p g 0 bs 2 _ (by exact HD.out.row)).mono ?_
 rintro e w2 ⟨A2, c2, rfl, _, _, hr, hO⟩
 have HD1 := Lib.hid (HD.out.got hr hO)
 generalize hk : takeK bs 0 2 = k0 at *
 generalize takeOk bs 0 2 = o0 at *
 generalize takeB bs 0 2 = b0 at *
 have HK0 := Lib.hid hk
 clear hr hO hk HD
 have HD := HD1
 clear HD1
 go_wp2_with fail
 refine (get_all p g k0 bs 1 _ (by exact HD.out.row)).mono ?_
 rintro e v0 ⟨rfl, hr, hO⟩
 have hn := HD.out.got hr hO
 generalize hx : ((getN bs k0 1 : Nat) : Int) = x0 at *
 have HX0 := Lib.hid hx
 generalize hk : getK bs k0 1 = k1 at *
 have HK1 := Lib.hid hk
 generalize getOk bs k0 1 = o1 at *
 have q0 := hn.box.cell 0 (by simp)
 have z0 := hn.box.frozen 0
 simp only [List.getElem_cons_zero, List.getElem_cons_succ] at q0
 have hm := hn.put 0 (.int .i64 x0)
 simp only [List.set_cons_zero, List.set_cons_succ] at hm
 have HD1 := Lib.hid hm
 clear hr hO hx hk hn hm HD
 have HD := HD1
 clear HD1
 go_wp2_with fail
 clear q0 z0
 refine (get_all p g k1 bs 4 _ (by exact HD.out.row)).mono ?_
 rintro e v1 ⟨rfl, hr, hO⟩
 have hn := HD.out.got hr hO
 generalize hx : ((getN bs k1 4 : Nat) : Int) = x1 at *
 have HX1 := Lib.hid hx
 generalize hk : getK bs k1 4 = k2 at *
 have HK2 := Lib.hid hk
 generalize getOk bs k1 4 = o2 at *
 have q0 := hn.box.cell 1 (by simp)
 have z0 := hn.box.frozen 1
 simp only [List.getElem_cons_zero, List.getElem_cons_succ] at q0
 have hm := hn.put 1 (.int .i64 x1)
 simp only [List.set_cons_zero, List.set_cons_succ] at hm
 have HD1 := Lib.hid hm
 clear hr hO hx hk hn hm HD
 have HD := HD1
 clear HD1
 go_wp2_with fail
 clear q0 z0
 refine (get_all p g k2 bs 4 _ (by exact HD.out.row)).mono ?_
 rintro e v2 ⟨rfl, hr, hO⟩
 have hn := HD.out.got hr hO
 generalize hx : ((getN bs k2 4 : Nat) : Int) = x2 at *
 have HX2 := Lib.hid hx
 generalize hk : getK bs k2 4 = k3 at *
 have HK3 := Lib.hid hk
 generalize getOk bs k2 4 = o3 at *
 have q0 := hn.box.cell 2 (by simp)
 have z0 := hn.box.frozen 2
 simp only [List.getElem_cons_zero, List.getElem_cons_succ] at q0
 have hm := hn.put 2 (.int .i64 x2)
 simp only [List.set_cons_zero, List.set_cons_succ] at hm
 have HD1 := Lib.hid hm
 clear hr hO hx hk hn hm HD
 have HD := HD1
 clear HD1
 go_wp2_with fail
 clear q0 z0
 refine (get_all p g k3 bs 4 _ (by exact HD.out.row)).mono ?_
 rintro e v3 ⟨rfl, hr, hO⟩
 have hn := HD.out.got hr hO
 generalize hx : ((getN bs k3 4 : Nat) : Int) = x3 at *
 have HX3 := Lib.hid hx
 generalize hk : getK bs k3 4 = k4 at *
 have HK4 := Lib.hid hk
 generalize getOk bs k3 4 = o4 at *
 have q0 := hn.box.cell 3 (by simp)
 have z0 := hn.box.frozen 3
 simp only [List.getElem_cons_zero, List.getElem_cons_succ] at q0
 have hm := hn.put 3 (.int .i64 x3)
 simp only [List.set_cons_zero, List.set_cons_succ] at hm
 have HD1 := Lib.hid hm
 clear hr hO hx hk hn hm HD
 have HD := HD1
 clear HD1
 generalize hwl : v3.setCell ⟨f, 3, none⟩ (.int .i64 x3) = wl at *
 obtain ⟨y0, y1, y2, y3⟩ := Kn.own4 HD.out.box
 go_wp2_with fail
 clear hwl
 have HDS : Hid ((if encHead ⟨x0, x1, x2, x3⟩ = some bs then some ⟨x0, x1, x2, x3⟩ else none) = decHead bs) := Lib.hid (decBy_same (enc := encHead) (of := headOf) (bs := bs) (x := ⟨x0, x1, x2, x3⟩) (N := 64) (fun _ _ h => encHead_len h) (fun h => by
  have e0 := (took_at (bs := bs) (k := 0) (n := 2) (by omega)).2
  have a0 : k0 = 2 := by rw [← HK0.out]; exact e0
  have g0 := got_at (bs := bs) (k := 2) (n := 1) (by omega) (by omega)
  have a1 : k1 = 3 := by rw [← HK1.out, a0]; exact g0.2
  have d0 : x0 = rd bs 2 1 := by rw [← HX0.out, a0]; exact g0.1
  have g1 := got_at (bs := bs) (k := 3) (n := 4) (by omega) (by omega)
  have a2 : k2 = 7 := by rw [← HK2.out, a1]; exact g1.2
  have d1 : x1 = rd bs 3 4 := by rw [← HX1.out, a1]; exact g1.1
  have g2 := got_at (bs := bs) (k := 7) (n := 4) (by omega) (by omega)
  have a3 : k3 = 11 := by rw [← HK3.out, a2]; exact g2.2
  have d2 : x2 = rd bs 7 4 := by rw [← HX2.out, a2]; exact g2.1
  have g3 := got_at (bs := bs) (k := 11) (n := 4) (by omega) (by omega)
  have a4 : k4 = 15 := by rw [← HK4.out, a3]; exact g3.2
  have d3 : x3 = rd bs 11 4 := by rw [← HX3.out, a3]; exact g3.1
  unfold headOf
  rw [d0, d1, d2, d3]))
 clear q0 z0 HX0 HX1 HX2 HX3 HK0 HK1 HK2 HK3 HK4
 refine (head_enc_any x0 x1 x2 x3 _).mono ?_
 rintro e w8 ⟨A3, c3, rfl, hb3, _, hO3⟩
 have HB := Lib.hid (HI.out.keep0 (HD.out.only.trans' hO3))
 have HD3 := Lib.hid (HD.out.keep hO3)
 clear hO3 HD y0 y1 y2 y3
 have HSB : Hid (w.heap.size ≤ f) := Lib.hid HD3.out.hf
 cases hen : encHead ⟨x0, x1, x2, x3⟩ with
 | none =>
  have HNO : Hid (decHead bs = none) := Lib.hid (by rw [← HDS.out, hen]; rfl)
  rw [hen] at hb3
  clear hb3 hen HDS
  obtain ⟨y0, y1, y2, y3⟩ := Kn.own4 HD3.out.box
  have z0 := HD3.out.box.frozen 0
  have z1 := HD3.out.box.frozen 1
  have z2 := HD3.out.box.frozen 2
  have z3 := HD3.out.box.frozen 3
  simp only [Option.getD_none, Option.isSome_none, List.length_nil]
  go_wp2
  (try simp only [Exit.inBlock, Exit.then])
  refine bodyPost_ret (v := .tuple #[.agg #[.int .i64 0, .int .i64 0, .int .i64 0, .int .i64 0], .int .i64 2]) ?_ rfl ?_
  ·simp only [results, HRES.out]
   go_simp
  ·rw [HNO.out]
   exact ⟨rfl, ((((HD3.out.only.set (.inr HSB.out) _).set (.inr HSB.out) _).set (.inr HSB.out) _).set (.inr HSB.out) _)⟩
 | some ys =>
  rw [hen] at hb3
  simp only [Option.getD_some] at hb3
  have HB3 := Lib.hid hb3
  have HEN := Lib.hid hen
  clear hb3 hen
  simp only [Option.getD_some, Option.isSome_some, if_true]
  go_wp2_with fail
  refine (bytes_equal_any A3 ys.length c3 ys A n c bs _ (by exact HB3.out) (by exact HB.out)).mono ?_
  rintro e w9 ⟨rfl, rfl⟩
  by_cases hyb : ys = bs
  ·have hd : decide (ys = bs) = true := by simp [hyb]
   have HYES : Hid (decHead bs = some ⟨x0, x1, x2, x3⟩) := Lib.hid (by rw [← HDS.out, HEN.out, hyb, if_pos rfl])
   rw [hd]
   clear hd hyb HEN HDS
   obtain ⟨y0, y1, y2, y3⟩ := Kn.own4 HD3.out.box
   have z0 := HD3.out.box.frozen 0
   have z1 := HD3.out.box.frozen 1
   have z2 := HD3.out.box.frozen 2
   have z3 := HD3.out.box.frozen 3
   go_wp2
   (try simp only [Exit.inBlock, Exit.then])
   refine bodyPost_ret (v := .tuple #[.agg #[.int .i64 x0, .int .i64 x1, .int .i64 x2, .int .i64 x3], .int .i64 0]) ?_ rfl ?_
   ·simp only [results, HRES.out]
    go_simp
   ·rw [HYES.out]
    exact ⟨rfl, ((((HD3.out.only.set (.inr HSB.out) _).set (.inr HSB.out) _).set (.inr HSB.out) _).set (.inr HSB.out) _)⟩
  ·have hd : decide (ys = bs) = false := by simp [hyb]
   have HYES : Hid (decHead bs = none) := Lib.hid (by rw [← HDS.out, HEN.out, if_neg (by intro h; injection h with h; exact hyb h)])
   rw [hd]
   clear hd hyb HEN HDS
   obtain ⟨y0, y1, y2, y3⟩ := Kn.own4 HD3.out.box
   have z0 := HD3.out.box.frozen 0
   have z1 := HD3.out.box.frozen 1
   have z2 := HD3.out.box.frozen 2
   have z3 := HD3.out.box.frozen 3
   go_wp2
   (try simp only [Exit.inBlock, Exit.then])
   refine bodyPost_ret (v := .tuple #[.agg #[.int .i64 0, .int .i64 0, .int .i64 0, .int .i64 0], .int .i64 2]) ?_ rfl ?_
   ·simp only [results, HRES.out]
    go_simp
   ·rw [HYES.out]
    exact ⟨rfl, ((((HD3.out.only.set (.inr HSB.out) _).set (.inr HSB.out) _).set (.inr HSB.out) _).set (.inr HSB.out) _)⟩
end Go.Proofs.YtgcfdjcpcclcjaaGreat
namespace Go.Kn
open Go Go.RowKit
theorem div_pow_succ (k t : Nat) : k / 2 ^ t / 2 = k / 2 ^ (t + 1) := by rw [Nat.div_div_eq_div_mul, Nat.pow_succ]
end Go.Kn
namespace Go.Proofs.YtgcfdjcpcclcjaaGreat
open Go Go.RowKit Go.Kn
set_option maxRecDepth 100000 in
set_option maxHeartbeats 4000000 in
theorem ref_more_any (s : Nat) (A : Option Addr) (n c : Nat) (bs : List UInt8) (w : World) (hs : s < 4294967296) (hi : Bys w A n c bs) :
  Calls Tryz.prog 91 #[.int .i64 s, .slice A n c] w fun e w' => e = .returned (.int .i64 ((4294967295 - cadd (4294967295 - s) bs : Nat) : Int)) ∧ Only [] w w' := by
 have hlen := hi.len
 rw [bvs_length] at hlen
 have hle := hi.le
 have hcm := hi.cm
 unfold maxLen at hcm
 have HI := Lib.hid hi
 have HL := Lib.hid hlen
 clear hi hlen
 have hwf : (Lit.int .i64 (s : Int)).wf = true := by simp [Lit.wf, IntKind.min, IntKind.max, IntKind.signed, IntKind.bits]; omega
 have hsm : (s : Int) % 4294967296 = s := by omega
 go_enter Tryz.func91, Tryz.ntmps91
 go_wp2_with fail
 refine (mod_any (s : Int) 4294967296 _ hwf (by decide) (by decide)).mono ?_
 rintro e w1 ⟨rfl, rfl⟩
 rw [hsm]
 have hnb := bits_not_u32 s hs
 have hx : 4294967295 - s < 4294967296 := by omega
 generalize hxx : 4294967295 - s = x at *
 have HXX := Lib.hid hxx
 clear hxx hwf hsm
 go_wp2_with fail
 go_loopg [5, 6] n (fun r v i wr => ∃ j : Nat, j + r = n ∧ i = .int .i64 j ∧ v = .int .u32 (cadd x (bs.take j) : Nat) ∧ Only [] w wr)
 case atStart => exact ⟨0, by omega, rfl, by simp [cadd], Only.refl _ _⟩
 obtain ⟨j, hj, rfl, rfl, hO⟩ := hrel
 have HO := Lib.hid hO
 have hlx := cadd_lt hx (bs.take j)
 clear hO
 by_cases hlt : j < n
 ·have hjz : j < bs.length := by rw [HL.out]; exact hlt
  obtain ⟨a, o, rfl, hc⟩ := HI.out.at_ (by omega)
  have q0 := hc j (by simpa using hjz)
  rw [bvs_get] at q0
  have c0 := HO.out.cell q0 (by simp)
  have hsn : cadd x (bs.take (j + 1)) = cbyte (cadd x (bs.take j)) bs[j] := by rw [List.take_succ_eq_append_getElem hjz, cadd_snoc]
  have HSN := Lib.hid hsn
  clear hc q0 hsn
  generalize bs[j] = cc at *
  generalize cadd x (bs.take j) = y at *
  have hlt2 : (j : Int) < (n : Int) := by omega
  have hge : 0 ≤ (j : Int) := by omega
  have htn : ((j : Int)).toNat = j := by omega
  have hcc : cc.toNat < 256 := cc.toNat_lt
  go_wp2_with fail
  rename World => w2
  obtain ⟨gk0, hgk0⟩ : ∃ g0, g0 = gk := ⟨gk, rfl⟩
  go_loopg [5, 7, 8] 8 (fun r v d i ws => ∃ t : Nat, t + r = 8 ∧ i = .int .i64 t ∧ v = .int .u32 (cbits cc.toNat y t : Nat) ∧ d = .int .u32 (cc.toNat / 2 ^ t : Nat) ∧ ws = w2)
  case atStart => exact ⟨0, by omega, rfl, rfl, by simp, rfl⟩
  obtain ⟨t, ht, rfl, rfl, rfl, rfl⟩ := hrel
  have hlz := cbits_lt hlx cc.toNat t
  have hzz : cbits cc.toNat y (t + 1) = cstep (cbits cc.toNat y t) (cc.toNat / 2 ^ t) := rfl
  have HZ := Lib.hid hzz
  clear hzz
  by_cases ht8 : t < 8
  ·have ht2 : (t : Int) < 8 := by omega
   have htg : 0 ≤ (t : Int) := by omega
   have htt : ((t : Int)).toNat = t := by omega
   have hdt : cc.toNat / 2 ^ t < 256 := Nat.lt_of_le_of_lt (Nat.div_le_self _ _) hcc
   have hcond := crc_cond (cbits cc.toNat y t) (cc.toNat / 2 ^ t) hlz hdt
   have hxp := bits_xor_u32_nat (cbits cc.toNat y t / 2) 2197175160 (by omega) (by decide)
   rw [show ((cbits cc.toNat y t / 2 : Nat) : Int) = ((cbits cc.toNat y t : Nat) : Int) / 2 from by simp, show ((2197175160 : Nat) : Int) = 2197175160 from rfl] at hxp
   have hz2 : ((cbits cc.toNat y t / 2 : Nat) : Int) = ((cbits cc.toNat y t : Nat) : Int) / 2 := by simp
   have hd2 : ((cc.toNat / 2 ^ t : Nat) : Int) / 2 = ((cc.toNat / 2 ^ (t + 1) : Nat) : Int) := by rw [← div_pow_succ]; rfl
   have HXP := Lib.hid hxp
   have HZ2 := Lib.hid hz2
   have HD2 := Lib.hid hd2
   clear hxp hz2 hd2
   generalize cc.toNat / 2 ^ t = d at *
   generalize cbits cc.toNat y t = z at *
   generalize cc.toNat = k at *
   by_cases hb : (z ^^^ d) % 2 = 1
   ·rw [decide_eq_true hb] at hcond
    have HC := Lib.hid hb
    clear hb
    go_wp2_with fail
    go_roundg (gk - 1)
    case measure => omega
    case rel =>
     refine ⟨t + 1, by omega, by go_num, ?_, ?_, rfl⟩
     ·rw [HXP.out, HZ.out]
      unfold cstep
      rw [if_pos HC.out]
     ·rw [HD2.out]
   ·rw [decide_eq_false hb] at hcond
    have HC := Lib.hid hb
    clear hb
    go_wp2_with fail
    go_roundg (gk - 1)
    case measure => omega
    case rel =>
     refine ⟨t + 1, by omega, by go_num, ?_, ?_, rfl⟩
     ·rw [HZ.out]
      unfold cstep
      rw [if_neg HC.out, HZ2.out]
     ·rw [HD2.out]
  ·obtain rfl : t = 8 := by omega
   have HSB : Hid (cadd x (bs.take (j + 1)) = cbits cc.toNat y 8) := Lib.hid HSN.out
   generalize cbits cc.toNat y 8 = z at *
   go_wp2_with fail
   go_roundg (gk0 - 1)
   case measure => omega
   case rel => exact ⟨j + 1, by omega, by go_num, by rw [HSB.out], HO.out⟩
 ·obtain rfl : j = n := by omega
  have htk : bs.take j = bs := List.take_of_length_le (by rw [HL.out]; omega)
  rw [htk] at hlx ⊢
  have hn := bits_not_u32 (cadd x bs) hlx
  have HXX' := Lib.hid (rfl : cadd x bs = cadd x bs)
  generalize hyy : cadd x bs = y at *
  have HYY := Lib.hid hyy
  have hr : 4294967295 - y < 4294967296 := by omega
  generalize hzz : 4294967295 - y = z at *
  have HZZ := Lib.hid hzz
  clear hyy hzz hnb
  go_wp2
  go_ret
  refine ⟨?_, HO.out⟩
  rw [HXX.out, HYY.out, HZZ.out]
  simp
theorem ref_sum_any (A : Option Addr) (n c : Nat) (bs : List UInt8) (w : World) (hi : Bys w A n c bs) :
  Calls Tryz.prog 92 #[.slice A n c] w fun e w' => e = .returned (.int .i64 (csum bs : Nat)) ∧ Only [] w w' := by
 go_enter Tryz.func92, Tryz.ntmps92
 go_wp2_with fail
 refine (ref_more_any 0 A n c bs _ (by decide) hi).mono ?_
 rintro e w1 ⟨rfl, hO⟩
 go_wp2
 go_ret
 exact ⟨rfl, hO⟩
end Go.Proofs.YtgcfdjcpcclcjaaGreat
namespace Go.Proofs.YtgcfdjcpcclcjaaGreat
open Go Go.RowKit Go.Kn
set_option maxRecDepth 100000 in
set_option maxHeartbeats 4000000 in
theorem ref_closed_any (p g k : Nat) (bs : List UInt8) (w : World) (h : RowAt w p g bs k) (hl : bs.length = 64) :
  Calls Tryz.prog 144 #[.pointer (some ⟨p, 0, none⟩)] w fun e w' => ∃ c, e = .returned (.slice (some ⟨g, 0, none⟩) 64 c) ∧ 64 ≤ c ∧ c ≤ maxLen ∧ Kn.Own w' g (bvs (sealed bs)) ∧ Only [p, g] w w' := by
 obtain ⟨old, c, hf0, hcl, hf1, _, _⟩ := h.facts hl (show 0 < 64 by omega)
 have hpz := h.pz 1
 have hcm : c ≤ maxLen := by
  obtain ⟨A', c', h1, _, h3, _⟩ := h.fb
  rw [h1] at hf0
  injection hf0 with hf0
  injection hf0 with _ _ hcc
  omega
 have hpl := h.place 60 (by omega)
 have HL := Lib.hid hl
 have HP := Lib.hid hpl
 have hO0 : Only [p] w (w.setCell ⟨p, 1, none⟩ (.int .i64 ((60 : Nat) : Int))) := (Only.refl _ _).set (by simp) _
 have HO0 := Lib.hid hO0
 have H := Lib.hid h
 clear hpl hl hO0 h
 go_enter Tryz.func144, Tryz.ntmps144
 go_wp2_with fail
 have e60 : ((60 : Nat) : Int) = 60 := rfl
 rw [e60] at HP HO0
 have hb : Bys (w.setCell ⟨p, 1, none⟩ (.int .i64 60)) (some ⟨g, 0, none⟩) 60 c (bs.take 60) := by
  have h1 := (HP.out.own (by have := HL.out; omega)).take 60
  rw [show (bvs bs).take 60 = bvs (bs.take 60) from by simp [bvs, List.map_take]] at h1
  exact Row1.of_Own h1 (by simp; have := HL.out; omega) (by omega) hcm
 generalize w.setCell ⟨p, 1, none⟩ (.int .i64 60) = w0 at *
 refine (ref_sum_any (some ⟨g, 0, none⟩) 60 c (bs.take 60) _ (by exact hb)).mono ?_
 rintro e w1 ⟨rfl, hO1⟩
 have HR1 := Lib.hid (HP.out.keep0 hO1)
 have HO1 := Lib.hid (HO0.out.trans' (hO1.mono (by simp)))
 have hs := csum_lt (bs.take 60)
 have hsd : sealed bs = lay bs 60 (le 4 (csum (bs.take 60))) := rfl
 have HSD := Lib.hid hsd
 clear hO1 hb HP HO0 H hf0 hf1 hpz hsd
 generalize csum (bs.take 60) = s at *
 go_wp2_with fail
 refine (ref_one_any p g 60 bs 4 (s : Int) _ (by exact HR1.out) (by decide) (by rw [HL.out]; decide) ⟨by omega, by have e : (256 : Int) ^ 4 = 4294967296 := rfl; omega⟩).mono ?_
 rintro e w2 ⟨rfl, hr2, hO2⟩
 have e3 : ((s : Nat) : Int).toNat = s := by omega
 rw [e3, ← HSD.out] at hr2
 have hl2 := sealed_length bs HL.out
 obtain ⟨A2, c2, hc2, hle2, hm2, hA2⟩ := hr2.fb
 have hA := hA2 (by omega)
 subst hA
 rw [hl2] at hc2 hle2
 have HOW := Lib.hid (hr2.own (by omega))
 have HO2 := Lib.hid (((HO1.out.mono (T := [p, g]) (by simp)).trans' hO2) : Only [p, g] w w2)
 clear hr2 hO2 hA2 hl2
 go_wp2
 go_ret
 exact ⟨c2, rfl, hle2, hm2, HOW.out, HO2.out⟩
end Go.Proofs.YtgcfdjcpcclcjaaGreat
namespace Go.Proofs.YtgcfdjcpcclcjaaGreat
open Go Go.RowKit Go.Kn
set_option maxRecDepth 100000 in
set_option maxHeartbeats 4000000 in
theorem ref_head_enc_own (f0 f1 f2 f3 : Int) (w : World) :
  Calls Tryz.prog 78 #[.agg #[.int .i64 f0, .int .i64 f1, .int .i64 f2, .int .i64 f3]] w (EncOwn w (encHead ⟨f0, f1, f2, f3⟩)) := by
 cases hm : headMay ⟨f0, f1, f2, f3⟩
 ·have HM := Lib.hid hm
  clear hm
  go_enter Tryz.func78, Tryz.ntmps78
  go_wp2_with fail
  refine (ref_head_may_any f0 f1 f2 f3 _).mono ?_
  rintro e w1 ⟨rfl, hO1⟩
  rw [HM.out]
  go_wp2
  go_ret2
  exact EncOwn.no (by unfold encHead; rw [HM.out]; rfl) (((Only.refl _ _).alloc _).trans' hO1)
 ·have HM := Lib.hid hm
  have HF0 : Hid (0 ≤ f0 ∧ f0 < 256 ^ 1) := Lib.hid (by have := headMay_iff.1 hm; simp only [Int.reducePow] at *; omega)
  have HF1 : Hid (Fit 4 [f1, f2, f3]) := Lib.hid (by have := headMay_iff.1 hm; simp only [fit_cons, fit_nil, Int.reducePow, and_true] at *; omega)
  have HE : Hid (encHead ⟨f0, f1, f2, f3⟩ = some (sealed (headRow ⟨f0, f1, f2, f3⟩))) := Lib.hid (by unfold encHead; rw [if_pos hm])
  have HLR := Lib.hid (headRow_length ⟨f0, f1, f2, f3⟩)
  clear hm
  go_enter Tryz.func78, Tryz.ntmps78
  go_wp2_with fail
  refine (ref_head_may_any f0 f1 f2 f3 _).mono ?_
  rintro e w1 ⟨rfl, hO1⟩
  rw [HM.out]
  have HB1 := Lib.hid ((Own.new w #[.int .i64 f0, .int .i64 f1, .int .i64 f2, .int .i64 f3] 143).keep0 hO1)
  have HO1 := Lib.hid (((Only.refl [] w).alloc (.cells #[.int .i64 f0, .int .i64 f1, .int .i64 f2, .int .i64 f3] 143)).trans' hO1)
  have HSZ : Hid (w.heap.size ≤ w.heap.size) := Lib.hid (Nat.le_refl _)
  clear hO1
  go_wp2_with fail
  generalize hbb : w.heap.size = b at HB1 HSZ ⊢
  have HBB := Lib.hid hbb
  clear hbb
  refine (ref_begun_any 64 75 72 75 72 _ rfl rfl (by decide) (by decide)).mono ?_
  rintro e w2 ⟨p, g, rfl, hp, hg, hr, hO⟩
  have HS : Hid (Encs w w2 p g 2 b (lay zeros64 0 [75, 72]) [.int .i64 f0, .int .i64 f1, .int .i64 f2, .int .i64 f3]) := Lib.hid (Encs.start HB1.out HO1.out hp hg hr hO)
  have hgg : b < w1.heap.size := HB1.out.lt
  clear hr hO HB1
  obtain ⟨x0, x1, x2, x3⟩ := Kn.own4 HS.out.box
  go_wp2_with fail
  have LX : (lay zeros64 0 [75, 72]).length = 64 := by first | rfl | (simp [lay_length, zeros64]) | (rw [lay_length _ _ _ (by simp [lay_length, zeros64])]; simp [lay_length, zeros64])
  refine (ref_one_any p g 2 (lay zeros64 0 [75, 72]) 1 f0 _ (by exact HS.out.row) (by decide) (by rw [LX]; decide) HF0.out).mono ?_
  rintro e w3 ⟨rfl, hr, hO⟩
  have HS0 : Hid (Encs w w3 p g 3 b (lay (lay zeros64 0 [75, 72]) 2 (le 1 f0.toNat)) [.int .i64 f0, .int .i64 f1, .int .i64 f2, .int .i64 f3]) := Lib.hid (HS.out.put hr hO)
  clear hr hO LX HS x0 x1 x2 x3
  have HS := HS0
  clear HS0
  obtain ⟨x0, x1, x2, x3⟩ := Kn.own4 HS.out.box
  go_wp2_with fail
  have LX : (lay (lay zeros64 0 [75, 72]) 2 (le 1 f0.toNat)).length = 64 := by first | rfl | (simp [lay_length, zeros64]) | (rw [lay_length _ _ _ (by simp [lay_length, zeros64])]; simp [lay_length, zeros64])
  refine (ref_put_any p g 3 (lay (lay zeros64 0 [75, 72]) 2 (le 1 f0.toNat)) 4 _ 3 3 [f1, f2, f3] _ (by exact HS.out.row.alloc _) (by exact ins_built _ [f1, f2, f3] _ 3 rfl (by omega)) (by exact ne_built HS.out.row) (by decide) (by rw [LX]; decide) HF1.out).mono ?_
  rintro e w4 ⟨rfl, hr, hO⟩
  have HS1 : Hid (Encs w w4 p g 15 b (lay (lay (lay zeros64 0 [75, 72]) 2 (le 1 f0.toNat)) 3 (les 4 [f1, f2, f3])) [.int .i64 f0, .int .i64 f1, .int .i64 f2, .int .i64 f3]) := Lib.hid ((HS.out.alloc _).put hr hO)
  clear hr hO LX HS x0 x1 x2 x3
  have HS := HS1
  clear HS1
  go_wp2_with fail
  have HX : Hid ((lay (lay (lay zeros64 0 [75, 72]) 2 (le 1 f0.toNat)) 3 (les 4 [f1, f2, f3])) = headRow ⟨f0, f1, f2, f3⟩) := Lib.hid (headRow_ref ⟨f0, f1, f2, f3⟩)
  rw [HX.out] at HS
  generalize headRow ⟨f0, f1, f2, f3⟩ = X at *
  clear HX
  refine (ref_closed_any p g 15 X _ (by exact HS.out.row) HLR.out).mono ?_
  rintro e w8 ⟨c4, rfl, hc4, hm4, ho5, hO5⟩
  have hgw : w.heap.size ≤ g := HS.out.hg
  have HO5 := Lib.hid (HS.out.only.trans hO5 (by simp [HS.out.hg, HS.out.hp]) : Only [] w w8)
  have HW5 := Lib.hid ho5
  clear ho5 hO5 HS
  go_wp2
  go_ret2
  have hl := sealed_length X HLR.out
  exact EncOwn.yes HE.out hl hc4 hm4 hgw HW5.out HO5.out
end Go.Proofs.YtgcfdjcpcclcjaaGreat
namespace Go.Kn
open Go Go.RowKit
/-- does what was read fit a place -/
def headFits (o : Option It) (s l pv m : Int) : Bool := match o with
 | none => false
 | some h => (h.k == s) && (h.c == l) && (h.v == pv) && decide (m ≤ h.b)
end Go.Kn
namespace Go.Proofs.YtgcfdjcpcclcjaaGreat
open Go Go.RowKit Go.Kn
set_option maxRecDepth 100000 in
set_option maxHeartbeats 4000000 in
theorem head_fits_any (A : Option Addr) (n c : Nat) (bs : List UInt8) (s off l pv m : Int) (w : World) (hi : Bys w A n c bs) (hn : n ≤ 65536) :
  Calls Tryz.prog 185 #[.slice A n c, .agg #[.int .i64 s, .int .i64 off, .int .i64 l, .int .i64 pv, .int .i64 m]] w fun e w' => e = .returned (.bool (headFits (decHead bs) s l pv m)) ∧ Only [] w w' := by
 have HI := Lib.hid hi
 clear hi
 go_enter Tryz.func185, Tryz.ntmps185
 go_wp2_with fail
 refine (head_dec_any A n c bs _ (by exact HI.out.alloc _) hn).mono ?_
 rintro e w1 ⟨rfl, hO1⟩
 have p0 := hO1.cell (p := ⟨w.heap.size, 0, none⟩) (v := .int .i64 s) (by simp) (by simp)
 have p2 := hO1.cell (p := ⟨w.heap.size, 2, none⟩) (v := .int .i64 l) (by simp) (by simp)
 have p3 := hO1.cell (p := ⟨w.heap.size, 3, none⟩) (v := .int .i64 pv) (by simp) (by simp)
 have p4 := hO1.cell (p := ⟨w.heap.size, 4, none⟩) (v := .int .i64 m) (by simp) (by simp)
 have hsz : w.heap.size < w1.heap.size := by have := hO1.size; simp at this; omega
 have HO1 := Lib.hid (((Only.refl [] w).alloc (.cells #[.int .i64 s, .int .i64 off, .int .i64 l, .int .i64 pv, .int .i64 m] 32)).trans' hO1)
 clear hO1
 cases hd : decHead bs with
 | none =>
  have HD := Lib.hid hd
  clear hd
  simp only [Option.getD_none, Option.isSome_none, It.vals]
  go_wp2
  go_ret
  exact ⟨by rw [HD.out]; rfl, HO1.out.alloc _⟩
 | some h =>
  obtain ⟨hk, hb, hc, hv⟩ := h
  have HD := Lib.hid hd
  clear hd
  simp only [Option.getD_some, Option.isSome_some, It.vals, if_true]
  go_wp2
  all_goals (go_ret; exact ⟨by rw [HD.out]; simp [headFits, *], HO1.out.alloc _⟩)
end Go.Proofs.YtgcfdjcpcclcjaaGreat
namespace Go.Kn
open Go Go.RowKit
structure Ps where
 s : Int
 o : Int
 l : Int
 p : Int
 m : Int
def Ps.vals (p : Ps) : List Value := [.int .i64 p.s, .int .i64 p.o, .int .i64 p.l, .int .i64 p.p, .int .i64 p.m]
structure Cf where
 b : Int
 s : Int
 l : Int
abbrev Cf.Ok (c : Cf) : Prop := CfOk c.b c.s c.l
/-- where a segment begins -/
def Cf.at_ (c : Cf) (k : Int) : Int := if 0 ≤ k ∧ k ≤ c.s - 1 then 2 + 2 * rln c.s + 4 * pgs c.b + k * c.l else -1
def Cf.sectors (c : Cf) : Int := 2 + 2 * rln c.s + 4 * pgs c.b + c.s * c.l
/-- so many sectors from one on, and the first error -/
def gat (d : Dk) (a : Int) (n : Nat) : List UInt8 := (List.range n).flatMap fun i => d.read (a + (i : Nat))
def gerr (d : Dk) (a : Int) : Nat → Int
 | 0 => 0
 | n + 1 => if gerr d a n = 0 then d.err (a + n) else gerr d a n
theorem gat_succ (d : Dk) (a : Int) (n : Nat) : gat d a (n + 1) = gat d a n ++ d.read (a + (n : Nat)) := by simp [gat, List.range_succ]
theorem gat_one (d : Dk) (a : Int) : gat d a 1 = d.read a := by simp [gat]
theorem gerr_one (d : Dk) (a : Int) : gerr d a 1 = d.err a := by simp [gerr]
theorem gerr_succ (d : Dk) (a : Int) (n : Nat) : gerr d a (n + 1) = if gerr d a n = 0 then d.err (a + (n : Nat)) else gerr d a n := rfl
theorem gerr_le {d : Dk} {a : Int} {n m : Nat} (h : gerr d a n = 0) (hm : m ≤ n) : gerr d a m = 0 := by
  induction n with
  | zero => obtain rfl : m = 0 := by omega
            rfl
  | succ n ih =>
    rw [gerr_succ] at h
    split at h
    · rename_i h0
      rcases Nat.lt_or_ge n m with h2 | h2
      · obtain rfl : m = n + 1 := by omega
        rw [gerr_succ, if_pos h0]; exact h
      · exact ih h0 h2
    · rename_i h0; exact absurd h h0
theorem gerr_stop {d : Dk} {a : Int} {n m : Nat} (h : gerr d a m ≠ 0) (hm : m ≤ n) : gerr d a n = gerr d a m := by
  induction n with
  | zero => obtain rfl : m = 0 := by omega
            rfl
  | succ n ih =>
    rcases Nat.lt_or_ge n m with h2 | h2
    · obtain rfl : m = n + 1 := by omega
      rfl
    · have := ih h2
      rw [gerr_succ, if_neg (by rw [this]; exact h), this]
theorem gat_len {d : Dk} (hd : d.Ok) {a : Int} : ∀ n, gerr d a n = 0 → (gat d a n).length = 64 * n
 | 0, _ => rfl
 | n + 1, h => by
  have h0 := gerr_le h (Nat.le_succ n)
  rw [gerr_succ, if_pos h0] at h
  rw [gat_succ, List.length_append, gat_len hd n h0, Dk.read_64 hd h]
  omega
/-- the segment that a record tells -/
def nextOf (r : Rc) : Option Int := (r.its.find? fun i => i.k == 7).map (·.v)
/-- the record that follows a place, and the place behind it; the error -/
def follow (d : Dk) (c : Cf) (p : Ps) : Option (Rc × Ps) × Int :=
 if 1 ≤ p.o ∧ p.o ≤ c.l - 1 then
  if d.err (c.at_ p.s + p.o) = 0 then
   if sizeRc (d.read (c.at_ p.s + p.o)) = 0 ∨ c.l < p.o + (sizeRc (d.read (c.at_ p.s + p.o)) : Nat) then (none, 0)
   else if gerr d (c.at_ p.s + p.o) (sizeRc (d.read (c.at_ p.s + p.o))) = 0 then
    match decRc (gat d (c.at_ p.s + p.o) (sizeRc (d.read (c.at_ p.s + p.o)))) with
    | none => (none, 0)
    | some (r, sum) => if r.n = p.l ∧ r.p = p.p ∧ p.m ≤ r.m then (some (r, ⟨p.s, p.o + (sizeRc (d.read (c.at_ p.s + p.o)) : Nat), p.l + 1, (sum : Nat), r.m⟩), 0) else (none, 0)
   else (none, gerr d (c.at_ p.s + p.o) (sizeRc (d.read (c.at_ p.s + p.o))))
  else (none, d.err (c.at_ p.s + p.o))
 else (none, 0)
/-- gone through from a place on: what is told, the place behind it, the error -/
def scanG (d : Dk) (c : Cf) : Nat → Ps → List (Ps × Rc) × Ps × Int
 | 0, p => ([], p, 0)
 | k + 1, p => match follow d c p with
  | (none, e) => ([], p, e)
  | (some (r, q), _) => if (nextOf r).isSome then ([(p, r)], q, 0) else ((p, r) :: (scanG d c k q).1, (scanG d c k q).2)
/-- where it begins; does it; the error -/
def scanB (d : Dk) (c : Cf) (own : Bool) (p : Ps) : Ps × Bool × Int :=
 if (0 ≤ p.s ∧ p.s ≤ c.s - 1) ∧ 0 ≤ p.o ∧ p.o < c.l then
  if 0 < p.o then (p, true, 0)
  else if d.err (c.at_ p.s) = 0 then
   match decHead (d.read (c.at_ p.s)) with
   | none => (p, false, 0)
   | some h => if (own || headFits (some h) p.s p.l p.p p.m) = true then (⟨p.s, 1, h.c, h.v, h.b⟩, true, 0) else (p, false, 0)
  else (p, false, d.err (c.at_ p.s))
 else (p, false, 0)
def scanR (d : Dk) (c : Cf) (own : Bool) (p : Ps) : List (Ps × Rc) × Ps × Int :=
 if (scanB d c own p).2.1 then scanG d c 65 (scanB d c own p).1 else ([], (scanB d c own p).1, (scanB d c own p).2.2)
end Go.Kn
namespace Go.Kn
open Go Go.RowKit
def Cf.vals (c : Cf) : Array Value := #[.int .i64 c.b, .int .i64 c.s, .int .i64 c.l]
theorem Cf.prod (c : Cf) (h : c.Ok) (k : Int) (h0 : 0 ≤ k) (h1 : k ≤ c.s) : 0 ≤ k * c.l ∧ k * c.l ≤ 2048 := by
 obtain ⟨_, hs, hl⟩ := h
 refine ⟨Int.mul_nonneg h0 (by omega), ?_⟩
 have := Int.mul_le_mul (show k ≤ 32 by omega) (show c.l ≤ 64 by omega) (by omega) (by omega)
 omega
end Go.Kn
namespace Go.Proofs.YtgcfdjcpcclcjaaGreat
open Go Go.RowKit Go.Kn
theorem geom_segs_any (p : Nat) (b s l : Int) (w : World) (hg : GeoAt w p b s l) (hb : CfOk b s l) :
  Calls Tryz.prog 82 #[.pointer (some ⟨p, 0, none⟩)] w fun e w' => e = .returned (.int .i64 (2 + 2 * rln s + 4 * pgs b)) ∧ Only [] w w' := by
 have HG := Lib.hid hg
 have HB := Lib.hid hb
 have h1 := rln_bounds hb
 have h2 := pgs_bounds hb
 have hw1 := IntWalk.i64_in (2 * pgs b) (by omega)
 have hw2 := IntWalk.i64_in (rln s + 2 * pgs b) (by omega)
 have hw3 := IntWalk.i64_in (2 * (rln s + 2 * pgs b)) (by omega)
 have hw4 := IntWalk.i64_in (2 + 2 * (rln s + 2 * pgs b)) (by omega)
 obtain ⟨r1, r2, r3⟩ := h1
 obtain ⟨g1, g2⟩ := h2
 clear hg hb r3
 go_enter Tryz.func82, Tryz.ntmps82
 go_wp2_with fail
 refine (geom_rlen_any p b s l _ HG.out HB.out).mono ?_
 rintro e w1 ⟨rfl, rfl⟩
 go_wp2_with fail
 refine (geom_pages_any p b s l _ HG.out HB.out).mono ?_
 rintro e w2 ⟨rfl, hO⟩
 have HO := Lib.hid hO
 clear hO
 have he : 2 + 2 * (rln s + 2 * pgs b) = 2 + 2 * rln s + 4 * pgs b := by omega
 have HE := Lib.hid he
 clear he
 go_wp2
 go_ret
 exact ⟨by rw [HE.out]; rfl, HO.out⟩
set_option maxRecDepth 100000 in
set_option maxHeartbeats 4000000 in
theorem geom_seg_any (p : Nat) (c : Cf) (k : Int) (w : World) (hg : GeoAt w p c.b c.s c.l) (hb : c.Ok) :
  Calls Tryz.prog 22 #[.pointer (some ⟨p, 0, none⟩), .int .i64 k] w fun e w' => e = .returned (.int .i64 (c.at_ k)) ∧ Only [] w w' := by
 have HG := Lib.hid hg
 have HB := Lib.hid hb
 by_cases hk : 0 ≤ k ∧ k ≤ c.s - 1
 ·have e : c.at_ k = 2 + 2 * rln c.s + 4 * pgs c.b + k * c.l := by unfold Cf.at_; rw [if_pos hk]
  rw [e]
  obtain ⟨m1, m2⟩ := Cf.prod c hb k hk.1 (by omega)
  have h1 := rln_bounds hb
  have h2 := pgs_bounds hb
  have hq : 2 ≤ 2 + 2 * rln c.s + 4 * pgs c.b ∧ 2 + 2 * rln c.s + 4 * pgs c.b ≤ 30 := by omega
  have HK := Lib.hid (decide_eq_true hk)
  have hw1 := IntWalk.i64_in (k * c.l) (by omega)
  have hw2 := IntWalk.i64_in (2 + 2 * rln c.s + 4 * pgs c.b + k * c.l) (by omega)
  obtain ⟨Q, hQ⟩ : ∃ q, 2 + 2 * rln c.s + 4 * pgs c.b = q := ⟨_, rfl⟩
  rw [hQ] at hw2 hq ⊢
  have HQ := Lib.hid hQ
  obtain ⟨hq1, hq2⟩ := hq
  clear hg hb h1 h2 hk e hQ
  go_enter Tryz.func22, Tryz.ntmps22
  go_wp2_with fail
  refine (geom_has_any p c.b c.s c.l k _ HG.out HB.out).mono ?_
  rintro e w1 ⟨rfl, rfl⟩
  rw [HK.out]
  go_wp2_with fail
  have HG7 := Lib.hid (HG.out.keep0 (Only.refl [] w).drew)
  have HO7 := Lib.hid (Only.refl [] w).drew
  refine wp_region_held_drew (S := fun w' => w'.cell? ⟨p, 2, none⟩ = some (.int .i64 c.l)) (by kernel_rfl) HG7.out.c2 (fun hSw0 => ?_)
  generalize w.drew = ws at *
  refine Kn.takeS 0 ⟨some 9, _, _, _, _, _⟩ ?_
  refine Kn.takeS 2 ⟨some 11, _, _, _, _, _⟩ ?_
  refine Kn.takeS 3 ⟨some 12, _, _, _, _, _⟩ ?_
  refine Kn.takeS 4 ⟨some 13, _, _, _, _, _⟩ ?_
  refine Kn.takeS 5 ⟨some 14, _, _, _, _, _⟩ ?_
  refine Kn.takeS 6 ⟨some 15, _, _, _, _, _⟩ ?_
  refine Kn.takeS 7 ⟨some 16, _, _, _, _, _⟩ ?_
  refine Kn.takeS 8 ⟨some 17, _, _, _, _, _⟩ ?_
  refine Kn.takeR 1 ⟨some 10, _, _, _, _, _⟩ fun K hK => ?_
  go_simp
  refine (geom_segs_any p c.b c.s c.l _ HG7.out HB.out).mono ?_
  rintro e w2 ⟨rfl, hO⟩
  rw [HQ.out]
  have HO8 := Lib.hid (HO7.out.trans' hO)
  have HG8 := Lib.hid (HG7.out.keep0 hO)
  clear hO
  refine hK.out _ _ HG8.out.c2 (fun hSn => ?_)
  clear hK K hSw0
  have hSw0 := hSn
  clear hSn
  refine Kn.takeS 9 ⟨some 18, _, _, _, _, _⟩ ?_
  refine Kn.takeS 10 ⟨some 4, _, _, _, _, _⟩ ?_
  refine wpAnyH_done (by kernel_rfl) ?_ _
  clear hSw0
  go_wp2
  go_ret
  exact ⟨rfl, HO8.out⟩
 ·have e : c.at_ k = -1 := by unfold Cf.at_; rw [if_neg hk]
  rw [e]
  have HK := Lib.hid (decide_eq_false hk)
  clear hg hb hk e
  go_enter Tryz.func22, Tryz.ntmps22
  go_wp2_with fail
  refine (geom_has_any p c.b c.s c.l k _ HG.out HB.out).mono ?_
  rintro e w1 ⟨rfl, rfl⟩
  rw [HK.out]
  go_wp2
  go_ret
  exact ⟨rfl, Only.refl _ _⟩
set_option maxRecDepth 100000 in
set_option maxHeartbeats 4000000 in
theorem ref_segat_any (c : Cf) (k : Int) (w : World) (hb : c.Ok) :
  Calls Tryz.prog 32 #[.agg #[.int .i64 c.b, .int .i64 c.s, .int .i64 c.l], .int .i64 k] w fun e w' => e = .returned (.int .i64 (c.at_ k)) ∧ Only [] w w' := by
 have HB := Lib.hid hb
 have hss : 8 ≤ c.s ∧ c.s ≤ 32 := hb.2.1
 have hw0 := IntWalk.i64_in (c.s - 1) (by omega)
 obtain ⟨hs1, hs2⟩ := hss
 by_cases hk : 0 ≤ k ∧ k ≤ c.s - 1
 ·have e : c.at_ k = 2 + 2 * rln c.s + 4 * pgs c.b + k * c.l := by unfold Cf.at_; rw [if_pos hk]
  rw [e]
  obtain ⟨m1, m2⟩ := Cf.prod c hb k hk.1 (by omega)
  have h1 := rln_bounds hb
  have h2 := pgs_bounds hb
  have HK := Lib.hid (decide_eq_true hk)
  have hx1 := IntWalk.i64_in (2 * rln c.s) (by omega)
  have hx2 := IntWalk.i64_in (2 + 2 * rln c.s) (by omega)
  have hx3 := IntWalk.i64_in (4 * pgs c.b) (by omega)
  have hx4 := IntWalk.i64_in (2 + 2 * rln c.s + 4 * pgs c.b) (by omega)
  have hw1 := IntWalk.i64_in (k * c.l) (by omega)
  have hw2 := IntWalk.i64_in (2 + 2 * rln c.s + 4 * pgs c.b + k * c.l) (by omega)
  clear hb h1 h2 hk e
  go_enter Tryz.func32, Tryz.ntmps32
  have ho0 := Own.new w #[.int .i64 c.b, .int .i64 c.s, .int .i64 c.l] 25
  have HX0 := Lib.hid ho0
  have HO0 := Lib.hid ((Only.refl [] w).alloc (.cells #[.int .i64 c.b, .int .i64 c.s, .int .i64 c.l] 25))
  clear ho0
  go_wp2_with fail
  generalize w.alloc (.cells #[.int .i64 c.b, .int .i64 c.s, .int .i64 c.l] 25) = wa at *
  generalize w.heap.size = fb at *
  refine (within_any k 0 (c.s - 1) _).mono ?_
  rintro e w1 ⟨rfl, rfl⟩
  rw [HK.out]
  go_wp2_with fail
  have HX7 := Lib.hid HX0.out.drew
  have HO7 := Lib.hid HO0.out.drew
  refine wp_region_held_drew (S := fun w' => w'.cell? ⟨fb, 0, none⟩ = some (.int .i64 c.b) ∧ w'.cell? ⟨fb, 1, none⟩ = some (.int .i64 c.s) ∧ w'.cell? ⟨fb, 2, none⟩ = some (.int .i64 c.l)) (by kernel_rfl) ⟨HX7.out.cell 0 (by simp), HX7.out.cell 1 (by simp), HX7.out.cell 2 (by simp)⟩ (fun hSw0 => ?_)
  generalize wa.drew = ws at *
  refine Kn.takeS 0 ⟨some 11, _, _, _, _, _⟩ ?_
  refine Kn.takeS 4 ⟨some 15, _, _, _, _, _⟩ ?_
  refine Kn.takeS 8 ⟨some 19, _, _, _, _, _⟩ ?_
  refine Kn.takeS 9 ⟨some 20, _, _, _, _, _⟩ ?_
  refine Kn.takeS 10 ⟨some 21, _, _, _, _, _⟩ ?_
  refine Kn.takeS 11 ⟨some 22, _, _, _, _, _⟩ ?_
  refine Kn.takeR 1 ⟨some 12, _, _, _, _, _⟩ fun K hK => ?_
  go_simp
  refine (ref_rlen_any c.b c.s c.l _ HB.out).mono ?_
  rintro e w9 ⟨rfl, hO⟩
  have HO8 := Lib.hid (HO7.out.trans' hO)
  have HX8 := Lib.hid (HX7.out.keep0 hO)
  clear hO
  refine hK.out _ _ ⟨HX8.out.cell 0 (by simp), HX8.out.cell 1 (by simp), HX8.out.cell 2 (by simp)⟩ (fun hSn => ?_)
  clear hK K hSw0
  have hSw0 := hSn
  clear hSn
  refine Kn.takeS 2 ⟨some 13, _, _, _, _, _⟩ ?_
  refine Kn.takeS 3 ⟨some 14, _, _, _, _, _⟩ ?_
  refine Kn.takeR 5 ⟨some 16, _, _, _, _, _⟩ fun K hK => ?_
  go_simp
  refine (ref_pages_any c.b c.s c.l _ HB.out).mono ?_
  rintro e w10 ⟨rfl, hO⟩
  have HO9 := Lib.hid (HO8.out.trans' hO)
  have HX9 := Lib.hid (HX8.out.keep0 hO)
  clear hO
  refine hK.out _ _ ⟨HX9.out.cell 0 (by simp), HX9.out.cell 1 (by simp), HX9.out.cell 2 (by simp)⟩ (fun hSn => ?_)
  clear hK K hSw0
  have hSw0 := hSn
  clear hSn
  refine Kn.takeS 6 ⟨some 17, _, _, _, _, _⟩ ?_
  refine Kn.takeS 7 ⟨some 18, _, _, _, _, _⟩ ?_
  refine Kn.takeS 12 ⟨some 23, _, _, _, _, _⟩ ?_
  refine Kn.takeS 13 ⟨some 4, _, _, _, _, _⟩ ?_
  refine wpAnyH_done (by kernel_rfl) ?_ _
  clear hSw0
  go_wp2
  go_ret
  exact ⟨rfl, HO9.out⟩
 ·have e : c.at_ k = -1 := by unfold Cf.at_; rw [if_neg hk]
  rw [e]
  have HK := Lib.hid (decide_eq_false hk)
  clear hb hk e
  go_enter Tryz.func32, Tryz.ntmps32
  go_wp2_with fail
  refine (within_any k 0 (c.s - 1) _).mono ?_
  rintro e w1 ⟨rfl, rfl⟩
  rw [HK.out]
  go_wp2
  go_ret
  exact ⟨rfl, (Only.refl _ _).alloc _⟩
theorem Cf.at0 (c : Cf) (h : c.Ok) : c.at_ 0 = 2 + 2 * rln c.s + 4 * pgs c.b := by
 unfold Cf.at_
 obtain ⟨_, hs, hl⟩ := h
 rw [if_pos (by omega)]
 omega
set_option maxRecDepth 100000 in
set_option maxHeartbeats 4000000 in
theorem ref_sectors_any (c : Cf) (w : World) (hb : c.Ok) :
  Calls Tryz.prog 77 #[.agg #[.int .i64 c.b, .int .i64 c.s, .int .i64 c.l]] w fun e w' => e = .returned (.int .i64 c.sectors) ∧ Only [] w w' := by
 have HB := Lib.hid hb
 have hss : 8 ≤ c.s ∧ c.s ≤ 32 := hb.2.1
 obtain ⟨m1, m2⟩ := Cf.prod c hb c.s (by omega) (by omega)
 have h1 := rln_bounds hb
 have h2 := pgs_bounds hb
 have h3 := Cf.at0 c hb
 have hw1 := IntWalk.i64_in (c.s * c.l) (by omega)
 have hw2 := IntWalk.i64_in (c.at_ 0 + c.s * c.l) (by omega)
 have hE : c.sectors = c.at_ 0 + c.s * c.l := by rw [h3]; rfl
 have HE := Lib.hid hE
 obtain ⟨Q, hQ⟩ : ∃ q, c.at_ 0 = q := ⟨_, rfl⟩
 rw [hQ] at hw2 HE
 have hqb : 2 ≤ Q ∧ Q ≤ 30 := by omega
 have HQ := Lib.hid hQ
 obtain ⟨hq1, hq2⟩ := hqb
 clear hb h1 h2 h3 hE hss hQ
 go_enter Tryz.func77, Tryz.ntmps77
 have ho0 := Own.new w #[.int .i64 c.b, .int .i64 c.s, .int .i64 c.l] 25
 have HX0 := Lib.hid ho0
 have HO0 := Lib.hid ((Only.refl [] w).alloc (.cells #[.int .i64 c.b, .int .i64 c.s, .int .i64 c.l] 25))
 clear ho0
 go_wp2_with fail
 generalize w.alloc (.cells #[.int .i64 c.b, .int .i64 c.s, .int .i64 c.l] 25) = wa at *
 generalize w.heap.size = fb at *
 have HX7 := Lib.hid HX0.out.drew
 have HO7 := Lib.hid HO0.out.drew
 refine wp_region_held_drew (S := fun w' => w'.cell? ⟨fb, 0, none⟩ = some (.int .i64 c.b) ∧ w'.cell? ⟨fb, 1, none⟩ = some (.int .i64 c.s) ∧ w'.cell? ⟨fb, 2, none⟩ = some (.int .i64 c.l)) (by kernel_rfl) ⟨HX7.out.cell 0 (by simp), HX7.out.cell 1 (by simp), HX7.out.cell 2 (by simp)⟩ (fun hSw0 => ?_)
 generalize wa.drew = ws at *
 refine Kn.takeS 0 ⟨some 3, _, _, _, _, _⟩ ?_
 refine Kn.takeS 2 ⟨some 5, _, _, _, _, _⟩ ?_
 refine Kn.takeS 3 ⟨some 6, _, _, _, _, _⟩ ?_
 refine Kn.takeS 4 ⟨some 7, _, _, _, _, _⟩ ?_
 refine Kn.takeS 5 ⟨some 8, _, _, _, _, _⟩ ?_
 refine Kn.takeS 6 ⟨some 9, _, _, _, _, _⟩ ?_
 refine Kn.takeR 1 ⟨some 4, _, _, _, _, _⟩ fun K hK => ?_
 go_simp
 refine (ref_segat_any c 0 _ HB.out).mono ?_
 rintro e w9 ⟨rfl, hO⟩
 rw [HQ.out]
 have HO8 := Lib.hid (HO7.out.trans' hO)
 have HX8 := Lib.hid (HX7.out.keep0 hO)
 clear hO
 refine hK.out _ _ ⟨HX8.out.cell 0 (by simp), HX8.out.cell 1 (by simp), HX8.out.cell 2 (by simp)⟩ (fun hSn => ?_)
 clear hK K hSw0
 have hSw0 := hSn
 clear hSn
 refine Kn.takeS 7 ⟨some 10, _, _, _, _, _⟩ ?_
 refine Kn.takeS 8 ⟨some 2, _, _, _, _, _⟩ ?_
 refine wpAnyH_done (by kernel_rfl) ?_ _
 clear hSw0
 go_wp2
 go_ret
 exact ⟨by rw [HE.out]; rfl, HO8.out⟩
end Go.Proofs.YtgcfdjcpcclcjaaGreat
namespace Go.Kn
open Go Go.RowKit
def Ps.head (p : Ps) : It := ⟨p.s, p.m, p.l, p.p⟩
def headB (p : Ps) : List UInt8 := sealed (headRow p.head)
theorem headB_length (p : Ps) : (headB p).length = 64 := sealed_length _ (headRow_length _)
theorem headB_enc {p : Ps} (h : headMay p.head = true) : encHead p.head = some (headB p) := by unfold encHead; rw [if_pos h]; rfl
theorem encOwn_some {w w' : World} {bs : List UInt8} {e : Ending} (h : EncOwn w (some bs) e w') : ∃ g c, e = .returned (.tuple #[.slice (some ⟨g, 0, none⟩) bs.length c, .int .i64 0]) ∧ bs.length ≤ c ∧ c ≤ maxLen ∧ w.heap.size ≤ g ∧ Own w' g (bvs bs) ∧ Only [] w w' := by
 rcases h with ⟨h, _⟩ | ⟨bs', g, c, h, rest⟩
 ·cases h
 ·injection h with h
  subst h
  exact ⟨g, c, rest⟩
end Go.Kn
namespace Go.Proofs.YtgcfdjcpcclcjaaGreat
open Go Go.RowKit Go.Kn
/-- the frame of both disks comes to the front -/
theorem Duo.fr {w0 w : World} {p : PD} {r : RD} {d e : Dk} {c : Fr3} (h : Duo w0 w p r d e c) : ∃ L0 G0 F0, Wc w0 w (c.L ++ L0) (c.G ++ G0) (c.F ++ F0) ∧ ∀ w' (c' : Fr3), Wc w0 w' (c'.L ++ L0) (c'.G ++ G0) (c'.F ++ F0) → Duo w0 w' p r d e c' := by
 obtain ⟨v, v', lv, k, ls, sl, hs, hl, hm⟩ := h.mem
 have pl : ∀ L, (p.L v d (r.L v' lv sl e L)).Perm (L ++ p.L v d (r.L v' lv sl e [])) := fun L => by
  have := List.perm_append_comm (l₁ := p.L v d (r.L v' lv sl e [])) (l₂ := L)
  simpa [PD.L, RD.L] using this
 have pg : ∀ (a b x : Gs) G, (a :: b :: x :: G).Perm (G ++ [a, b, x]) := fun a b x G => by
  have := List.perm_append_comm (l₁ := [a, b, x]) (l₂ := G)
  simpa using this
 refine ⟨p.L v d (r.L v' lv sl e []), [⟨158, 65, v, d.held.length, heldV d.held⟩, ⟨175, 2, v', e.held.length, heldR e.held hs⟩, ⟨47, 1, lv, k, ls⟩], [(fun W => Bls W sl e.safe), (fun W => Bls W hs (e.held.map (·.2)))], ?_, fun w' c' h' => ?_⟩
 ·refine (hm.perm (pl _) (pg _ _ _ _)).subF ?_
  intro f hf
  rcases List.mem_append.1 hf with hf | hf
  ·exact List.mem_cons_of_mem _ (List.mem_cons_of_mem _ hf)
  ·simp only [List.mem_cons, List.not_mem_nil, or_false] at hf ⊢
   rcases hf with hf | hf
   ·exact .inl hf
   ·exact .inr (.inl hf)
 ·refine ⟨h.ok, h.N, h.hs, h.hn, h.hf, h.ok', h.N', h.hs', h.hf', v, v', lv, k, ls, sl, hs, hl, (h'.perm (pl _).symm (pg _ _ _ _).symm).subF ?_⟩
  intro f hf
  simp only [List.mem_cons] at hf
  rcases hf with hf | hf | hf
  ·exact List.mem_append.2 (.inr (by simp [hf]))
  ·exact List.mem_append.2 (.inr (by simp [hf]))
  ·exact List.mem_append.2 (.inl hf)
theorem Duo.addFc {w0 w w' : World} {p : PD} {r : RD} {d e : Dk} {c : Fr3} (h : Duo w0 w p r d e c) (hO : Only [] w w') {f : World → Prop} (hf : Fc w' (fun k => k < w.heap.size) f) : Duo w0 w' p r d e ⟨c.L, c.G, f :: c.F⟩ := by
 obtain ⟨L0, G0, F0, hw, back⟩ := h.fr
 exact back w' ⟨c.L, c.G, f :: c.F⟩ (hw.addFc hO hf)
theorem Duo.newB {w0 w : World} {p : PD} {r : RD} {d e : Dk} {c : Fr3} (h : Duo w0 w p r d e c) (cs : Array Value) (t : TypeId) {b : Nat} (hb : w.heap.size = b) : Duo w0 (w.alloc (.cells cs t)) p r d e ⟨(b, cs.toList) :: c.L, c.G, c.F⟩ := by
 obtain ⟨L0, G0, F0, hw, back⟩ := h.fr
 exact back _ ⟨(b, cs.toList) :: c.L, c.G, c.F⟩ (hw.newB cs t hb)
theorem Duo.ldrop {w0 w : World} {p : PD} {r : RD} {d e : Dk} {x : Nat × List Value} {L : List (Nat × List Value)} {G : List Gs} {F : List (World → Prop)} (h : Duo w0 w p r d e ⟨x :: L, G, F⟩) : Duo w0 w p r d e ⟨L, G, F⟩ := by
 obtain ⟨L0, G0, F0, hw, back⟩ := h.fr
 exact back _ ⟨L, G, F⟩ hw.ldrop
theorem Duo.box {w0 w : World} {p : PD} {r : RD} {d e : Dk} {c : Fr3} (h : Duo w0 w p r d e c) {x : Nat × List Value} (hx : x ∈ c.L) : Kn.Own w x.1 x.2 := by
 obtain ⟨L0, G0, F0, hw, back⟩ := h.fr
 exact hw.own x (List.mem_append.2 (.inl hx))
theorem Duo.only {w0 w : World} {p : PD} {r : RD} {d e : Dk} {c : Fr3} (h : Duo w0 w p r d e c) : Only [] w0 w := by
 obtain ⟨L0, G0, F0, hw, back⟩ := h.fr
 exact hw.only
set_option maxRecDepth 100000 in
set_option maxHeartbeats 4000000 in
theorem kit_head_any (w0 w : World) (p : PD) (r : RD) (d : Dk) (c : Fr3) (cf : Cf) (q : Ps) (h : Duo w0 w p r d d c) (hc : cf.Ok) (hq : headMay q.head = true) (hs : q.s ≤ cf.s - 1) (hh : d.held.length ≤ 1000) :
  Calls Tryz.prog 16 #[.pointer (some ⟨p.D, 0, none⟩), .pointer (some ⟨r.M, 0, none⟩), .agg #[.int .i64 cf.b, .int .i64 cf.s, .int .i64 cf.l], .agg #[.int .i64 q.s, .int .i64 q.o, .int .i64 q.l, .int .i64 q.p, .int .i64 q.m]] w fun e w' => e = .returned (.bool true) ∧ Duo w0 w' p r (d.puts (cf.at_ q.s) (headB q)) (d.puts (cf.at_ q.s) (headB q)) c := by
 have H := Lib.hid ((h.newB #[.int .i64 cf.b, .int .i64 cf.s, .int .i64 cf.l] 25 rfl).newB #[.int .i64 q.s, .int .i64 q.o, .int .i64 q.l, .int .i64 q.p, .int .i64 q.m] 32 rfl)
 have HC := Lib.hid hc
 have HQ := Lib.hid hq
 have hs0 : 0 ≤ q.s := by
  have := hq
  unfold headMay at this
  simp only [Bool.and_eq_true, decide_eq_true_eq] at this
  exact this.1.1.1.1
 obtain ⟨m1, m2⟩ := Cf.prod cf hc q.s hs0 (by omega)
 have hat : 0 ≤ cf.at_ q.s ∧ cf.at_ q.s ≤ 100000 := by
  have h1 := rln_bounds hc
  have h2 := pgs_bounds hc
  unfold Cf.at_
  rw [if_pos ⟨hs0, hs⟩]
  omega
 have HAT := Lib.hid hat
 have HES := Lib.hid (headB_enc hq)
 clear h hc hq hat
 go_enter Tryz.func16, Tryz.ntmps16
 go_wp2_with fail
 generalize (w.alloc (.cells #[.int .i64 cf.b, .int .i64 cf.s, .int .i64 cf.l] 25)).alloc (.cells #[.int .i64 q.s, .int .i64 q.o, .int .i64 q.l, .int .i64 q.p, .int .i64 q.m] 32) = wa at *
 have hsz : (w.alloc (.cells #[.int .i64 cf.b, .int .i64 cf.s, .int .i64 cf.l] 25)).heap.size = w.heap.size + 1 := by simp
 rw [hsz] at H
 clear hsz
 generalize w.heap.size = fb at *
 generalize fb + 1 = fq at *
 refine (ref_head_enc_own q.s q.m q.l q.p _).mono ?_
 rintro e w2 hen
 rw [show (⟨q.s, q.m, q.l, q.p⟩ : It) = q.head from rfl, HES.out] at hen
 obtain ⟨g, cc, rfl, hcc, hcm, hg, hown, hO⟩ := encOwn_some hen
 rw [headB_length] at hcc
 have hD := H.out.addFc hO (f := fun W => Bys W (some ⟨g, 0, none⟩) 64 cc (headB q)) (Row1.fc (Row1.of_Own hown (by rw [bvs_length, headB_length]) hcc hcm) (fun _ a ha => by injection ha with ha; subst ha; simp; omega))
 have HD := Lib.hid hD
 have b1 := hD.box (x := (fb, [.int .i64 cf.b, .int .i64 cf.s, .int .i64 cf.l])) (by simp)
 have b2 := hD.box (x := (fq, [.int .i64 q.s, .int .i64 q.o, .int .i64 q.l, .int .i64 q.p, .int .i64 q.m])) (by simp)
 have x0 := b1.cell 0 (by simp)
 have x1 := b1.cell 1 (by simp)
 have x2 := b1.cell 2 (by simp)
 have y0 := b2.cell 0 (by simp)
 simp only [List.getElem_cons_zero, List.getElem_cons_succ] at x0 x1 x2 y0
 rw [headB_length]
 clear H hen hown hO hD b1 b2 hg
 go_wp2_with fail
 refine (ref_segat_any cf q.s _ HC.out).mono ?_
 rintro e w3 ⟨rfl, hO⟩
 have HD2 := Lib.hid (HD.out.keep0 hO)
 clear hO HD x0 x1 x2 y0
 go_wp2_with fail
 refine (kit_put_any w0 _ p r d _ (cf.at_ q.s) (some ⟨g, 0, none⟩) 64 cc (headB q) HD2.out List.mem_cons_self hh (by decide) (by have := HAT.out; omega)).mono ?_
 rintro e w4 ⟨rfl, hd⟩
 have HD3 := Lib.hid (Duo.subF hd.ldrop.ldrop (F' := c.F) (fun f hf => List.mem_cons_of_mem _ hf))
 clear hd HD2
 go_wp2
 go_ret
 exact ⟨rfl, HD3.out⟩
end Go.Proofs.YtgcfdjcpcclcjaaGreat
namespace Go.Kn
open Go Go.RowKit
/-- Wc; since w1 the non-cells lie as they lay -/
structure Wk (w0 w1 w : World) (L : List (Nat × List Value)) (G : List Gs) (F : List (World → Prop)) : Prop extends Wc w0 w L G F where
 kb : Kb w1.heap.size w1 w
section
variable {w0 w1 w w' : World} {L L' : List (Nat × List Value)} {G G' : List Gs} {F F' : List (World → Prop)}
theorem Wk.hs (h : Wk w0 w1 w L G F) : w1.heap.size ≤ w.heap.size := h.kb.size
theorem Wk.start (h : Wc w0 w L G F) : Wk w0 w w L G F := ⟨h, Kb.refl _ _⟩
theorem Wk.to (h : Wk w0 w1 w L G F) (g : Wc w0 w' L' G' F') (hk : Kb w1.heap.size w w') : Wk w0 w1 w' L' G' F' := ⟨g, h.kb.trans hk⟩
theorem Wk.same (h : Wk w0 w1 w L G F) (g : Wc w0 w L' G' F') : Wk w0 w1 w L' G' F' := ⟨g, h.kb⟩
theorem kb_only0 {B : Nat} (hO : Only [] w w') : Kb B w w' := Kb.of_only hO (by simp)
theorem Wk.keep0 (h : Wk w0 w1 w L G F) (hO : Only [] w w') : Wk w0 w1 w' L G F := h.to (h.toWc.keep0 hO) (kb_only0 hO)
theorem Wk.drew (h : Wk w0 w1 w L G F) : Wk w0 w1 w.drew L G F := h.keep0 (Only.refl _ _).drew
theorem Wk.drewN (h : Wk w0 w1 w L G F) (n : Nat) : Wk w0 w1 (w.drewN n) L G F := h.keep0 ((Only.refl _ _).drewN n)
theorem Wk.alloc (h : Wk w0 w1 w L G F) (o : Obj) : Wk w0 w1 (w.alloc o) L G F := h.keep0 ((Only.refl _ _).alloc o)
theorem Wk.newB (h : Wk w0 w1 w L G F) (cs : Array Value) (t : TypeId) {b : Nat} (hb : w.heap.size = b) : Wk w0 w1 (w.alloc (.cells cs t)) ((b, cs.toList) :: L) G F := h.to (h.toWc.newB cs t hb) (kb_only0 ((Only.refl _ _).alloc _))
theorem Wk.call1 (h : Wk w0 w1 w L G F) (i : Nat) {p : Nat} {cs cs' : List Value} (hi : L[i]? = some (p, cs)) (ho : Own w' p cs') (hO : Only [p] w w') : Wk w0 w1 w' (L.set i (p, cs')) G F :=
 h.to (h.toWc.call1 i hi ho hO) (Kb.of_only hO (by
  intro k hk o hq
  rw [List.mem_singleton] at hk
  subst hk
  exact (h.toWc.boxi i hi).isCells o hq))
theorem Wk.put (h : Wk w0 w1 w L G F) (i : Nat) {p : Nat} {cs : List Value} (hi : L[i]? = some (p, cs)) (j : Nat) (u : Value) : Wk w0 w1 (w.setCell ⟨p, j, none⟩ u) (L.set i (p, cs.set j u)) G F :=
 h.to (h.toWc.put i hi j u) (Kb.of_only ((Only.refl [p] w).set (.inl (by simp)) u) (by
  intro k hk o hq
  rw [List.mem_singleton] at hk
  subst hk
  exact (h.toWc.boxi i hi).isCells o hq))
theorem Wk.gapp (h : Wk w0 w1 w L G F) (i : Nat) {x : Gs} (hi : G[i]? = some x) {v' : Value} {n' : Nat} {ys : List Value} (ho : w'.ownsRow w0.heap.size x.e x.sz v' n' ys) (hg : w.grownBy w' x.v.ownBlock) (hat : v'.ownBlock = x.v.ownBlock ∨ v'.ownBlock = some w.heap.size) :
  Wk w0 w1 w' L (G.set i ⟨x.e, x.sz, v', n', ys⟩) F :=
 h.to (h.toWc.gapp i hi ho hg hat) ⟨hg.size, by
  intro k o _ hk hc
  have hlt := lt_of_obj hk
  by_cases hm : x.v.ownBlock = some k
  ·have := h.toWc.cellsBlock (.inr ⟨x, List.mem_of_getElem? hi, hm⟩) o hk
   rw [this] at hc
   cases hc
  ·rw [← hk]
   exact hg.block k hlt (fun e => hm e.symm)⟩
theorem Wk.addFc (h : Wk w0 w1 w L G F) (hO : Only [] w w') {f : World → Prop} (hf : Fc w' (fun k => k < w.heap.size) f) : Wk w0 w1 w' L G (f :: F) := h.to (h.toWc.addFc hO hf) (kb_only0 hO)
theorem Wk.sub (h : Wk w0 w1 w L G F) {L' : List (Nat × List Value)} {F' : List (World → Prop)} (hL : L'.Sublist L) (hF : ∀ f ∈ F', f ∈ F) : Wk w0 w1 w L' G F' := h.same (h.toWc.sub hL hF)
theorem Wk.perm (h : Wk w0 w1 w L G F) (hL : L.Perm L') (hG : G.Perm G') : Wk w0 w1 w L' G' F := h.same (h.toWc.perm hL hG)
theorem Wk.subG (h : Wk w0 w1 w L G F) (hG : G'.Sublist G) : Wk w0 w1 w L G' F := h.same (h.toWc.subG hG)
theorem Wk.subF (h : Wk w0 w1 w L G F) {F' : List (World → Prop)} (hF : ∀ f ∈ F', f ∈ F) : Wk w0 w1 w L G F' := h.same (h.toWc.subF hF)
theorem Wk.gdrop {g : Gs} (h : Wk w0 w1 w L (g :: G) F) : Wk w0 w1 w L G F := h.same h.toWc.gdrop
theorem Wk.ldrop {x : Nat × List Value} (h : Wk w0 w1 w (x :: L) G F) : Wk w0 w1 w L G F := h.same h.toWc.ldrop
end
end Go.Kn
namespace Go.Proofs.YtgcfdjcpcclcjaaGreat
open Go Go.RowKit Go.Kn
structure DskRd (w : World) (p : PD) (d : Dk) : Prop where
 ok : d.Ok
 N : d.safe.length = p.N
 D_ : ∃ v, Kn.Own w p.D (p.box v d)
 n_ : Kn.Own w p.n (flat d.now)
 f_ : Kn.Own w p.f (bls d.faults)
/-- the disk is among some boxes -/
structure DkIn (p : PD) (d : Dk) (L : List (Nat × List Value)) : Prop where
 ok : d.Ok
 N : d.safe.length = p.N
 D_ : ∃ v, (p.D, p.box v d) ∈ L
 n_ : (p.n, flat d.now) ∈ L
 f_ : (p.f, bls d.faults) ∈ L
theorem DkIn.rd {w : World} {p : PD} {d : Dk} {L L' : List (Nat × List Value)} (h : DkIn p d L) (hw : ∀ x ∈ L', Kn.Own w x.1 x.2) (hL : ∀ x ∈ L, x ∈ L') : DskRd w p d :=
 ⟨h.ok, h.N, by obtain ⟨v, hv⟩ := h.D_; exact ⟨v, hw _ (hL _ hv)⟩, hw _ (hL _ h.n_), hw _ (hL _ h.f_)⟩
theorem DkIn.mono {p : PD} {d : Dk} {L L' : List (Nat × List Value)} (h : DkIn p d L) (hL : ∀ x ∈ L, x ∈ L') : DkIn p d L' := ⟨h.ok, h.N, by obtain ⟨v, hv⟩ := h.D_; exact ⟨v, hL _ hv⟩, hL _ h.n_, hL _ h.f_⟩
theorem dk_has_rd (w : World) (p : PD) (d : Dk) (a : Int) (h : DskRd w p d) :
    Calls Tryz.prog 83 #[.pointer (some ⟨p.D, 0, none⟩), .int .i64 a] w fun e w' => e = .returned (.bool (d.has a)) ∧ w = w' := by
  obtain ⟨v, hb⟩ := h.D_
  have c1 := hb.cell 1 (by simp [PD.box])
  have hN := h.N
  have hn := h.ok.n
  have hlt : decide (a < (p.N : Int)) = decide (a < (d.safe.length : Int)) := by rw [hN]
  simp only [PD.box, List.getElem_cons_zero, List.getElem_cons_succ] at c1
  have HN := Lib.hid hN
  have hn' : 1 ≤ p.N ∧ p.N ≤ 4096 := by omega
  obtain ⟨hn1, hn2⟩ := hn'
  clear hb hN hn hlt h
  go_enter Tryz.func83, Tryz.ntmps83
  by_cases h1 : 0 ≤ a <;> by_cases h2 : a < (p.N : Int) <;>
  (go_wp2
   go_ret
   exact ⟨by unfold Dk.has; rw [HN.out]; simp [*], rfl⟩)
set_option maxRecDepth 100000 in
set_option maxHeartbeats 4000000 in
theorem dk_read_rd (w : World) (p : PD) (d : Dk) (a : Int) (h : DskRd w p d) :
  Calls Tryz.prog 23 #[.pointer (some ⟨p.D, 0, none⟩), .int .i64 a] w (RdSays w (d.read a) (d.err a)) := by
 obtain ⟨v, hbx⟩ := h.D_
 have c1 := hbx.cell 1 (by simp [PD.box])
 have c3 := hbx.cell 3 (by simp [PD.box])
 have c6 := hbx.cell 6 (by simp [PD.box])
 simp only [PD.box, List.getElem_cons_zero, List.getElem_cons_succ] at c1 c3 c6
 have hfb := h.f_
 have hnb := h.n_
 have H := Lib.hid h
 have hN := h.N
 have hF := h.ok.f
 have hn := h.ok.n
 by_cases ho : d.has a = true
 ·have hr : 0 ≤ a ∧ a < (p.N : Int) := by unfold Dk.has at ho; simp only [decide_eq_true_eq] at ho; omega
  obtain ⟨k, rfl⟩ : ∃ k : Nat, a = k := ⟨a.toNat, by omega⟩
  have hkN : k < p.N := by omega
  have hN1 : 1 ≤ p.N ∧ p.N ≤ 4096 := by omega
  obtain ⟨hN1, hN2⟩ := hN1
  have HO := Lib.hid ho
  by_cases hof : d.off = true
  ·have e1 : d.err k = 3 := by unfold Dk.err; rw [if_pos ho, if_pos hof]
   have e2 : d.read k = [] := by unfold Dk.read; rw [e1]; rfl
   rw [e1, e2]
   rw [hof] at c6
   clear hbx hfb hnb h hN hF hn ho hof e1 e2 c1 c3
   go_enter Tryz.func23, Tryz.ntmps23
   go_wp2_with fail
   refine (dk_has_rd w p d k H.out).mono ?_
   rintro e w1 ⟨rfl, rfl⟩
   rw [HO.out]
   go_wp2
   go_ret2
   exact RdSays.none _ _
  ·rw [Bool.not_eq_true] at hof
   have hbl : k < (bls d.faults).length := by rw [bls_length]; omega
   have q0 := hfb.cell k hbl
   have hbg : (bls d.faults)[k] = .bool (d.bad k) := by
    unfold Dk.bad
    rw [bls_get, List.getD_eq_getElem?_getD, show ((k : Int)).toNat = k from by omega, List.getElem?_eq_getElem (by omega), Option.getD_some]
   rw [hbg] at q0
   rw [hof] at c6
   by_cases hb : d.bad k = true
   ·have e1 : d.err k = 4 := by unfold Dk.err; rw [if_pos ho, if_neg (by simp [hof]), if_pos hb]
    have e2 : d.read k = [] := by unfold Dk.read; rw [e1]; rfl
    rw [e1, e2]
    rw [hb] at q0
    clear hbx hfb hnb h hN hF hn ho hof e1 e2 c1 hbg hbl hb
    go_enter Tryz.func23, Tryz.ntmps23
    go_wp2_with fail
    refine (dk_has_rd w p d k H.out).mono ?_
    rintro e w1 ⟨rfl, rfl⟩
    rw [HO.out]
    go_wp2
    go_ret2
    exact RdSays.none _ _
   ·rw [Bool.not_eq_true] at hb
    have e1 : d.err k = 0 := by unfold Dk.err; rw [if_pos ho, if_neg (by simp [hof]), if_neg (by simp [hb])]
    have e2 : d.read k = d.sector k := by unfold Dk.read; rw [if_pos e1]
    rw [e1, e2]
    rw [hb] at q0
    have hkl : k < d.now.length := by rw [Dk.now_length]; omega
    have hsec : d.sector k = d.now[k] := by
     unfold Dk.sector
     rw [List.getD_eq_getElem?_getD, show ((k : Int)).toNat = k from by omega, List.getElem?_eq_getElem hkl, Option.getD_some]
    have hrow := Row1.subrow (n := 0) (o := 64 * k) (m := 64) (c := 64) hnb (by rw [flat_length _ h.ok.now64, Dk.now_length]; omega) (Nat.le_refl _) (by simp [maxLen])
    rw [flat_cut _ h.ok.now64 k hkl, ← hsec, Nat.mul_comm 64 k] at hrow
    have hsl := Dk.sector_64 h.ok ho
    have HR := Lib.hid hrow
    clear hbx hfb hnb h hN hF hn ho hof e1 e2 hbg hbl hb hrow hsec hkl
    go_enter Tryz.func23, Tryz.ntmps23
    go_wp2_with fail
    refine (dk_has_rd w p d k H.out).mono ?_
    rintro e w1 ⟨rfl, rfl⟩
    rw [HO.out]
    go_wp2_with fail
    refine (clone_any _ 64 64 _ _ (by exact HR.out) (by decide)).mono ?_
    rintro e w1 ⟨A, cc, rfl, hcc, hcm, hpos, hO⟩
    have hfc := MadeBys.fc hcc hcm hpos
    rw [hsl] at hfc
    have HF := Lib.hid hfc
    have HO1 := Lib.hid hO
    clear hfc hpos hO
    go_wp2
    go_ret2
    exact ⟨A, _, cc, rfl, HF.out, HO1.out⟩
 ·have e1 : d.err a = 1 := by unfold Dk.err; rw [if_neg ho]
  have e2 : d.read a = [] := by unfold Dk.read; rw [e1]; rfl
  rw [e1, e2]
  rw [Bool.not_eq_true] at ho
  have HO := Lib.hid ho
  clear hbx hfb hnb h hN hF hn ho e1 e2
  go_enter Tryz.func23, Tryz.ntmps23
  go_wp2_with fail
  refine (dk_has_rd w p d a H.out).mono ?_
  rintro e w1 ⟨rfl, rfl⟩
  rw [HO.out]
  go_wp2
  go_ret2
  exact RdSays.none _ _
/-- the cells of a Scan -/
def SB (D gb : Nat) (p : Ps) (own : Bool) (e : Ps) (er : Int) : List Value :=
 [.pointer (some ⟨D, 0, none⟩), .pointer (some ⟨gb, 0, none⟩), .int .i64 p.s, .int .i64 p.o, .int .i64 p.l, .int .i64 p.p, .int .i64 p.m, .bool own, .int .i64 e.s, .int .i64 e.o, .int .i64 e.l, .int .i64 e.p, .int .i64 e.m, .int .i64 er]
def ReadSays (w0 wb : World) (S D gb : Nat) (p : Ps) (own : Bool) (e : Ps) (L : List (Nat × List Value)) (G : List Gs) (F : List (World → Prop)) (b : List UInt8) (er : Int) (en : Ending) (w' : World) : Prop :=
 ∃ A n c, en = .returned (.tuple #[.slice A n c, .bool (decide (er = 0))]) ∧ Wk w0 wb w' ((S, SB D gb p own e er) :: L) G ((fun W => Bys W A n c b) :: F)
set_option maxRecDepth 100000 in
theorem scan_read_any {wb : World} (w0 w : World) (S gb : Nat) (pd : PD) (d : Dk) (p : Ps) (own : Bool) (e : Ps) (er : Int) (L : List (Nat × List Value)) (G : List Gs) (F : List (World → Prop)) (a : Int)
  (hw : Wk w0 wb w ((S, SB pd.D gb p own e er) :: L) G F) (hd : DkIn pd d L) :
  Calls Tryz.prog 183 #[.pointer (some ⟨S, 0, none⟩), .int .i64 a] w (ReadSays w0 wb S pd.D gb p own e L G F (d.read a) (d.err a)) := by
 have hb := hw.boxi 0 rfl
 have c0 := hb.cell 0 (by simp [SB])
 simp only [SB, List.getElem_cons_zero] at c0
 have H := Lib.hid hw
 have HR := Lib.hid (hd.rd hw.own (fun x hx => List.mem_cons_of_mem _ hx))
 clear hw hb hd
 go_enter Tryz.func183, Tryz.ntmps183
 go_wp2_with fail
 refine (dk_read_rd w pd d a HR.out).mono ?_
 rintro en w1 ⟨A, n, c, rfl, hfc, hO⟩
 have HW := Lib.hid (H.out.addFc hO hfc)
 have h13 := (HW.out.boxi 0 (p := S) rfl)
 have y0 := h13.cell 13 (by simp [SB])
 have f13 := h13.frozen 13
 simp only [SB, List.getElem_cons_zero, List.getElem_cons_succ] at y0
 have HE := Lib.hid (HW.out.put 0 (p := S) rfl 13 (.int .i64 (d.err a)))
 obtain ⟨z, hz⟩ : ∃ z, d.err a = z := ⟨_, rfl⟩
 rw [hz] at HE ⊢
 have HZ := Lib.hid hz
 clear hfc hO h13 H HR hz
 by_cases h0 : z = 0
 ·subst h0
  go_wp2_with fail
  go_quiet (fail)
  go_wp2
  go_ret2
  rw [HZ.out]
  exact ⟨A, n, c, rfl, HE.out.drewN _⟩
 ·have h1 : (z == 0) = false := by simpa using h0
  go_wp2_with fail
  go_quiet (fail)
  go_wp2
  go_ret2
  rw [HZ.out]
  exact ⟨A, n, c, by rw [decide_eq_false h0]; rfl, HE.out.drewN _⟩
theorem scan_end_any {wb : World} (w0 w : World) (S gb D : Nat) (p : Ps) (own : Bool) (e : Ps) (er : Int) (L : List (Nat × List Value)) (G : List Gs) (F : List (World → Prop))
  (hw : Wk w0 wb w ((S, SB D gb p own e er) :: L) G F) :
  Calls Tryz.prog 20 #[.pointer (some ⟨S, 0, none⟩)] w fun en w' => en = .returned (.agg #[.int .i64 e.s, .int .i64 e.o, .int .i64 e.l, .int .i64 e.p, .int .i64 e.m]) ∧ Only [] w w' := by
 have hres : Tryz.f20.results = #[.cell 2 32] := by kernel_rfl
 have HRES := Lib.hid hres
 have hb := hw.boxi 0 rfl
 have c0 := hb.cell 8 (by simp [SB])
 have c1 := hb.cell 9 (by simp [SB])
 have c2 := hb.cell 10 (by simp [SB])
 have c3 := hb.cell 11 (by simp [SB])
 have c4 := hb.cell 12 (by simp [SB])
 simp only [SB, List.getElem_cons_zero, List.getElem_cons_succ] at c0 c1 c2 c3 c4
 have hlt := hb.lt
 clear hw hb hres
 go_enter Tryz.func20, Tryz.ntmps20
 go_wp2
 (try simp only [Exit.inBlock, Exit.then])
 refine bodyPost_ret (v := .agg #[.int .i64 e.s, .int .i64 e.o, .int .i64 e.l, .int .i64 e.p, .int .i64 e.m]) ?_ rfl ⟨rfl, ?_⟩
 ·simp only [results, HRES.out]
  go_simp
 ·exact (Only.refl _ _).alloc _
theorem scan_err_any {wb : World} (w0 w : World) (S gb D : Nat) (p : Ps) (own : Bool) (e : Ps) (er : Int) (L : List (Nat × List Value)) (G : List Gs) (F : List (World → Prop))
  (hw : Wk w0 wb w ((S, SB D gb p own e er) :: L) G F) :
  Calls Tryz.prog 25 #[.pointer (some ⟨S, 0, none⟩)] w fun en w' => en = .returned (.int .i64 er) ∧ w = w' := by
 have hb := hw.boxi 0 rfl
 have c0 := hb.cell 13 (by simp [SB])
 simp only [SB, List.getElem_cons_zero, List.getElem_cons_succ] at c0
 clear hw hb
 go_enter Tryz.func25, Tryz.ntmps25
 go_wp2
 go_ret
 exact ⟨rfl, rfl⟩
/-- scan.New -/
def NewS (w0 wb : World) (D gb : Nat) (p : Ps) (own : Bool) (L : List (Nat × List Value)) (G : List Gs) (F : List (World → Prop)) (en : Ending) (w' : World) : Prop := ∃ S, en = .returned (.pointer (some ⟨S, 0, none⟩)) ∧ Wk w0 wb w' ((S, SB D gb p own p 0) :: L) G F
set_option maxRecDepth 100000 in
theorem scan_new_any {wb : World} (w0 w : World) (D gb : Nat) (p : Ps) (L : List (Nat × List Value)) (G : List Gs) (F : List (World → Prop)) (hw : Wk w0 wb w L G F) :
  Calls Tryz.prog 28 #[.pointer (some ⟨D, 0, none⟩), .pointer (some ⟨gb, 0, none⟩), .agg #[.int .i64 p.s, .int .i64 p.o, .int .i64 p.l, .int .i64 p.p, .int .i64 p.m]] w (NewS w0 wb D gb p false L G F) := by
 have H := Lib.hid hw
 clear hw
 go_enter Tryz.func28, Tryz.ntmps28
 go_wp2
 go_ret
 exact ⟨_, rfl, (H.out.alloc (.cells #[.int .i64 p.s, .int .i64 p.o, .int .i64 p.l, .int .i64 p.p, .int .i64 p.m] 32)).newB #[.pointer (some ⟨D, 0, none⟩), .pointer (some ⟨gb, 0, none⟩), .int .i64 p.s, .int .i64 p.o, .int .i64 p.l, .int .i64 p.p, .int .i64 p.m, .bool false, .int .i64 p.s, .int .i64 p.o, .int .i64 p.l, .int .i64 p.p, .int .i64 p.m, .int .i64 0] 147 (by simp)⟩
end Go.Proofs.YtgcfdjcpcclcjaaGreat
namespace Go.Kn
open Go Go.RowKit
def is7 (i : It) : Bool := i.k == 7
theorem nextOf_eq (r : Rc) : nextOf r = (r.its.find? is7).map (·.v) := rfl
theorem find_at {l : List It} {j : Nat} (hj : j < l.length) (h0 : (l.take j).find? is7 = none) (h1 : is7 l[j] = true) : l.find? is7 = some l[j] := by
 have e : l = l.take j ++ l[j] :: l.drop (j + 1) := by rw [List.getElem_cons_drop, List.take_append_drop]
 have e2 : l.find? is7 = (l.take j ++ l[j] :: l.drop (j + 1)).find? is7 := congrArg _ e
 rw [e2, List.find?_append, h0, List.find?_cons, h1]
 rfl
theorem find_step {l : List It} {j : Nat} (hj : j < l.length) (h0 : (l.take j).find? is7 = none) (h1 : is7 l[j] = false) : (l.take (j + 1)).find? is7 = none := by
 rw [List.take_succ_eq_append_getElem hj, List.find?_append, h0, List.find?_cons, h1]
 rfl
def IdxSays (w : World) (l : List It) (e : Ending) (w' : World) : Prop := Only [] w w' ∧ ((l.find? is7 = none ∧ e = .returned (.int .i64 (-1))) ∨ ∃ (j : Nat) (h : j < l.length), l.find? is7 = some l[j] ∧ e = .returned (.int .i64 j))
end Go.Kn
namespace Go.Proofs.YtgcfdjcpcclcjaaGreat
open Go Go.RowKit Go.Kn Go.Shelf
theorem next1_any (k b c v : Int) (w : World) : Calls Tryz.prog 189 #[.agg #[.int .i64 k, .int .i64 b, .int .i64 c, .int .i64 v]] w fun e w' => e = .returned (.bool (k == 7)) ∧ Only [] w w' := by
 go_enter Tryz.func189, Tryz.ntmps189
 by_cases h : k = 7
 ·subst h
  go_wp2
  go_ret
  exact ⟨rfl, (Only.refl _ _).alloc _⟩
 ·have h1 : (k == 7) = false := by simpa using h
  go_wp2
  go_ret
  exact ⟨by simp [h], (Only.refl _ _).alloc _⟩
set_option maxRecDepth 100000 in
set_option maxHeartbeats 2000000 in
theorem next_index_any (A : Option Addr) (n c : Nat) (l : List It) (w : World) (hi : Its w A n c l) :
  Calls Tryz.prog 188 #[.slice A n c, .func (.func 189) #[] #[]] w (IdxSays w l) := by
 have hlen := hi.len
 have hcm := hi.cm
 have hcl := hi.le
 unfold maxLen at hcm
 have HI := Lib.hid hi
 have HL := Lib.hid hlen
 clear hi hlen
 have eg : ∀ args w, (callFunc 189 args).run Tryz.prog w = .ok (.enter 189 args) w := enters_of Tryz.func189 (by kernel_rfl) rfl
 go_enter Tryz.func188, Tryz.ntmps188
 go_wp2_with fail
 go_loopg [5, 8] n (fun r _ i wr => ∃ j : Nat, j + r = n ∧ i = .int .i64 j ∧ Only [] w wr ∧ (l.take j).find? is7 = none)
 case atStart => exact ⟨0, by omega, rfl, Only.refl _ _, by simp⟩
 obtain ⟨j, hj, rfl, hO, hal⟩ := hrel
 have HAL := Lib.hid hal
 have HO := Lib.hid hO
 clear hal hO
 by_cases hlt : j < n
 ·have hjz : j < l.length := by rw [HL.out]; exact hlt
  obtain ⟨a, o, rfl, hc⟩ := (HI.out.keep0 HO.out).at_ (by omega)
  obtain ⟨c0, c1, c2, c3⟩ := hc j hjz
  obtain ⟨⟨ik, ib, ic, iv⟩, hit⟩ : ∃ i, l[j] = i := ⟨_, rfl⟩
  have HIT := Lib.hid hit
  rw [hit] at c0 c1 c2 c3
  simp only at c0 c1 c2 c3
  have h7 : is7 l[j] = (ik == 7) := by rw [hit]; rfl
  have H7 := Lib.hid h7
  clear hc hit h7
  have hlt2 : (j : Int) < (n : Int) := by omega
  go_wp2_with fail
  refine (next1_any ik ib ic iv _).mono ?_
  rintro e w2 ⟨rfl, hO2⟩
  have HO2 := Lib.hid (HO.out.trans' hO2)
  clear hO2 c0 c1 c2 c3
  by_cases hm : ik = 7
  ·subst hm
   have H8 : Hid (is7 l[j] = true) := Lib.hid H7.out
   go_wp2
   go_ret
   exact ⟨HO2.out, .inr ⟨j, hjz, find_at hjz HAL.out H8.out, rfl⟩⟩
  ·have h1 : (ik == 7) = false := by simpa using hm
   have H8 : Hid (is7 l[j] = false) := Lib.hid (by rw [H7.out, h1])
   have HM := Lib.hid hm
   clear hm
   go_wp2
   go_roundg (gk - 1)
   case measure => omega
   case rel => exact ⟨j + 1, by omega, by go_num, HO2.out, find_step hjz HAL.out H8.out⟩
 ·obtain rfl : j = n := by omega
  have hfull : l.take j = l := List.take_of_length_le (by rw [HL.out]; omega)
  have hal := HAL.out
  rw [hfull] at hal
  have HAL' := Lib.hid hal
  clear hal hfull
  go_wp2
  go_ret
  exact ⟨HO.out, .inl ⟨HAL'.out, rfl⟩⟩
set_option maxRecDepth 100000 in
set_option maxHeartbeats 2000000 in
theorem rec_next_any (x : Rc) (s t : Option Addr × Nat × Nat) (w : World) (hi : Its w s.1 s.2.1 s.2.2 x.its) :
  Calls Tryz.prog 154 #[.agg (x.cells s t)] w fun e w' => e = .returned (.tuple #[.int .i64 ((nextOf x).getD 0), .bool (nextOf x).isSome]) ∧ Only [] w w' := by
 obtain ⟨s1, s2, s3⟩ := s
 obtain ⟨t1, t2, t3⟩ := t
 have hcm := hi.cm
 have hcl := hi.le
 have hlen := hi.len
 unfold maxLen at hcm
 simp only at hi hcm hcl hlen
 have HB := Lib.hid (Own.new w #[.int .i64 x.m, .int .i64 x.n, .int .i64 x.p, .slice s1 s2 s3, .slice t1 t2 t3] 56)
 have HO := Lib.hid ((Only.refl [] w).alloc (.cells #[.int .i64 x.m, .int .i64 x.n, .int .i64 x.p, .slice s1 s2 s3, .slice t1 t2 t3] 56))
 have HI := Lib.hid (hi.keep0 HO.out)
 have HL := Lib.hid hlen
 clear hi hlen
 unfold Rc.cells
 simp only [slv]
 go_enter Tryz.func154, Tryz.ntmps154
 go_wp2_with fail
 refine (next_index_any s1 s2 s3 x.its _ HI.out).mono ?_
 rintro e w2 ⟨hO2, ⟨hf, rfl⟩ | ⟨j, hj, hf, rfl⟩⟩
 ·have e1 : nextOf x = none := by rw [nextOf_eq, hf]; rfl
  have E1 := Lib.hid e1
  have HO2 := Lib.hid (HO.out.trans' hO2)
  clear hf e1 hO2
  go_wp2
  go_ret2
  exact ⟨by rw [E1.out]; rfl, HO2.out⟩
 ·have e1 : nextOf x = some (x.its[j]).v := by rw [nextOf_eq, hf]; rfl
  have E1 := Lib.hid e1
  have hb := HB.out.keep0 hO2
  have y3 := hb.cell 3 (by simp)
  simp only [List.getElem_cons_zero, List.getElem_cons_succ] at y3
  have hjn : j < s2 := by rw [← HL.out]; exact hj
  obtain ⟨a, o, rfl, hc⟩ := (HI.out.keep0 hO2).at_ (by omega)
  obtain ⟨c0, c1, c2, c3⟩ := hc j hj
  have HO2 := Lib.hid (HO.out.trans' hO2)
  generalize (x.its[j]).v = iv at *
  have hlt2 : (j : Int) < (s2 : Int) := by omega
  clear hf e1 hO2 hc c0 c1 c2 hb hj
  go_wp2
  go_ret2
  exact ⟨by rw [E1.out]; rfl, HO2.out⟩
end Go.Proofs.YtgcfdjcpcclcjaaGreat
namespace Go.Kn
open Go Go.RowKit
instance : DecidableEq It := fun a b => by
 obtain ⟨a1, a2, a3, a4⟩ := a
 obtain ⟨b1, b2, b3, b4⟩ := b
 exact decidable_of_iff (a1 = b1 ∧ a2 = b2 ∧ a3 = b3 ∧ a4 = b4) (by simp)
end Go.Kn
namespace Go.Proofs.YtgcfdjcpcclcjaaGreat
open Go Go.RowKit Go.Kn
@[go_sem] theorem eq_item (a b c d e f g h : Int) (w : World) : (Op.equalIn 10000 63 (.agg #[.int .i64 a, .int .i64 b, .int .i64 c, .int .i64 d]) (.agg #[.int .i64 e, .int .i64 f, .int .i64 g, .int .i64 h])).run Tryz.prog w = .ok (a == e && b == f && c == g && d == h) w := by
 have u3 := Tryz.underlying3
 have a3 := Tryz.isAgg3
 have z3 := Tryz.sizeOf3
 have hS : Tryz.prog.underlying 63 = some (.struct (Tryz.prog.fieldsOf 63)) := by kernel_rfl
 rw [show (10000 : Nat) = 9999 + 1 from rfl, run_equalIn_agg w 9999 63 _ _ hS Tryz.stoodInHeld63]
 simp only [Program.fieldsOf, Tryz.underlying63]
 go_simp
 by_cases h1 : a = e <;> by_cases h2 : b = f <;> by_cases h3 : c = g <;> by_cases h4 : d = h <;> simp [h1, h2, h3, h4]
set_option maxRecDepth 100000 in
set_option maxHeartbeats 4000000 in
theorem alike_items_any (A : Option Addr) (n c : Nat) (xs : List It) (B : Option Addr) (m d : Nat) (ys : List It) (w : World) (hx : Its w A n c xs) (hy : Its w B m d ys) :
  Calls Tryz.prog 70 #[.slice A n c, .slice B m d] w fun e w' => e = .returned (.bool (decide (xs = ys))) ∧ ∃ k, w' = w.drewN k := by
 have hlx := hx.len
 have hly := hy.len
 have hcm := hx.cm
 have hcl := hx.le
 have hdm := hy.cm
 have hdl := hy.le
 unfold maxLen at hcm hdm
 have HX := Lib.hid hx
 have HY := Lib.hid hy
 have HLX := Lib.hid hlx
 have HLY := Lib.hid hly
 clear hx hy hlx hly
 by_cases hnm : n = m
 ·subst hnm
  go_enter Tryz.func70, Tryz.ntmps70
  go_wp2_with fail
  go_loopg [5] n (fun r i wr => ∃ j : Nat, j + r = n ∧ i = .int .i64 j ∧ (∃ k, wr = w.drewN k) ∧ xs.take j = ys.take j)
  case atStart => exact ⟨0, by omega, rfl, ⟨0, rfl⟩, by simp⟩
  obtain ⟨j, hj, rfl, ⟨k, rfl⟩, htk⟩ := hrel
  have HT := Lib.hid htk
  clear htk
  by_cases hlt : j < n
  ·have hjx : j < xs.length := by rw [HLX.out]; exact hlt
   have hjy : j < ys.length := by rw [HLY.out]; exact hlt
   obtain ⟨ga, oa, rfl, hca⟩ := HX.out.at_ (by omega)
   obtain ⟨gb, ob, rfl, hcb⟩ := HY.out.at_ (by omega)
   obtain ⟨p0, p1, p2, p3⟩ := hca j hjx
   obtain ⟨q0, q1, q2, q3⟩ := hcb j hjy
   clear hca hcb
   have hlt2 : (j : Int) < (n : Int) := by omega
   have hge : 0 ≤ (j : Int) := by omega
   have htn : ((j : Int)).toNat = j := by omega
   have hxy : decide (xs[j] = ys[j]) = (xs[j].k == ys[j].k && xs[j].b == ys[j].b && xs[j].c == ys[j].c && xs[j].v == ys[j].v) := by
    rcases hh : xs[j] with ⟨a1, a2, a3, a4⟩
    rcases hh2 : ys[j] with ⟨b1, b2, b3, b4⟩
    rw [Bool.eq_iff_iff]; simp [and_assoc]
   have HXY := Lib.hid hxy
   clear hxy
   generalize hg0 : xs[j].k = x0 at *
   generalize hg1 : xs[j].b = x1 at *
   generalize hg2 : xs[j].c = x2 at *
   generalize hg3 : xs[j].v = x3 at *
   generalize hg4 : ys[j].k = y0 at *
   generalize hg5 : ys[j].b = y1 at *
   generalize hg6 : ys[j].c = y2 at *
   generalize hg7 : ys[j].v = y3 at *
   clear hg0 hg1 hg2 hg3 hg4 hg5 hg6 hg7
   have hgd := Tryz.eqGuardType63
   by_cases hb : x0 = y0 ∧ x1 = y1 ∧ x2 = y2 ∧ x3 = y3
   ·obtain ⟨rfl, rfl, rfl, rfl⟩ := hb
    go_wp2_with fail
    go_quiet (fail)
    go_wp2
    go_roundg (gk - 1)
    case measure => omega
    case rel =>
     refine ⟨j + 1, by omega, by go_num, ⟨_, rfl⟩, ?_⟩
     have h1 := HXY.out
     simp at h1
     rw [List.take_succ_eq_append_getElem hjx, List.take_succ_eq_append_getElem hjy, HT.out, h1]
   ·have hd : xs ≠ ys := by
     intro h
     subst h
     have := HXY.out
     simp at this
     exact hb (by simp [this])
    have HD := Lib.hid hd
    clear hd
    have hc : x0 ≠ y0 ∨ (x0 = y0 ∧ x1 ≠ y1) ∨ (x0 = y0 ∧ x1 = y1 ∧ x2 ≠ y2) ∨ (x0 = y0 ∧ x1 = y1 ∧ x2 = y2 ∧ x3 ≠ y3) := by omega
    clear hb HXY
    rcases hc with h0 | ⟨rfl, h0⟩ | ⟨rfl, rfl, h0⟩ | ⟨rfl, rfl, rfl, h0⟩
    all_goals
     go_wp2_with fail
     go_quiet (fail)
     go_wp2
     go_ret
     exact ⟨by simp [HD.out], k + nq, by rw [World.drewN_drewN]⟩
  ·obtain rfl : j = n := by omega
   go_wp2
   go_ret
   have : xs = ys := by
    have := HT.out
    rwa [List.take_of_length_le (by rw [HLX.out]; omega), List.take_of_length_le (by rw [HLY.out]; omega)] at this
   exact ⟨by simp [this], k, rfl⟩
 ·have hd : xs ≠ ys := fun h => hnm (by subst h; have := HLX.out; have := HLY.out; omega)
  have hne : ((n : Int) != (m : Int)) = true := by rw [bne_iff_ne]; omega
  go_enter Tryz.func70, Tryz.ntmps70
  go_wp2
  go_ret
  exact ⟨by simp [hd], 0, rfl⟩
end Go.Proofs.YtgcfdjcpcclcjaaGreat
namespace Go.Kn
open Go Go.RowKit
def kAt (x i : Nat) : UInt8 := UInt8.ofNat (x + 3 * i)
def kBlk (x : Nat) : List UInt8 := (List.range 64).map (kAt x)
def kBlkP (x t : Nat) : List UInt8 := (List.range 64).map fun k => if k < t then kAt x k else 0
theorem kBlkP_zero (x : Nat) : kBlkP x 0 = List.replicate 64 0 := by
 unfold kBlkP
 simp only [Nat.not_lt_zero, if_false]
 rfl
theorem kBlkP_full (x : Nat) : kBlkP x 64 = kBlk x := by
 unfold kBlkP kBlk
 apply List.map_congr_left
 intro k hk
 rw [if_pos (List.mem_range.1 hk)]
@[simp] theorem kBlkP_length (x t : Nat) : (kBlkP x t).length = 64 := by simp [kBlkP]
@[simp] theorem kBlk_length (x : Nat) : (kBlk x).length = 64 := by simp [kBlk]
theorem kBlkP_get (x t i : Nat) (h : i < (kBlkP x t).length) : (kBlkP x t)[i] = if i < t then kAt x i else 0 := by simp [kBlkP]
theorem kBlkP_set (x t : Nat) (ht : t < 64) : (kBlkP x t).set t (kAt x t) = kBlkP x (t + 1) := by
 apply List.ext_getElem
 ·simp
 ·intro i h1 h2
  rw [List.getElem_set, kBlkP_get, kBlkP_get]
  by_cases h : t = i
  ·subst h
   rw [if_pos rfl, if_pos (by omega)]
  ·rw [if_neg h]
   by_cases h3 : i < t
   ·rw [if_pos h3, if_pos (by omega)]
   ·rw [if_neg h3, if_neg (by omega)]
theorem kAt_wrap (x t : Nat) (h : x + 3 * t < 9223372036854775808) : IntKind.u8.wrap (bits .and .i64 ((x : Int) + 3 * (t : Int)) 255) = ((kAt x t).toNat : Int) := by
 have e := bits_and_i64_nat (x + 3 * t) 255 h (by omega)
 rw [show ((x + 3 * t : Nat) : Int) = (x : Int) + 3 * (t : Int) from by omega, show ((255 : Nat) : Int) = 255 from rfl] at e
 rw [e, show (255 : Nat) = 2 ^ 8 - 1 from rfl, Nat.and_two_pow_sub_one_eq_mod]
 unfold kAt
 rw [UInt8.toNat_ofNat']
 simp [IntKind.wrap, IntKind.signed, IntKind.bits]
/-- an item of kind z, the i-th -/
def kIt (z f : Int) (i : Nat) : It :=
 if z % 6 = 1 ∨ z % 6 = 5 then ⟨1 + z % 6, (f % 1000 + i) % 8, 1 + (f % 1000 + i) % 3, 0⟩
 else if z % 6 = 2 then ⟨3, 0, 0, 1 + (f % 1000 + i)⟩
 else if z % 6 = 3 then ⟨4, (f % 1000 + i) % 8, 0, 20 + (f % 1000 + i)⟩
 else ⟨1 + z % 6, (f % 1000 + i) % 8, 0, 0⟩
def kBl (z f : Int) (i : Nat) : List (List UInt8) := if z % 6 = 0 ∨ z % 6 = 3 ∨ z % 6 = 4 then [kBlk (f % 1000 + i).toNat] else []
def kIts (zs : List Int) (f : Int) : Nat → List It
 | 0 => []
 | i + 1 => kIts zs f i ++ [kIt (zs.getD i 0) f i]
def kBls (zs : List Int) (f : Int) : Nat → List (List UInt8)
 | 0 => []
 | i + 1 => kBls zs f i ++ kBl (zs.getD i 0) f i
def kItems (zs : List Int) (f : Int) : List It := if zs.length = 0 then [⟨3, 0, 0, 1⟩] else kIts zs f (min zs.length 6)
def kBlocks (zs : List Int) (f : Int) : List (List UInt8) := kBls zs f (min zs.length 6)
theorem kIts_length (zs : List Int) (f : Int) : ∀ i, (kIts zs f i).length = i
 | 0 => rfl
 | i + 1 => by rw [kIts, List.length_append, kIts_length zs f i]; rfl
/-- what Items answers -/
def ItBl (w : World) (l : List It) (bl : List (List UInt8)) (e : Ending) (w' : World) : Prop :=
 ∃ s t : Option Addr × Nat × Nat, e = .returned (.tuple #[slv s, slv t]) ∧ Fc w' (fun k => k < w.heap.size) (fun W => Its W s.1 s.2.1 s.2.2 l ∧ Blks W t.1 t.2.1 t.2.2 bl) ∧ Only [] w w'
theorem six (z : Int) : z % 6 = 0 ∨ z % 6 = 1 ∨ z % 6 = 2 ∨ z % 6 = 3 ∨ z % 6 = 4 ∨ z % 6 = 5 := by omega
end Go.Kn
namespace Go.Proofs.YtgcfdjcpcclcjaaGreat
open Go Go.RowKit Go.Kn
set_option maxRecDepth 100000 in
set_option maxHeartbeats 4000000 in
theorem kit_bytes_any (x : Nat) (w : World) (hx : x ≤ 100000) :
  Calls Tryz.prog 181 #[.int .i64 (x : Int)] w fun e w' => ∃ g, e = .returned (.slice (some ⟨g, 0, none⟩) 64 64) ∧ w.heap.size ≤ g ∧ Kn.Own w' g (bvs (kBlk x)) ∧ Only [] w w' := by
 have hmk : ∀ w : World, (Instr.makeSlice 47 (.int .i64 64) (.int .i64 64)).run Tryz.prog w = .ok (.slice (some ⟨w.heap.size, 0, none⟩) 64 64) (w.alloc (.cells (bvs (List.replicate 64 0)).toArray 5)) := make_bys 64 (by decide)
 go_enter Tryz.func181, Tryz.ntmps181
 go_wp2_with fail
 have h0 : Kn.Own (w.alloc (.cells (bvs (List.replicate 64 0)).toArray 5)) w.heap.size (bvs (kBlkP x 0)) := by
  rw [kBlkP_zero]
  exact Kn.Own.new w (bvs (List.replicate 64 0)).toArray 5
 have HO0 := Lib.hid ((Only.refl [] w).alloc (.cells (bvs (List.replicate 64 0)).toArray 5))
 have HW0 := Lib.hid h0
 clear h0 hmk
 go_loopg [4] 64 (fun r i wr => ∃ t : Nat, t + r = 64 ∧ i = .int .i64 t ∧ Kn.Own wr w.heap.size (bvs (kBlkP x t)) ∧ Only [] w wr)
 case atStart => exact ⟨0, by omega, rfl, HW0.out, HO0.out⟩
 obtain ⟨t, ht, rfl, hown, hO⟩ := hrel
 have HO := Lib.hid hO
 have HOWN := Lib.hid hown
 clear hO hown
 by_cases ht64 : t < 64
 ·have q0 := HOWN.out.cell t (by simpa using ht64)
  have f0 := HOWN.out.frozen t
  have hst := HOWN.out.set t (.int .u8 ((kAt x t).toNat : Int))
  have hse : (bvs (kBlkP x t)).set t (.int .u8 ((kAt x t).toNat : Int)) = bvs (kBlkP x (t + 1)) := by
   rw [← kBlkP_set x t ht64, bvs, bvs, List.map_set]
  rw [hse] at hst
  have HST := Lib.hid hst
  have hwr := kAt_wrap x t (by omega)
  generalize (bvs (kBlkP x t))[t] = old at *
  generalize (kAt x t).toNat = cc at *
  clear hst hse
  have hx1 : (t : Int) < 64 := by omega
  have hx0 : 0 ≤ (t : Int) := by omega
  have htt : ((t : Int)).toNat = t := by omega
  have hxx : (x : Int) ≤ 100000 := by omega
  go_wp2_with fail
  go_roundg (gk - 1)
  case measure => omega
  case rel => exact ⟨t + 1, by omega, by go_num, HST.out, HO.out.set (.inr (Nat.le_refl _)) _⟩
 ·obtain rfl : t = 64 := by omega
  have hown := HOWN.out
  rw [kBlkP_full] at hown
  have HF := Lib.hid hown
  go_wp2
  go_ret
  exact ⟨_, rfl, Nat.le_refl _, HF.out, HO.out⟩
theorem wc_itbl {w V : World} {L : List (Nat × List Value)} {F : List (World → Prop)} {A3 A4 : Option Addr} {j c3 kk c4 : Nat} {l : List It} {sl : List (Option Addr × Nat × Nat)} {bl : List (List UInt8)}
  (h : Wc w V L [⟨63, 4, .slice A3 j c3, j, itsV l⟩, ⟨47, 1, .slice A4 kk c4, kk, sl.map slv⟩] ((fun W => Bls W sl bl) :: F)) (hl : l.length = j) (hfr : ∀ s ∈ sl, ∀ a, s.1 = some a → w.heap.size ≤ a.block) :
  Fc V (fun k => k < w.heap.size) (fun W => Its W A3 j c3 l ∧ Blks W A4 kk c4 bl) := by
 obtain ⟨A, c, hv, hits, hb⟩ := GathN.its (h.gath (x := ⟨63, 4, .slice A3 j c3, j, itsV l⟩) List.mem_cons_self) hl
 injection hv with e1 e2 e3
 subst e1 e3
 obtain ⟨h1, h2⟩ := Row1.of_owns (h.gi 1 rfl)
 have f1 := Its.fc (M := fun k => k < w.heap.size) hits (fun h0 a ha hm => by
  subst ha
  have := (hb a.block rfl).1
  omega)
 have f2 := h1.fc (M := fun k => k < w.heap.size) (fun h0 a ha hm => by have := h2 h0 a ha; omega)
 have f3 := Bls.fc (M := fun k => k < w.heap.size) (h.fi 0 rfl) (fun s hs _ a ha hm => by have := hfr s hs a ha; omega)
 exact fun W hW => ⟨f1 W hW, sl, f2 W hW, f3 W hW⟩
theorem kIts_succ {zs : List Int} {f : Int} {j : Nat} {z : Int} (hz : zs.getD j 0 = z) {it : It} (h : kIt z f j = it) : itsV (kIts zs f j) ++ itsV [it] = itsV (kIts zs f (j + 1)) := by
 rw [← itsV_append, ← h, ← hz]
 rfl
theorem kBls_same {zs : List Int} {f : Int} {j : Nat} {z : Int} (hz : zs.getD j 0 = z) (h : kBl z f j = []) : kBls zs f (j + 1) = kBls zs f j := by
 show kBls zs f j ++ kBl (zs.getD j 0) f j = _
 rw [hz, h, List.append_nil]
theorem kBls_succ {zs : List Int} {f : Int} {j : Nat} {z : Int} (hz : zs.getD j 0 = z) {b : List UInt8} (h : kBl z f j = [b]) : kBls zs f (j + 1) = kBls zs f j ++ [b] := by
 show kBls zs f j ++ kBl (zs.getD j 0) f j = _
 rw [hz, h]
set_option maxRecDepth 100000 in
set_option maxHeartbeats 16000000 in
theorem kit_items_any (A : Option Addr) (n c : Nat) (zs : List Int) (f : Int) (w : World) (hi : Ins w A n c zs) (hwz : ∀ z ∈ zs, (Lit.int .i64 z).wf = true) (hf : (Lit.int .i64 f).wf = true) :
  Calls Tryz.prog 145 #[.slice A n c, .int .i64 f] w (ItBl w (kItems zs f) (kBlocks zs f)) := by
 obtain ⟨i0, hi0, hz0, hz1, hz2⟩ := info_parts Tryz.infoItem
 obtain ⟨i1, hi1, hy0, hy1, hy2⟩ := info_parts Tryz.infoBys
 have hlen := hi.len
 rw [ivs_length] at hlen
 have hnc := hi.le
 have hcm := hi.cm
 unfold maxLen at hcm
 have HL := Lib.hid hlen
 have HWZ := Lib.hid hwz
 have HWF := Lib.hid hf
 obtain ⟨m, hm⟩ : ∃ m, min n 6 = m := ⟨_, rfl⟩
 have hm1 : m ≤ n ∧ m ≤ 6 := by omega
 obtain ⟨hmn, hm6⟩ := hm1
 have HMM := Lib.hid hm
 have HD0 := Lib.hid (((Wc.start w).old (f := fun W => Ins W A n c zs) (Row1.fc hi (by simp))).gnew 47 1 |>.gnew 63 4)
 clear hi hlen hwz hf hm
 go_enter Tryz.func145, Tryz.ntmps145
 go_wp2_with fail
 go_loopg [6, 7, 8] m (fun r t6 t7 i wr => ∃ (j : Nat) (A3 : Option Addr) (c3 : Nat) (A4 : Option Addr) (kk c4 : Nat) (sl : List (Option Addr × Nat × Nat)), j + r = m ∧ i = .int .i64 j ∧ t6 = .slice A3 j c3 ∧ t7 = .slice A4 kk c4 ∧ kk ≤ j ∧ (∀ s ∈ sl, ∀ a, s.1 = some a → w.heap.size ≤ a.block) ∧
  Wc w wr [] [⟨63, 4, .slice A3 j c3, j, itsV (kIts zs f j)⟩, ⟨47, 1, .slice A4 kk c4, kk, sl.map slv⟩]
   [fun W => Bls W sl (kBls zs f j), fun W => Ins W A n c zs])
 case atStart => exact ⟨0, none, 0, none, 0, 0, [], by omega, rfl, rfl, rfl, Nat.le_refl _, by simp, HD0.out.addF _ (fun W _ => Bls.nil W)⟩
 obtain ⟨j, A3, c3, A4, kk, c4, sl, hj, rfl, rfl, rfl, hkj, hfr, hw⟩ := hrel
 have HFR := Lib.hid hfr
 have HD3 := Lib.hid hw
 clear HD0 hw hfr
 by_cases hlt : j < m
 ·have hjn : j < n := by omega
  have hjz : j < zs.length := by rw [HL.out]; exact hjn
  obtain ⟨a, oa, rfl, hc⟩ := (show Ins wr A n c zs from HD3.out.fi 1 rfl).at_ (by omega)
  have q0 := hc j (by rw [ivs_length]; exact hjz)
  rw [ivs_get] at q0
  have hzj : zs.getD j 0 = zs[j] := by simp [List.getD, List.getElem?_eq_getElem hjz]
  have hwz := HWZ.out zs[j] (List.getElem_mem _)
  obtain ⟨z, hz⟩ : ∃ z, zs[j] = z := ⟨_, rfl⟩
  rw [hz] at q0 hzj hwz
  have HZ := Lib.hid hzj
  clear hz hzj hc
  have hlt2 : (j : Int) < (n : Int) := by omega
  have hlt6 : (j : Int) < 6 := by omega
  have hge : 0 ≤ (j : Int) := by omega
  have htn : ((j : Int)).toNat = j := by omega
  go_wp2_with fail
  refine (mod_any z 6 _ hwz (by decide) (by decide)).mono ?_
  rintro en w3 ⟨rfl, rfl⟩
  clear q0 hwz
  have hff := HWF.out
  obtain ⟨fm, hfm⟩ : ∃ q, f % 1000 = q := ⟨_, rfl⟩
  have hfb : 0 ≤ fm ∧ fm < 1000 := by omega
  have HFM := Lib.hid hfm
  obtain ⟨bl, hbl0⟩ : ∃ q : Nat, fm + (j : Int) = (q : Int) := ⟨(fm + j).toNat, by omega⟩
  have HBL0 := Lib.hid hbl0
  have hblb : (bl : Int) ≤ 1005 := by omega
  have hbl00 : 0 ≤ (bl : Int) := by omega
  clear hfm hbl0
  rcases six z with hk | hk | hk | hk | hk | hk
  ·rw [hk]
   have hit : kIt z f j = ⟨1, (bl : Int) % 8, 0, 0⟩ := by unfold kIt; rw [HFM.out, HBL0.out, hk]; rfl
   have HIT := Lib.hid (kIts_succ HZ.out hit)
   have hbl : kBl z f j = [kBlk bl] := by unfold kBl; rw [HFM.out, HBL0.out, hk]; rfl
   have HBL := Lib.hid (kBls_succ HZ.out hbl)
   have hld : It.loaded ⟨1, (bl : Int) % 8, 0, 0⟩ = true := by
    unfold It.loaded It.may
    simp
    omega
   have HLD := Lib.hid hld
   clear hk hit hbl HZ hld
   go_wp2_with fail
   refine (mod_any f 1000 _ hff (by decide) (by decide)).mono ?_
   rintro en w3 ⟨rfl, rfl⟩
   rw [HFM.out]
   have hw9 : fm + (j : Int) = (bl : Int) := HBL0.out
   obtain ⟨hfb0, hfb1⟩ := hfb
   have HD4 := Lib.hid ((HD3.out.newB #[.int .i64 1, .int .i64 ((bl : Int) % 8), .int .i64 0, .int .i64 0] 63 rfl).alloc (.cells #[.int .i64 1, .int .i64 ((bl : Int) % 8), .int .i64 0, .int .i64 0] 63))
   have hnw := news_new (wr.alloc (.cells #[.int .i64 1, .int .i64 ((bl : Int) % 8), .int .i64 0, .int .i64 0] 63)) #[.int .i64 1, .int .i64 ((bl : Int) % 8), .int .i64 0, .int .i64 0] 63 (by simp [maxLen])
   have hsz1 : (wr.alloc (.cells #[.int .i64 1, .int .i64 ((bl : Int) % 8), .int .i64 0, .int .i64 0] 63)).heap.size = wr.heap.size + 1 := by simp
   rw [hsz1] at hnw
   have HNW := Lib.hid hnw
   have HON := Lib.hid (itsV_one [⟨1, (bl : Int) % 8, 0, 0⟩])
   have HBS := Lib.hid HD4.out.only.size
   clear hnw hsz1 HD3
   go_wp2_with (first
    | (at_builtin; refine wpList_append_own_at _ rfl (.tmp 55) (.tmp 57) 53 rfl w.heap.size 63 i0 _ 4 32 Tryz.underlying53 hi0 hz0 hz1 hz2 rfl (by decide) (.slice A3 j c3) j (itsV (kIts zs f j)) rfl (HD4.out.gi 0 rfl) ⟨wr.heap.size + 1, 0, none⟩ 1 1 (itsV [⟨1, (bl : Int) % 8, 0, 0⟩]) rfl rfl HNW.out HON.out (by unfold maxLen; omega) (by omega) HBS.out ?_; intro v5 w5 hown hgrow _ hat; rw [HIT.out] at hown; have hdd := HD4.out.gapp 0 rfl hown hgrow hat; obtain ⟨A6, c6, rfl⟩ := hdd.gform 0 rfl; simp only [List.set_cons_zero, List.set_cons_succ] at hdd; have HD5 := Lib.hid hdd; clear hdd hown hgrow hat HNW HON HBS HD4; have yb := HD5.out.boxi 0 rfl; have y0 := yb.cell 0 (by simp); have y1 := yb.cell 1 (by simp); have y2 := yb.cell 2 (by simp); have y3 := yb.cell 3 (by simp); simp only [List.getElem_cons_zero, List.getElem_cons_succ] at y0 y1 y2 y3; have yl := yb.lt)
    | fail)
   generalize wr.heap.size = fb at *
   refine (ref_item_loaded_any 1 ((bl : Int) % 8) 0 0 _).mono ?_
   rintro en w6 ⟨rfl, hO6⟩
   rw [HLD.out]
   have HD6 := Lib.hid ((HD5.out.keep0 hO6).ldrop)
   clear yb y0 y1 y2 y3 yl HD5 hO6
   go_wp2_with fail
   refine (kit_bytes_any bl _ (by omega)).mono ?_
   rintro en w7 ⟨g7, rfl, hg7, ho7, hO7⟩
   have HD7 := Lib.hid ((HD6.out.addFc hO7 (f := fun V => Bys V (some ⟨g7, 0, none⟩) 64 64 (kBlk bl)) (Row1.fc (Row1.of_Own ho7 (by simp) (Nat.le_refl _) (by simp [maxLen])) (fun _ a ha => by injection ha with ha; subst ha; simp; omega))).alloc (.cells #[.slice (some ⟨g7, 0, none⟩) 64 64] 47))
   have hnr : Row1 (w7.alloc (.cells #[.slice (some ⟨g7, 0, none⟩) 64 64] 47)) (some ⟨w7.heap.size, 0, none⟩) 1 1 ([(some ⟨g7, 0, none⟩, 64, 64)].map slv) := Row1.of_Own (Own.new w7 #[.slice (some ⟨g7, 0, none⟩) 64 64] 47) rfl (Nat.le_refl _) (by simp [maxLen])
   have HNR := Lib.hid hnr
   have HBS := Lib.hid HD7.out.only.size
   have HGW : Hid (w.heap.size ≤ g7) := Lib.hid (by have := HD6.out.only.size; omega)
   clear hnr ho7 hO7 hg7 HD6
   go_wp2_with (first
    | (at_builtin; refine wpList_append_row1 rfl (.tmp 61) (.tmp 64) 54 rfl w.heap.size 47 i1 _ 24 Tryz.underlying54 hi1 hy0 hy1 hy2 rfl (.slice A4 kk c4) kk (sl.map slv) rfl (HD7.out.gi 1 rfl) (some ⟨w7.heap.size, 0, none⟩) 1 1 ([(some ⟨g7, 0, none⟩, 64, 64)].map slv) rfl HNR.out (slv_one _) (by unfold maxLen; omega) (by omega) HBS.out ?_; intro v8 w8 hown hgrow hat; rw [← List.map_append] at hown; have hdd := HD7.out.gapp 1 rfl hown hgrow hat; obtain ⟨A8, c8, rfl⟩ := hdd.gform 1 rfl; simp only [List.set_cons_zero, List.set_cons_succ] at hdd; have HD8 := Lib.hid hdd; clear hdd hown hgrow hat HNR HBS HD7)
    | fail)
   go_roundg (gk - 1)
   case measure => omega
   case rel =>
    refine ⟨j + 1, A6, c6, A8, kk + 1, c8, sl ++ [(some ⟨g7, 0, none⟩, 64, 64)], by omega, by go_num, rfl, rfl, by omega, fun s hs a ha => ?_, ?_⟩
    ·rcases List.mem_append.1 hs with hs | hs
     ·exact HFR.out s hs a ha
     ·simp at hs
      subst hs
      injection ha with ha
      subst ha
      exact HGW.out
    refine (HD8.out.fuse (f1 := fun V => Bys V (some ⟨g7, 0, none⟩) 64 64 (kBlk bl)) (f2 := fun V => Bls V sl (kBls zs f j)) (f := fun V => Bls V (sl ++ [(some ⟨g7, 0, none⟩, 64, 64)]) (kBls zs f (j + 1))) (by simp) (by simp) (fun V h1 h2 => by rw [HBL.out]; exact h2.snoc h1)).subF ?_
    intro f1 hf1
    simp only [List.mem_cons, List.not_mem_nil, or_false] at hf1 ⊢
    rcases hf1 with rfl | rfl <;> simp
  ·rw [hk]
   have hit : kIt z f j = ⟨2, (bl : Int) % 8, 1 + (bl : Int) % 3, 0⟩ := by unfold kIt; rw [HFM.out, HBL0.out, hk]; rfl
   have HIT := Lib.hid (kIts_succ HZ.out hit)
   have hbl : kBl z f j = [] := by unfold kBl; rw [hk]; rfl
   have HBL := Lib.hid (kBls_same HZ.out hbl)
   have hld : It.loaded ⟨2, (bl : Int) % 8, 1 + (bl : Int) % 3, 0⟩ = false := by
    unfold It.loaded It.may
    simp
    done
   have HLD := Lib.hid hld
   clear hk hit hbl HZ hld
   go_wp2_with fail
   refine (mod_any f 1000 _ hff (by decide) (by decide)).mono ?_
   rintro en w3 ⟨rfl, rfl⟩
   rw [HFM.out]
   have hw9 : fm + (j : Int) = (bl : Int) := HBL0.out
   obtain ⟨hfb0, hfb1⟩ := hfb
   have HD4 := Lib.hid ((HD3.out.newB #[.int .i64 2, .int .i64 ((bl : Int) % 8), .int .i64 (1 + (bl : Int) % 3), .int .i64 0] 63 rfl).alloc (.cells #[.int .i64 2, .int .i64 ((bl : Int) % 8), .int .i64 (1 + (bl : Int) % 3), .int .i64 0] 63))
   have hnw := news_new (wr.alloc (.cells #[.int .i64 2, .int .i64 ((bl : Int) % 8), .int .i64 (1 + (bl : Int) % 3), .int .i64 0] 63)) #[.int .i64 2, .int .i64 ((bl : Int) % 8), .int .i64 (1 + (bl : Int) % 3), .int .i64 0] 63 (by simp [maxLen])
   have hsz1 : (wr.alloc (.cells #[.int .i64 2, .int .i64 ((bl : Int) % 8), .int .i64 (1 + (bl : Int) % 3), .int .i64 0] 63)).heap.size = wr.heap.size + 1 := by simp
   rw [hsz1] at hnw
   have HNW := Lib.hid hnw
   have HON := Lib.hid (itsV_one [⟨2, (bl : Int) % 8, 1 + (bl : Int) % 3, 0⟩])
   have HBS := Lib.hid HD4.out.only.size
   clear hnw hsz1 HD3
   go_wp2_with (first
    | (at_builtin; refine wpList_append_own_at _ rfl (.tmp 55) (.tmp 57) 53 rfl w.heap.size 63 i0 _ 4 32 Tryz.underlying53 hi0 hz0 hz1 hz2 rfl (by decide) (.slice A3 j c3) j (itsV (kIts zs f j)) rfl (HD4.out.gi 0 rfl) ⟨wr.heap.size + 1, 0, none⟩ 1 1 (itsV [⟨2, (bl : Int) % 8, 1 + (bl : Int) % 3, 0⟩]) rfl rfl HNW.out HON.out (by unfold maxLen; omega) (by omega) HBS.out ?_; intro v5 w5 hown hgrow _ hat; rw [HIT.out] at hown; have hdd := HD4.out.gapp 0 rfl hown hgrow hat; obtain ⟨A6, c6, rfl⟩ := hdd.gform 0 rfl; simp only [List.set_cons_zero, List.set_cons_succ] at hdd; have HD5 := Lib.hid hdd; clear hdd hown hgrow hat HNW HON HBS HD4; have yb := HD5.out.boxi 0 rfl; have y0 := yb.cell 0 (by simp); have y1 := yb.cell 1 (by simp); have y2 := yb.cell 2 (by simp); have y3 := yb.cell 3 (by simp); simp only [List.getElem_cons_zero, List.getElem_cons_succ] at y0 y1 y2 y3; have yl := yb.lt)
    | fail)
   generalize wr.heap.size = fb at *
   refine (ref_item_loaded_any 2 ((bl : Int) % 8) (1 + (bl : Int) % 3) 0 _).mono ?_
   rintro en w6 ⟨rfl, hO6⟩
   rw [HLD.out]
   have HD6 := Lib.hid ((HD5.out.keep0 hO6).ldrop)
   clear yb y0 y1 y2 y3 yl HD5 hO6
   go_wp2_with fail
   go_roundg (gk - 1)
   case measure => omega
   case rel =>
    refine ⟨j + 1, A6, c6, A4, kk, c4, sl, by omega, by go_num, rfl, rfl, by omega, HFR.out, ?_⟩
    rw [HBL.out]
    exact HD6.out
  ·rw [hk]
   have hit : kIt z f j = ⟨3, 0, 0, 1 + (bl : Int)⟩ := by unfold kIt; rw [HFM.out, HBL0.out, hk]; rfl
   have HIT := Lib.hid (kIts_succ HZ.out hit)
   have hbl : kBl z f j = [] := by unfold kBl; rw [hk]; rfl
   have HBL := Lib.hid (kBls_same HZ.out hbl)
   have hld : It.loaded ⟨3, 0, 0, 1 + (bl : Int)⟩ = false := by
    unfold It.loaded It.may
    simp
    done
   have HLD := Lib.hid hld
   clear hk hit hbl HZ hld
   go_wp2_with fail
   refine (mod_any f 1000 _ hff (by decide) (by decide)).mono ?_
   rintro en w3 ⟨rfl, rfl⟩
   rw [HFM.out]
   have hw9 : fm + (j : Int) = (bl : Int) := HBL0.out
   obtain ⟨hfb0, hfb1⟩ := hfb
   have HD4 := Lib.hid ((HD3.out.newB #[.int .i64 3, .int .i64 0, .int .i64 0, .int .i64 (1 + (bl : Int))] 63 rfl).alloc (.cells #[.int .i64 3, .int .i64 0, .int .i64 0, .int .i64 (1 + (bl : Int))] 63))
   have hnw := news_new (wr.alloc (.cells #[.int .i64 3, .int .i64 0, .int .i64 0, .int .i64 (1 + (bl : Int))] 63)) #[.int .i64 3, .int .i64 0, .int .i64 0, .int .i64 (1 + (bl : Int))] 63 (by simp [maxLen])
   have hsz1 : (wr.alloc (.cells #[.int .i64 3, .int .i64 0, .int .i64 0, .int .i64 (1 + (bl : Int))] 63)).heap.size = wr.heap.size + 1 := by simp
   rw [hsz1] at hnw
   have HNW := Lib.hid hnw
   have HON := Lib.hid (itsV_one [⟨3, 0, 0, 1 + (bl : Int)⟩])
   have HBS := Lib.hid HD4.out.only.size
   clear hnw hsz1 HD3
   go_wp2_with (first
    | (at_builtin; refine wpList_append_own_at _ rfl (.tmp 55) (.tmp 57) 53 rfl w.heap.size 63 i0 _ 4 32 Tryz.underlying53 hi0 hz0 hz1 hz2 rfl (by decide) (.slice A3 j c3) j (itsV (kIts zs f j)) rfl (HD4.out.gi 0 rfl) ⟨wr.heap.size + 1, 0, none⟩ 1 1 (itsV [⟨3, 0, 0, 1 + (bl : Int)⟩]) rfl rfl HNW.out HON.out (by unfold maxLen; omega) (by omega) HBS.out ?_; intro v5 w5 hown hgrow _ hat; rw [HIT.out] at hown; have hdd := HD4.out.gapp 0 rfl hown hgrow hat; obtain ⟨A6, c6, rfl⟩ := hdd.gform 0 rfl; simp only [List.set_cons_zero, List.set_cons_succ] at hdd; have HD5 := Lib.hid hdd; clear hdd hown hgrow hat HNW HON HBS HD4; have yb := HD5.out.boxi 0 rfl; have y0 := yb.cell 0 (by simp); have y1 := yb.cell 1 (by simp); have y2 := yb.cell 2 (by simp); have y3 := yb.cell 3 (by simp); simp only [List.getElem_cons_zero, List.getElem_cons_succ] at y0 y1 y2 y3; have yl := yb.lt)
    | fail)
   generalize wr.heap.size = fb at *
   refine (ref_item_loaded_any 3 0 0 (1 + (bl : Int)) _).mono ?_
   rintro en w6 ⟨rfl, hO6⟩
   rw [HLD.out]
   have HD6 := Lib.hid ((HD5.out.keep0 hO6).ldrop)
   clear yb y0 y1 y2 y3 yl HD5 hO6
   go_wp2_with fail
   go_roundg (gk - 1)
   case measure => omega
   case rel =>
    refine ⟨j + 1, A6, c6, A4, kk, c4, sl, by omega, by go_num, rfl, rfl, by omega, HFR.out, ?_⟩
    rw [HBL.out]
    exact HD6.out
  ·rw [hk]
   have hit : kIt z f j = ⟨4, (bl : Int) % 8, 0, 20 + (bl : Int)⟩ := by unfold kIt; rw [HFM.out, HBL0.out, hk]; rfl
   have HIT := Lib.hid (kIts_succ HZ.out hit)
   have hbl : kBl z f j = [kBlk bl] := by unfold kBl; rw [HFM.out, HBL0.out, hk]; rfl
   have HBL := Lib.hid (kBls_succ HZ.out hbl)
   have hld : It.loaded ⟨4, (bl : Int) % 8, 0, 20 + (bl : Int)⟩ = true := by
    unfold It.loaded It.may
    simp
    omega
   have HLD := Lib.hid hld
   clear hk hit hbl HZ hld
   go_wp2_with fail
   refine (mod_any f 1000 _ hff (by decide) (by decide)).mono ?_
   rintro en w3 ⟨rfl, rfl⟩
   rw [HFM.out]
   have hw9 : fm + (j : Int) = (bl : Int) := HBL0.out
   obtain ⟨hfb0, hfb1⟩ := hfb
   have HD4 := Lib.hid ((HD3.out.newB #[.int .i64 4, .int .i64 ((bl : Int) % 8), .int .i64 0, .int .i64 (20 + (bl : Int))] 63 rfl).alloc (.cells #[.int .i64 4, .int .i64 ((bl : Int) % 8), .int .i64 0, .int .i64 (20 + (bl : Int))] 63))
   have hnw := news_new (wr.alloc (.cells #[.int .i64 4, .int .i64 ((bl : Int) % 8), .int .i64 0, .int .i64 (20 + (bl : Int))] 63)) #[.int .i64 4, .int .i64 ((bl : Int) % 8), .int .i64 0, .int .i64 (20 + (bl : Int))] 63 (by simp [maxLen])
   have hsz1 : (wr.alloc (.cells #[.int .i64 4, .int .i64 ((bl : Int) % 8), .int .i64 0, .int .i64 (20 + (bl : Int))] 63)).heap.size = wr.heap.size + 1 := by simp
   rw [hsz1] at hnw
   have HNW := Lib.hid hnw
   have HON := Lib.hid (itsV_one [⟨4, (bl : Int) % 8, 0, 20 + (bl : Int)⟩])
   have HBS := Lib.hid HD4.out.only.size
   clear hnw hsz1 HD3
   go_wp2_with (first
    | (at_builtin; refine wpList_append_own_at _ rfl (.tmp 55) (.tmp 57) 53 rfl w.heap.size 63 i0 _ 4 32 Tryz.underlying53 hi0 hz0 hz1 hz2 rfl (by decide) (.slice A3 j c3) j (itsV (kIts zs f j)) rfl (HD4.out.gi 0 rfl) ⟨wr.heap.size + 1, 0, none⟩ 1 1 (itsV [⟨4, (bl : Int) % 8, 0, 20 + (bl : Int)⟩]) rfl rfl HNW.out HON.out (by unfold maxLen; omega) (by omega) HBS.out ?_; intro v5 w5 hown hgrow _ hat; rw [HIT.out] at hown; have hdd := HD4.out.gapp 0 rfl hown hgrow hat; obtain ⟨A6, c6, rfl⟩ := hdd.gform 0 rfl; simp only [List.set_cons_zero, List.set_cons_succ] at hdd; have HD5 := Lib.hid hdd; clear hdd hown hgrow hat HNW HON HBS HD4; have yb := HD5.out.boxi 0 rfl; have y0 := yb.cell 0 (by simp); have y1 := yb.cell 1 (by simp); have y2 := yb.cell 2 (by simp); have y3 := yb.cell 3 (by simp); simp only [List.getElem_cons_zero, List.getElem_cons_succ] at y0 y1 y2 y3; have yl := yb.lt)
    | fail)
   generalize wr.heap.size = fb at *
   refine (ref_item_loaded_any 4 ((bl : Int) % 8) 0 (20 + (bl : Int)) _).mono ?_
   rintro en w6 ⟨rfl, hO6⟩
   rw [HLD.out]
   have HD6 := Lib.hid ((HD5.out.keep0 hO6).ldrop)
   clear yb y0 y1 y2 y3 yl HD5 hO6
   go_wp2_with fail
   refine (kit_bytes_any bl _ (by omega)).mono ?_
   rintro en w7 ⟨g7, rfl, hg7, ho7, hO7⟩
   have HD7 := Lib.hid ((HD6.out.addFc hO7 (f := fun V => Bys V (some ⟨g7, 0, none⟩) 64 64 (kBlk bl)) (Row1.fc (Row1.of_Own ho7 (by simp) (Nat.le_refl _) (by simp [maxLen])) (fun _ a ha => by injection ha with ha; subst ha; simp; omega))).alloc (.cells #[.slice (some ⟨g7, 0, none⟩) 64 64] 47))
   have hnr : Row1 (w7.alloc (.cells #[.slice (some ⟨g7, 0, none⟩) 64 64] 47)) (some ⟨w7.heap.size, 0, none⟩) 1 1 ([(some ⟨g7, 0, none⟩, 64, 64)].map slv) := Row1.of_Own (Own.new w7 #[.slice (some ⟨g7, 0, none⟩) 64 64] 47) rfl (Nat.le_refl _) (by simp [maxLen])
   have HNR := Lib.hid hnr
   have HBS := Lib.hid HD7.out.only.size
   have HGW : Hid (w.heap.size ≤ g7) := Lib.hid (by have := HD6.out.only.size; omega)
   clear hnr ho7 hO7 hg7 HD6
   go_wp2_with (first
    | (at_builtin; refine wpList_append_row1 rfl (.tmp 61) (.tmp 64) 54 rfl w.heap.size 47 i1 _ 24 Tryz.underlying54 hi1 hy0 hy1 hy2 rfl (.slice A4 kk c4) kk (sl.map slv) rfl (HD7.out.gi 1 rfl) (some ⟨w7.heap.size, 0, none⟩) 1 1 ([(some ⟨g7, 0, none⟩, 64, 64)].map slv) rfl HNR.out (slv_one _) (by unfold maxLen; omega) (by omega) HBS.out ?_; intro v8 w8 hown hgrow hat; rw [← List.map_append] at hown; have hdd := HD7.out.gapp 1 rfl hown hgrow hat; obtain ⟨A8, c8, rfl⟩ := hdd.gform 1 rfl; simp only [List.set_cons_zero, List.set_cons_succ] at hdd; have HD8 := Lib.hid hdd; clear hdd hown hgrow hat HNR HBS HD7)
    | fail)
   go_roundg (gk - 1)
   case measure => omega
   case rel =>
    refine ⟨j + 1, A6, c6, A8, kk + 1, c8, sl ++ [(some ⟨g7, 0, none⟩, 64, 64)], by omega, by go_num, rfl, rfl, by omega, fun s hs a ha => ?_, ?_⟩
    ·rcases List.mem_append.1 hs with hs | hs
     ·exact HFR.out s hs a ha
     ·simp at hs
      subst hs
      injection ha with ha
      subst ha
      exact HGW.out
    refine (HD8.out.fuse (f1 := fun V => Bys V (some ⟨g7, 0, none⟩) 64 64 (kBlk bl)) (f2 := fun V => Bls V sl (kBls zs f j)) (f := fun V => Bls V (sl ++ [(some ⟨g7, 0, none⟩, 64, 64)]) (kBls zs f (j + 1))) (by simp) (by simp) (fun V h1 h2 => by rw [HBL.out]; exact h2.snoc h1)).subF ?_
    intro f1 hf1
    simp only [List.mem_cons, List.not_mem_nil, or_false] at hf1 ⊢
    rcases hf1 with rfl | rfl <;> simp
  ·rw [hk]
   have hit : kIt z f j = ⟨5, (bl : Int) % 8, 0, 0⟩ := by unfold kIt; rw [HFM.out, HBL0.out, hk]; rfl
   have HIT := Lib.hid (kIts_succ HZ.out hit)
   have hbl : kBl z f j = [kBlk bl] := by unfold kBl; rw [HFM.out, HBL0.out, hk]; rfl
   have HBL := Lib.hid (kBls_succ HZ.out hbl)
   have hld : It.loaded ⟨5, (bl : Int) % 8, 0, 0⟩ = true := by
    unfold It.loaded It.may
    simp
    omega
   have HLD := Lib.hid hld
   clear hk hit hbl HZ hld
   go_wp2_with fail
   refine (mod_any f 1000 _ hff (by decide) (by decide)).mono ?_
   rintro en w3 ⟨rfl, rfl⟩
   rw [HFM.out]
   have hw9 : fm + (j : Int) = (bl : Int) := HBL0.out
   obtain ⟨hfb0, hfb1⟩ := hfb
   have HD4 := Lib.hid ((HD3.out.newB #[.int .i64 5, .int .i64 ((bl : Int) % 8), .int .i64 0, .int .i64 0] 63 rfl).alloc (.cells #[.int .i64 5, .int .i64 ((bl : Int) % 8), .int .i64 0, .int .i64 0] 63))
   have hnw := news_new (wr.alloc (.cells #[.int .i64 5, .int .i64 ((bl : Int) % 8), .int .i64 0, .int .i64 0] 63)) #[.int .i64 5, .int .i64 ((bl : Int) % 8), .int .i64 0, .int .i64 0] 63 (by simp [maxLen])
   have hsz1 : (wr.alloc (.cells #[.int .i64 5, .int .i64 ((bl : Int) % 8), .int .i64 0, .int .i64 0] 63)).heap.size = wr.heap.size + 1 := by simp
   rw [hsz1] at hnw
   have HNW := Lib.hid hnw
   have HON := Lib.hid (itsV_one [⟨5, (bl : Int) % 8, 0, 0⟩])
   have HBS := Lib.hid HD4.out.only.size
   clear hnw hsz1 HD3
   go_wp2_with (first
    | (at_builtin; refine wpList_append_own_at _ rfl (.tmp 55) (.tmp 57) 53 rfl w.heap.size 63 i0 _ 4 32 Tryz.underlying53 hi0 hz0 hz1 hz2 rfl (by decide) (.slice A3 j c3) j (itsV (kIts zs f j)) rfl (HD4.out.gi 0 rfl) ⟨wr.heap.size + 1, 0, none⟩ 1 1 (itsV [⟨5, (bl : Int) % 8, 0, 0⟩]) rfl rfl HNW.out HON.out (by unfold maxLen; omega) (by omega) HBS.out ?_; intro v5 w5 hown hgrow _ hat; rw [HIT.out] at hown; have hdd := HD4.out.gapp 0 rfl hown hgrow hat; obtain ⟨A6, c6, rfl⟩ := hdd.gform 0 rfl; simp only [List.set_cons_zero, List.set_cons_succ] at hdd; have HD5 := Lib.hid hdd; clear hdd hown hgrow hat HNW HON HBS HD4; have yb := HD5.out.boxi 0 rfl; have y0 := yb.cell 0 (by simp); have y1 := yb.cell 1 (by simp); have y2 := yb.cell 2 (by simp); have y3 := yb.cell 3 (by simp); simp only [List.getElem_cons_zero, List.getElem_cons_succ] at y0 y1 y2 y3; have yl := yb.lt)
    | fail)
   generalize wr.heap.size = fb at *
   refine (ref_item_loaded_any 5 ((bl : Int) % 8) 0 0 _).mono ?_
   rintro en w6 ⟨rfl, hO6⟩
   rw [HLD.out]
   have HD6 := Lib.hid ((HD5.out.keep0 hO6).ldrop)
   clear yb y0 y1 y2 y3 yl HD5 hO6
   go_wp2_with fail
   refine (kit_bytes_any bl _ (by omega)).mono ?_
   rintro en w7 ⟨g7, rfl, hg7, ho7, hO7⟩
   have HD7 := Lib.hid ((HD6.out.addFc hO7 (f := fun V => Bys V (some ⟨g7, 0, none⟩) 64 64 (kBlk bl)) (Row1.fc (Row1.of_Own ho7 (by simp) (Nat.le_refl _) (by simp [maxLen])) (fun _ a ha => by injection ha with ha; subst ha; simp; omega))).alloc (.cells #[.slice (some ⟨g7, 0, none⟩) 64 64] 47))
   have hnr : Row1 (w7.alloc (.cells #[.slice (some ⟨g7, 0, none⟩) 64 64] 47)) (some ⟨w7.heap.size, 0, none⟩) 1 1 ([(some ⟨g7, 0, none⟩, 64, 64)].map slv) := Row1.of_Own (Own.new w7 #[.slice (some ⟨g7, 0, none⟩) 64 64] 47) rfl (Nat.le_refl _) (by simp [maxLen])
   have HNR := Lib.hid hnr
   have HBS := Lib.hid HD7.out.only.size
   have HGW : Hid (w.heap.size ≤ g7) := Lib.hid (by have := HD6.out.only.size; omega)
   clear hnr ho7 hO7 hg7 HD6
   go_wp2_with (first
    | (at_builtin; refine wpList_append_row1 rfl (.tmp 61) (.tmp 64) 54 rfl w.heap.size 47 i1 _ 24 Tryz.underlying54 hi1 hy0 hy1 hy2 rfl (.slice A4 kk c4) kk (sl.map slv) rfl (HD7.out.gi 1 rfl) (some ⟨w7.heap.size, 0, none⟩) 1 1 ([(some ⟨g7, 0, none⟩, 64, 64)].map slv) rfl HNR.out (slv_one _) (by unfold maxLen; omega) (by omega) HBS.out ?_; intro v8 w8 hown hgrow hat; rw [← List.map_append] at hown; have hdd := HD7.out.gapp 1 rfl hown hgrow hat; obtain ⟨A8, c8, rfl⟩ := hdd.gform 1 rfl; simp only [List.set_cons_zero, List.set_cons_succ] at hdd; have HD8 := Lib.hid hdd; clear hdd hown hgrow hat HNR HBS HD7)
    | fail)
   go_roundg (gk - 1)
   case measure => omega
   case rel =>
    refine ⟨j + 1, A6, c6, A8, kk + 1, c8, sl ++ [(some ⟨g7, 0, none⟩, 64, 64)], by omega, by go_num, rfl, rfl, by omega, fun s hs a ha => ?_, ?_⟩
    ·rcases List.mem_append.1 hs with hs | hs
     ·exact HFR.out s hs a ha
     ·simp at hs
      subst hs
      injection ha with ha
      subst ha
      exact HGW.out
    refine (HD8.out.fuse (f1 := fun V => Bys V (some ⟨g7, 0, none⟩) 64 64 (kBlk bl)) (f2 := fun V => Bls V sl (kBls zs f j)) (f := fun V => Bls V (sl ++ [(some ⟨g7, 0, none⟩, 64, 64)]) (kBls zs f (j + 1))) (by simp) (by simp) (fun V h1 h2 => by rw [HBL.out]; exact h2.snoc h1)).subF ?_
    intro f1 hf1
    simp only [List.mem_cons, List.not_mem_nil, or_false] at hf1 ⊢
    rcases hf1 with rfl | rfl <;> simp
  ·rw [hk]
   have hit : kIt z f j = ⟨6, (bl : Int) % 8, 1 + (bl : Int) % 3, 0⟩ := by unfold kIt; rw [HFM.out, HBL0.out, hk]; rfl
   have HIT := Lib.hid (kIts_succ HZ.out hit)
   have hbl : kBl z f j = [] := by unfold kBl; rw [hk]; rfl
   have HBL := Lib.hid (kBls_same HZ.out hbl)
   have hld : It.loaded ⟨6, (bl : Int) % 8, 1 + (bl : Int) % 3, 0⟩ = false := by
    unfold It.loaded It.may
    simp
    done
   have HLD := Lib.hid hld
   clear hk hit hbl HZ hld
   go_wp2_with fail
   refine (mod_any f 1000 _ hff (by decide) (by decide)).mono ?_
   rintro en w3 ⟨rfl, rfl⟩
   rw [HFM.out]
   have hw9 : fm + (j : Int) = (bl : Int) := HBL0.out
   obtain ⟨hfb0, hfb1⟩ := hfb
   have HD4 := Lib.hid ((HD3.out.newB #[.int .i64 6, .int .i64 ((bl : Int) % 8), .int .i64 (1 + (bl : Int) % 3), .int .i64 0] 63 rfl).alloc (.cells #[.int .i64 6, .int .i64 ((bl : Int) % 8), .int .i64 (1 + (bl : Int) % 3), .int .i64 0] 63))
   have hnw := news_new (wr.alloc (.cells #[.int .i64 6, .int .i64 ((bl : Int) % 8), .int .i64 (1 + (bl : Int) % 3), .int .i64 0] 63)) #[.int .i64 6, .int .i64 ((bl : Int) % 8), .int .i64 (1 + (bl : Int) % 3), .int .i64 0] 63 (by simp [maxLen])
   have hsz1 : (wr.alloc (.cells #[.int .i64 6, .int .i64 ((bl : Int) % 8), .int .i64 (1 + (bl : Int) % 3), .int .i64 0] 63)).heap.size = wr.heap.size + 1 := by simp
   rw [hsz1] at hnw
   have HNW := Lib.hid hnw
   have HON := Lib.hid (itsV_one [⟨6, (bl : Int) % 8, 1 + (bl : Int) % 3, 0⟩])
   have HBS := Lib.hid HD4.out.only.size
   clear hnw hsz1 HD3
   go_wp2_with (first
    | (at_builtin; refine wpList_append_own_at _ rfl (.tmp 55) (.tmp 57) 53 rfl w.heap.size 63 i0 _ 4 32 Tryz.underlying53 hi0 hz0 hz1 hz2 rfl (by decide) (.slice A3 j c3) j (itsV (kIts zs f j)) rfl (HD4.out.gi 0 rfl) ⟨wr.heap.size + 1, 0, none⟩ 1 1 (itsV [⟨6, (bl : Int) % 8, 1 + (bl : Int) % 3, 0⟩]) rfl rfl HNW.out HON.out (by unfold maxLen; omega) (by omega) HBS.out ?_; intro v5 w5 hown hgrow _ hat; rw [HIT.out] at hown; have hdd := HD4.out.gapp 0 rfl hown hgrow hat; obtain ⟨A6, c6, rfl⟩ := hdd.gform 0 rfl; simp only [List.set_cons_zero, List.set_cons_succ] at hdd; have HD5 := Lib.hid hdd; clear hdd hown hgrow hat HNW HON HBS HD4; have yb := HD5.out.boxi 0 rfl; have y0 := yb.cell 0 (by simp); have y1 := yb.cell 1 (by simp); have y2 := yb.cell 2 (by simp); have y3 := yb.cell 3 (by simp); simp only [List.getElem_cons_zero, List.getElem_cons_succ] at y0 y1 y2 y3; have yl := yb.lt)
    | fail)
   generalize wr.heap.size = fb at *
   refine (ref_item_loaded_any 6 ((bl : Int) % 8) (1 + (bl : Int) % 3) 0 _).mono ?_
   rintro en w6 ⟨rfl, hO6⟩
   rw [HLD.out]
   have HD6 := Lib.hid ((HD5.out.keep0 hO6).ldrop)
   clear yb y0 y1 y2 y3 yl HD5 hO6
   go_wp2_with fail
   go_roundg (gk - 1)
   case measure => omega
   case rel =>
    refine ⟨j + 1, A6, c6, A4, kk, c4, sl, by omega, by go_num, rfl, rfl, by omega, HFR.out, ?_⟩
    rw [HBL.out]
    exact HD6.out
 ·obtain rfl : j = m := by omega
  have hcond : ¬ ((j : Int) < (n : Int) ∧ (j : Int) < 6) := by have := HMM.out; omega
  by_cases hn0 : n = 0
  ·subst hn0
   obtain rfl : j = 0 := by omega
   obtain rfl : kk = 0 := by omega
   have e1 : kItems zs f = [⟨3, 0, 0, 1⟩] := by unfold kItems; rw [if_pos HL.out]
   have e2 : kBlocks zs f = kBls zs f 0 := by unfold kBlocks; rw [HL.out]; rfl
   have E1 := Lib.hid e1
   have E2 := Lib.hid e2
   have HD4 := Lib.hid (HD3.out.alloc (.cells #[.int .i64 3, .int .i64 0, .int .i64 0, .int .i64 1] 63))
   have hnw := news_new wr #[.int .i64 3, .int .i64 0, .int .i64 0, .int .i64 1] 63 (by simp [maxLen])
   have HNW := Lib.hid hnw
   have HON := Lib.hid (itsV_one [⟨3, 0, 0, 1⟩])
   have HBS := Lib.hid HD4.out.only.size
   clear hnw HD3 e1 e2 hcond
   go_wp2_with (first
    | (at_builtin; refine wpList_append_own_at _ rfl (.tmp 69) (.tmp 71) 53 rfl w.heap.size 63 i0 _ 4 32 Tryz.underlying53 hi0 hz0 hz1 hz2 rfl (by decide) (.slice A3 0 c3) 0 (itsV (kIts zs f 0)) rfl (HD4.out.gi 0 rfl) ⟨wr.heap.size, 0, none⟩ 1 1 (itsV [⟨3, 0, 0, 1⟩]) rfl rfl HNW.out HON.out (by unfold maxLen; omega) (by omega) HBS.out ?_; intro v5 w5 hown hgrow _ hat; have hdd := HD4.out.gapp 0 rfl hown hgrow hat; obtain ⟨A6, c6, rfl⟩ := hdd.gform 0 rfl; simp only [List.set_cons_zero, List.set_cons_succ] at hdd; have HD5 := Lib.hid hdd; clear hdd hown hgrow hat HNW HON HBS HD4)
    | fail)
   go_ret2
   rw [E1.out, E2.out]
   exact ⟨(A6, 1, c6), (A4, 0, c4), rfl, wc_itbl (l := [⟨3, 0, 0, 1⟩]) HD5.out rfl HFR.out, HD5.out.only⟩
  ·have e1 : kItems zs f = kIts zs f j := by unfold kItems; rw [if_neg (by rw [HL.out]; exact hn0), HL.out, HMM.out]
   have e2 : kBlocks zs f = kBls zs f j := by unfold kBlocks; rw [HL.out, HMM.out]
   have E1 := Lib.hid e1
   have E2 := Lib.hid e2
   have hj0 : 0 < j := by have := HMM.out; omega
   have hj1 : ((j : Int) == 0) = false := by simp; omega
   clear e1 e2
   by_cases hjn : (j : Int) < (n : Int)
   ·have hj6 : ¬ (j : Int) < 6 := by omega
    clear hcond
    go_wp2
    go_ret2
    rw [E1.out, E2.out]
    exact ⟨(A3, j, c3), (A4, kk, c4), rfl, wc_itbl HD3.out (kIts_length zs f j) HFR.out, HD3.out.only⟩
   ·clear hcond
    go_wp2
    go_ret2
    rw [E1.out, E2.out]
    exact ⟨(A3, j, c3), (A4, kk, c4), rfl, wc_itbl HD3.out (kIts_length zs f j) HFR.out, HD3.out.only⟩
end Go.Proofs.YtgcfdjcpcclcjaaGreat
