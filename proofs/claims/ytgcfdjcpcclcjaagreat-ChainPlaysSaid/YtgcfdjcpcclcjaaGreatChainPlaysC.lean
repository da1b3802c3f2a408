/- DkB, DkC, DkD, DkE, RecA, RefD, RecC, RecD, RecE, DkF: joined by pack.py, without what the claim does not use. -/
import Derived.Test.YtgcfdjcpcclcjaaGreatChainPlaysB
set_option linter.unusedVariables false
set_option linter.unusedSimpArgs false
set_option maxHeartbeats 16000000
set_option maxRecDepth 100000
namespace Go.Proofs.YtgcfdjcpcclcjaaGreat
open Go Go.RowKit Go.Kn
theorem dk_has_any (w0 w : World) (p : PD) (d : Dk) (c : Fr3) (a : Int) (h : Dsk w0 w p d c) :
    Calls Tryz.prog 83 #[.pointer (some ⟨p.D, 0, none⟩), .int .i64 a] w fun e w' => e = .returned (.bool (d.has a)) ∧ w = w' := by
  obtain ⟨v, hm⟩ := h.mem
  have hb := hm.boxi 0 (p := p.D) (cs := p.box v d) rfl
  have c1 := hb.cell 1 (by simp [PD.box])
  have hN := h.N
  have hn := h.ok.n
  have hlt : decide (a < (p.N : Int)) = decide (a < (d.safe.length : Int)) := by rw [hN]
  simp only [PD.box, g0, gs] at c1
  have HN := hH hN
  have hn' : 1 ≤ p.N ∧ p.N ≤ 4096 := by omega
  obtain ⟨hn1, hn2⟩ := hn'
  clear hm hb hN hn hlt h
  go_enter Tryz.func83, Tryz.ntmps83
  by_cases h1 : 0 ≤ a <;> by_cases h2 : a < (p.N : Int) <;>
  (go_wp2
   go_ret
   exact ⟨by unfold Dk.has; rw [HN.out]; simp [*], rfl⟩)
theorem Dsk.gone1 {w0 w : World} {p : PD} {d : Dk} {c : Fr3} (h : Dsk w0 w p d c) (hg : d.gone = true) :
  Dsk w0 ((w.setCell ⟨p.D, 5, none⟩ (.int .i64 (wrap64 (d.acts + 1)))).setCell ⟨p.D, 6, none⟩ (.bool true)) p d.act c := by
 obtain ⟨v, hm⟩ := h.mem
 have h1 := ((hm.put 0 (p := p.D) (cs := p.box v d) rfl 5 (.int .i64 (wrap64 (d.acts + 1)))).put 0 rfl 6 (.bool true))
 refine ⟨h.ok.act, h.N, h.hs, h.hn, h.hf, v, ?_⟩
 have e : p.L v d.act c.L = (p.D, [.slice (some ⟨p.s, 0, none⟩) p.N p.cs, .slice (some ⟨p.n, 0, none⟩) p.N p.cn, v, .slice (some ⟨p.f, 0, none⟩) p.N p.cf, .int .i64 d.fuse, .int .i64 (wrap64 (d.acts + 1)), .bool true]) :: (p.s, flat d.safe) :: (p.n, flat d.now) :: (p.f, bls d.faults) :: c.L := by
  simp only [PD.L, PD.box, Dk.act, hg, if_true, Dk.tick, Dk.now]
 rw [e]
 exact h1
theorem Dsk.gone0 {w0 w : World} {p : PD} {d : Dk} {c : Fr3} (h : Dsk w0 w p d c) (hg : d.gone = false) {m : Int} (hm : m = max (d.fuse - 1) (-1)) :
  Dsk w0 (((w.setCell ⟨p.D, 5, none⟩ (.int .i64 (wrap64 (d.acts + 1)))).setCell ⟨p.D, 6, none⟩ (.bool false)).setCell ⟨p.D, 4, none⟩ (.int .i64 m)) p d.act c := by
 subst hm
 obtain ⟨v, hm⟩ := h.mem
 have h1 := ((hm.put 0 (p := p.D) (cs := p.box v d) rfl 5 (.int .i64 (wrap64 (d.acts + 1)))).put 0 rfl 6 (.bool false)).put 0 rfl 4 (.int .i64 (max (d.fuse - 1) (-1)))
 refine ⟨h.ok.act, h.N, h.hs, h.hn, h.hf, v, ?_⟩
 have e : p.L v d.act c.L = (p.D, [.slice (some ⟨p.s, 0, none⟩) p.N p.cs, .slice (some ⟨p.n, 0, none⟩) p.N p.cn, v, .slice (some ⟨p.f, 0, none⟩) p.N p.cf, .int .i64 (max (d.fuse - 1) (-1)), .int .i64 (wrap64 (d.acts + 1)), .bool false]) :: (p.s, flat d.safe) :: (p.n, flat d.now) :: (p.f, bls d.faults) :: c.L := by
  simp only [PD.L, PD.box, Dk.act, hg, Bool.false_eq_true, if_false, Dk.tick, Dk.now]
 rw [e]
 exact h1
theorem dk_act_any (w0 w : World) (p : PD) (d : Dk) (c : Fr3) (h : Dsk w0 w p d c) :
  Calls Tryz.prog 85 #[.pointer (some ⟨p.D, 0, none⟩)] w fun e w' => e = .returned (.int .i64 (if d.gone = true then 3 else 0)) ∧ Dsk w0 w' p d.act c := by
 obtain ⟨v, hm⟩ := h.mem
 have hb := hm.boxi 0 (p := p.D) (cs := p.box v d) rfl
 have c4 := hb.cell 4 (by simp [PD.box])
 have c5 := hb.cell 5 (by simp [PD.box])
 have c6 := hb.cell 6 (by simp [PD.box])
 have f4 := hb.frozen 4
 have f5 := hb.frozen 5
 have f6 := hb.frozen 6
 simp only [PD.box, g0, gs] at c4 c5 c6
 have hu := h.ok.u
 have hlt := hb.lt
 obtain ⟨hu1, hu2⟩ := hu
 clear hm hb
 by_cases hg : d.gone = true
 ·refine (show Calls _ _ _ _ (fun e w' => e = .returned (.int .i64 3) ∧ Dsk w0 w' p d.act c) from ?_).mono (fun e w' h => by rw [if_pos hg]; exact h)
  have H := hH (Dsk.gone1 h hg)
  clear h
  unfold Dk.gone at hg
  by_cases ho : d.off = true
  ·rw [ho] at c6
   clear hg ho
   go_enter Tryz.func85, Tryz.ntmps85
   go_wp2
   go_ret
   exact ⟨rfl, H.out⟩
  rw [Bool.not_eq_true] at ho
  have hf : d.fuse = 0 := by rw [ho] at hg; simpa using hg
  rw [ho] at c6
  rw [hf] at c4
  clear hg ho hf hu1 hu2
  go_enter Tryz.func85, Tryz.ntmps85
  go_wp2
  go_ret
  exact ⟨rfl, H.out⟩
 refine (show Calls _ _ _ _ (fun e w' => e = .returned (.int .i64 0) ∧ Dsk w0 w' p d.act c) from ?_).mono (fun e w' h => by rw [if_neg hg]; exact h)
 rw [Bool.not_eq_true] at hg
 have H := hH (fun m hm => Dsk.gone0 h hg (m := m) hm)
 clear h
 unfold Dk.gone at hg
 rw [Bool.or_eq_false_iff] at hg
 obtain ⟨ho, hf⟩ := hg
 rw [ho] at c6
 have hf : ¬ d.fuse = 0 := by simpa using hf
 clear ho
 by_cases hz : 0 ≤ d.fuse
 ·have hz1 : decide (-1 ≤ d.fuse - 1) = true := by simp; omega
  go_enter Tryz.func85, Tryz.ntmps85
  go_wp2
  all_goals (first | (exfalso; omega) | skip)
  go_ret
  exact ⟨rfl, H.out _ (by omega)⟩
 go_enter Tryz.func85, Tryz.ntmps85
 go_wp2
 all_goals (first | (exfalso; omega) | skip)
 go_ret
 exact ⟨rfl, H.out _ (by omega)⟩
theorem Dsk.app {w0 w w' : World} {p : PD} {d : Dk} {c : Fr3} {v v' : Value} {a : Int} {b : List UInt8} (hm : Wc w0 w (p.L v d.act c.L) (⟨158, 65, v, d.held.length, heldV d.held⟩ :: c.G) c.F)
  (hown : w'.ownsRow w0.heap.size 158 65 v' (d.held.length + 1) (heldV d.held ++ (.int .i64 a :: bvs b))) (hg : w.grownBy w' v.ownBlock) (hat : v'.ownBlock = v.ownBlock ∨ v'.ownBlock = some w.heap.size) (ha : 0 ≤ a) :
  Wc w0 (w'.setCell ⟨p.D, 2, none⟩ v') ((p.D, p.box v' d.act) :: (p.s, flat d.safe) :: (p.n, flat d.now) :: (p.f, bls d.faults) :: c.L) (⟨158, 65, v', (d.held ++ [(a.toNat, b)]).length, heldV (d.held ++ [(a.toNat, b)])⟩ :: c.G) c.F := by
 have h1 := hm.gapp 0 rfl hown hg hat
 have h2 := h1.put 0 (p := p.D) (cs := p.box v d.act) rfl 2 v'
 have e : heldV (d.held ++ [(a.toNat, b)]) = heldV d.held ++ (.int .i64 a :: bvs b) := by rw [heldV_snoc, show ((a.toNat : Nat) : Int) = a from by omega]
 rw [e, List.length_append]
 exact h2
theorem Dsk.wroteMk {w0 w w' : World} {p : PD} {d : Dk} {c : Fr3} {v : Value} {k : Nat} {b : List UInt8} (h : Dsk w0 w p d c) (hh : d.has k = true) (hb : b.length = 64)
  (hm : Wc w0 w' ((p.D, p.box v d.act) :: (p.s, flat d.safe) :: (p.n, flat (d.now.set k b)) :: (p.f, bls d.faults) :: c.L) (⟨158, 65, v, (d.held ++ [((k : Int).toNat, b)]).length, heldV (d.held ++ [((k : Int).toNat, b)])⟩ :: c.G) c.F) :
  Dsk w0 w' p (d.wrote k b) c := by
 refine ⟨h.ok.wrote hh hb, h.N, h.hs, h.hn, h.hf, v, ?_⟩
 have e : (d.wrote k b).now = d.now.set k b := Dk.now_wrote d k b
 unfold PD.L
 rw [e]
 exact hm
theorem dk_write_any (w0 w : World) (p : PD) (d : Dk) (c : Fr3) (a : Int) (A : Option Addr) (n cc : Nat) (b : List UInt8) (h : Dsk w0 w p d c) (hb : (fun W => Bys W A n cc b) ∈ c.F) (hh : d.held.length ≤ 1000000) :
  Calls Tryz.prog 24 #[.pointer (some ⟨p.D, 0, none⟩), .int .i64 a, .slice A n cc] w fun e w' => e = .returned (.int .i64 (d.write a b).2) ∧ Dsk w0 w' p (d.write a b).1 c := by
 have hbl : b.length = n := by
  obtain ⟨v, hm⟩ := h.mem
  have := (hm.fact _ hb).len
  rwa [bvs_length] at this
 by_cases hok : d.has a = true ∧ b.length = 64
 ·obtain ⟨ho1, ho2⟩ := hok
  obtain rfl : n = 64 := by omega
  by_cases hg : d.gone = true
  ·have e : d.write a b = (d.act, 3) := by unfold Dk.write; simp [ho1, ho2, hg]
   rw [e]
   have H := hH h
   have HG := hH hg
   have HO := hH ho1
   clear h hbl ho2 ho1 hg e
   go_enter Tryz.func24, Tryz.ntmps24
   go_wp2_with fail
   refine (dk_has_any w0 w p d c a H.out).mono ?_
   rintro e w1 ⟨rfl, rfl⟩
   rw [HO.out]
   go_wp2_with fail
   refine (dk_act_any w0 w p d c H.out).mono ?_
   rintro e w1 ⟨rfl, h1⟩
   rw [if_pos HG.out]
   have H1 := hH h1
   clear h1
   go_wp2
   go_ret
   exact ⟨rfl, H1.out⟩
  have e : d.write a b = (d.wrote a b, 0) := by unfold Dk.write; simp [ho1, ho2, hg]
  rw [e]
  have hN := h.N
  have hn := h.ok.n
  have hr : 0 ≤ a ∧ a < (p.N : Int) := by unfold Dk.has at ho1; simp only [decide_eq_true_eq] at ho1; omega
  obtain ⟨k, rfl⟩ : ∃ k : Nat, a = k := ⟨a.toNat, by omega⟩
  have hkN : k < p.N := by omega
  have H := hH h
  have HG := hH hg
  have HO := hH ho1
  have HB := hH hb
  have HN := hH hN
  have HL := hH ho2
  clear h hbl ho2 ho1 hg e hb hN hn
  go_enter Tryz.func24, Tryz.ntmps24
  go_wp2_with fail
  refine (dk_has_any w0 w p d c k H.out).mono ?_
  rintro e w1 ⟨rfl, rfl⟩
  rw [HO.out]
  go_wp2_with fail
  refine (dk_act_any w0 w p d c H.out).mono ?_
  rintro e w1 ⟨rfl, h1⟩
  rw [if_neg HG.out]
  obtain ⟨v, hm⟩ := h1.mem
  have hbx := hm.boxi 0 (p := p.D) (cs := p.box v d.act) rfl
  have c2 := hbx.cell 2 (by simp [PD.box])
  have c1 := hbx.cell 1 (by simp [PD.box])
  simp only [PD.box, g0, gs] at c1 c2
  have hby := hm.fact _ HB.out
  obtain ⟨g, o, rfl, _⟩ := hby.at_ (by omega)
  have hbw := build_write k b HL.out
  obtain ⟨ar, har⟩ : ∃ ar, (bvs b).toArray = ar := ⟨_, rfl⟩
  obtain ⟨ar2, har2⟩ : ∃ ar, (Value.int .i64 (k : Int) :: bvs b).toArray = ar := ⟨_, rfl⟩
  simp only [har, har2] at hbw
  have HBW := hH hbw
  have HAR := hH har
  have HAR2 := hH har2
  have har3 : ar2.toList = Value.int .i64 (k : Int) :: bvs b := by rw [← har2]
  have HAR3 := hH har3
  have hdl : d.act.held.length = d.held.length := rfl
  have hde : heldV d.act.held = heldV d.held := rfl
  rw [hdl, hde] at hm
  have HM := hH hm
  have hfl : (flat d.now).length = 64 * p.N := by rw [flat_length _ H.out.ok.now64, Dk.now_length, HN.out]
  have HFL := hH hfl
  have hfs := flat_set d.now H.out.ok.now64 k b (by rw [Dk.now_length, HN.out]; exact hkN) HL.out
  have HFS := hH hfs
  clear hfl hfs
  obtain ⟨i0, z0, hi0, hz0, hz1, hz2, hz3⟩ := write_parts
  have hone : ∀ u ∈ (Value.int .i64 (k : Int) :: bvs b), u.oneCell' = true := by
   intro u hu
   rcases List.mem_cons.1 hu with rfl | hu
   ·rfl
   exact bvs_one _ u hu
  have HON := hH hone
  have HD7 := hH HM.out.drew
  clear har har2 har3 hbw hm hbx hby h1 hdl hde hone HM c1 c2
  go_wp2_with fail
  refine wp_region_held_drew (S := fun w' => w'.cell? ⟨p.D, 1, none⟩ = some (.slice (some ⟨p.n, 0, none⟩) p.N p.cn) ∧ Bys w' (some ⟨g, o, none⟩) 64 cc b) (by kernel_rfl) ⟨by simpa [PD.box] using (HD7.out.boxi 0 (p := p.D) rfl).cell 1 (by simp [PD.box]), HD7.out.fact _ HB.out⟩ (fun hSw0 => ?_)
  generalize w1.drew = ws at *
  refine tS 0 22 ?_
  refine tS 1 23 ?_
  refine tS 2 24 ?_
  refine tS 3 25 ?_
  refine tS 5 27 ?_
  refine tS 6 28 ?_
  refine tS 7 29 (v := (.pointer (some ⟨g, o, none⟩))) (hy := fun w hSw => by
   exact exec_arr rfl rfl (arr_at (some ⟨g, o, none⟩) cc w)) ?_
  refine tS 8 30 (v := (.agg ar)) (hy := fun w hSw => by
   have hld := load_bytes hSw.2
   rw [HAR.out] at hld
   exact exec_load rfl rfl hld) ?_
  refine tS 9 31 (v := (.agg ar2)) (hy := fun w hSw => by
   exact exec_build (vs := #[(0, .int .i64 (k : Int)), (1, .agg ar)]) rfl (by kernel_rfl) (HBW.out w)) ?_
  refine wpAnyH_ready (rs := [4, 10]) (by kernel_rfl) (by simp) ?_
  refine AllReadyH.cons (o := ⟨some 26, _, _, _, _, _⟩) rfl (fun K hK => ?_) ?_
  ·have yq := (HD7.out.boxi 0 (p := p.D) rfl).cell 2 (by simp [PD.box])
   simp only [PD.box, g0, gs] at yq
   go_simp
   clear yq
   refine hK.out _ _ ⟨by simpa [PD.box] using (HD7.out.boxi 0 (p := p.D) rfl).cell 1 (by simp [PD.box]), HD7.out.fact _ HB.out⟩ (fun hSn => ?_)
   clear hK K hSw0
   have hSw0 := hSn
   clear hSn
   refine tR 10 32 fun K hK => ?_
   refine step_bslice_write rfl (.tmp 31) rfl (.int .i64 (k : Int) :: bvs b) (by simp [HL.out]) (by rw [HAR2.out]; rfl) ?_
   rw [HAR2.out]
   have HDb := hH (HD7.out.alloc (.cells ar2 158))
   have hnw := news_new ws ar2 158 (by rw [HAR3.out]; simp [HL.out, maxLen])
   rw [HAR3.out] at hnw
   have HNW := hH hnw
   clear hnw
   generalize hvz : ws.heap.size = vz at *
   generalize hvb : ws.alloc (.cells ar2 158) = vb at *
   clear hvb hvz
   refine hK.out _ _ ⟨by simpa [PD.box] using (HDb.out.boxi 0 (p := p.D) rfl).cell 1 (by simp [PD.box]), HDb.out.fact _ HB.out⟩ (fun hSn => ?_)
   clear hK K hSw0
   have hSw0 := hSn
   clear hSn
   refine tR 11 33 fun K hK => ?_
   have hbw := HDb.out.only.size
   refine step_append_own rfl (.tmp 26) (.tmp 32) 151 rfl w0.heap.size 158 i0 z0 65 72 Tryz.underlying151 hi0 hz0 hz1 hz2 hz3 (by decide) v d.held.length (heldV d.held) rfl (HDb.out.gi 0 rfl) ⟨vz, 0, none⟩ 1 1 (.int .i64 (k : Int) :: bvs b) rfl (by simp [HL.out]) HNW.out HON.out (by unfold maxLen; omega) (by omega) hbw ?_
   intro v5 w5 hown hgrow hat
   have hdd := HDb.out.gapp 0 rfl hown hgrow hat
   obtain ⟨A5, c5, rfl⟩ := hdd.gform 0 rfl
   have HDd := hH hdd
   have HDx := hH (Dsk.app HDb.out hown hgrow hat (by omega))
   clear hdd hown hgrow hat hbw
   simp only [List.set_cons_zero] at HDd
   refine hK.out _ _ ⟨by simpa [PD.box] using (HDd.out.boxi 0 (p := p.D) rfl).cell 1 (by simp [PD.box]), HDd.out.fact _ HB.out⟩ (fun hSn => ?_)
   clear hK K hSw0
   have hSw0 := hSn
   clear hSn
   refine tS 12 34 ?_
   refine tS 13 35 ?_
   refine Kn.takeR 14 ⟨none, _, _, _, _, _⟩ fun K hK => ?_
   have hxb := HDd.out.boxi 0 (p := p.D) rfl
   have yq := hxb.cell 2 (by simp [PD.box])
   simp only [PD.box, g0, gs] at yq
   have fq := hxb.frozen 2
   go_simp
   clear yq fq hxb
   refine hK.out _ _ ⟨by simpa [PD.box] using (HDx.out.boxi 0 (p := p.D) rfl).cell 1 (by simp [PD.box]), HDx.out.fact _ HB.out⟩ (fun hSn => ?_)
   clear hK K hSw0
   have hSw0 := hSn
   clear hSn
   refine tD ?_ _
   clear hSw0 HDd
   have HDy := hH HDx.out.drew
   clear HDx
   go_wp2_with fail
   refine wp_region_held_drew (S := fun w' => w'.cell? ⟨p.D, 1, none⟩ = some (.slice (some ⟨p.n, 0, none⟩) p.N p.cn) ∧ Bys w' (some ⟨g, o, none⟩) 64 cc b) (by kernel_rfl) ⟨by simpa [PD.box] using (HDy.out.boxi 0 (p := p.D) rfl).cell 1 (by simp [PD.box]), HDy.out.fact _ HB.out⟩ (fun hSw0 => ?_)
   generalize (w5.setCell ⟨p.D, 2, none⟩ (.slice A5 (d.held.length + 1) c5)).drew = wt at *
   refine tS 0 36 ?_
   refine tS 1 37 ?_
   refine tS 2 38 ?_
   refine tS 3 39 ?_
   refine tS 4 40 ?_
   refine tS 5 41 ?_
   refine tS 6 42 (v := (.pointer (some ⟨g, o, none⟩))) (hy := fun w hSw => by
    exact exec_arr rfl rfl (arr_at (some ⟨g, o, none⟩) cc w)) ?_
   refine tS 7 43 (v := (.agg ar)) (hy := fun w hSw => by
    have hld := load_bytes hSw.2
    rw [HAR.out] at hld
    exact exec_load rfl rfl hld) ?_
   refine tS 8 44 (v := (.pointer (some ⟨p.n, 64 * k, none⟩))) (hy := fun w hSw => by
    exact exec_index rfl rfl rfl (idx_block p.n p.N p.cn k hkN w)) ?_
   refine Kn.takeR 9 ⟨none, _, _, _, _, _⟩ fun K hK => ?_
   refine step_store_part rfl 156 (.tmp 44) (.tmp 43) rfl p.n (64 * k) (flat d.now) (bvs b) (by rw [bvs_length, HL.out]; exact size_block) rfl (by rw [HAR.out]; rfl) (HDy.out.boxi 2 rfl) (by rw [bvs_length, HL.out, HFL.out]; omega) (bvs_one _) ?_
   intro w6 hown hO6
   rw [bvs_length, HL.out, ← HFS.out] at hown
   have HDz := hH (HDy.out.call1 2 rfl hown hO6)
   clear hown hO6 HDy
   refine hK.out _ _ ⟨by simpa [PD.box] using (HDz.out.boxi 0 (p := p.D) rfl).cell 1 (by simp [PD.box]), HDz.out.fact _ HB.out⟩ (fun hSn => ?_)
   clear hK K hSw0
   have hSw0 := hSn
   clear hSn
   refine tD ?_ _
   clear hSw0
   have HE := hH (H.out.wroteMk HO.out HL.out HDz.out)
   clear HDz
   go_wp2
   go_ret
   exact ⟨rfl, HE.out⟩
  refine AllReadyH.cons (o := ⟨some 32, _, _, _, _, _⟩) rfl (fun K hK => ?_) ?_
  ·refine step_bslice_write rfl (.tmp 31) rfl (.int .i64 (k : Int) :: bvs b) (by simp [HL.out]) (by rw [HAR2.out]; rfl) ?_
   rw [HAR2.out]
   have HDb := hH (HD7.out.alloc (.cells ar2 158))
   have hnw := news_new ws ar2 158 (by rw [HAR3.out]; simp [HL.out, maxLen])
   rw [HAR3.out] at hnw
   have HNW := hH hnw
   clear hnw
   generalize hvz : ws.heap.size = vz at *
   generalize hvb : ws.alloc (.cells ar2 158) = vb at *
   clear hvb hvz
   refine hK.out _ _ ⟨by simpa [PD.box] using (HDb.out.boxi 0 (p := p.D) rfl).cell 1 (by simp [PD.box]), HDb.out.fact _ HB.out⟩ (fun hSn => ?_)
   clear hK K hSw0
   have hSw0 := hSn
   clear hSn
   refine tR 4 26 fun K hK => ?_
   have yq := (HDb.out.boxi 0 (p := p.D) rfl).cell 2 (by simp [PD.box])
   simp only [PD.box, g0, gs] at yq
   go_simp
   clear yq
   refine hK.out _ _ ⟨by simpa [PD.box] using (HDb.out.boxi 0 (p := p.D) rfl).cell 1 (by simp [PD.box]), HDb.out.fact _ HB.out⟩ (fun hSn => ?_)
   clear hK K hSw0
   have hSw0 := hSn
   clear hSn
   refine tR 11 33 fun K hK => ?_
   have hbw := HDb.out.only.size
   refine step_append_own rfl (.tmp 26) (.tmp 32) 151 rfl w0.heap.size 158 i0 z0 65 72 Tryz.underlying151 hi0 hz0 hz1 hz2 hz3 (by decide) v d.held.length (heldV d.held) rfl (HDb.out.gi 0 rfl) ⟨vz, 0, none⟩ 1 1 (.int .i64 (k : Int) :: bvs b) rfl (by simp [HL.out]) HNW.out HON.out (by unfold maxLen; omega) (by omega) hbw ?_
   intro v5 w5 hown hgrow hat
   have hdd := HDb.out.gapp 0 rfl hown hgrow hat
   obtain ⟨A5, c5, rfl⟩ := hdd.gform 0 rfl
   have HDd := hH hdd
   have HDx := hH (Dsk.app HDb.out hown hgrow hat (by omega))
   clear hdd hown hgrow hat hbw
   simp only [List.set_cons_zero] at HDd
   refine hK.out _ _ ⟨by simpa [PD.box] using (HDd.out.boxi 0 (p := p.D) rfl).cell 1 (by simp [PD.box]), HDd.out.fact _ HB.out⟩ (fun hSn => ?_)
   clear hK K hSw0
   have hSw0 := hSn
   clear hSn
   refine tS 12 34 ?_
   refine tS 13 35 ?_
   refine Kn.takeR 14 ⟨none, _, _, _, _, _⟩ fun K hK => ?_
   have hxb := HDd.out.boxi 0 (p := p.D) rfl
   have yq := hxb.cell 2 (by simp [PD.box])
   simp only [PD.box, g0, gs] at yq
   have fq := hxb.frozen 2
   go_simp
   clear yq fq hxb
   refine hK.out _ _ ⟨by simpa [PD.box] using (HDx.out.boxi 0 (p := p.D) rfl).cell 1 (by simp [PD.box]), HDx.out.fact _ HB.out⟩ (fun hSn => ?_)
   clear hK K hSw0
   have hSw0 := hSn
   clear hSn
   refine tD ?_ _
   clear hSw0 HDd
   have HDy := hH HDx.out.drew
   clear HDx
   go_wp2_with fail
   refine wp_region_held_drew (S := fun w' => w'.cell? ⟨p.D, 1, none⟩ = some (.slice (some ⟨p.n, 0, none⟩) p.N p.cn) ∧ Bys w' (some ⟨g, o, none⟩) 64 cc b) (by kernel_rfl) ⟨by simpa [PD.box] using (HDy.out.boxi 0 (p := p.D) rfl).cell 1 (by simp [PD.box]), HDy.out.fact _ HB.out⟩ (fun hSw0 => ?_)
   generalize (w5.setCell ⟨p.D, 2, none⟩ (.slice A5 (d.held.length + 1) c5)).drew = wt at *
   refine tS 0 36 ?_
   refine tS 1 37 ?_
   refine tS 2 38 ?_
   refine tS 3 39 ?_
   refine tS 4 40 ?_
   refine tS 5 41 ?_
   refine tS 6 42 (v := (.pointer (some ⟨g, o, none⟩))) (hy := fun w hSw => by
    exact exec_arr rfl rfl (arr_at (some ⟨g, o, none⟩) cc w)) ?_
   refine tS 7 43 (v := (.agg ar)) (hy := fun w hSw => by
    have hld := load_bytes hSw.2
    rw [HAR.out] at hld
    exact exec_load rfl rfl hld) ?_
   refine tS 8 44 (v := (.pointer (some ⟨p.n, 64 * k, none⟩))) (hy := fun w hSw => by
    exact exec_index rfl rfl rfl (idx_block p.n p.N p.cn k hkN w)) ?_
   refine Kn.takeR 9 ⟨none, _, _, _, _, _⟩ fun K hK => ?_
   refine step_store_part rfl 156 (.tmp 44) (.tmp 43) rfl p.n (64 * k) (flat d.now) (bvs b) (by rw [bvs_length, HL.out]; exact size_block) rfl (by rw [HAR.out]; rfl) (HDy.out.boxi 2 rfl) (by rw [bvs_length, HL.out, HFL.out]; omega) (bvs_one _) ?_
   intro w6 hown hO6
   rw [bvs_length, HL.out, ← HFS.out] at hown
   have HDz := hH (HDy.out.call1 2 rfl hown hO6)
   clear hown hO6 HDy
   refine hK.out _ _ ⟨by simpa [PD.box] using (HDz.out.boxi 0 (p := p.D) rfl).cell 1 (by simp [PD.box]), HDz.out.fact _ HB.out⟩ (fun hSn => ?_)
   clear hK K hSw0
   have hSw0 := hSn
   clear hSn
   refine tD ?_ _
   clear hSw0
   have HE := hH (H.out.wroteMk HO.out HL.out HDz.out)
   clear HDz
   go_wp2
   go_ret
   exact ⟨rfl, HE.out⟩
  exact AllReadyH.nil
 have e : d.write a b = (d, 1) := by
  unfold Dk.write
  rw [if_neg]
  simp only [Bool.and_eq_true, decide_eq_true_eq]
  exact hok
 rw [e]
 have H := hH h
 by_cases ho1 : d.has a = true
 ·have hn : ((n : Int) == 64) = false := by
   have : ¬ n = 64 := fun h => hok ⟨ho1, by omega⟩
   simp; omega
  have hn2 : ((n : Int) != 64) = true := by simpa using hn
  have HO := hH ho1
  clear h hbl hok ho1 e
  go_enter Tryz.func24, Tryz.ntmps24
  go_wp2_with fail
  refine (dk_has_any w0 w p d c a H.out).mono ?_
  rintro e w1 ⟨rfl, rfl⟩
  rw [HO.out]
  go_wp2
  go_ret
  exact ⟨rfl, H.out⟩
 rw [Bool.not_eq_true] at ho1
 have HO := hH ho1
 clear h hbl hok ho1 e
 go_enter Tryz.func24, Tryz.ntmps24
 go_wp2_with fail
 refine (dk_has_any w0 w p d c a H.out).mono ?_
 rintro e w1 ⟨rfl, rfl⟩
 rw [HO.out]
 go_wp2
 go_ret
 exact ⟨rfl, H.out⟩
end Go.Proofs.YtgcfdjcpcclcjaaGreat
namespace Go.Kn
open Go Go.RowKit
/-- what a read answers: bytes in new memory -/
def RdSays (w : World) (b : List UInt8) (err : Int) (e : Ending) (w' : World) : Prop := ∃ A n c, e = .returned (.tuple #[.slice A n c, .int .i64 err]) ∧ Fc w' (fun k => k < w.heap.size) (fun W => Bys W A n c b) ∧ Only [] w w'
theorem RdSays.none (w : World) (err : Int) : RdSays w [] err (.returned (.tuple #[.slice none 0 0, .int .i64 err])) w := ⟨Option.none, 0, 0, rfl, fun W _ => Row1.nil W, Only.refl _ _⟩
theorem MadeBys.fc {w w' : World} {bs : List UInt8} {A : Option Addr} {c : Nat} (hc : bs.length ≤ c) (hm : c ≤ maxLen) (hp : 0 < bs.length → ∃ g, A = some ⟨g, 0, none⟩ ∧ w.heap.size ≤ g ∧ Own w' g (bvs bs)) : Fc w' (fun k => k < w.heap.size) (fun W => Bys W A bs.length c bs) := by
 by_cases h0 : 0 < bs.length
 ·obtain ⟨g, rfl, hg, ho⟩ := hp h0
  exact Row1.fc (Row1.of_Own ho (by simp) hc hm) (fun _ a ha => by injection ha with ha; subst ha; simp; omega)
 obtain rfl : bs = [] := List.eq_nil_of_length_eq_zero (by omega)
 exact fun W _ => ⟨rfl, by omega, hm, fun h => absurd h (by omega)⟩
theorem Row1.subrow {w : World} {g n c : Nat} {xs : List Value} {o m : Nat} (h : Own w g xs) (hl : o + m ≤ xs.length) (hc : m ≤ c) (hm : c ≤ maxLen) : Row1 w (some ⟨g, o, none⟩) m c ((xs.drop o).take m) :=
 ⟨by rw [List.length_take, List.length_drop]; omega, hc, hm, fun _ => ⟨g, o, rfl, fun i hi => by
  rw [List.length_take, List.length_drop] at hi
  rw [List.getElem_take, List.getElem_drop]
  exact h.cell _ (by omega)⟩⟩
end Go.Kn
namespace Go.Proofs.YtgcfdjcpcclcjaaGreat
open Go Go.RowKit Go.Kn
theorem Dsk.faulted {w0 w : World} {p : PD} {d : Dk} {c : Fr3} (h : Dsk w0 w p d c) {k : Nat} (on : Bool) (hk : d.has k = true) : Dsk w0 (w.setCell ⟨p.f, k, none⟩ (.bool on)) p (d.fault k on).1 c := by
 obtain ⟨v, hm⟩ := h.mem
 have h1 := hm.put 3 (p := p.f) (cs := bls d.faults) rfl k (.bool on)
 have e : (d.fault k on).1 = { d with faults := d.faults.set k on } := by unfold Dk.fault; rw [if_pos hk]; rfl
 refine ⟨h.ok.fault _ _, by rw [e]; exact h.N, h.hs, h.hn, h.hf, v, ?_⟩
 rw [e]
 have e2 : (bls d.faults).set k (.bool on) = bls (d.faults.set k on) := by simp [bls, List.map_set]
 rw [e2] at h1
 exact h1
theorem dk_fault_any (w0 w : World) (p : PD) (d : Dk) (c : Fr3) (a : Int) (on : Bool) (h : Dsk w0 w p d c) :
  Calls Tryz.prog 34 #[.pointer (some ⟨p.D, 0, none⟩), .int .i64 a, .bool on] w fun e w' => e = .returned (.int .i64 (d.fault a on).2) ∧ Dsk w0 w' p (d.fault a on).1 c := by
 obtain ⟨v, hm⟩ := h.mem
 have hbx := hm.boxi 0 (p := p.D) (cs := p.box v d) rfl
 have c3 := hbx.cell 3 (by simp [PD.box])
 simp only [PD.box, g0, gs] at c3
 have hfb := hm.boxi 3 (p := p.f) (cs := bls d.faults) rfl
 have H := hH h
 have hN := h.N
 have hF := h.ok.f
 have hn := h.ok.n
 by_cases ho : d.has a = true
 ·have hr : 0 ≤ a ∧ a < (p.N : Int) := by unfold Dk.has at ho; simp only [decide_eq_true_eq] at ho; omega
  obtain ⟨k, rfl⟩ : ∃ k : Nat, a = k := ⟨a.toNat, by omega⟩
  have hkN : k < p.N := by omega
  have hN1 : 1 ≤ p.N ∧ p.N ≤ 4096 := by omega
  obtain ⟨hN1, hN2⟩ := hN1
  have HO := hH ho
  have hbl : k < (bls d.faults).length := by rw [bls_length]; omega
  have q0 := hfb.cell k hbl
  have f0 := hfb.frozen k
  have HF := hH (h.faulted on ho)
  have e : (d.fault k on).2 = 0 := by unfold Dk.fault; rw [if_pos ho]
  rw [e]
  generalize (bls d.faults)[k] = old at q0
  clear hm hbx hfb h hN hF hn ho e
  go_enter Tryz.func34, Tryz.ntmps34
  go_wp2_with fail
  refine (dk_has_any w0 w p d c k H.out).mono ?_
  rintro e w1 ⟨rfl, rfl⟩
  rw [HO.out]
  go_wp2
  go_ret
  exact ⟨rfl, HF.out⟩
 have e : d.fault a on = (d, 1) := by unfold Dk.fault; rw [if_neg ho]
 rw [e]
 rw [Bool.not_eq_true] at ho
 have HO := hH ho
 clear hm hbx hfb h hN hF hn ho e
 go_enter Tryz.func34, Tryz.ntmps34
 go_wp2_with fail
 refine (dk_has_any w0 w p d c a H.out).mono ?_
 rintro e w1 ⟨rfl, rfl⟩
 rw [HO.out]
 go_wp2
 go_ret
 exact ⟨rfl, H.out⟩
end Go.Proofs.YtgcfdjcpcclcjaaGreat
namespace Go.Proofs.YtgcfdjcpcclcjaaGreat
open Go Go.RowKit Go.Kn
theorem Dsk.flushMk {w0 w w' : World} {p : PD} {d : Dk} {c : Fr3} {v : Value} (h : Dsk w0 w p d c)
  (hm : Wc w0 w' ((p.D, p.box v d.act) :: (p.s, flat d.now) :: (p.n, flat d.now) :: (p.f, bls d.faults) :: c.L) (⟨158, 65, v, d.held.length, heldV d.held⟩ :: c.G) c.F) :
  Dsk w0 (w'.setCell ⟨p.D, 2, none⟩ (.slice none 0 0)) p d.flushed c := by
 have h1 := (hm.greset).put 0 (p := p.D) (cs := p.box v d.act) rfl 2 (.slice none 0 0)
 exact ⟨h.ok.flushed, by show d.now.length = _; rw [Dk.now_length]; exact h.N, h.hs, h.hn, h.hf, .slice none 0 0, h1⟩
theorem dk_flush_any (w0 w : World) (p : PD) (d : Dk) (c : Fr3) (h : Dsk w0 w p d c) (hh : d.held.length ≤ 1000000) :
  Calls Tryz.prog 95 #[.pointer (some ⟨p.D, 0, none⟩)] w fun e w' => e = .returned (.int .i64 d.flush.2) ∧ Dsk w0 w' p d.flush.1 c := by
 have H := hH h
 by_cases hg : d.gone = true
 ·have e : d.flush = (d.act, 3) := by unfold Dk.flush; rw [if_pos hg]
  rw [e]
  have HG := hH hg
  clear h hg e
  go_enter Tryz.func95, Tryz.ntmps95
  go_wp2_with fail
  refine (dk_act_any w0 w p d c H.out).mono ?_
  rintro e w1 ⟨rfl, h1⟩
  rw [if_pos HG.out]
  have H1 := hH h1
  clear h1
  go_wp2
  go_ret
  exact ⟨rfl, H1.out⟩
 have e : d.flush = (d.flushed, 0) := by unfold Dk.flush; rw [if_neg hg]
 rw [e]
 have hN := h.N
 have hn := h.ok.n
 have HN := hH hN
 have hN1 : 1 ≤ p.N ∧ p.N ≤ 4096 := by omega
 obtain ⟨hN1, hN2⟩ := hN1
 have HG := hH hg
 clear h hg e hN hn
 go_enter Tryz.func95, Tryz.ntmps95
 go_wp2_with fail
 refine (dk_act_any w0 w p d c H.out).mono ?_
 rintro e w1 ⟨rfl, h1⟩
 rw [if_neg HG.out]
 obtain ⟨v, hm⟩ := h1.mem
 obtain ⟨A, cc, rfl⟩ := hm.gform 0 rfl
 have hbx := hm.boxi 0 (p := p.D) (cs := p.box _ d.act) rfl
 have c2 := hbx.cell 2 (by simp [PD.box])
 simp only [PD.box, g0, gs] at c2
 have HM := hH hm
 have hdl : d.act.held.length = d.held.length := rfl
 rw [hdl] at c2
 have hi0 := write_parts
 obtain ⟨i0, z0, hi0, hz0, hz1, hz2, hz3⟩ := hi0
 have HI0 := hH hi0
 have HZ0 := hH hz0
 have HZ3 := hH hz3
 obtain ⟨n, hn⟩ : ∃ n, d.held.length = n := ⟨_, rfl⟩
 rw [hn] at c2 hh
 have HL := hH hn
 clear hm hbx h1 hdl hi0 hz0 hz1 hz2 hz3 hn
 go_wp2_with fail
 go_loopg [18] n (fun r i wr => ∃ j : Nat, j + r = n ∧ i = .int .i64 j ∧ Wc w0 wr ((p.D, p.box (.slice A n cc) d.act) :: (p.s, flat (Dk.over d.safe (d.held.take j))) :: (p.n, flat d.now) :: (p.f, bls d.faults) :: c.L) (⟨158, 65, .slice A n cc, n, heldV d.held⟩ :: c.G) c.F)
 case atStart => exact ⟨0, by omega, rfl, by have := HM.out; rw [show d.act.held.length = n from HL.out] at this; exact this⟩
 obtain ⟨j, hj, rfl, hw⟩ := hrel
 have HW := hH hw
 clear hw c2
 by_cases hlt : j < n
 ·have hjl : j < d.held.length := by rw [HL.out]; exact hlt
  have hok := H.out.ok.h d.held[j] (List.getElem_mem _)
  obtain ⟨A', c', hv, _, _, hcl, _⟩ := (HW.out.gath (x := ⟨158, 65, .slice A n cc, n, heldV d.held⟩) List.mem_cons_self).form (by show 0 < 65; omega)
  injection hv with e1 e2 e3
  subst e1 e3
  obtain ⟨g, rfl, _, _, hcells⟩ := hcl (by show 0 < n; omega)
  have hcut := heldV_cut d.held (fun x hx => (H.out.ok.h x hx).2) j hjl
  have hrg : wr.rangeAt g (65 * j) (.int .i64 (d.held[j].1 : Int) :: bvs d.held[j].2) := by
   rw [← hcut]
   intro q u hu
   rw [List.getElem?_take] at hu
   split at hu
   ·rw [List.getElem?_drop] at hu
    exact hcells _ _ hu
   cases hu
  have hov := Dk.over_take d.safe d.held j hjl
  have HOV := hH hov
  obtain ⟨x, hx⟩ : ∃ x, d.held[j].1 = x := ⟨_, rfl⟩
  obtain ⟨b, hb⟩ : ∃ b, d.held[j].2 = b := ⟨_, rfl⟩
  rw [hx, hb] at hrg hok HOV
  obtain ⟨hxN, hbl⟩ := hok
  have hxp : x < p.N := by rw [← HN.out]; exact hxN
  have HBL := hH hbl
  have HRG := hH hrg
  have hlen65 : (Value.int .i64 (x : Int) :: bvs b).length = 65 := by simp [hbl]
  have HL65 := hH hlen65
  have hone : ∀ u ∈ (Value.int .i64 (x : Int) :: bvs b), u.oneCell' = true := by
   intro u hu
   rcases List.mem_cons.1 hu with rfl | hu
   ·rfl
   exact bvs_one _ u hu
  have HON := hH hone
  have h64 : ∀ q ∈ Dk.over d.safe (d.held.take j), q.length = 64 := Dk.over_64 _ _ H.out.ok.s (fun q hq => (H.out.ok.h q (List.mem_of_mem_take hq)).2)
  have hfl := flat_length _ h64
  have hfs := flat_set _ h64 x b (by rw [Dk.over_length]; exact hxN) hbl
  rw [Dk.over_length, HN.out] at hfl
  have HFL := hH hfl
  have HFS := hH hfs
  generalize Dk.over d.safe (d.held.take j) = SS at *
  have hlt2 : (j : Int) < (n : Int) := by omega
  clear hx hb hcut hcells hcl hrg hov hbl hlen65 hone h64 hfl hfs hxN hjl
  go_upto_region 8 with (fail)
  refine wp_region_lit ?_
  refine wpList_value rfl _ (exec_index rfl rfl rfl (idx_write g n cc j hlt _)) ?_
  simp only [Act.put, List.setIfInBounds_toArray, List.set_cons_zero, List.set_cons_succ]
  refine wpList_value rfl _ (exec_load rfl rfl (load_write HL65.out HRG.out)) ?_
  simp only [Act.put, List.setIfInBounds_toArray, List.set_cons_zero, List.set_cons_succ]
  refine wpList_value rfl _ (exec_alloc rfl HI0.out HZ0.out) ?_
  simp only [Act.put, List.setIfInBounds_toArray, List.set_cons_zero, List.set_cons_succ]
  have HA := hH (HW.out.newB z0.cells 158 rfl)
  generalize wr.alloc (.cells z0.cells 158) = w4 at *
  generalize wr.heap.size = fb at *
  refine wpList_store_part rfl 158 (.tmp 5) (.tmp 21) rfl fb 0 z0.cells.toList (.int .i64 (x : Int) :: bvs b) (by rw [HL65.out]; exact size_write) rfl rfl (HA.out.boxi 0 rfl) (by rw [HL65.out, Array.length_toList, HZ3.out]; omega) HON.out ?_
  intro w5 ho5 hO5
  have e5 : z0.cells.toList.take 0 ++ (Value.int .i64 (x : Int) :: bvs b) ++ z0.cells.toList.drop (0 + (Value.int .i64 (x : Int) :: bvs b).length) = .int .i64 (x : Int) :: bvs b := by
   rw [List.take_zero, List.nil_append, List.drop_of_length_le (by rw [HL65.out, Array.length_toList, HZ3.out]; omega), List.append_nil]
  rw [e5] at ho5
  have HB := hH (HA.out.call1 0 rfl ho5 hO5).drew
  clear HA HRG ho5 hO5 e5 HZ0 HI0
  simp only [List.set_cons_zero] at HB
  simp only [Act.put, List.setIfInBounds_toArray, List.set_cons_zero, List.set_cons_succ]
  go_wp2_with fail
  refine wp_region_held_drew (S := fun w' => w'.cell? ⟨p.D, 0, none⟩ = some (.slice (some ⟨p.s, 0, none⟩) p.N p.cs) ∧ w'.cell? ⟨fb, 0, none⟩ = some (.int .i64 (x : Int)) ∧ Kn.Own w' fb (.int .i64 (x : Int) :: bvs b)) (by kernel_rfl) ⟨by simpa [PD.box] using (HB.out.boxi 1 (p := p.D) rfl).cell 0 (by simp [PD.box]), (HB.out.boxi 0 rfl).cell 0 (by simp), HB.out.boxi 0 rfl⟩ (fun hSw0 => ?_)
  generalize w5.drew = ws at *
  refine tS 0 22 ?_
  refine tS 1 23 ?_
  refine tS 2 24 ?_
  refine tS 3 25 ?_
  refine tS 4 26 ?_
  refine tS 5 27 ?_
  refine tS 6 28 ?_
  refine tS 7 29 (v := (.agg (bvs b).toArray)) (hy := fun w hSw => by
   have hr := hSw.2.2.range 1 64
   rw [show ((Value.int .i64 (x : Int) :: bvs b).drop 1).take 64 = bvs b from List.take_of_length_le (by simp [HBL.out])] at hr
   exact exec_load rfl rfl (load_block_at (by simp [HBL.out]) hr)) ?_
  refine tS 8 30 (v := (.pointer (some ⟨p.s, 64 * x, none⟩))) (hy := fun w hSw => by
   exact exec_index rfl rfl rfl (idx_block p.s p.N p.cs x hxp w)) ?_
  refine Kn.takeR 9 ⟨none, _, _, _, _, _⟩ fun K hK => ?_
  refine step_store_part rfl 156 (.tmp 30) (.tmp 29) rfl p.s (64 * x) (flat SS) (bvs b) (by rw [bvs_length, HBL.out]; exact size_block) rfl rfl (HB.out.boxi 2 rfl) (by rw [bvs_length, HBL.out, HFL.out]; omega) (bvs_one _) ?_
  intro w6 hown hO6
  rw [bvs_length, HBL.out, ← HFS.out, ← HOV.out] at hown
  have HZ := hH (HB.out.call1 2 rfl hown hO6)
  clear hown hO6 HB
  simp only [List.set_cons_zero, List.set_cons_succ] at HZ
  refine hK.out _ _ ⟨by simpa [PD.box] using (HZ.out.boxi 1 (p := p.D) rfl).cell 0 (by simp [PD.box]), (HZ.out.boxi 0 rfl).cell 0 (by simp), HZ.out.boxi 0 rfl⟩ (fun hSn => ?_)
  clear hK K hSw0 hSn
  refine tD ?_ _
  have HE := hH (HZ.out.ldrop)
  clear HZ
  go_wp2_with fail
  go_roundg (gk - 1)
  case measure => omega
  case rel => exact ⟨j + 1, by omega, by go_num, HE.out⟩
 obtain rfl : j = n := by omega
 have hw := HW.out
 rw [List.take_of_length_le (by rw [HL.out]; omega)] at hw
 have HE := hH (H.out.flushMk (v := .slice A j cc) (by rw [HL.out]; exact hw))
 have y2 := (hw.boxi 0 (p := p.D) rfl).cell 2 (by simp [PD.box])
 simp only [PD.box, g0, gs] at y2
 have f2 := (hw.boxi 0 (p := p.D) rfl).frozen 2
 clear hw
 go_wp2
 go_ret
 exact ⟨rfl, HE.out⟩
end Go.Proofs.YtgcfdjcpcclcjaaGreat
namespace Go.Kn
open Go Go.RowKit
def zero64 : List UInt8 := List.replicate 64 0
theorem flat_zero (n : Nat) : flat (List.replicate n zero64) = List.replicate (n * 64) (.int .u8 0) := by
 induction n with
 | zero => rfl
 | succ n ih =>
  have e : flat (List.replicate (n + 1) zero64) = bvs zero64 ++ flat (List.replicate n zero64) := by rw [List.replicate_succ]; simp [flat]
  rw [e, ih, show (n + 1) * 64 = 64 + n * 64 from by omega, ← List.replicate_append_replicate]
  congr 1
theorem madeCells_rep (v : Value) (m n : Nat) (hm : 0 < m) : madeCells (List.replicate m v).toArray n = (List.replicate n v).toArray := by
 apply Array.ext
 ·simp [madeCells]
 intro i h1 h2
 have hlt : i % m < m := Nat.mod_lt _ hm
 simp [madeCells, hlt]
theorem bls_zero (n : Nat) : bls (List.replicate n false) = List.replicate n (.bool false) := by simp [bls]
theorem Wc.gbox {w0 w : World} {L : List (Nat × List Value)} {G : List Gs} {F : List (World → Prop)} {e sz n g c : Nat} {xs : List Value} (h : Wc w0 w L (⟨e, sz, .slice (some ⟨g, 0, none⟩) n c, n, xs⟩ :: G) F) : Wc w0 w ((g, xs) :: L) G F := by
 have hg := h.gi 0 rfl
 have hob : (Value.slice (some (⟨g, 0, none⟩ : Addr)) n c).ownBlock = some g := rfl
 have hlt := hg.lt g hob
 have hmut : ∀ k, Mut ((g, xs) :: L) G k ↔ Mut L (⟨e, sz, .slice (some ⟨g, 0, none⟩) n c, n, xs⟩ :: G) k := by
  intro k
  unfold Mut
  constructor
  ·rintro (hk | ⟨x, hx, hk⟩)
   ·rcases List.mem_cons.1 hk with rfl | hk
    ·exact .inr ⟨_, List.mem_cons_self, hob⟩
    exact .inl hk
   exact .inr ⟨x, mc _ hx, hk⟩
  rintro (hk | ⟨x, hx, hk⟩)
  ·exact .inl (mc _ hk)
  rcases List.mem_cons.1 hx with rfl | hx
  ·rw [hob] at hk
   injection hk with hk
   subst hk
   exact .inl List.mem_cons_self
  exact .inr ⟨x, hx, hk⟩
 refine ⟨h.only, ?_, ?_, ?_, fun x hx => h.g1 x (mc _ hx), (List.pairwise_cons.1 h.g2).2, ?_, ?_⟩
 ·intro x hx
  rcases List.mem_cons.1 hx with rfl | hx
  ·rcases hg.2 with ⟨hv, _⟩ | ⟨g', cap, cur, hv, hb, hh, hn, hm, hs, ht⟩
   ·cases hv
   injection hv with e1 e2 e3
   injection e1 with e1
   injection e1 with e1
   subst e1
   exact ⟨cur, e, hh, by rw [hg.1]; exact ht⟩
  exact h.own x hx
 ·intro x hx
  rcases List.mem_cons.1 hx with rfl | hx
  ·exact hlt.1
  exact h.lo x hx
 ·rw [List.map_cons, List.nodup_cons]
  refine ⟨fun hm => ?_, h.nd⟩
  obtain ⟨x, hx, e1⟩ := List.mem_map.1 hm
  refine h.g3 x hx _ List.mem_cons_self ?_
  rw [hob, e1]
 ·intro x hx y hy
  rcases List.mem_cons.1 hx with rfl | hx
  ·exact fun hk => (List.pairwise_cons.1 h.g2).1 y hy g hob hk
  exact h.g3 x hx y (mc _ hy)
 intro f hf w2 h2
 exact h.fx f hf w2 fun k o hm hk hc => h2 k o (fun h3 => hm ((hmut k).1 h3)) hk hc
end Go.Kn
namespace Go.Proofs.YtgcfdjcpcclcjaaGreat
open Go Go.RowKit Go.Kn
theorem infoBlockZ : (Tryz.prog.info? 156).map (fun i => (i.zero.map (·.cells), i.size, i.bytes)) = some (some (List.replicate 64 (Value.int .u8 0)).toArray, 64, 64) := by kernel_rfl
theorem infoBoolZ : (Tryz.prog.info? 4).map (fun i => (i.zero, i.size, i.bytes)) = some (some (.bool false), 1, 1) := by kernel_rfl
theorem make_block (n : Nat) (hn : n ≤ 4096) (w : World) : (Instr.makeSlice 150 (.int .i64 n) (.int .i64 n)).run Tryz.prog w = .ok (.slice (some ⟨w.heap.size, 0, none⟩) n n) (w.alloc (.cells (flat (List.replicate n zero64)).toArray 156)) := by
 have hq := infoBlockZ
 cases hi : Tryz.prog.info? 156 with
 | none => simp [hi] at hq
 | some ie =>
  cases hz : ie.zero with
  | none => simp [hi, hz] at hq
  | some z =>
   simp only [hi, hz, Option.map_some, Option.some.injEq, Prod.mk.injEq] at hq
   obtain ⟨q1, q2, q3⟩ := hq
   have h := run_make (P := Tryz.prog) w 150 156 ie z Tryz.underlying150 hi hz .i64 .i64 n n (by omega) (by omega) (by rw [q3]; omega) (by omega)
   rw [h, q1, q2, madeCells_rep _ _ _ (by omega), flat_zero]
   rfl
theorem make_bools (n : Nat) (hn : n ≤ 4096) (w : World) : (Instr.makeSlice 107 (.int .i64 n) (.int .i64 n)).run Tryz.prog w = .ok (.slice (some ⟨w.heap.size, 0, none⟩) n n) (w.alloc (.cells (bls (List.replicate n false)).toArray 4)) := by
 obtain ⟨i0, hi, hz0, hz1, hz2⟩ := info_parts infoBoolZ
 have h := run_make (P := Tryz.prog) w 107 4 i0 (.bool false) Tryz.underlying107 hi hz0 .i64 .i64 n n (by omega) (by omega) (by rw [hz2]; omega) (by omega)
 have e := madeCells_rep (.bool false) 1 n (by omega)
 rw [h, hz1, bls_zero, Nat.mul_one]
 show Result.ok _ (w.alloc (.cells (madeCells (List.replicate 1 (Value.bool false)).toArray _) _)) = _
 rw [madeCells_rep _ _ _ (by omega)]
 rfl
/-- what makes the program's disk -/
def NewP (n : Nat) (w : World) (e : Ending) (w' : World) : Prop := ∃ p : PD, e = .returned (.tuple #[.pointer (some ⟨p.D, 0, none⟩), .int .i64 0]) ∧ p.N = n ∧ Only [] w w' ∧ ∀ (w0 : World) (c : Fr3), Wc w0 w c.L c.G c.F → Dsk w0 w' p (Dk.new n) c
theorem NewP.mk {n D s nn f : Nat} {w w' : World} (h1 : 1 ≤ n) (h2 : n ≤ 4096) (hO : Only [] w w') (hl : n ≤ 4096)
  (h : ∀ (w0 : World) (c : Fr3), Wc w0 w c.L c.G c.F → Wc w0 w' ((D, [.slice (some ⟨s, 0, none⟩) n n, .slice (some ⟨nn, 0, none⟩) n n, .slice none 0 0, .slice (some ⟨f, 0, none⟩) n n, .int .i64 (-1), .int .i64 0, .bool false]) :: (s, flat (List.replicate n zero64)) :: (nn, flat (List.replicate n zero64)) :: (f, bls (List.replicate n false)) :: c.L) c.G c.F) :
  NewP n w (.returned (.tuple #[.pointer (some ⟨D, 0, none⟩), .int .i64 0])) w' :=
 ⟨⟨D, s, nn, f, n, n, n, n⟩, rfl, rfl, hO, fun w0 c hc => ⟨Dk.new_ok h1 h2, by simp [Dk.new], Nat.le_refl _, Nat.le_refl _, Nat.le_refl _, .slice none 0 0, (h w0 c hc).gnew _ _⟩⟩
theorem dk_new_any (n : Nat) (w : World) (h1 : 1 ≤ n) (h2 : n ≤ 4096) : Calls Tryz.prog 141 #[.int .i64 (n : Int)] w (NewP n w) := by
 obtain ⟨ZB, hZB⟩ : ∃ z, (flat (List.replicate n zero64)) = z := ⟨_, rfl⟩
 obtain ⟨ZF, hZF⟩ : ∃ z, (bls (List.replicate n false)) = z := ⟨_, rfl⟩
 have hmb := make_block n h2
 have hmf := make_bools n h2
 rw [hZB] at hmb
 rw [hZF] at hmf
 have HMB := hH hmb
 have HMF := hH hmf
 have HZB := hH hZB
 have HZF := hH hZF
 clear hmb hmf hZB hZF
 have HD0 : Hid (∀ (w0 : World) (c : Fr3), Wc w0 w c.L c.G c.F → Wc w0 w.drew c.L c.G c.F) := hH (fun w0 c h => h.drew)
 have HO0 := hH (Only.refl [] w).drew
 go_enter Tryz.func141, Tryz.ntmps141
 go_wp2_with fail
 refine wp_region_held_drew (S := fun _ => True) (by kernel_rfl) trivial (fun hSw0 => ?_)
 generalize w.drew = ws at *
 refine tS 0 10 ?_
 refine tS 2 12 ?_
 refine tS 4 14 ?_
 refine wpAnyH_ready (rs := [1, 3, 5]) (by kernel_rfl) (by simp) ?_
 refine AllReadyH.cons (o := ⟨some 11, _, _, _, _, _⟩) rfl (fun K hK => ?_) ?_
 ·have hmk := HMB.out
  go_simp
  clear hmk
  have HD1 : Hid (∀ (w0 : World) (c : Fr3), Wc w0 w c.L c.G c.F → Wc w0 (ws.alloc (.cells ZB.toArray 156)) ((ws.heap.size, ZB) :: c.L) c.G c.F) := hH (fun w0 c h => (HD0.out w0 c h).newB ZB.toArray 156 rfl)
  have HO1 := hH (HO0.out.alloc (.cells ZB.toArray 156))
  generalize hzs : ws.heap.size = bs at *
  clear hzs
  clear HD0 HO0
  generalize ws.alloc (.cells ZB.toArray 156) = wa at *
  clear ws
  obtain ⟨ws, rfl⟩ : ∃ x, x = wa := ⟨_, rfl⟩
  refine hK.out _ _ trivial (fun hSn => ?_)
  clear hK K hSw0
  have hSw0 := hSn
  clear hSn
  refine wpAnyH_ready (rs := [3, 5]) (by kernel_rfl) (by simp) ?_
  refine AllReadyH.cons (o := ⟨some 13, _, _, _, _, _⟩) rfl (fun K hK => ?_) ?_
  ·have hmk := HMB.out
   go_simp
   clear hmk
   have HD2 : Hid (∀ (w0 : World) (c : Fr3), Wc w0 w c.L c.G c.F → Wc w0 (ws.alloc (.cells ZB.toArray 156)) ((ws.heap.size, ZB) :: (bs, ZB) :: c.L) c.G c.F) := hH (fun w0 c h => (HD1.out w0 c h).newB ZB.toArray 156 rfl)
   have HO2 := hH (HO1.out.alloc (.cells ZB.toArray 156))
   generalize hzn : ws.heap.size = bn at *
   clear hzn
   clear HD1 HO1
   generalize ws.alloc (.cells ZB.toArray 156) = wa at *
   clear ws
   obtain ⟨ws, rfl⟩ : ∃ x, x = wa := ⟨_, rfl⟩
   refine hK.out _ _ trivial (fun hSn => ?_)
   clear hK K hSw0
   have hSw0 := hSn
   clear hSn
   refine tR 5 15 fun K hK => ?_
   have hmk := HMF.out
   go_simp
   clear hmk
   have HD3 : Hid (∀ (w0 : World) (c : Fr3), Wc w0 w c.L c.G c.F → Wc w0 (ws.alloc (.cells ZF.toArray 4)) ((ws.heap.size, ZF) :: (bn, ZB) :: (bs, ZB) :: c.L) c.G c.F) := hH (fun w0 c h => (HD2.out w0 c h).newB ZF.toArray 4 rfl)
   have HO3 := hH (HO2.out.alloc (.cells ZF.toArray 4))
   generalize hzf : ws.heap.size = bf at *
   clear hzf
   clear HD2 HO2
   generalize ws.alloc (.cells ZF.toArray 4) = wa at *
   clear ws
   obtain ⟨ws, rfl⟩ : ∃ x, x = wa := ⟨_, rfl⟩
   refine hK.out _ _ trivial (fun hSn => ?_)
   clear hK K hSw0
   have hSw0 := hSn
   clear hSn
   refine tS 6 16 ?_
   refine tR 7 17 fun K hK => ?_
   go_simp
   have HD4 : Hid (∀ (w0 : World) (c : Fr3), Wc w0 w c.L c.G c.F → Wc w0 (ws.alloc (.cells #[.slice (some ⟨bs, 0, none⟩) n n, .slice (some ⟨bn, 0, none⟩) n n, .slice none 0 0, .slice (some ⟨bf, 0, none⟩) n n, .int .i64 (-1), .int .i64 0, .bool false] 153)) ((ws.heap.size, [.slice (some ⟨bs, 0, none⟩) n n, .slice (some ⟨bn, 0, none⟩) n n, .slice none 0 0, .slice (some ⟨bf, 0, none⟩) n n, .int .i64 (-1), .int .i64 0, .bool false]) :: (bf, ZF) :: (bn, ZB) :: (bs, ZB) :: c.L) c.G c.F) := hH (fun w0 c h => (HD3.out w0 c h).newB #[.slice (some ⟨bs, 0, none⟩) n n, .slice (some ⟨bn, 0, none⟩) n n, .slice none 0 0, .slice (some ⟨bf, 0, none⟩) n n, .int .i64 (-1), .int .i64 0, .bool false] 153 rfl)
   have HO4 := hH (HO3.out.alloc (.cells #[.slice (some ⟨bs, 0, none⟩) n n, .slice (some ⟨bn, 0, none⟩) n n, .slice none 0 0, .slice (some ⟨bf, 0, none⟩) n n, .int .i64 (-1), .int .i64 0, .bool false] 153))
   generalize hzD : ws.heap.size = bD at *
   clear hzD
   clear HD3 HO3
   generalize ws.alloc (.cells #[.slice (some ⟨bs, 0, none⟩) n n, .slice (some ⟨bn, 0, none⟩) n n, .slice none 0 0, .slice (some ⟨bf, 0, none⟩) n n, .int .i64 (-1), .int .i64 0, .bool false] 153) = wa at *
   clear ws
   obtain ⟨ws, rfl⟩ : ∃ x, x = wa := ⟨_, rfl⟩
   refine hK.out _ _ trivial (fun hSn => ?_)
   clear hK K hSw0
   have hSw0 := hSn
   clear hSn
   refine tS 8 2 ?_
   refine tS 9 3 ?_
   refine tD ?_ _
   clear hSw0
   go_wp2
   go_ret2
   refine NewP.mk (s := bs) (nn := bn) (f := bf) h1 h2 HO4.out h2 (fun w0 c hc => ?_)
   rw [HZB.out, HZF.out]
   exact (HD4.out w0 c hc).perm ((((List.Perm.refl _).trans ((List.Perm.swap _ _ _).cons _)).trans (((List.Perm.swap _ _ _).cons _).cons _)).trans ((List.Perm.swap _ _ _).cons _)) (List.Perm.refl _)
  refine AllReadyH.cons (o := ⟨some 15, _, _, _, _, _⟩) rfl (fun K hK => ?_) ?_
  ·have hmk := HMF.out
   go_simp
   clear hmk
   have HD2 : Hid (∀ (w0 : World) (c : Fr3), Wc w0 w c.L c.G c.F → Wc w0 (ws.alloc (.cells ZF.toArray 4)) ((ws.heap.size, ZF) :: (bs, ZB) :: c.L) c.G c.F) := hH (fun w0 c h => (HD1.out w0 c h).newB ZF.toArray 4 rfl)
   have HO2 := hH (HO1.out.alloc (.cells ZF.toArray 4))
   generalize hzf : ws.heap.size = bf at *
   clear hzf
   clear HD1 HO1
   generalize ws.alloc (.cells ZF.toArray 4) = wa at *
   clear ws
   obtain ⟨ws, rfl⟩ : ∃ x, x = wa := ⟨_, rfl⟩
   refine hK.out _ _ trivial (fun hSn => ?_)
   clear hK K hSw0
   have hSw0 := hSn
   clear hSn
   refine tR 3 13 fun K hK => ?_
   have hmk := HMB.out
   go_simp
   clear hmk
   have HD3 : Hid (∀ (w0 : World) (c : Fr3), Wc w0 w c.L c.G c.F → Wc w0 (ws.alloc (.cells ZB.toArray 156)) ((ws.heap.size, ZB) :: (bf, ZF) :: (bs, ZB) :: c.L) c.G c.F) := hH (fun w0 c h => (HD2.out w0 c h).newB ZB.toArray 156 rfl)
   have HO3 := hH (HO2.out.alloc (.cells ZB.toArray 156))
   generalize hzn : ws.heap.size = bn at *
   clear hzn
   clear HD2 HO2
   generalize ws.alloc (.cells ZB.toArray 156) = wa at *
   clear ws
   obtain ⟨ws, rfl⟩ : ∃ x, x = wa := ⟨_, rfl⟩
   refine hK.out _ _ trivial (fun hSn => ?_)
   clear hK K hSw0
   have hSw0 := hSn
   clear hSn
   refine tS 6 16 ?_
   refine tR 7 17 fun K hK => ?_
   go_simp
   have HD4 : Hid (∀ (w0 : World) (c : Fr3), Wc w0 w c.L c.G c.F → Wc w0 (ws.alloc (.cells #[.slice (some ⟨bs, 0, none⟩) n n, .slice (some ⟨bn, 0, none⟩) n n, .slice none 0 0, .slice (some ⟨bf, 0, none⟩) n n, .int .i64 (-1), .int .i64 0, .bool false] 153)) ((ws.heap.size, [.slice (some ⟨bs, 0, none⟩) n n, .slice (some ⟨bn, 0, none⟩) n n, .slice none 0 0, .slice (some ⟨bf, 0, none⟩) n n, .int .i64 (-1), .int .i64 0, .bool false]) :: (bn, ZB) :: (bf, ZF) :: (bs, ZB) :: c.L) c.G c.F) := hH (fun w0 c h => (HD3.out w0 c h).newB #[.slice (some ⟨bs, 0, none⟩) n n, .slice (some ⟨bn, 0, none⟩) n n, .slice none 0 0, .slice (some ⟨bf, 0, none⟩) n n, .int .i64 (-1), .int .i64 0, .bool false] 153 rfl)
   have HO4 := hH (HO3.out.alloc (.cells #[.slice (some ⟨bs, 0, none⟩) n n, .slice (some ⟨bn, 0, none⟩) n n, .slice none 0 0, .slice (some ⟨bf, 0, none⟩) n n, .int .i64 (-1), .int .i64 0, .bool false] 153))
   generalize hzD : ws.heap.size = bD at *
   clear hzD
   clear HD3 HO3
   generalize ws.alloc (.cells #[.slice (some ⟨bs, 0, none⟩) n n, .slice (some ⟨bn, 0, none⟩) n n, .slice none 0 0, .slice (some ⟨bf, 0, none⟩) n n, .int .i64 (-1), .int .i64 0, .bool false] 153) = wa at *
   clear ws
   obtain ⟨ws, rfl⟩ : ∃ x, x = wa := ⟨_, rfl⟩
   refine hK.out _ _ trivial (fun hSn => ?_)
   clear hK K hSw0
   have hSw0 := hSn
   clear hSn
   refine tS 8 2 ?_
   refine tS 9 3 ?_
   refine tD ?_ _
   clear hSw0
   go_wp2
   go_ret2
   refine NewP.mk (s := bs) (nn := bn) (f := bf) h1 h2 HO4.out h2 (fun w0 c hc => ?_)
   rw [HZB.out, HZF.out]
   exact (HD4.out w0 c hc).perm (((List.Perm.refl _).trans (((List.Perm.swap _ _ _).cons _).cons _)).trans ((List.Perm.swap _ _ _).cons _)) (List.Perm.refl _)
  exact AllReadyH.nil
 refine AllReadyH.cons (o := ⟨some 13, _, _, _, _, _⟩) rfl (fun K hK => ?_) ?_
 ·have hmk := HMB.out
  go_simp
  clear hmk
  have HD1 : Hid (∀ (w0 : World) (c : Fr3), Wc w0 w c.L c.G c.F → Wc w0 (ws.alloc (.cells ZB.toArray 156)) ((ws.heap.size, ZB) :: c.L) c.G c.F) := hH (fun w0 c h => (HD0.out w0 c h).newB ZB.toArray 156 rfl)
  have HO1 := hH (HO0.out.alloc (.cells ZB.toArray 156))
  generalize hzn : ws.heap.size = bn at *
  clear hzn
  clear HD0 HO0
  generalize ws.alloc (.cells ZB.toArray 156) = wa at *
  clear ws
  obtain ⟨ws, rfl⟩ : ∃ x, x = wa := ⟨_, rfl⟩
  refine hK.out _ _ trivial (fun hSn => ?_)
  clear hK K hSw0
  have hSw0 := hSn
  clear hSn
  refine wpAnyH_ready (rs := [1, 5]) (by kernel_rfl) (by simp) ?_
  refine AllReadyH.cons (o := ⟨some 11, _, _, _, _, _⟩) rfl (fun K hK => ?_) ?_
  ·have hmk := HMB.out
   go_simp
   clear hmk
   have HD2 : Hid (∀ (w0 : World) (c : Fr3), Wc w0 w c.L c.G c.F → Wc w0 (ws.alloc (.cells ZB.toArray 156)) ((ws.heap.size, ZB) :: (bn, ZB) :: c.L) c.G c.F) := hH (fun w0 c h => (HD1.out w0 c h).newB ZB.toArray 156 rfl)
   have HO2 := hH (HO1.out.alloc (.cells ZB.toArray 156))
   generalize hzs : ws.heap.size = bs at *
   clear hzs
   clear HD1 HO1
   generalize ws.alloc (.cells ZB.toArray 156) = wa at *
   clear ws
   obtain ⟨ws, rfl⟩ : ∃ x, x = wa := ⟨_, rfl⟩
   refine hK.out _ _ trivial (fun hSn => ?_)
   clear hK K hSw0
   have hSw0 := hSn
   clear hSn
   refine tR 5 15 fun K hK => ?_
   have hmk := HMF.out
   go_simp
   clear hmk
   have HD3 : Hid (∀ (w0 : World) (c : Fr3), Wc w0 w c.L c.G c.F → Wc w0 (ws.alloc (.cells ZF.toArray 4)) ((ws.heap.size, ZF) :: (bs, ZB) :: (bn, ZB) :: c.L) c.G c.F) := hH (fun w0 c h => (HD2.out w0 c h).newB ZF.toArray 4 rfl)
   have HO3 := hH (HO2.out.alloc (.cells ZF.toArray 4))
   generalize hzf : ws.heap.size = bf at *
   clear hzf
   clear HD2 HO2
   generalize ws.alloc (.cells ZF.toArray 4) = wa at *
   clear ws
   obtain ⟨ws, rfl⟩ : ∃ x, x = wa := ⟨_, rfl⟩
   refine hK.out _ _ trivial (fun hSn => ?_)
   clear hK K hSw0
   have hSw0 := hSn
   clear hSn
   refine tS 6 16 ?_
   refine tR 7 17 fun K hK => ?_
   go_simp
   have HD4 : Hid (∀ (w0 : World) (c : Fr3), Wc w0 w c.L c.G c.F → Wc w0 (ws.alloc (.cells #[.slice (some ⟨bs, 0, none⟩) n n, .slice (some ⟨bn, 0, none⟩) n n, .slice none 0 0, .slice (some ⟨bf, 0, none⟩) n n, .int .i64 (-1), .int .i64 0, .bool false] 153)) ((ws.heap.size, [.slice (some ⟨bs, 0, none⟩) n n, .slice (some ⟨bn, 0, none⟩) n n, .slice none 0 0, .slice (some ⟨bf, 0, none⟩) n n, .int .i64 (-1), .int .i64 0, .bool false]) :: (bf, ZF) :: (bs, ZB) :: (bn, ZB) :: c.L) c.G c.F) := hH (fun w0 c h => (HD3.out w0 c h).newB #[.slice (some ⟨bs, 0, none⟩) n n, .slice (some ⟨bn, 0, none⟩) n n, .slice none 0 0, .slice (some ⟨bf, 0, none⟩) n n, .int .i64 (-1), .int .i64 0, .bool false] 153 rfl)
   have HO4 := hH (HO3.out.alloc (.cells #[.slice (some ⟨bs, 0, none⟩) n n, .slice (some ⟨bn, 0, none⟩) n n, .slice none 0 0, .slice (some ⟨bf, 0, none⟩) n n, .int .i64 (-1), .int .i64 0, .bool false] 153))
   generalize hzD : ws.heap.size = bD at *
   clear hzD
   clear HD3 HO3
   generalize ws.alloc (.cells #[.slice (some ⟨bs, 0, none⟩) n n, .slice (some ⟨bn, 0, none⟩) n n, .slice none 0 0, .slice (some ⟨bf, 0, none⟩) n n, .int .i64 (-1), .int .i64 0, .bool false] 153) = wa at *
   clear ws
   obtain ⟨ws, rfl⟩ : ∃ x, x = wa := ⟨_, rfl⟩
   refine hK.out _ _ trivial (fun hSn => ?_)
   clear hK K hSw0
   have hSw0 := hSn
   clear hSn
   refine tS 8 2 ?_
   refine tS 9 3 ?_
   refine tD ?_ _
   clear hSw0
   go_wp2
   go_ret2
   refine NewP.mk (s := bs) (nn := bn) (f := bf) h1 h2 HO4.out h2 (fun w0 c hc => ?_)
   rw [HZB.out, HZF.out]
   exact (HD4.out w0 c hc).perm (((List.Perm.refl _).trans ((List.Perm.swap _ _ _).cons _)).trans (((List.Perm.swap _ _ _).cons _).cons _)) (List.Perm.refl _)
  refine AllReadyH.cons (o := ⟨some 15, _, _, _, _, _⟩) rfl (fun K hK => ?_) ?_
  ·have hmk := HMF.out
   go_simp
   clear hmk
   have HD2 : Hid (∀ (w0 : World) (c : Fr3), Wc w0 w c.L c.G c.F → Wc w0 (ws.alloc (.cells ZF.toArray 4)) ((ws.heap.size, ZF) :: (bn, ZB) :: c.L) c.G c.F) := hH (fun w0 c h => (HD1.out w0 c h).newB ZF.toArray 4 rfl)
   have HO2 := hH (HO1.out.alloc (.cells ZF.toArray 4))
   generalize hzf : ws.heap.size = bf at *
   clear hzf
   clear HD1 HO1
   generalize ws.alloc (.cells ZF.toArray 4) = wa at *
   clear ws
   obtain ⟨ws, rfl⟩ : ∃ x, x = wa := ⟨_, rfl⟩
   refine hK.out _ _ trivial (fun hSn => ?_)
   clear hK K hSw0
   have hSw0 := hSn
   clear hSn
   refine tR 1 11 fun K hK => ?_
   have hmk := HMB.out
   go_simp
   clear hmk
   have HD3 : Hid (∀ (w0 : World) (c : Fr3), Wc w0 w c.L c.G c.F → Wc w0 (ws.alloc (.cells ZB.toArray 156)) ((ws.heap.size, ZB) :: (bf, ZF) :: (bn, ZB) :: c.L) c.G c.F) := hH (fun w0 c h => (HD2.out w0 c h).newB ZB.toArray 156 rfl)
   have HO3 := hH (HO2.out.alloc (.cells ZB.toArray 156))
   generalize hzs : ws.heap.size = bs at *
   clear hzs
   clear HD2 HO2
   generalize ws.alloc (.cells ZB.toArray 156) = wa at *
   clear ws
   obtain ⟨ws, rfl⟩ : ∃ x, x = wa := ⟨_, rfl⟩
   refine hK.out _ _ trivial (fun hSn => ?_)
   clear hK K hSw0
   have hSw0 := hSn
   clear hSn
   refine tS 6 16 ?_
   refine tR 7 17 fun K hK => ?_
   go_simp
   have HD4 : Hid (∀ (w0 : World) (c : Fr3), Wc w0 w c.L c.G c.F → Wc w0 (ws.alloc (.cells #[.slice (some ⟨bs, 0, none⟩) n n, .slice (some ⟨bn, 0, none⟩) n n, .slice none 0 0, .slice (some ⟨bf, 0, none⟩) n n, .int .i64 (-1), .int .i64 0, .bool false] 153)) ((ws.heap.size, [.slice (some ⟨bs, 0, none⟩) n n, .slice (some ⟨bn, 0, none⟩) n n, .slice none 0 0, .slice (some ⟨bf, 0, none⟩) n n, .int .i64 (-1), .int .i64 0, .bool false]) :: (bs, ZB) :: (bf, ZF) :: (bn, ZB) :: c.L) c.G c.F) := hH (fun w0 c h => (HD3.out w0 c h).newB #[.slice (some ⟨bs, 0, none⟩) n n, .slice (some ⟨bn, 0, none⟩) n n, .slice none 0 0, .slice (some ⟨bf, 0, none⟩) n n, .int .i64 (-1), .int .i64 0, .bool false] 153 rfl)
   have HO4 := hH (HO3.out.alloc (.cells #[.slice (some ⟨bs, 0, none⟩) n n, .slice (some ⟨bn, 0, none⟩) n n, .slice none 0 0, .slice (some ⟨bf, 0, none⟩) n n, .int .i64 (-1), .int .i64 0, .bool false] 153))
   generalize hzD : ws.heap.size = bD at *
   clear hzD
   clear HD3 HO3
   generalize ws.alloc (.cells #[.slice (some ⟨bs, 0, none⟩) n n, .slice (some ⟨bn, 0, none⟩) n n, .slice none 0 0, .slice (some ⟨bf, 0, none⟩) n n, .int .i64 (-1), .int .i64 0, .bool false] 153) = wa at *
   clear ws
   obtain ⟨ws, rfl⟩ : ∃ x, x = wa := ⟨_, rfl⟩
   refine hK.out _ _ trivial (fun hSn => ?_)
   clear hK K hSw0
   have hSw0 := hSn
   clear hSn
   refine tS 8 2 ?_
   refine tS 9 3 ?_
   refine tD ?_ _
   clear hSw0
   go_wp2
   go_ret2
   refine NewP.mk (s := bs) (nn := bn) (f := bf) h1 h2 HO4.out h2 (fun w0 c hc => ?_)
   rw [HZB.out, HZF.out]
   exact (HD4.out w0 c hc).perm ((List.Perm.refl _).trans (((List.Perm.swap _ _ _).cons _).cons _)) (List.Perm.refl _)
  exact AllReadyH.nil
 refine AllReadyH.cons (o := ⟨some 15, _, _, _, _, _⟩) rfl (fun K hK => ?_) ?_
 ·have hmk := HMF.out
  go_simp
  clear hmk
  have HD1 : Hid (∀ (w0 : World) (c : Fr3), Wc w0 w c.L c.G c.F → Wc w0 (ws.alloc (.cells ZF.toArray 4)) ((ws.heap.size, ZF) :: c.L) c.G c.F) := hH (fun w0 c h => (HD0.out w0 c h).newB ZF.toArray 4 rfl)
  have HO1 := hH (HO0.out.alloc (.cells ZF.toArray 4))
  generalize hzf : ws.heap.size = bf at *
  clear hzf
  clear HD0 HO0
  generalize ws.alloc (.cells ZF.toArray 4) = wa at *
  clear ws
  obtain ⟨ws, rfl⟩ : ∃ x, x = wa := ⟨_, rfl⟩
  refine hK.out _ _ trivial (fun hSn => ?_)
  clear hK K hSw0
  have hSw0 := hSn
  clear hSn
  refine wpAnyH_ready (rs := [1, 3]) (by kernel_rfl) (by simp) ?_
  refine AllReadyH.cons (o := ⟨some 11, _, _, _, _, _⟩) rfl (fun K hK => ?_) ?_
  ·have hmk := HMB.out
   go_simp
   clear hmk
   have HD2 : Hid (∀ (w0 : World) (c : Fr3), Wc w0 w c.L c.G c.F → Wc w0 (ws.alloc (.cells ZB.toArray 156)) ((ws.heap.size, ZB) :: (bf, ZF) :: c.L) c.G c.F) := hH (fun w0 c h => (HD1.out w0 c h).newB ZB.toArray 156 rfl)
   have HO2 := hH (HO1.out.alloc (.cells ZB.toArray 156))
   generalize hzs : ws.heap.size = bs at *
   clear hzs
   clear HD1 HO1
   generalize ws.alloc (.cells ZB.toArray 156) = wa at *
   clear ws
   obtain ⟨ws, rfl⟩ : ∃ x, x = wa := ⟨_, rfl⟩
   refine hK.out _ _ trivial (fun hSn => ?_)
   clear hK K hSw0
   have hSw0 := hSn
   clear hSn
   refine tR 3 13 fun K hK => ?_
   have hmk := HMB.out
   go_simp
   clear hmk
   have HD3 : Hid (∀ (w0 : World) (c : Fr3), Wc w0 w c.L c.G c.F → Wc w0 (ws.alloc (.cells ZB.toArray 156)) ((ws.heap.size, ZB) :: (bs, ZB) :: (bf, ZF) :: c.L) c.G c.F) := hH (fun w0 c h => (HD2.out w0 c h).newB ZB.toArray 156 rfl)
   have HO3 := hH (HO2.out.alloc (.cells ZB.toArray 156))
   generalize hzn : ws.heap.size = bn at *
   clear hzn
   clear HD2 HO2
   generalize ws.alloc (.cells ZB.toArray 156) = wa at *
   clear ws
   obtain ⟨ws, rfl⟩ : ∃ x, x = wa := ⟨_, rfl⟩
   refine hK.out _ _ trivial (fun hSn => ?_)
   clear hK K hSw0
   have hSw0 := hSn
   clear hSn
   refine tS 6 16 ?_
   refine tR 7 17 fun K hK => ?_
   go_simp
   have HD4 : Hid (∀ (w0 : World) (c : Fr3), Wc w0 w c.L c.G c.F → Wc w0 (ws.alloc (.cells #[.slice (some ⟨bs, 0, none⟩) n n, .slice (some ⟨bn, 0, none⟩) n n, .slice none 0 0, .slice (some ⟨bf, 0, none⟩) n n, .int .i64 (-1), .int .i64 0, .bool false] 153)) ((ws.heap.size, [.slice (some ⟨bs, 0, none⟩) n n, .slice (some ⟨bn, 0, none⟩) n n, .slice none 0 0, .slice (some ⟨bf, 0, none⟩) n n, .int .i64 (-1), .int .i64 0, .bool false]) :: (bn, ZB) :: (bs, ZB) :: (bf, ZF) :: c.L) c.G c.F) := hH (fun w0 c h => (HD3.out w0 c h).newB #[.slice (some ⟨bs, 0, none⟩) n n, .slice (some ⟨bn, 0, none⟩) n n, .slice none 0 0, .slice (some ⟨bf, 0, none⟩) n n, .int .i64 (-1), .int .i64 0, .bool false] 153 rfl)
   have HO4 := hH (HO3.out.alloc (.cells #[.slice (some ⟨bs, 0, none⟩) n n, .slice (some ⟨bn, 0, none⟩) n n, .slice none 0 0, .slice (some ⟨bf, 0, none⟩) n n, .int .i64 (-1), .int .i64 0, .bool false] 153))
   generalize hzD : ws.heap.size = bD at *
   clear hzD
   clear HD3 HO3
   generalize ws.alloc (.cells #[.slice (some ⟨bs, 0, none⟩) n n, .slice (some ⟨bn, 0, none⟩) n n, .slice none 0 0, .slice (some ⟨bf, 0, none⟩) n n, .int .i64 (-1), .int .i64 0, .bool false] 153) = wa at *
   clear ws
   obtain ⟨ws, rfl⟩ : ∃ x, x = wa := ⟨_, rfl⟩
   refine hK.out _ _ trivial (fun hSn => ?_)
   clear hK K hSw0
   have hSw0 := hSn
   clear hSn
   refine tS 8 2 ?_
   refine tS 9 3 ?_
   refine tD ?_ _
   clear hSw0
   go_wp2
   go_ret2
   refine NewP.mk (s := bs) (nn := bn) (f := bf) h1 h2 HO4.out h2 (fun w0 c hc => ?_)
   rw [HZB.out, HZF.out]
   exact (HD4.out w0 c hc).perm ((List.Perm.refl _).trans ((List.Perm.swap _ _ _).cons _)) (List.Perm.refl _)
  refine AllReadyH.cons (o := ⟨some 13, _, _, _, _, _⟩) rfl (fun K hK => ?_) ?_
  ·have hmk := HMB.out
   go_simp
   clear hmk
   have HD2 : Hid (∀ (w0 : World) (c : Fr3), Wc w0 w c.L c.G c.F → Wc w0 (ws.alloc (.cells ZB.toArray 156)) ((ws.heap.size, ZB) :: (bf, ZF) :: c.L) c.G c.F) := hH (fun w0 c h => (HD1.out w0 c h).newB ZB.toArray 156 rfl)
   have HO2 := hH (HO1.out.alloc (.cells ZB.toArray 156))
   generalize hzn : ws.heap.size = bn at *
   clear hzn
   clear HD1 HO1
   generalize ws.alloc (.cells ZB.toArray 156) = wa at *
   clear ws
   obtain ⟨ws, rfl⟩ : ∃ x, x = wa := ⟨_, rfl⟩
   refine hK.out _ _ trivial (fun hSn => ?_)
   clear hK K hSw0
   have hSw0 := hSn
   clear hSn
   refine tR 1 11 fun K hK => ?_
   have hmk := HMB.out
   go_simp
   clear hmk
   have HD3 : Hid (∀ (w0 : World) (c : Fr3), Wc w0 w c.L c.G c.F → Wc w0 (ws.alloc (.cells ZB.toArray 156)) ((ws.heap.size, ZB) :: (bn, ZB) :: (bf, ZF) :: c.L) c.G c.F) := hH (fun w0 c h => (HD2.out w0 c h).newB ZB.toArray 156 rfl)
   have HO3 := hH (HO2.out.alloc (.cells ZB.toArray 156))
   generalize hzs : ws.heap.size = bs at *
   clear hzs
   clear HD2 HO2
   generalize ws.alloc (.cells ZB.toArray 156) = wa at *
   clear ws
   obtain ⟨ws, rfl⟩ : ∃ x, x = wa := ⟨_, rfl⟩
   refine hK.out _ _ trivial (fun hSn => ?_)
   clear hK K hSw0
   have hSw0 := hSn
   clear hSn
   refine tS 6 16 ?_
   refine tR 7 17 fun K hK => ?_
   go_simp
   have HD4 : Hid (∀ (w0 : World) (c : Fr3), Wc w0 w c.L c.G c.F → Wc w0 (ws.alloc (.cells #[.slice (some ⟨bs, 0, none⟩) n n, .slice (some ⟨bn, 0, none⟩) n n, .slice none 0 0, .slice (some ⟨bf, 0, none⟩) n n, .int .i64 (-1), .int .i64 0, .bool false] 153)) ((ws.heap.size, [.slice (some ⟨bs, 0, none⟩) n n, .slice (some ⟨bn, 0, none⟩) n n, .slice none 0 0, .slice (some ⟨bf, 0, none⟩) n n, .int .i64 (-1), .int .i64 0, .bool false]) :: (bs, ZB) :: (bn, ZB) :: (bf, ZF) :: c.L) c.G c.F) := hH (fun w0 c h => (HD3.out w0 c h).newB #[.slice (some ⟨bs, 0, none⟩) n n, .slice (some ⟨bn, 0, none⟩) n n, .slice none 0 0, .slice (some ⟨bf, 0, none⟩) n n, .int .i64 (-1), .int .i64 0, .bool false] 153 rfl)
   have HO4 := hH (HO3.out.alloc (.cells #[.slice (some ⟨bs, 0, none⟩) n n, .slice (some ⟨bn, 0, none⟩) n n, .slice none 0 0, .slice (some ⟨bf, 0, none⟩) n n, .int .i64 (-1), .int .i64 0, .bool false] 153))
   generalize hzD : ws.heap.size = bD at *
   clear hzD
   clear HD3 HO3
   generalize ws.alloc (.cells #[.slice (some ⟨bs, 0, none⟩) n n, .slice (some ⟨bn, 0, none⟩) n n, .slice none 0 0, .slice (some ⟨bf, 0, none⟩) n n, .int .i64 (-1), .int .i64 0, .bool false] 153) = wa at *
   clear ws
   obtain ⟨ws, rfl⟩ : ∃ x, x = wa := ⟨_, rfl⟩
   refine hK.out _ _ trivial (fun hSn => ?_)
   clear hK K hSw0
   have hSw0 := hSn
   clear hSn
   refine tS 8 2 ?_
   refine tS 9 3 ?_
   refine tD ?_ _
   clear hSw0
   go_wp2
   go_ret2
   refine NewP.mk (s := bs) (nn := bn) (f := bf) h1 h2 HO4.out h2 (fun w0 c hc => ?_)
   rw [HZB.out, HZF.out]
   exact (HD4.out w0 c hc).perm (List.Perm.refl _) (List.Perm.refl _)
  exact AllReadyH.nil
 exact AllReadyH.nil
end Go.Proofs.YtgcfdjcpcclcjaaGreat
namespace Go.Kn
open Go Go.RowKit
def is64 (b : List UInt8) : Bool := decide (b.length = 64)
theorem full64_eq (bl : List (List UInt8)) : full64 bl = bl.all is64 := rfl
theorem full_take {bl : List (List UInt8)} {j : Nat} (hj : j < bl.length) (h : full64 (bl.take j) = true) (hm : is64 bl[j] = true) : full64 (bl.take (j + 1)) = true := by
 rw [full64_eq] at *
 rw [List.take_succ_eq_append_getElem hj, List.all_append, h]
 simp [hm]
theorem full_no {bl : List (List UInt8)} {j : Nat} (hj : j < bl.length) (hm : is64 bl[j] = false) : full64 bl = false := by
 cases h : full64 bl with
 | false => rfl
 | true =>
  have := List.all_eq_true.1 h bl[j] (List.getElem_mem _)
  rw [show decide (bl[j].length = 64) = is64 bl[j] from rfl, hm] at this
  cases this
theorem loads_take {l : List It} {j : Nat} (hj : j < l.length) : loads (l.take (j + 1)) = loads (l.take j) + if l[j].loaded then 1 else 0 := by
 rw [List.take_succ_eq_append_getElem hj, loads_snoc]
theorem rcMay_head {r : Rc} (h : rcHeadMay r = false) : rcMay r = false := by unfold rcMay; rw [h]; rfl
theorem rcMay_its {r : Rc} {j : Nat} (hj : j < r.its.length) (h : r.its[j].may = false) : rcMay r = false := by
 have : r.its.all It.may = false := by
  cases h' : r.its.all It.may with
  | false => rfl
  | true =>
   have := List.all_eq_true.1 h' r.its[j] (List.getElem_mem _)
   rw [h] at this
   cases this
 unfold rcMay
 rw [this, Bool.false_and, Bool.and_false]
theorem rcMay_yes {r : Rc} (h : rcHeadMay r = true) (hi : r.its.all It.may = true) : rcMay r = (decide (r.bl.length = loads r.its) && full64 r.bl) := by
 unfold rcMay
 rw [h, hi]
 rfl
end Go.Kn
namespace Go.Proofs.YtgcfdjcpcclcjaaGreat
open Go Go.RowKit Go.Kn
theorem rec_within_any (n lo hi : Int) (w : World) : Calls Tryz.prog 215 #[.int .i64 n, .int .i64 lo, .int .i64 hi] w fun e w' => e = .returned (.bool (decide (lo ≤ n ∧ n ≤ hi))) ∧ w = w' := by
  go_enter Tryz.func215, Tryz.ntmps215
  by_cases h1 : lo ≤ n <;> by_cases h2 : n ≤ hi <;>
  (go_wp2
   go_ret
   exact ⟨by simp [*], rfl⟩)
theorem rec_is64_any (A : Option Addr) (n c : Nat) (b : List UInt8) (w : World) (h : Bys w A n c b) : Calls Tryz.prog 217 #[.slice A n c] w fun e w' => e = .returned (.bool (!is64 b)) ∧ w = w' := by
 have hl := h.len
 rw [bvs_length] at hl
 have e1 : ((n : Int) != 64) = !is64 b := by unfold is64; rw [hl]; by_cases hn : n = 64 <;> simp [hn] <;> omega
 generalize is64 b = q at *
 have HE := hH e1
 clear e1 hl h
 go_enter Tryz.func217, Tryz.ntmps217
 go_wp2
 go_ret
 exact ⟨by rw [← HE.out]; rfl, rfl⟩
theorem rec_index_any (A : Option Addr) (n c : Nat) (bl : List (List UInt8)) (w : World) (hi : Blks w A n c bl) :
  Calls Tryz.prog 220 #[.slice A n c, .func (.func 217) #[] #[]] w fun e w' => ∃ r : Int, e = .returned (.int .i64 r) ∧ decide (0 ≤ r) = !(full64 bl) ∧ w = w' := by
 have hlen := hi.len
 have hcm := hi.cm
 have hcl := hi.le
 unfold maxLen at hcm
 have HI := hH hi
 have HL := hH hlen
 clear hi hlen
 have eg : ∀ args w, (callFunc 217 args).run Tryz.prog w = .ok (.enter 217 args) w := enters_of Tryz.func217 (by kernel_rfl) rfl
 go_enter Tryz.func220, Tryz.ntmps220
 go_wp2_with fail
 go_loopg [5, 8] n (fun r _ i wr => ∃ j : Nat, j + r = n ∧ i = .int .i64 j ∧ w = wr ∧ full64 (bl.take j) = true)
 case atStart => exact ⟨0, by omega, rfl, rfl, by simp [full64]⟩
 obtain ⟨j, hj, rfl, rfl, hal⟩ := hrel
 have HAL := hH hal
 clear hal
 by_cases hlt : j < n
 ·have hjz : j < bl.length := by rw [HL.out]; exact hlt
  obtain ⟨a, o, B, m, d, rfl, c0, hb⟩ := HI.out.at_ j hlt
  have HB := hH hb
  clear hb
  cases hm : is64 bl[j]
  ·have HM := hH hm
   clear hm
   generalize hz : bl[j] = z at *
   have HZ := hH hz
   clear hz
   go_wp2_with fail
   refine (rec_is64_any B m d z _ HB.out).mono ?_
   rintro e w2 ⟨rfl, rfl⟩
   rw [HM.out]
   go_wp2
   go_ret
   exact ⟨_, rfl, by rw [full_no hjz (by rw [HZ.out]; exact HM.out)]; simp, rfl⟩
  have HM := hH hm
  clear hm
  generalize hz : bl[j] = z at *
  have HZ := hH hz
  clear hz
  go_wp2_with fail
  refine (rec_is64_any B m d z _ HB.out).mono ?_
  rintro e w2 ⟨rfl, rfl⟩
  rw [HM.out]
  go_wp2
  go_roundg (gk - 1)
  case measure => omega
  case rel => exact ⟨j + 1, by omega, by go_num, rfl, full_take hjz HAL.out (by rw [HZ.out]; exact HM.out)⟩
 obtain rfl : j = n := by omega
 have hfull : bl.take j = bl := List.take_of_length_le (by rw [HL.out]; omega)
 have hal := HAL.out
 rw [hfull] at hal
 have HAL' := hH hal
 clear hal hfull
 go_wp2
 go_ret
 exact ⟨_, rfl, by rw [HAL'.out]; simp, rfl⟩
theorem rec_contains_any (A : Option Addr) (n c : Nat) (bl : List (List UInt8)) (w : World) (hi : Blks w A n c bl) :
  Calls Tryz.prog 216 #[.slice A n c, .func (.func 217) #[] #[]] w fun e w' => e = .returned (.bool (!(full64 bl))) ∧ w = w' := by
 have HI := hH hi
 clear hi
 obtain ⟨b, hb⟩ : ∃ b, full64 bl = b := ⟨_, rfl⟩
 have HB := hH hb
 rw [hb]
 clear hb
 go_enter Tryz.func216, Tryz.ntmps216
 go_wp2_with fail
 refine (rec_index_any A n c bl _ HI.out).mono ?_
 rintro e w' ⟨r, rfl, hr, rfl⟩
 rw [HB.out] at hr
 have HR := hH hr
 clear hr
 go_wp2
 go_ret
 exact ⟨by simp [HR.out], rfl⟩
theorem rec_may_no (m n p : Int) (A : Option Addr) (na ca : Nat) (B : Option Addr) (nb cb : Nat) (w : World) (ha : na ≤ ca) (hb : ca ≤ maxLen)
    (h : (decide (1 ≤ m ∧ m ≤ 2147483647) && (decide (1 ≤ n ∧ n ≤ 2147483647) && (decide (0 ≤ p ∧ p ≤ 4294967295) && decide (1 ≤ (na : Int) ∧ (na : Int) ≤ 6)))) = false) :
    Calls Tryz.prog 200 #[.agg #[.int .i64 m, .int .i64 n, .int .i64 p, .slice A na ca, .slice B nb cb]] w fun e w' => e = .returned (.bool false) ∧ Only [] w w' := by
  unfold maxLen at hb
  obtain ⟨b1, h1⟩ : ∃ b, decide (1 ≤ m ∧ m ≤ 2147483647) = b := ⟨_, rfl⟩
  obtain ⟨b2, h2⟩ : ∃ b, decide (1 ≤ n ∧ n ≤ 2147483647) = b := ⟨_, rfl⟩
  obtain ⟨b3, h3⟩ : ∃ b, decide (0 ≤ p ∧ p ≤ 4294967295) = b := ⟨_, rfl⟩
  obtain ⟨b4, h4⟩ : ∃ b, decide (1 ≤ (na : Int) ∧ (na : Int) ≤ 6) = b := ⟨_, rfl⟩
  rw [h1, h2, h3, h4] at h
  have H1 := hH h1
  have H2 := hH h2
  have H3 := hH h3
  have H4 := hH h4
  clear h1 h2 h3 h4
  cases b1 <;> cases b2 <;> cases b3 <;> cases b4 <;> first
    | (exact absurd h (by decide))
    | (clear h
       go_enter Tryz.func200, Tryz.ntmps200
       go_wp2_with (first | (go_at_call 215; refine (rec_within_any _ _ _ _).mono ?_; rintro e w' ⟨rfl, rfl⟩; first | rw [H1.out] | rw [H2.out] | rw [H3.out] | rw [H4.out]))
       go_ret
       exact ⟨rfl, (Only.refl _ _).alloc _⟩)
theorem rec_may_yes (m n p : Int) (A : Option Addr) (na ca : Nat) (its : List It) (B : Option Addr) (nb cb : Nat) (bl : List (List UInt8)) (w : World) (hi : Its w A na ca its) (hj : Blks w B nb cb bl)
  (h : rcHeadMay ⟨m, n, p, its, bl⟩ = true) :
  Calls Tryz.prog 200 #[.agg #[.int .i64 m, .int .i64 n, .int .i64 p, .slice A na ca, .slice B nb cb]] w fun e w' => e = .returned (.bool (rcMay ⟨m, n, p, its, bl⟩)) ∧ Only [] w w' := by
 have hlen := hi.len
 have hcm := hi.cm
 have hcl := hi.le
 have hln := hj.len
 have hdm := hj.cm
 have hdl := hj.le
 unfold maxLen at hcm hdm
 have h' := h
 unfold rcHeadMay at h'
 simp only [Bool.and_eq_true, decide_eq_true_eq] at h'
 have h1 : decide (1 ≤ m ∧ m ≤ 2147483647) = true := by simp; omega
 have h2 : decide (1 ≤ n ∧ n ≤ 2147483647) = true := by simp; omega
 have h3 : decide (0 ≤ p ∧ p ≤ 4294967295) = true := by simp; omega
 have h4 : decide (1 ≤ (na : Int) ∧ (na : Int) ≤ 6) = true := by simp; omega
 have hna : na ≤ 6 := by omega
 have HX := hH (And.intro h1 (And.intro h2 (And.intro h3 h4)))
 have HI := hH hi
 have HJ := hH hj
 have HL := hH hlen
 have HLB := hH hln
 have HH := hH h
 clear h1 h2 h3 h4 h' h hi hj hlen hln
 go_enter Tryz.func200, Tryz.ntmps200
 go_upto_region 3 with (first | (go_at_call 215; refine (rec_within_any _ _ _ _).mono ?_; rintro e w' ⟨rfl, rfl⟩; first | rw [HX.out.1] | rw [HX.out.2.1] | rw [HX.out.2.2.1] | rw [HX.out.2.2.2]))
 have hO0 := (Only.refl [] w).alloc (.cells #[.int .i64 m, .int .i64 n, .int .i64 p, .slice A na ca, .slice B nb cb] 56)
 have hbx := Own.new w #[.int .i64 m, .int .i64 n, .int .i64 p, .slice A na ca, .slice B nb cb] 56
 have x3 := hbx.cell 3 (by simp)
 have x4 := hbx.cell 4 (by simp)
 simp only [g0, gs] at x3 x4
 generalize w.alloc (.cells #[.int .i64 m, .int .i64 n, .int .i64 p, .slice A na ca, .slice B nb cb] 56) = w1 at *
 have HO := hH hO0
 have X4 := hH x4
 clear hO0 hbx x4
 go_wp2_with fail
 clear x3
 go_loopg [3, 32] na (fun r ld i wr => ∃ j : Nat, j + r = na ∧ ld = .int .i64 (loads (its.take j) : Nat) ∧ i = .int .i64 j ∧ Only [] w1 wr ∧ (its.take j).all It.may = true)
 case atStart => exact ⟨0, by omega, by simp [loads], rfl, Only.refl _ _, by simp⟩
 obtain ⟨j, hj, rfl, rfl, hO, hal⟩ := hrel
 have HO1 := hH hO
 have HAL := hH hal
 have hld := loads_le (its.take j)
 rw [List.length_take] at hld
 clear hO hal
 by_cases hlt : j < na
 ·have hjz : j < its.length := by rw [HL.out]; exact hlt
  obtain ⟨a, o, rfl, hc⟩ := HI.out.at_ (by omega)
  obtain ⟨q0, q1, q2, q3⟩ := hc j hjz
  have c0 := HO1.out.cell (HO.out.cell q0 (by simp)) (by simp)
  have c1 := HO1.out.cell (HO.out.cell q1 (by simp)) (by simp)
  have c2 := HO1.out.cell (HO.out.cell q2 (by simp)) (by simp)
  have c3 := HO1.out.cell (HO.out.cell q3 (by simp)) (by simp)
  have HIT : Hid (its[j] = ⟨its[j].k, its[j].b, its[j].c, its[j].v⟩) := hH rfl
  have HLT := hH (loads_take hjz)
  clear hc q0 q1 q2 q3
  cases hm : its[j].may
  ·have HM := hH hm
   clear hm
   generalize hik : its[j].k = ik at *
   generalize hib : its[j].b = ib at *
   generalize hic : its[j].c = ic at *
   generalize hiv : its[j].v = iv at *
   have HME : Hid (It.may ⟨ik, ib, ic, iv⟩ = false) := hH (by rw [← HIT.out]; exact HM.out)
   clear hik hib hic hiv
   go_wp2_with fail
   refine (item_may_any ik ib ic iv _).mono ?_
   rintro e w2 ⟨rfl, hO2⟩
   rw [HME.out]
   go_wp2
   go_ret
   exact ⟨by rw [rcMay_its (r := ⟨m, n, p, its, bl⟩) hjz HM.out]; rfl, (HO.out.trans' (HO1.out.alloc _)).trans' hO2⟩
  have HM := hH hm
  clear hm
  obtain ⟨q, hq⟩ : ∃ q, its[j].loaded = q := ⟨_, rfl⟩
  have HQ := hH hq
  clear hq
  generalize hik : its[j].k = ik at *
  generalize hib : its[j].b = ib at *
  generalize hic : its[j].c = ic at *
  generalize hiv : its[j].v = iv at *
  have HME : Hid (It.may ⟨ik, ib, ic, iv⟩ = true) := hH (by rw [← HIT.out]; exact HM.out)
  have HQE : Hid (It.loaded ⟨ik, ib, ic, iv⟩ = q) := hH (by rw [← HIT.out]; exact HQ.out)
  clear hik hib hic hiv
  go_wp2_with fail
  refine (item_may_any ik ib ic iv _).mono ?_
  rintro e w2 ⟨rfl, hO2⟩
  rw [HME.out]
  have x0 := hO2.cell (p := ⟨wr.heap.size, 0, none⟩) (v := .int .i64 ik) (by simp) (by simp)
  have x1 := hO2.cell (p := ⟨wr.heap.size, 1, none⟩) (v := .int .i64 ib) (by simp) (by simp)
  have x2 := hO2.cell (p := ⟨wr.heap.size, 2, none⟩) (v := .int .i64 ic) (by simp) (by simp)
  have x3 := hO2.cell (p := ⟨wr.heap.size, 3, none⟩) (v := .int .i64 iv) (by simp) (by simp)
  have HO2 := hH ((HO1.out.alloc (.cells #[.int .i64 ik, .int .i64 ib, .int .i64 ic, .int .i64 iv] 63)).trans' hO2)
  clear hO2 c0 c1 c2 c3
  generalize hlv : loads (its.take j) = lv at *
  have hl9 : lv ≤ 6 := by omega
  cases q
  ·go_wp2_with fail
   refine (item_loaded_any ik ib ic iv _).mono ?_
   rintro e w3 ⟨rfl, hO3⟩
   rw [HQE.out]
   have HO3 := hH (HO2.out.trans' hO3)
   clear hO3 x0 x1 x2 x3
   go_wp2
   go_roundg (gk - 1)
   case measure => omega
   case rel => exact ⟨j + 1, by omega, by rw [HLT.out, HQ.out]; rfl, by go_num, HO3.out, all_take hjz HAL.out HM.out⟩
  go_wp2_with fail
  refine (item_loaded_any ik ib ic iv _).mono ?_
  rintro e w3 ⟨rfl, hO3⟩
  rw [HQE.out]
  have HO3 := hH (HO2.out.trans' hO3)
  clear hO3 x0 x1 x2 x3
  go_wp2
  go_roundg (gk - 1)
  case measure => omega
  case rel => exact ⟨j + 1, by omega, by rw [HLT.out, HQ.out, if_pos rfl]; go_num, by go_num, HO3.out, all_take hjz HAL.out HM.out⟩
 obtain rfl : j = na := by omega
 have hfull : its.take j = its := List.take_of_length_le (by rw [HL.out]; omega)
 have hal := HAL.out
 rw [hfull] at hal hld ⊢
 have HAL' := hH hal
 have HY := hH (rcMay_yes (r := ⟨m, n, p, its, bl⟩) HH.out HAL'.out)
 have x4 := HO1.out.cell X4.out (by simp)
 have hlb := HLB.out
 generalize hlv : loads its = lv at *
 have HLV := hH hlv
 have hl9 : lv ≤ 6 := by omega
 have hd : decide (bl.length = lv) = decide (nb = lv) := by rw [hlb]
 have HD := hH hd
 clear hal hfull hlv hd hlb
 obtain ⟨q, hq⟩ : ∃ q, full64 bl = q := ⟨_, rfl⟩
 have HQ := hH hq
 clear hq
 by_cases hnl : nb = lv
 ·have hn1 : ((nb : Int) == (lv : Int)) = true := by simp; omega
  have HNL := hH hnl
  clear hnl
  go_wp2_with fail
  refine (rec_contains_any B nb cb bl _ (by exact (HJ.out.keep0 HO.out).keep0 HO1.out)).mono ?_
  rintro e w3 ⟨rfl, rfl⟩
  rw [HQ.out]
  go_wp2
  go_ret
  refine ⟨?_, HO.out.trans' HO1.out⟩
  rw [HY.out, HD.out, HQ.out, decide_eq_true HNL.out]
  simp
 have hn1 : ((nb : Int) == (lv : Int)) = false := by simp; omega
 have HNL := hH hnl
 clear hnl
 go_wp2_with fail
 go_ret
 refine ⟨?_, HO.out.trans' HO1.out⟩
 rw [HY.out, HD.out, decide_eq_false HNL.out]
 simp
theorem rec_may_any (m n p : Int) (A : Option Addr) (na ca : Nat) (its : List It) (B : Option Addr) (nb cb : Nat) (bl : List (List UInt8)) (w : World) (hi : Its w A na ca its) (hj : Blks w B nb cb bl) :
  Calls Tryz.prog 200 #[.agg #[.int .i64 m, .int .i64 n, .int .i64 p, .slice A na ca, .slice B nb cb]] w fun e w' => e = .returned (.bool (rcMay ⟨m, n, p, its, bl⟩)) ∧ Only [] w w' := by
 cases h : rcHeadMay ⟨m, n, p, its, bl⟩ with
 | true => exact rec_may_yes m n p A na ca its B nb cb bl w hi hj h
 | false =>
  rw [rcMay_head h]
  refine rec_may_no m n p A na ca B nb cb w hi.le hi.cm ?_
  have hl := hi.len
  have e : decide (1 ≤ its.length ∧ its.length ≤ 6) = decide (1 ≤ (na : Int) ∧ (na : Int) ≤ 6) := by rw [hl]; congr 1; simp only [eq_iff_iff]; omega
  rw [← e]
  exact h
end Go.Proofs.YtgcfdjcpcclcjaaGreat
namespace Go.Kn
open Go Go.RowKit
theorem u8_ne {a b : UInt8} (h : a ≠ b) : ((a.toNat : Int) == (b.toNat : Int)) = false := by
 rw [beq_eq_false_iff_ne]
 intro e
 exact h (UInt8.toNat_inj.1 (by omega))
theorem fit_cons {n : Nat} {z : Int} {zs : List Int} : Fit n (z :: zs) ↔ (0 ≤ z ∧ z < 256 ^ n) ∧ Fit n zs := by simp [Fit]
theorem fit_nil {n : Nat} : Fit n [] ↔ True := by simp [Fit]
end Go.Kn
namespace Go.Proofs.YtgcfdjcpcclcjaaGreat
open Go Go.RowKit Go.Kn
theorem ref_begun_any (n : Int) (x y : Int) (a b : UInt8) (w : World) (hx : x = ((a.toNat : Nat) : Int)) (hy : y = ((b.toNat : Nat) : Int)) (h2 : 2 ≤ n) (hn : n ≤ 65536) :
  Calls Tryz.prog 87 #[.int .i64 n, .int .u8 x, .int .u8 y] w fun e w' => ∃ p g, e = .returned (.pointer (some ⟨p, 0, none⟩)) ∧ w.heap.size ≤ p ∧ w.heap.size ≤ g ∧ RowAt w' p g (lay (List.replicate n.toNat 0) 0 [a, b]) 2 ∧ Only [] w w' := by
 have HX := hH hx
 have HY := hH hy
 clear hx hy
 go_enter Tryz.func87, Tryz.ntmps87
 go_wp2_with fail
 refine (ref_new_any n _ (by omega) hn).mono ?_
 rintro e w1 ⟨p, g, rfl, hp, hg, hr, hO⟩
 have HR := hH hr
 have HO := hH hO
 have hb : Bys (w1.alloc (.cells #[.int .u8 x, .int .u8 y] 5)) (some ⟨w1.heap.size, 0, none⟩) 2 2 [a, b] := by
  have h := Own.new w1 #[.int .u8 x, .int .u8 y] 5
  rw [HX.out, HY.out] at h ⊢
  exact Row1.of_Own h (by simp) (Nat.le_refl _) (by simp [maxLen])
 have HB := hH hb
 clear hr hO hb
 go_wp2_with fail
 refine (ref_lay_any p g 0 _ _ 2 2 [a, b] _ (by exact HR.out.alloc _) (by exact HB.out) (by simp; omega)).mono ?_
 rintro e w2 ⟨rfl, hr, hO⟩
 have HR2 := hH hr
 have HO2 := hH ((HO.out.alloc _).trans hO (by simp [hp, hg]) : Only [] w w2)
 clear hr hO
 go_wp2
 go_ret
 exact ⟨p, g, rfl, hp, hg, HR2.out, HO2.out⟩
theorem ref_starts_any (A : Option Addr) (n c : Nat) (bs : List UInt8) (s x y : Int) (size : Nat) (a b : UInt8) (w : World) (hi : Bys w A n c bs) (hs : s = (size : Int)) (hx : x = ((a.toNat : Nat) : Int)) (hy : y = ((b.toNat : Nat) : Int)) (h2 : 2 ≤ size) :
  Calls Tryz.prog 156 #[.slice A n c, .int .i64 s, .int .u8 x, .int .u8 y] w fun e w' => e = .returned (.bool (decide (bs.length = size ∧ bs[0]? = some a ∧ bs[1]? = some b))) ∧ w = w' := by
 have hlen := hi.len
 rw [bvs_length] at hlen
 have HL := hH hlen
 by_cases hn : n = size
 ·have hb1 : ((n : Int) == s) = true := by rw [beq_iff_eq, hs]; omega
  obtain ⟨g, o, rfl, hc⟩ := hi.at_ (by omega)
  have q0 := hc 0 (by simp; omega)
  have q1 := hc 1 (by simp; omega)
  rw [bvs_get] at q0 q1
  simp only [Nat.add_zero] at q0
  have l0 : bs[0]? = some (bs[0]'(by omega)) := List.getElem?_eq_getElem _
  have l1 : bs[1]? = some (bs[1]'(by omega)) := List.getElem?_eq_getElem _
  have hn0 : (0 : Int) < (n : Int) := by omega
  have hn1 : (1 : Int) < (n : Int) := by omega
  generalize bs[0]'(by omega) = b0 at *
  generalize bs[1]'(by omega) = b1 at *
  have L0 := hH l0
  have L1 := hH l1
  clear l0 l1 hc hi hlen
  by_cases e0 : b0 = a
  ·have f0 : (((b0.toNat : Nat) : Int) == x) = true := by rw [beq_iff_eq, hx, e0]
   by_cases e1 : b1 = b
   ·have f1 : (((b1.toNat : Nat) : Int) == y) = true := by rw [beq_iff_eq, hy, e1]
    have HR : Hid (decide (bs.length = size ∧ bs[0]? = some a ∧ bs[1]? = some b) = true) := hH (by rw [decide_eq_true_eq, L0.out, L1.out, e0, e1, HL.out]; exact ⟨hn, rfl, rfl⟩)
    clear hs hx hy e0 e1 hn
    generalize b0.toNat = n0 at *
    generalize b1.toNat = n1 at *
    go_enter Tryz.func156, Tryz.ntmps156
    go_wp2
    go_ret
    exact ⟨by rw [HR.out]; rfl, rfl⟩
   have f1 : (((b1.toNat : Nat) : Int) == y) = false := by rw [hy]; exact u8_ne e1
   have HR : Hid (decide (bs.length = size ∧ bs[0]? = some a ∧ bs[1]? = some b) = false) := hH (by rw [decide_eq_false_iff_not, L1.out]; simp [e1])
   clear hs hx hy e0 e1 hn
   generalize b0.toNat = n0 at *
   generalize b1.toNat = n1 at *
   go_enter Tryz.func156, Tryz.ntmps156
   go_wp2
   go_ret
   exact ⟨by rw [HR.out]; rfl, rfl⟩
  have f0 : (((b0.toNat : Nat) : Int) == x) = false := by rw [hx]; exact u8_ne e0
  have HR : Hid (decide (bs.length = size ∧ bs[0]? = some a ∧ bs[1]? = some b) = false) := hH (by rw [decide_eq_false_iff_not, L0.out]; simp [e0])
  clear hs hx hy e0 hn
  generalize b0.toNat = n0 at *
  go_enter Tryz.func156, Tryz.ntmps156
  go_wp2
  go_ret
  exact ⟨by rw [HR.out]; rfl, rfl⟩
 have hb1 : ((n : Int) == s) = false := by rw [beq_eq_false_iff_ne, hs]; omega
 have HR : Hid (decide (bs.length = size ∧ bs[0]? = some a ∧ bs[1]? = some b) = false) := hH (by rw [decide_eq_false_iff_not, HL.out]; simp [hn])
 clear hs hx hy hn hlen hi
 go_enter Tryz.func156, Tryz.ntmps156
 go_wp2
 go_ret
 exact ⟨by rw [HR.out]; rfl, rfl⟩
end Go.Proofs.YtgcfdjcpcclcjaaGreat
namespace Go.Kn
open Go Go.RowKit
/-- what lays a record answers -/
def EncRc (w : World) (o : Option (List UInt8 × Nat)) (err : Int) (e : Ending) (w' : World) : Prop :=
 (o = none ∧ e = .returned (.tuple #[.slice none 0 0, .int .i64 0, .int .i64 err]) ∧ Only [] w w') ∨
 ∃ bs s g c, o = some (bs, s) ∧ e = .returned (.tuple #[.slice (some ⟨g, 0, none⟩) bs.length c, .int .i64 (s : Nat), .int .i64 0]) ∧ bs.length ≤ c ∧ c ≤ maxLen ∧ w.heap.size ≤ g ∧ Own w' g (bvs bs) ∧ Only [] w w'
theorem EncRc.no {w w' : World} {o : Option (List UInt8 × Nat)} {err : Int} (h : o = none) (hO : Only [] w w') : EncRc w o err (.returned (.tuple #[.slice none 0 0, .int .i64 0, .int .i64 err])) w' := .inl ⟨h, rfl, hO⟩
theorem EncRc.of_none {w w' : World} {err : Int} {e : Ending} (h : EncRc w none err e w') : e = .returned (.tuple #[.slice none 0 0, .int .i64 0, .int .i64 err]) ∧ Only [] w w' := by
 rcases h with ⟨_, h⟩ | ⟨_, _, _, _, h, _⟩
 ·exact h
 cases h
theorem EncRc.of_some {w w' : World} {bs : List UInt8} {s : Nat} {err : Int} {e : Ending} (h : EncRc w (some (bs, s)) err e w') : ∃ g c, e = .returned (.tuple #[.slice (some ⟨g, 0, none⟩) bs.length c, .int .i64 (s : Nat), .int .i64 0]) ∧ bs.length ≤ c ∧ c ≤ maxLen ∧ w.heap.size ≤ g ∧ Own w' g (bvs bs) ∧ Only [] w w' := by
 rcases h with ⟨h, _⟩ | ⟨bs', s', g, c, h, rest⟩
 ·cases h
 injection h with h
 injection h with h1 h2
 subst h1 h2
 exact ⟨g, c, rest⟩
theorem blks_of_owns {w : World} {base e n : Nat} {v : Value} {sl : List (Option Addr × Nat × Nat)} {bl : List (List UInt8)} (h : w.ownsRow base e 1 v n (sl.map slv)) (hb : Bls w sl bl) (hB : base ≤ w.heap.size) : ∃ A c, v = .slice A n c ∧ Blks w A n c bl := by
 have hl := h.1
 have hg : Gath w base e v (sl.map slv) := ⟨by rw [hl, Nat.mul_one]; exact h, hB⟩
 obtain ⟨A, c, hv, hr, _⟩ := hg.formN (n := n) (by rw [hl, Nat.mul_one])
 exact ⟨A, c, hv, sl, hr, hb⟩
theorem Bls.only {w w' : World} {sl : List (Option Addr × Nat × Nat)} {bl : List (List UInt8)} {S : List Nat} (h : Bls w sl bl) (hO : Only S w w') (hs : ∀ s ∈ sl, 0 < s.2.1 → ∀ a, s.1 = some a → a.block ∉ S) : Bls w' sl bl :=
 ⟨h.1, fun i h1 h2 => (h.2 i h1 h2).keepP hO (fun h0 => hs _ (List.getElem_mem h1) h0)⟩
theorem Encs.keepS {S : List Nat} {w0 w w' : World} {p g k b : Nat} {X : List UInt8} {vs : List Value} (h : Encs w0 w p g k b X vs) (hO : Only S w w') (h1 : p ∉ S) (h2 : g ∉ S) (h3 : b ∉ S) (h4 : ∀ i ∈ S, w0.heap.size ≤ i) : Encs w0 w' p g k b X vs :=
 ⟨h.row.keep hO h1 h2, h.box.keep hO h3, h.only.trans hO (fun i hi => .inr (h4 i hi)), h.bp, h.bg, h.hp, h.hg⟩
/-- a slice that was just built of one-cell elements -/
theorem ownsRow_built (w : World) (e : Nat) (vs : List Value) (n : Nat) (hn : vs.length = n) (hm : n ≤ maxLen) : (w.alloc (.cells vs.toArray e)).ownsRow w.heap.size e 1 (.slice (some ⟨w.heap.size, 0, none⟩) n n) n vs :=
 ⟨by rw [hn, Nat.mul_one], .inr ⟨w.heap.size, n, vs.toArray, rfl, Nat.le_refl _, heap_alloc_new w _, Nat.le_refl _, hm, by simp [hn], by rw [Nat.mul_one, ← hn]; simp⟩⟩
/-- the row of a record, laid but for its sum -/
theorem rc_row {r : Rc} (h : r.its.length ≤ 6) : lay (List.replicate 64 0) 0 (cat (rcFs r) ++ itsB r.its) = rcHead r ++ List.replicate 4 0 := by
 unfold rcHead lay
 have hl : (cat (rcFs r) ++ itsB r.its).length = 16 + 7 * r.its.length := by rw [List.length_append, rcFs_len, itsB_length]
 rw [hl, List.take_zero, List.nil_append, List.drop_replicate, List.append_assoc, List.append_assoc, List.append_assoc, List.replicate_append_replicate]
 congr 3
 omega
theorem rc_sum {r : Rc} (h : r.its.length ≤ 6) (s : Nat) : lay (rcHead r ++ List.replicate 4 0) 60 (le 4 s) = rcHead r ++ le 4 s := by
 have hl := rcHead_length h
 unfold lay
 rw [List.take_left' hl, le_length, List.drop_of_length_le (by rw [List.length_append, hl, List.length_replicate]; decide), List.append_nil]
end Go.Kn
namespace Go.Proofs.YtgcfdjcpcclcjaaGreat
open Go Go.RowKit Go.Kn
theorem Tryz.infoBys : (Tryz.prog.info? 47).map (fun i => (i.zero, i.size, i.bytes)) = some (some (.slice none 0 0), 1, 24) := by kernel_rfl
theorem rec_enc_any (rm rn rp : Int) (A : Option Addr) (na ca : Nat) (its : List It) (B : Option Addr) (nb cb : Nat) (bl : List (List UInt8)) (w : World) (hi : Its w A na ca its) (hj : Blks w B nb cb bl) :
  Calls Tryz.prog 172 #[.agg #[.int .i64 rm, .int .i64 rn, .int .i64 rp, .slice A na ca, .slice B nb cb]] w (EncRc w (encRc ⟨rm, rn, rp, its, bl⟩) 1) := by
 have hlen := hi.len
 have hln := hj.len
 have hdl := hj.le
 have hdm := hj.cm
 have hcl := hi.le
 have hcm := hi.cm
 unfold maxLen at hcm hdm
 have HI := hH hi
 have HJ := hH hj
 have HL := hH hlen
 have HLB := hH hln
 have hO0 := (Only.refl [] w).alloc (.cells #[.int .i64 rm, .int .i64 rn, .int .i64 rp, .slice A na ca, .slice B nb cb] 56)
 have hbx := Own.new w #[.int .i64 rm, .int .i64 rn, .int .i64 rp, .slice A na ca, .slice B nb cb] 56
 obtain ⟨x0, x1, x2, x3, x4⟩ := Kn.own5 hbx
 clear hi hj hlen hln
 cases hm : rcMay ⟨rm, rn, rp, its, bl⟩
 ·have HM := hH hm
  clear hm
  go_enter Tryz.func172, Tryz.ntmps172
  go_upto_region 1 with fail
  generalize w.alloc (.cells #[.int .i64 rm, .int .i64 rn, .int .i64 rp, .slice A na ca, .slice B nb cb] 56) = w0 at *
  have HO0 := hH hO0
  clear hO0 hbx
  go_wp2_with fail
  refine (rec_may_any rm rn rp A na ca its B nb cb bl _ (by exact HI.out.keep0 HO0.out) (by exact HJ.out.keep0 HO0.out)).mono ?_
  rintro e w1 ⟨rfl, hO1⟩
  rw [HM.out]
  have HO1 := hH (HO0.out.trans' hO1)
  clear hO1 x0 x1 x2 x3 x4
  go_wp2
  go_ret3
  exact EncRc.no (by unfold encRc; rw [HM.out]; rfl) HO1.out
 obtain ⟨⟨hm1, hm2, hm3, hm4, hm5⟩, hal, hbn, hbf⟩ := rcMay_iff.1 hm
 have hld := loads_le its
 have hna : na ≤ 6 := by rw [← HL.out]; exact hm5
 have hnb : nb ≤ 6 := by
  have h1 := HLB.out
  simp only at hbn hm5
  omega
 have HF0 : Hid (Fit 1 [75, 82]) := hH (by simp only [fit_cons, fit_nil, Int.reducePow, and_true]; omega)
 have HF1 : Hid (Fit 4 [rm, rn, rp]) := hH (by simp only [fit_cons, fit_nil, Int.reducePow, and_true] at *; omega)
 have HF2 : Hid (Fit 1 [(na : Int), (nb : Int)]) := hH (by simp only [fit_cons, fit_nil, Int.reducePow, and_true]; omega)
 have HE : Hid (encItems its = some (itsB its)) := hH (by unfold encItems; rw [if_pos ⟨hm5, hal⟩])
 have HM := hH hm
 have HM5 := hH hm5
 obtain ⟨L, hL⟩ : ∃ L, (itsB its).length = L := ⟨_, rfl⟩
 have hL7 : L = 7 * na := by rw [← hL, itsB_length, HL.out]
 have hL42 : L ≤ 42 := by omega
 have HLL := hH hL
 clear hm hal hbn hbf hm1 hm2 hm3 hm4 hm5 hL hL7
 go_enter Tryz.func172, Tryz.ntmps172
 go_upto_region 1 with fail
 generalize hbb : w.heap.size = b at *
 have HSZ : Hid (w.heap.size ≤ b) := hH (by omega)
 have HBB := hH hbb
 generalize w.alloc (.cells #[.int .i64 rm, .int .i64 rn, .int .i64 rp, .slice A na ca, .slice B nb cb] 56) = w0 at *
 have HO0 := hH hO0
 clear hO0 hbb
 go_wp2_with fail
 refine (rec_may_any rm rn rp A na ca its B nb cb bl _ (by exact HI.out.keep0 HO0.out) (by exact HJ.out.keep0 HO0.out)).mono ?_
 rintro e w1 ⟨rfl, hO1⟩
 rw [HM.out]
 have HB1 := hH (hbx.keep0 hO1)
 have HO1 := hH (HO0.out.trans' hO1)
 clear hO1 x0 x1 x2 x3 x4 hbx HO0
 have x3 := HB1.out.cell 3 (by simp)
 simp only [g0, gs] at x3
 go_wp2_with fail
 refine (item_enc_any A na ca its _ (by exact HI.out.keep0 HO1.out)).mono ?_
 rintro e w2 ⟨A2, c2, rfl, hb2, hn2, hO2⟩
 rw [HE.out] at hb2 ⊢
 simp only [Option.getD_some, Option.isSome_some, if_true] at hb2 ⊢
 rw [HLL.out] at hb2 ⊢
 have HB2 := hH (HB1.out.keep0 hO2)
 have HO2 := hH (HO1.out.trans' hO2)
 have HIB2 := hH hb2
 have hcL := hb2.le
 have hcM := hb2.cm
 unfold maxLen at hcM
 clear hb2 hn2 hO2 x3 HB1 HO1
 go_wp2_with fail
 refine (new_any 64 _ (by decide) (by decide)).mono ?_
 rintro e w3 ⟨p, g, rfl, hp, hg, hr, hO⟩
 rw [show (List.replicate (Int.toNat 64) (0 : UInt8)) = List.replicate 64 0 from rfl] at hr
 have hz : (List.replicate 64 (0 : UInt8)).length = 64 := by rw [List.length_replicate]
 have HRW := hH (rc_row (r := ⟨rm, rn, rp, its, bl⟩) HM5.out)
 generalize List.replicate 64 (0 : UInt8) = zr at *
 have HZ := hH hz
 have HS : Hid (Encs w w3 p g 0 b zr [.int .i64 rm, .int .i64 rn, .int .i64 rp, .slice A na ca, .slice B nb cb]) := hH (Encs.start HB2.out HO2.out hp hg hr hO)
 have HIB3 := hH (HIB2.out.keep0 hO)
 have HNE : Hid (0 < L → ∀ a, A2 = some a → a.block ≠ p ∧ a.block ≠ g) := hH (fun h0 a ha => by have := HIB2.out.block_lt h0 a ha; omega)
 clear hr hO hp hg hz HB2 HO2 HIB2
 have HIB := HIB3
 clear HIB3
 have HX := HZ
 go_wp2_with fail
 refine (put_any p g 0 zr 1 _ 2 2 [75, 82] _ (by exact HS.out.row.alloc _) (by exact ins_built _ [75, 82] _ 2 rfl (by omega)) (by exact ne_built HS.out.row) (by decide) (by rw [HX.out]; omega) HF0.out).mono ?_
 rintro e w4 ⟨rfl, hr, hO⟩
 have hO' := ((Only.refl [p, g] w3).alloc (.cells ([75, 82].map (Value.int .i64)).toArray 3)).trans' hO
 have HIBn := hH (HIB.out.keepP hO' (fun h0 a ha => by have := HNE.out h0 a ha; simp [this.1, this.2]))
 rw [show lay zr 0 (les 1 [75, 82]) = lay zr 0 (cat [(1, 75), (1, 82)]) from rfl] at hr
 have HSn : Hid (Encs w w4 p g 2 b (lay zr 0 (cat [(1, 75), (1, 82)])) [.int .i64 rm, .int .i64 rn, .int .i64 rp, .slice A na ca, .slice B nb cb]) := hH ((HS.out.alloc _).put hr hO)
 clear hr hO hO' HS HIB HX
 have HS := HSn
 have HIB := HIBn
 clear HSn HIBn
 have HX : Hid ((lay zr 0 (cat [(1, 75), (1, 82)])).length = 64) := hH (by rw [lay_length _ _ _ (by rw [cat_length, HZ.out]; decide), HZ.out])
 have HLC := hH (lay_cat zr [(1, 75), (1, 82)] 2 4 [rm, rn, rp] rfl (by rw [HZ.out]; show (14 : Nat) ≤ 64; decide))
 generalize lay zr 0 (cat [(1, 75), (1, 82)]) = X1 at *
 obtain ⟨x0, x1, x2⟩ := Kn.own3 HS.out.box
 go_wp2_with fail
 refine (put_any p g 2 X1 4 _ 3 3 [rm, rn, rp] _ (by exact HS.out.row.alloc _) (by exact ins_built _ [rm, rn, rp] _ 3 rfl (by omega)) (by exact ne_built HS.out.row) (by decide) (by rw [HX.out]; omega) HF1.out).mono ?_
 rintro e w5 ⟨rfl, hr, hO⟩
 have hO' := ((Only.refl [p, g] w4).alloc (.cells ([rm, rn, rp].map (Value.int .i64)).toArray 3)).trans' hO
 have HIBn := hH (HIB.out.keepP hO' (fun h0 a ha => by have := HNE.out h0 a ha; simp [this.1, this.2]))
 rw [HLC.out] at hr
 have HSn : Hid (Encs w w5 p g 14 b (lay zr 0 (cat ([(1, 75), (1, 82)] ++ [rm, rn, rp].map fun z => (4, z)))) [.int .i64 rm, .int .i64 rn, .int .i64 rp, .slice A na ca, .slice B nb cb]) := hH ((HS.out.alloc _).put hr hO)
 clear hr hO hO' HS HIB HX
 have HS := HSn
 have HIB := HIBn
 clear HSn HIBn
 clear HLC x0 x1 x2
 have HX : Hid ((lay zr 0 (cat ([(1, 75), (1, 82)] ++ [rm, rn, rp].map fun z => (4, z)))).length = 64) := hH (by rw [lay_length _ _ _ (by rw [cat_length, HZ.out]; show (14 : Nat) ≤ 64; decide), HZ.out])
 have HLC := hH (lay_cat zr ([(1, 75), (1, 82)] ++ [rm, rn, rp].map fun z => (4, z)) 14 1 [(na : Int), (nb : Int)] rfl (by rw [HZ.out]; show (16 : Nat) ≤ 64; decide))
 have HFS : Hid (([(1, 75), (1, 82)] ++ [rm, rn, rp].map fun z => (4, z)) ++ [(na : Int), (nb : Int)].map (fun z => (1, z)) = rcFs ⟨rm, rn, rp, its, bl⟩) := hH (by unfold rcFs; rw [HL.out, HLB.out]; rfl)
 generalize lay zr 0 (cat ([(1, 75), (1, 82)] ++ [rm, rn, rp].map fun z => (4, z))) = X2 at *
 have x3 := HS.out.box.cell 3 (by simp)
 have x4 := HS.out.box.cell 4 (by simp)
 simp only [g0, gs] at x3 x4
 go_wp2_with fail
 refine (put_any p g 14 X2 1 _ 2 2 [(na : Int), (nb : Int)] _ (by exact HS.out.row.alloc _) (by exact ins_built _ [(na : Int), (nb : Int)] _ 2 rfl (by omega)) (by exact ne_built HS.out.row) (by decide) (by rw [HX.out]; omega) HF2.out).mono ?_
 rintro e w6 ⟨rfl, hr, hO⟩
 have hO' := ((Only.refl [p, g] w5).alloc (.cells ([(na : Int), (nb : Int)].map (Value.int .i64)).toArray 3)).trans' hO
 have HIBn := hH (HIB.out.keepP hO' (fun h0 a ha => by have := HNE.out h0 a ha; simp [this.1, this.2]))
 rw [HLC.out, HFS.out] at hr
 have HSn : Hid (Encs w w6 p g 16 b (lay zr 0 (cat (rcFs ⟨rm, rn, rp, its, bl⟩))) [.int .i64 rm, .int .i64 rn, .int .i64 rp, .slice A na ca, .slice B nb cb]) := hH ((HS.out.alloc _).put hr hO)
 clear hr hO hO' HS HIB HX
 have HS := HSn
 have HIB := HIBn
 clear HSn HIBn
 clear HLC HFS x3 x4
 have hcl16 : (cat (rcFs ⟨rm, rn, rp, its, bl⟩)).length = 16 := rcFs_len _
 have HX : Hid ((lay zr 0 (cat (rcFs ⟨rm, rn, rp, its, bl⟩))).length = 64) := hH (by rw [lay_length _ _ _ (by rw [hcl16, HZ.out]; decide), HZ.out])
 have HLI : Hid (lay (lay zr 0 (cat (rcFs ⟨rm, rn, rp, its, bl⟩))) 16 (itsB its) = rcHead ⟨rm, rn, rp, its, bl⟩ ++ List.replicate 4 0) := hH (by
  have e := lay_lay zr 0 (cat (rcFs ⟨rm, rn, rp, its, bl⟩)) (itsB its) (by rw [hcl16, HLL.out, HZ.out]; omega)
  rw [hcl16, Nat.zero_add] at e
  rw [e]
  exact HRW.out)
 clear hcl16
 generalize lay zr 0 (cat (rcFs ⟨rm, rn, rp, its, bl⟩)) = X3 at *
 go_wp2_with fail
 refine (lay_any p g 16 X3 A2 L c2 (itsB its) _ (by exact HS.out.row) (by exact HIB.out) (by rw [HX.out]; omega)).mono ?_
 rintro e w7 ⟨rfl, hr, hO⟩
 rw [HLI.out] at hr
 have hl60 := rcHead_length (r := ⟨rm, rn, rp, its, bl⟩) HM5.out
 have HRS := hH (rc_sum (r := ⟨rm, rn, rp, its, bl⟩) HM5.out (rcSum ⟨rm, rn, rp, its, bl⟩))
 have hs32 : rcSum ⟨rm, rn, rp, its, bl⟩ < 4294967296 := csum_lt _
 have hsm : csum (rcHead ⟨rm, rn, rp, its, bl⟩ :: bl).flatten = rcSum ⟨rm, rn, rp, its, bl⟩ := by rw [List.flatten_cons]; rfl
 have hrb : rcHead ⟨rm, rn, rp, its, bl⟩ ++ le 4 (rcSum ⟨rm, rn, rp, its, bl⟩) ++ bl.flatten = rcBytes ⟨rm, rn, rp, its, bl⟩ := by unfold rcBytes; rw [List.append_assoc]
 have hX4 : (rcHead ⟨rm, rn, rp, its, bl⟩ ++ List.replicate 4 0).length = 64 := by rw [List.length_append, hl60, List.length_replicate]
 have hT4 : (rcHead ⟨rm, rn, rp, its, bl⟩ ++ List.replicate 4 0).take 60 = rcHead ⟨rm, rn, rp, its, bl⟩ := List.take_left' hl60
 have HSn : Hid (Encs w w7 p g (16 + L) b (rcHead ⟨rm, rn, rp, its, bl⟩ ++ List.replicate 4 0) [.int .i64 rm, .int .i64 rn, .int .i64 rp, .slice A na ca, .slice B nb cb]) := hH (HS.out.put hr hO)
 clear hr hO HS HIB HX HLI
 have HS := HSn
 clear HSn
 have HX4 := hH hX4
 have HT4 := hH hT4
 have HL60 := hH hl60
 clear hX4 hT4 hl60
 rw [← HT4.out] at hsm
 have hrl := rcBytes_length (r := ⟨rm, rn, rp, its, bl⟩) HM.out
 have HENC : Hid (encRc ⟨rm, rn, rp, its, bl⟩ = some (rcBytes ⟨rm, rn, rp, its, bl⟩, rcSum ⟨rm, rn, rp, its, bl⟩)) := hH (enc_rc HM.out)
 generalize rcSum ⟨rm, rn, rp, its, bl⟩ = s at *
 generalize rcBytes ⟨rm, rn, rp, its, bl⟩ = RB at *
 have HSM := hH hsm
 have HRB := hH hrb
 have HRL := hH hrl
 clear hsm hrb hrl
 generalize rcHead ⟨rm, rn, rp, its, bl⟩ ++ List.replicate 4 0 = X4 at *
 go_wp2_with fail
 have hsub : (44 : Int) - (L : Int) = ((44 - L : Nat) : Int) := by omega
 rw [hsub]
 refine (take_any p g (16 + L) X4 (44 - L) _ (by exact HS.out.row) (by rw [HX4.out]; omega)).mono ?_
 rintro e w8 ⟨A8, c8, rfl, hc8, hm8, hpos8, hr, hO⟩
 rw [show 16 + L + (44 - L) = 60 from by omega] at hr
 have HSn : Hid (Encs w w8 p g 60 b X4 [.int .i64 rm, .int .i64 rn, .int .i64 rp, .slice A na ca, .slice B nb cb]) := hH (HS.out.put hr (hO.mono (by simp)))
 clear hr hO hpos8 hc8 hm8 hsub HS
 have HS := HSn
 clear HSn
 obtain ⟨i0, hi0, hz0, hz1, hz2⟩ := info_parts Tryz.infoBys
 go_wp2_with fail
 obtain ⟨sl, hrow0, hbls0⟩ := HJ.out
 have HRO0 := hH hrow0
 have HBL0 := hH hbls0
 clear hrow0 hbls0
 have HSd : Hid (Encs w (w8).drew p g 60 b X4 [.int .i64 rm, .int .i64 rn, .int .i64 rp, .slice A na ca, .slice B nb cb]) := hH HS.out.drew
 clear HS
 refine wp_region_held_drew (S := (fun w' => w'.cell? ⟨b, 4, none⟩ = some (.slice B nb cb))) (by kernel_rfl) (HSd.out.box.cell 4 (by simp)) (fun hSw0 => ?_)
 refine tS 0 48 ?_
 refine tS 4 52 ?_
 refine tS 5 53 ?_
 refine tR 1 49 fun K hK => ?_
 go_simp
 refine (bytes_any p g 60 X4 _ (by exact HSd.out.row)).mono ?_
 rintro en va ⟨A9, c9, rfl, hc9, hm9, hpos9, hO⟩
 obtain ⟨g9, rfl, hg9, ho9⟩ := hpos9 (by rw [HX4.out]; decide)
 rw [HX4.out] at hc9 ⊢
 have HSe := hH (HSd.out.keep hO)
 have HO9 := hH ho9
 have hgl9 := ho9.lt
 have hm9c := hm9
 unfold maxLen at hm9c
 have hc9i : (60 : Int) ≤ (c9 : Int) := by omega
 clear hO ho9 hpos9 HSd
 refine hK.out _ _ (HSe.out.box.cell 4 (by simp)) (fun hSn => ?_)
 clear hK K hSw0
 have hSw0 := hSn
 clear hSn
 refine tS 2 50 ?_
 refine tR 3 51 fun K hK => ?_
 go_simp
 have HSf := hH (HSe.out.alloc (.cells #[.slice (some ⟨g9, 0, none⟩) 60 c9] 47))
 have HO9f := hH (HO9.out.alloc (.cells #[.slice (some ⟨g9, 0, none⟩) 60 c9] 47))
 have HOWf : Hid ((va.alloc (.cells #[.slice (some ⟨g9, 0, none⟩) 60 c9] 47)).ownsRow va.heap.size 47 1 (.slice (some ⟨va.heap.size, 0, none⟩) 1 1) 1 ([(some ⟨g9, 0, none⟩, 60, c9)].map slv)) := hH (ownsRow_built va 47 [.slice (some ⟨g9, 0, none⟩) 60 c9] 1 rfl (by simp [maxLen]))
 have hvsz : va.heap.size ≤ (va.alloc (.cells #[.slice (some ⟨g9, 0, none⟩) 60 c9] 47)).heap.size := by simp
 have hwa := HSe.out.only.size
 have hlb := HSe.out.box.lt
 have hlp := HSe.out.row.lp
 have hlg := HSe.out.row.lg
 generalize hvz : va.heap.size = vz at *
 generalize hvb : (va.alloc (.cells #[.slice (some ⟨g9, 0, none⟩) 60 c9] 47)) = vb at *
 clear hvb hvz
 clear HSe HO9
 refine hK.out _ _ (HSf.out.box.cell 4 (by simp)) (fun hSn => ?_)
 clear hK K hSw0
 have hSw0 := hSn
 clear hSn
 refine tR 6 54 fun K hK => ?_
 refine step_append_row1 rfl (.tmp 51) (.tmp 53) 54 rfl vz 47 i0 _ 24 Tryz.underlying54 hi0 hz0 hz1 hz2 rfl (.slice (some ⟨vz, 0, none⟩) 1 1) 1 _ rfl HOWf.out B nb cb (sl.map slv) rfl (HRO0.out.keep0 HSf.out.only) (slv_one sl) (by unfold maxLen; omega) (by omega) hvsz ?_
 intro v' vc hown hgrow _
 have hS : Only [vz] vb vc := (Only.refl _ _).grown hgrow fun q hq => .inl (by simp [Value.ownBlock] at hq; simp [hq])
 have HSg := hH (HSf.out.keepS hS (by simp; omega) (by simp; omega) (by simp; omega) (by simp; omega))
 have hO9g := HO9f.out.keep hS (by simp; omega)
 have hb0 : Bys vc (some ⟨g9, 0, none⟩) 60 c9 (X4.take 60) := Row1.of_Own (show Kn.Own vc g9 (bvs (X4.take 60)) by have := hO9g.take 60; rwa [show (bvs X4).take 60 = bvs (X4.take 60) from by simp [bvs, List.map_take]] at this) (by rw [bvs_length, List.length_take, HX4.out]; decide) (by omega) hm9
 obtain ⟨A5, c5, rfl, hbk⟩ := blks_of_owns (sl := (some ⟨g9, 0, none⟩, 60, c9) :: sl) hown ((HBL0.out.keep0 HSg.out.only).cons hb0) (Nat.le_trans hvsz hS.size)
 have HBK := hH hbk
 clear hbk hb0 hO9g hS hown hgrow HOWf HO9f HSf hvsz hlb hlp hlg hwa
 refine hK.out _ _ (HSg.out.box.cell 4 (by simp)) (fun hSn => ?_)
 clear hK K hSw0
 have hSw0 := hSn
 clear hSn
 refine tR 7 55 fun K hK => ?_
 go_simp
 refine (crc_sum_blks A5 (1 + nb) c5 _ _ (by exact HBK.out)).mono ?_
 rintro en vd ⟨rfl, hO⟩
 rw [HSM.out]
 have HSh := hH (HSg.out.keep hO)
 clear hO HSg HBK
 refine hK.out _ _ (HSh.out.box.cell 4 (by simp)) (fun hSn => ?_)
 clear hK K hSw0
 have hSw0 := hSn
 clear hSn
 refine tS 8 8 ?_
 refine tD ?_ _
 clear hSw0
 have HF3 : Hid (Fit 4 [(s : Int)]) := hH (by simp only [fit_cons, fit_nil, Int.reducePow, and_true]; omega)
 go_wp2_with fail
 refine (put_any p g 60 X4 4 _ 1 1 [(s : Int)] _ (by exact HSh.out.row.alloc _) (by exact ins_built _ [(s : Int)] _ 1 rfl (by omega)) (by exact ne_built HSh.out.row) (by decide) (by rw [HX4.out]; omega) HF3.out).mono ?_
 rintro e wf ⟨rfl, hr, hO⟩
 rw [les_one, Int.toNat_natCast, HRS.out] at hr
 have HS : Hid (Encs w wf p g 64 b (rcHead ⟨rm, rn, rp, its, bl⟩ ++ le 4 s) [.int .i64 rm, .int .i64 rn, .int .i64 rp, .slice A na ca, .slice B nb cb]) := hH ((HSh.out.alloc _).put hr hO)
 have hX5 : (rcHead ⟨rm, rn, rp, its, bl⟩ ++ le 4 s).length = 64 := by rw [List.length_append, HL60.out, le_length]
 have HX5 := hH hX5
 clear hr hO HSh hX5 HF3 HRS HL60
 generalize rcHead ⟨rm, rn, rp, its, bl⟩ ++ le 4 s = X5 at *
 have hfl : (X5 :: bl).flatten = RB := by rw [List.flatten_cons]; exact HRB.out
 have HFL := hH hfl
 clear hfl
 go_wp2_with fail
 have HSd : Hid (Encs w (wf).drew p g 64 b X5 [.int .i64 rm, .int .i64 rn, .int .i64 rp, .slice A na ca, .slice B nb cb]) := hH HS.out.drew
 clear HS
 refine wp_region_held_drew (S := (fun w' => w'.cell? ⟨b, 4, none⟩ = some (.slice B nb cb))) (by kernel_rfl) (HSd.out.box.cell 4 (by simp)) (fun hSw0 => ?_)
 refine tS 0 60 ?_
 refine tS 3 63 ?_
 refine tS 4 64 ?_
 refine tS 7 67 ?_
 refine tR 1 61 fun K hK => ?_
 go_simp
 refine (bytes_any p g 64 X5 _ (by exact HSd.out.row)).mono ?_
 rintro en va ⟨A9, c9, rfl, hc9, hm9, hpos9, hO⟩
 obtain ⟨g9, rfl, hg9, ho9⟩ := hpos9 (by rw [HX5.out]; decide)
 rw [HX5.out] at hc9 ⊢
 have HSe := hH (HSd.out.keep hO)
 have HO9 := hH ho9
 have hgl9 := ho9.lt
 have hm9c := hm9
 unfold maxLen at hm9c
 have hc9i : (60 : Int) ≤ (c9 : Int) := by omega
 clear hO ho9 hpos9 HSd
 refine hK.out _ _ (HSe.out.box.cell 4 (by simp)) (fun hSn => ?_)
 clear hK K hSw0
 have hSw0 := hSn
 clear hSn
 refine tR 2 62 fun K hK => ?_
 go_simp
 have HSf := hH (HSe.out.alloc (.cells #[.slice (some ⟨g9, 0, none⟩) 64 c9] 47))
 have HO9f := hH (HO9.out.alloc (.cells #[.slice (some ⟨g9, 0, none⟩) 64 c9] 47))
 have HOWf : Hid ((va.alloc (.cells #[.slice (some ⟨g9, 0, none⟩) 64 c9] 47)).ownsRow va.heap.size 47 1 (.slice (some ⟨va.heap.size, 0, none⟩) 1 1) 1 ([(some ⟨g9, 0, none⟩, 64, c9)].map slv)) := hH (ownsRow_built va 47 [.slice (some ⟨g9, 0, none⟩) 64 c9] 1 rfl (by simp [maxLen]))
 have hvsz : va.heap.size ≤ (va.alloc (.cells #[.slice (some ⟨g9, 0, none⟩) 64 c9] 47)).heap.size := by simp
 have hwa := HSe.out.only.size
 have hlb := HSe.out.box.lt
 have hlp := HSe.out.row.lp
 have hlg := HSe.out.row.lg
 generalize hvz : va.heap.size = vz at *
 generalize hvb : (va.alloc (.cells #[.slice (some ⟨g9, 0, none⟩) 64 c9] 47)) = vb at *
 clear hvb hvz
 clear HSe HO9
 refine hK.out _ _ (HSf.out.box.cell 4 (by simp)) (fun hSn => ?_)
 clear hK K hSw0
 have hSw0 := hSn
 clear hSn
 refine tR 5 65 fun K hK => ?_
 refine step_append_row1 rfl (.tmp 62) (.tmp 64) 54 rfl vz 47 i0 _ 24 Tryz.underlying54 hi0 hz0 hz1 hz2 rfl (.slice (some ⟨vz, 0, none⟩) 1 1) 1 _ rfl HOWf.out B nb cb (sl.map slv) rfl (HRO0.out.keep0 HSf.out.only) (slv_one sl) (by unfold maxLen; omega) (by omega) hvsz ?_
 intro v' vc hown hgrow _
 have hS : Only [vz] vb vc := (Only.refl _ _).grown hgrow fun q hq => .inl (by simp [Value.ownBlock] at hq; simp [hq])
 have HSg := hH (HSf.out.keepS hS (by simp; omega) (by simp; omega) (by simp; omega) (by simp; omega))
 have hO9g := HO9f.out.keep hS (by simp; omega)
 have hb0 : Bys vc (some ⟨g9, 0, none⟩) 64 c9 X5 := Row1.of_Own hO9g (by rw [bvs_length, HX5.out]) hc9 hm9
 obtain ⟨A5, c5, rfl, hbk⟩ := blks_of_owns (sl := (some ⟨g9, 0, none⟩, 64, c9) :: sl) hown ((HBL0.out.keep0 HSg.out.only).cons hb0) (Nat.le_trans hvsz hS.size)
 have HBK := hH hbk
 clear hbk hb0 hO9g hS hown hgrow HOWf HO9f HSf hvsz hlb hlp hlg hwa
 refine hK.out _ _ (HSg.out.box.cell 4 (by simp)) (fun hSn => ?_)
 clear hK K hSw0
 have hSw0 := hSn
 clear hSn
 refine tR 6 66 fun K hK => ?_
 go_simp
 refine (concat_any A5 (1 + nb) c5 (X5 :: bl) _ (by exact HBK.out) (by rw [HFL.out, HRL.out]; have := HLB.out; omega)).mono ?_
 rintro en vd ⟨A10, c10, rfl, hc10, hm10, hpos10, hO⟩
 rw [HFL.out] at hc10 hpos10 ⊢
 obtain ⟨g10, rfl, hg10, ho10⟩ := hpos10 (by rw [HRL.out]; omega)
 have hgg := HSg.out.only.size
 have HOA := hH ho10
 have HSh := hH (HSg.out.keep hO)
 clear hO ho10 hpos10 HSg HBK
 refine hK.out _ _ (HSh.out.box.cell 4 (by simp)) (fun hSn => ?_)
 clear hK K hSw0
 have hSw0 := hSn
 clear hSn
 refine tS 8 2 ?_
 refine tS 9 3 ?_
 refine tS 10 4 ?_
 refine tD ?_ _
 clear hSw0
 go_wp2
 go_ret3
 exact .inr ⟨RB, s, g10, c10, HENC.out, rfl, hc10, hm10, Nat.le_trans hgg hg10, HOA.out, HSh.out.only⟩
end Go.Proofs.YtgcfdjcpcclcjaaGreat
namespace Go.Kn
open Go Go.RowKit
/-- what the calls of a summary's reader give -/
def hdK1 (b : List UInt8) : Nat := takeK b 0 2
def hdK2 (b : List UInt8) : Nat := takeK b (hdK1 b) 12
def hdN (b : List UInt8) : Nat := getN b (hdK2 b) 1
def hdK3 (b : List UInt8) : Nat := getK b (hdK2 b) 1
def hdB (b : List UInt8) : Nat := getN b (hdK3 b) 1
def hdK4 (b : List UInt8) : Nat := getK b (hdK3 b) 1
def hdG (b : List UInt8) : Bool := getOk b (hdK3 b) 1
def hdM (b : List UInt8) : Bool := decide (takeB b 0 2 = [75, 82])
def hdOk (b : List UInt8) : Bool := hdG b && (hdM b && (decide (1 ≤ hdN b ∧ hdN b ≤ 6) && decide (hdB b ≤ hdN b)))
theorem getN_lt (b : List UInt8) (k : Nat) : getN b k 1 ≤ 255 := by
 unfold getN
 split
 ·have h1 := num_lt ((b.drop k).take 1)
  have h2 : ((b.drop k).take 1).length ≤ 1 := by simp <;> omega
  have h3 : (256 : Nat) ^ ((b.drop k).take 1).length ≤ 256 ^ 1 := Nat.pow_le_pow_right (by decide) h2
  have e : (Int.toNat 1) = 1 := rfl
  rw [e]
  omega
 omega
theorem hd_at {b : List UInt8} (h : 16 ≤ b.length) : hdN b = rcN b ∧ hdB b = rcK b ∧ hdOk b = rcHd b ∧ hdK4 b = 16 := by
 obtain ⟨a1, a2⟩ := took_at (bs := b) (k := 0) (n := 2) (by omega)
 obtain ⟨b1, b2⟩ := took_at (bs := b) (k := 2) (n := 12) (by omega)
 obtain ⟨c1, c2⟩ := got_at (bs := b) (k := 14) (n := 1) (by omega) (by omega)
 obtain ⟨d1, d2⟩ := got_at (bs := b) (k := 15) (n := 1) (by omega) (by omega)
 have hg : getOk b 15 1 = true := decide_eq_true ⟨by omega, by omega⟩
 simp only [Int.natCast_one, show ((2 : Nat) : Int) = 2 from rfl, show ((12 : Nat) : Int) = 12 from rfl, Nat.zero_add, List.drop_zero] at a1 a2 b2 c1 c2 d1 d2
 have e1 : hdK1 b = 2 := a2
 have e2 : hdK2 b = 14 := by unfold hdK2; rw [e1]; exact b2
 have e3 : hdN b = rcN b := by unfold hdN; rw [e2]; unfold rd at c1; unfold rcN; omega
 have e4 : hdK3 b = 15 := by unfold hdK3; rw [e2]; exact c2
 have e5 : hdB b = rcK b := by unfold hdB; rw [e4]; unfold rd at d1; unfold rcK; omega
 refine ⟨e3, e5, ?_, by unfold hdK4; rw [e4]; exact d2⟩
 unfold hdOk rcHd hdG hdM
 rw [e4, hg, a1, e3, e5, Bool.true_and]
/-- what the reader of a summary answers -/
def HdSays (w : World) (p g : Nat) (b : List UInt8) (e : Ending) (w' : World) : Prop :=
 e = .returned (.tuple #[.int .i64 (hdN b : Nat), .int .i64 (hdB b : Nat), .bool (hdOk b)]) ∧ RowAt w' p g b (hdK4 b) ∧ Only [p] w w'
end Go.Kn
namespace Go.Proofs.YtgcfdjcpcclcjaaGreat
open Go Go.RowKit Go.Kn
theorem rec_heading_any (p g : Nat) (b : List UInt8) (w : World) (h : RowAt w p g b 0) :
  Calls Tryz.prog 210 #[.pointer (some ⟨p, 0, none⟩)] w (HdSays w p g b) := by
 have HR := hH h
 have hlp := h.lp
 clear h
 have hn1 := getN_lt b (hdK2 b)
 have hn2 := getN_lt b (hdK3 b)
 go_enter Tryz.func210, Tryz.ntmps210
 go_wp2_with fail
 refine (take_all p g 0 b 2 _ HR.out).mono ?_
 rintro e w1 ⟨A1, c1, rfl, hb1, hf1, hr1, hO1⟩
 have HNE : Hid (0 < (takeB b 0 2).length → ∀ a, A1 = some a → a.block ≠ p) := hH (fun h0 a ha => by have := hf1 h0 a ha; omega)
 have HB1 := hH hb1
 have HR1 : Hid (RowAt w1 p g b (hdK1 b)) := hH hr1
 have HO1 := hH hO1
 have HMD : Hid (hdM b = decide (takeB b 0 2 = [75, 82])) := hH rfl
 clear hb1 hf1 hr1 hO1 HR
 generalize takeB b 0 2 = mg at *
 generalize takeOk b 0 2 = o1 at *
 go_wp2_with fail
 refine (take_all p g (hdK1 b) b 12 _ HR1.out).mono ?_
 rintro e w2 ⟨A2, c2, rfl, hb2, hf2, hr2, hO2⟩
 have HR2 : Hid (RowAt w2 p g b (hdK2 b)) := hH hr2
 have HO2 := hH (HO1.out.trans' hO2)
 have HB2 := hH (HB1.out.keepP hO2 (fun h0 a ha => by have := HNE.out h0 a ha; simpa using this))
 clear hb2 hf2 hr2 hO2 HR1 HO1 HB1
 generalize takeB b (hdK1 b) 12 = mh at *
 generalize takeOk b (hdK1 b) 12 = o2 at *
 go_wp2_with fail
 refine (get_all p g (hdK2 b) b 1 _ HR2.out).mono ?_
 rintro e w3 ⟨rfl, hr3, hO3⟩
 have HR3 : Hid (RowAt w3 p g b (hdK3 b)) := hH hr3
 have HO3 := hH (HO2.out.trans' hO3)
 have HB3 := hH (HB2.out.keepP hO3 (fun h0 a ha => by have := HNE.out h0 a ha; simpa using this))
 clear hr3 hO3 HR2 HO2 HB2
 have HN : Hid (hdN b = getN b (hdK2 b) 1) := hH rfl
 generalize hN : getN b (hdK2 b) 1 = N at *
 generalize getOk b (hdK2 b) 1 = o3 at *
 clear hN
 go_wp2_with fail
 refine (get_all p g (hdK3 b) b 1 _ HR3.out).mono ?_
 rintro e w4 ⟨rfl, hr4, hO4⟩
 have HR4 : Hid (RowAt w4 p g b (hdK4 b)) := hH hr4
 have HO4 := hH (HO3.out.trans' hO4)
 have hb4 := HB3.out.keepP hO4 (fun h0 a ha => by have := HNE.out h0 a ha; simpa using this)
 clear hr4 hO4 HR3 HO3 HB3
 have HB : Hid (hdB b = getN b (hdK3 b) 1) := hH rfl
 have HG : Hid (hdG b = getOk b (hdK3 b) 1) := hH rfl
 generalize hK : getN b (hdK3 b) 1 = K at *
 generalize hG : getOk b (hdK3 b) 1 = G at *
 clear hK hG
 have hst := run_bytes_str (P := Tryz.prog) w4 47 9 5 Tryz.underlying47 Tryz.underlying5 Tryz.underlying9 A1 mg.length c1 mg hb4
 clear hb4
 have hOk : hdOk b = (G && (hdM b && (decide (1 ≤ (N : Int) ∧ (N : Int) ≤ 6) && decide (K ≤ N)))) := by
  unfold hdOk
  rw [HG.out, HN.out, HB.out]
  have e1 : decide (1 ≤ N ∧ N ≤ 6) = decide (1 ≤ (N : Int) ∧ (N : Int) ≤ 6) := by congr 1; simp only [eq_iff_iff]; omega
  rw [e1]
 have HOK := hH hOk
 clear hOk
 cases G
 ·go_wp2
  go_ret3
  exact ⟨by rw [HOK.out, HN.out, HB.out]; rfl, HR4.out, HO4.out⟩
 by_cases hmg : mg = [75, 82]
 ·subst hmg
  rw [show ([75, 82] : List UInt8).length = 2 from rfl] at hst
  have hmd : hdM b = true := by rw [HMD.out]; rfl
  have HMD2 := hH hmd
  clear hmd
  obtain ⟨q, hq⟩ : ∃ q, decide (1 ≤ (N : Int) ∧ (N : Int) ≤ 6) = q := ⟨_, rfl⟩
  have HQ := hH hq
  clear hq
  have hk1 : (K : Int) ≤ 255 := by omega
  cases q
  ·go_wp2_with fail
   refine (rec_within_any _ _ _ _).mono ?_
   rintro e w5 ⟨rfl, rfl⟩
   rw [HQ.out]
   go_wp2
   go_ret3
   exact ⟨by rw [HOK.out, HN.out, HB.out, HMD2.out, HQ.out]; rfl, HR4.out, HO4.out⟩
  go_wp2_with fail
  refine (rec_within_any _ _ _ _).mono ?_
  rintro e w5 ⟨rfl, rfl⟩
  rw [HQ.out]
  go_wp2
  go_ret3
  exact ⟨by rw [HOK.out, HN.out, HB.out, HMD2.out, HQ.out]; rfl, HR4.out, HO4.out⟩
 have hmd : hdM b = false := by rw [HMD.out]; exact decide_eq_false hmg
 have HMD2 := hH hmd
 clear hmd
 have hse : (mg == [75, 82]) = false := by simpa using hmg
 go_wp2_with fail
 go_ret3
 exact ⟨by rw [HOK.out, HN.out, HB.out, HMD2.out]; rfl, HR4.out, HO4.out⟩
theorem rec_size_any (A : Option Addr) (n c : Nat) (b : List UInt8) (w : World) (hi : Bys w A n c b) (hn : n ≤ 65536) :
  Calls Tryz.prog 186 #[.slice A n c] w fun e w' => e = .returned (.int .i64 (sizeRc b : Nat)) ∧ Only [] w w' := by
 have hlen := hi.len
 rw [bvs_length] at hlen
 have HI := hH hi
 have hK := getN_lt b (hdK3 b)
 have hsz : sizeRc b = if n = 64 ∧ hdOk b = true then 1 + hdB b else 0 := by
  unfold sizeRc
  rw [hlen]
  by_cases h : n = 64
  ·obtain ⟨h1, h2, h3, _⟩ := hd_at (b := b) (by omega)
   rw [h2, h3]
  rw [if_neg (fun hh => h hh.1), if_neg (fun hh => h hh.1)]
 have HSZ := hH hsz
 clear hi hlen hsz
 go_enter Tryz.func186, Tryz.ntmps186
 go_wp2_with fail
 refine (from_any A n c b _ HI.out hn).mono ?_
 rintro e w1 ⟨p, g, rfl, hp, hg, hr1, hO1⟩
 have HR1 := hH hr1
 have HO1 := hH hO1
 have HP := hH hp
 clear hr1 hO1 hp hg
 go_wp2_with fail
 refine (rec_heading_any p g b _ HR1.out).mono ?_
 rintro e w2 ⟨rfl, hr2, hO2⟩
 have HO2 := hH (HO1.out.trans hO2 (by have := HP.out; simp; omega) : Only [] w w2)
 clear hr2 hO2
 have hK2 : hdB b ≤ 255 := hK
 obtain ⟨q, hq⟩ : ∃ q, hdOk b = q := ⟨_, rfl⟩
 have HQ := hH hq
 rw [hq]
 generalize hdB b = K at *
 generalize hdN b = N at *
 clear hq hK
 cases q
 ·go_wp2
  go_ret
  refine ⟨?_, HO2.out⟩
  rw [HSZ.out, HQ.out, if_neg (by simp)]
  rfl
 by_cases h : n = 64
 ·subst h
  go_wp2
  go_ret
  refine ⟨?_, HO2.out⟩
  rw [HSZ.out, HQ.out, if_pos (by simp)]
  go_num
 have hd : ((n : Int) != 64) = true := by simp; omega
 have HN := hH h
 clear h
 go_wp2
 go_ret
 refine ⟨?_, HO2.out⟩
 rw [HSZ.out, if_neg (fun hh => HN.out hh.1)]
 rfl
end Go.Proofs.YtgcfdjcpcclcjaaGreat
namespace Go.Kn
open Go Go.RowKit
def chunkB (b : List UInt8) (i : Nat) : List UInt8 := (b.drop (64 * (i + 1))).take 64
theorem rcBl_eq (b : List UInt8) (k : Nat) : rcBl b k = (List.range k).map (chunkB b) := rfl
theorem rcFit_eq (b : List UInt8) : rcFit b = (hdOk b && decide (b.length = 64 * (1 + hdB b))) := by
 unfold rcFit
 by_cases h : 16 ≤ b.length
 ·obtain ⟨h1, h2, h3, _⟩ := hd_at h
  rw [h2, h3]
 rw [decide_eq_false (by omega), decide_eq_false (by omega), Bool.and_false, Bool.and_false]
theorem rcFit_iff {b : List UInt8} : rcFit b = true ↔ (b.take 2 = [75, 82] ∧ (1 ≤ rcN b ∧ rcN b ≤ 6) ∧ rcK b ≤ rcN b) ∧ b.length = 64 * (1 + rcK b) := by
 unfold rcFit rcHd
 simp only [Bool.and_eq_true, decide_eq_true_eq]
theorem rc_its_len {b : List UInt8} (h : rcFit b = true) : ((b.drop 16).take (7 * rcN b)).length = 7 * rcN b := by
 obtain ⟨⟨_, ⟨_, _⟩, _⟩, hl⟩ := rcFit_iff.1 h
 rw [List.length_take, List.length_drop]
 omega
theorem rc_items {b : List UInt8} (h : rcFit b = true) : decItems ((b.drop 16).take (7 * rcN b)) = if (rcOf b).its.all It.may = true then some (rcOf b).its else none := by
 have hl := rc_its_len h
 obtain ⟨⟨_, ⟨_, _⟩, _⟩, _⟩ := rcFit_iff.1 h
 have e : (rcOf b).its = parse ((b.drop 16).take (7 * rcN b)) (rcN b) := rfl
 rw [e]
 unfold decItems
 rw [hl, show 7 * rcN b / 7 = rcN b from by omega]
 by_cases hm : (parse ((b.drop 16).take (7 * rcN b)) (rcN b)).all It.may = true
 ·rw [if_pos ⟨by omega, by omega, hm⟩, if_pos hm]
 rw [if_neg (fun hh => hm hh.2.2), if_neg hm]
theorem rc_no_items {b : List UInt8} (h : rcFit b = true) (hd : decItems ((b.drop 16).take (7 * rcN b)) = none) : decRc b = none := by
 cases hr : decRc b with
 | none => rfl
 | some x =>
  obtain ⟨h1, h2, _⟩ := encRc_of_dec hr
  obtain ⟨hm, _⟩ := of_enc h1
  obtain ⟨_, hal, _⟩ := rcMay_iff.1 hm
  rw [h2] at hal
  rw [rc_items h, if_pos hal] at hd
  cases hd
theorem rc_some_items {b : List UInt8} {l : List It} (h : rcFit b = true) (hd : decItems ((b.drop 16).take (7 * rcN b)) = some l) : l = (rcOf b).its := by
 rw [rc_items h] at hd
 split at hd
 ·injection hd with hd; exact hd.symm
 cases hd
theorem rc_not_fit {b : List UInt8} (h : rcFit b = false) : decRc b = none := by
 unfold decRc
 rw [h]
 rfl
theorem rc_dec_of {b : List UInt8} (h : rcFit b = true) : decRc b = (match encRc (rcOf b) with
  | some (y, s) => if y = b then some (rcOf b, s) else none
  | none => none) := by
 unfold decRc
 rw [if_pos h]
 rfl
theorem Wc.mk1 {w0 w : World} {f : Nat} {cs : List Value} (hO : Only [] w0 w) (ho : Kn.Own w f cs) (hf : w0.heap.size ≤ f) : Wc w0 w [(f, cs)] [] [] :=
 ⟨hO, by intro x hx; simp at hx; subst hx; exact ho, by intro x hx; simp at hx; subst hx; exact hf, by simp, by simp, by simp, by simp, by simp⟩
theorem Row1.three {w : World} {g o n c l m : Nat} {xs : List Value} (h : Row1 w (some ⟨g, o, none⟩) n c xs) (hl : l + m ≤ n) : Row1 w (some ⟨g, o + l, none⟩) m m ((xs.drop l).take m) := by
 have h1 := h.len
 have h2 := h.le
 have h3 := h.cm
 refine ⟨by simp; omega, Nat.le_refl _, by omega, fun hm => ⟨g, o + l, rfl, fun i hi => ?_⟩⟩
 obtain ⟨g', o', e, hc⟩ := h.at_ (by omega)
 injection e with e
 injection e with e1 e2
 subst e1 e2
 simp at hi
 rw [List.getElem_take, List.getElem_drop, Nat.add_assoc]
 exact hc (l + i) (by omega)
def rcZ : Rc := ⟨0, 0, 0, [], []⟩
/-- what a reader of records answers -/
def RcSays (w : World) (o : Option (Rc × Nat)) (err : Int) (e : Ending) (w' : World) : Prop :=
 ∃ s t : Option Addr × Nat × Nat, e = .returned (.tuple #[.agg (((o.map (·.1)).getD rcZ).cells s t), .int .i64 ((o.map (·.2)).getD 0 : Nat), .int .i64 (if o.isSome then 0 else err)]) ∧ Fc w' (fun k => k < w.heap.size) (fun W => RcAt W ((o.map (·.1)).getD rcZ) s t) ∧ Only [] w w'
theorem RcSays.no {w w' : World} {o : Option (Rc × Nat)} {err : Int} (h : o = none) (hO : Only [] w w') : RcSays w o err (.returned (.tuple #[.agg #[.int .i64 0, .int .i64 0, .int .i64 0, .slice none 0 0, .slice none 0 0], .int .i64 0, .int .i64 err])) w' := by
 subst h
 exact ⟨(none, 0, 0), (none, 0, 0), rfl, fun W _ => ⟨Its.nil W, Blks.nil W⟩, hO⟩
theorem RcAt.fc {w : World} {M : Nat → Prop} {r : Rc} {s t : Option Addr × Nat × Nat} {sl : List (Option Addr × Nat × Nat)} (h1 : Fc w M (fun W => Its W s.1 s.2.1 s.2.2 r.its)) (h2 : Fc w M (fun W => Row1 W t.1 t.2.1 t.2.2 (sl.map slv))) (h3 : Fc w M (fun W => Bls W sl r.bl)) : Fc w M (fun W => RcAt W r s t) := fun W hW =>
 ⟨h1 W hW, sl, h2 W hW, h3 W hW⟩
theorem setCell_obj {w : World} {D : Nat} {o : Obj} {p : Addr} {v : Value} (h : w.heap[D]? = some o) (ho : o.isCells = false) : (w.setCell p v).heap[D]? = some o := (KeepsOthers.setCell w p v).same D o h ho
theorem Only.putObj {w0 w : World} {D : Nat} {o : Obj} (h : Only [] w0 w) (hD : w0.heap.size ≤ D) : Only [] w0 (w.putObj D o) :=
 h.trans (T := [D]) ⟨rfl, rfl, rfl, by simp, fun k _ hk => World.putObj_heap_other (by simpa using hk)⟩ (by simpa using hD)
theorem Row1.of_owns {w : World} {base e n c : Nat} {A : Option Addr} {xs : List Value} (h : w.ownsRow base e 1 (.slice A n c) n xs) : Row1 w A n c xs ∧ (0 < n → ∀ a, A = some a → base ≤ a.block) := by
 have h1 := h.1
 rw [Nat.mul_one] at h1
 rcases h.2 with ⟨hv, h0⟩ | ⟨g, cap, cur, hv, hb, hh, hn, hm, hs, ht⟩
 ·injection hv with e1 e2 e3
  subst e1 e3
  subst h0
  obtain rfl : xs = [] := List.eq_nil_of_length_eq_zero h1
  exact ⟨Row1.nil w, fun h => absurd h (by omega)⟩
 injection hv with e1 e2 e3
 subst e1 e3
 refine ⟨Row1.of_Own ⟨cur, _, hh, by rw [h1]; simpa using ht⟩ h1 hn hm, fun _ a ha => ?_⟩
 injection ha with ha
 subst ha
 exact hb
theorem Wc.rcFc {w V : World} {L : List (Nat × List Value)} {F : List (World → Prop)} {e N n c3 c5 : Nat} {A3 A5 : Option Addr} {sl : List (Option Addr × Nat × Nat)} {its : List It} {bl : List (List UInt8)} {rm rn rp : Int} (h : Wc w V L [⟨e, 1, .slice A5 n c5, n, sl.map slv⟩] F)
  (hb : (fun W => Bls W sl bl) ∈ F) (hi : (fun W => Its W A3 N c3 its) ∈ F) (hfi : 0 < N → ∀ a, A3 = some a → w.heap.size ≤ a.block) (hfr : ∀ s ∈ sl, ∀ a, s.1 = some a → w.heap.size ≤ a.block) :
  Fc V (fun k => k < w.heap.size) (fun W => RcAt W ⟨rm, rn, rp, its, bl⟩ (A3, N, c3) (A5, n, c5)) := by
 obtain ⟨h1, h2⟩ := Row1.of_owns (h.gi 0 rfl)
 refine RcAt.fc (sl := sl) ((h.fact _ hi).fc (fun h0 a ha hm => ?_)) (h1.fc (fun h0 a ha hm => ?_)) ((h.fact _ hb).fc (fun s hs _ a ha hm => ?_))
 ·have := hfi h0 a ha; omega
 ·have := h2 h0 a ha; omega
 have := hfr s hs a ha; omega
theorem Its.keepS {S : List Nat} {w w' : World} {A : Option Addr} {n c : Nat} {l : List It} (h : Its w A n c l) (hO : Only S w w') (hS : 0 < n → ∀ a, A = some a → a.block ∉ S) : Its w' A n c l :=
 ⟨h.len, h.le, h.cm, fun hn => by
  obtain ⟨g, o, e, hc⟩ := h.at_ hn
  have hg : g ∉ S := hS hn _ e
  exact ⟨g, o, e, fun i hi => ⟨hO.cell (hc i hi).1 hg, hO.cell (hc i hi).2.1 hg, hO.cell (hc i hi).2.2.1 hg, hO.cell (hc i hi).2.2.2 hg⟩⟩⟩
end Go.Kn
namespace Go.Proofs.YtgcfdjcpcclcjaaGreat
open Go Go.RowKit Go.Kn Go.Shelf
attribute [local go_sem] Oper.semAt_some
theorem rec_dec_any (A : Option Addr) (n c : Nat) (bs : List UInt8) (w : World) (hi : Bys w A n c bs) (hn : n ≤ 60000) :
  Calls Tryz.prog 187 #[.slice A n c] w (RcSays w (decRc bs) 2) := by
 have hres : Tryz.f187.results = #[.cell 2 56, .tmp 3, .tmp 4] := by kernel_rfl
 have HRES := hH hres
 obtain ⟨i0, hi0, hz0, hz1, hz2⟩ := info_parts Tryz.infoBys
 have hlen := hi.len
 have hnc := hi.le
 have hcm := hi.cm
 rw [bvs_length] at hlen
 have HI := hH hi
 have HL := hH hlen
 have hfe := rcFit_eq bs
 rw [hlen] at hfe
 have HFE := hH hfe
 have hB0 := Own.new w #[.int .i64 0, .int .i64 0, .int .i64 0, .slice none 0 0, .slice none 0 0] 56
 have hO0 := (Only.refl [] w).alloc (.cells #[.int .i64 0, .int .i64 0, .int .i64 0, .slice none 0 0, .slice none 0 0] 56)
 have HI0 := hH (HI.out.alloc (.cells #[.int .i64 0, .int .i64 0, .int .i64 0, .slice none 0 0, .slice none 0 0] 56))
 have hfl := hB0.lt
 have hK := getN_lt bs (hdK3 bs)
 clear hi hlen hfe hres
 refine (callsIn_wide (n := 4)).1 (callsIn_of_wp_marks Tryz.func187 rfl trivial ?_ rfl)
 simp only [Tryz.ntmps187, List.size_toArray, List.length_cons, List.length_nil, Nat.reduceAdd, Nat.reduceSub, Array.replicate_succ, Array.replicate_zero, List.push_toArray, List.append_toArray, List.nil_append, List.cons_append]
 refine wpIn_wide.2 ?_
 go_wp2_with fail
 generalize hfe : w.heap.size = f at *
 have HFE2 := hH hfe
 have hfw : w.heap.size ≤ f := by omega
 clear hfe
 generalize w.alloc (.cells #[.int .i64 0, .int .i64 0, .int .i64 0, .slice none 0 0, .slice none 0 0] 56) = w0 at *
 refine (from_any A n c bs _ (by exact HI0.out) (by omega)).mono ?_
 rintro en w1 ⟨p, g, rfl, hp, hg, hr1, hO1⟩
 have HS1 : Hid (Decs w w1 p g 0 f bs [.int .i64 0, .int .i64 0, .int .i64 0, .slice none 0 0, .slice none 0 0]) := hH (Decs.start hB0 hfw hO0 hp hg hr1 hO1)
 clear hr1 hO1 hB0 hO0 HI0 hp hg
 go_wp2_with fail
 refine (rec_heading_any p g bs _ HS1.out.row).mono ?_
 rintro en w2 ⟨rfl, hr2, hO2⟩
 have HS2 := hH (HS1.out.got hr2 hO2)
 clear hr2 hO2 HS1
 have hK2 : hdB bs ≤ 255 := hK
 obtain ⟨Nv, hN'⟩ : ∃ x, x = hdN bs := ⟨_, rfl⟩
 obtain ⟨kb, hkb⟩ : ∃ x, x = hdB bs := ⟨_, rfl⟩
 rw [← hN', ← hkb]
 rw [← hkb] at hK2
 have HNN := hH hN'
 have HKB := hH hkb
 obtain ⟨q, hq⟩ : ∃ q, hdOk bs = q := ⟨_, rfl⟩
 have HQ := hH hq
 rw [hq]
 clear hq hK hN' hkb
 have hw1 : IntKind.i64.wrap (1 + (kb : Int)) = 1 + (kb : Int) := IntWalk.i64_in _ (by omega)
 have hw2 : IntKind.i64.wrap (64 * (1 + (kb : Int))) = 64 * (1 + (kb : Int)) := IntWalk.i64_in _ (by omega)
 unfold maxLen at hcm
 obtain ⟨hx0, hx1, hx2, hx3, hx4⟩ := Kn.own5 HS2.out.box
 have hz0' := HS2.out.box.frozen 0
 have hz1' := HS2.out.box.frozen 1
 have hz2' := HS2.out.box.frozen 2
 have hz3' := HS2.out.box.frozen 3
 have hz4' := HS2.out.box.frozen 4
 have hfw2 := HS2.out.box.lt
 by_cases hfit : ¬ (q = true ∧ n = 64 * (1 + kb))
 ·have hno : decRc bs = none := rc_not_fit (by
   rw [HFE.out, HQ.out, ← HKB.out]
   cases q with
   | false => rfl
   | true => simpa using hfit)
  have HNO := hH hno
  clear hno
  cases q
  ·clear hfit
   go_wp2
   (try simp only [Exit.inBlock, Exit.then])
   refine marks_ret (v := (.tuple #[.agg #[.int .i64 0, .int .i64 0, .int .i64 0, .slice none 0 0, .slice none 0 0], .int .i64 0, .int .i64 2])) ?_ rfl (RcSays.no HNO.out ?_)
   ·simp only [results, HRES.out]
    go_simp
   (repeat' first | (with_reducible refine Only.set ?_ (.inr hfw) _) | (with_reducible exact HS2.out.only))
  have hd : ((n : Int) != 64 * (1 + (kb : Int))) = true := by simp at hfit ⊢; omega
  clear hfit
  go_wp2
  (try simp only [Exit.inBlock, Exit.then])
  refine marks_ret (v := (.tuple #[.agg #[.int .i64 0, .int .i64 0, .int .i64 0, .slice none 0 0, .slice none 0 0], .int .i64 0, .int .i64 2])) ?_ rfl (RcSays.no HNO.out ?_)
  ·simp only [results, HRES.out]
   go_simp
  (repeat' first | (with_reducible refine Only.set ?_ (.inr hfw) _) | (with_reducible exact HS2.out.only))
 have hfit := Classical.not_not.1 hfit
 obtain ⟨rfl, hnk⟩ := hfit
 have hd : ((n : Int) != 64 * (1 + (kb : Int))) = false := by simp; omega
 have hft : rcFit bs = true := by rw [HFE.out, HQ.out, ← HKB.out, decide_eq_true hnk]; rfl
 have HFT := hH hft
 obtain ⟨⟨-, ⟨h1N, hN6⟩, hKN⟩, -⟩ := rcFit_iff.1 hft
 have hl64 : 64 ≤ bs.length := by rw [HL.out]; omega
 obtain ⟨a1, a2, -, a4⟩ := hd_at (b := bs) (by omega)
 have HNR : Hid (Nv = rcN bs) := hH (by rw [HNN.out, a1])
 have HKR : Hid (kb = rcK bs) := hH (by rw [HKB.out, a2])
 rw [← HNR.out] at h1N hN6 hKN
 rw [← HKR.out] at hKN
 have HS3 : Hid (Decs w w2 p g 16 f bs [.int .i64 0, .int .i64 0, .int .i64 0, .slice none 0 0, .slice none 0 0]) := hH (by rw [← a4]; exact HS2.out)
 have HNK := hH hnk
 have hnb : 64 ≤ n := by omega
 have hn7 : n ≤ 448 := by omega
 have hw3 : IntKind.i64.wrap (7 * (Nv : Int)) = 7 * (Nv : Int) := IntWalk.i64_in _ (by omega)
 clear hft a1 a2 a4 HS2 hnk hl64 HFE HQ
 go_wp2_with fail
 rw [show (7 : Int) * (Nv : Int) = ((7 * Nv : Nat) : Int) from by omega]
 refine (take_any p g 16 bs (7 * Nv) _ HS3.out.row (by rw [HL.out]; omega)).mono ?_
 rintro en w3 ⟨A3, c3, rfl, hc3, hm3, hpos3, hr3, hO3⟩
 obtain ⟨g3, rfl, hg3, ho3⟩ := hpos3 (by omega)
 have HB3 : Hid (Bys w3 (some ⟨g3, 0, none⟩) (7 * Nv) c3 ((bs.drop 16).take (7 * Nv))) := hH (Row1.of_Own ho3 (by rw [bvs_length, HNR.out]; exact rc_its_len HFT.out) hc3 hm3)
 have HS4 := hH (HS3.out.got hr3 hO3)
 clear hw1 hw2 hw3 hd hpos3 hr3 hO3 ho3 HS3 hx0 hx1 hx2 hx3 hx4 hz0' hz1' hz2' hz3' hz4' hfw2
 obtain ⟨L7, hL7⟩ : ∃ x, x = 7 * Nv := ⟨_, rfl⟩
 rw [← hL7] at HB3 hc3 ⊢
 have hL42 : L7 ≤ 42 := by omega
 have HL7 := hH hL7
 clear hL7
 go_wp2_with fail
 refine (item_dec_any (some ⟨g3, 0, none⟩) L7 c3 _ _ (by exact HB3.out) (by omega)).mono ?_
 rintro en w4 ⟨A4, c4, rfl, hits, hfr, hO4⟩
 have HS5 := hH (HS4.out.keep hO4)
 have hw3s := HS4.out.only.size
 have hf3 := HS4.out.box.lt
 obtain ⟨hx0, hx1, hx2, hx3, hx4⟩ := Kn.own5 HS5.out.box
 have hz0' := HS5.out.box.frozen 0
 have hz1' := HS5.out.box.frozen 1
 have hz2' := HS5.out.box.frozen 2
 have hz3' := HS5.out.box.frozen 3
 have hz4' := HS5.out.box.frozen 4
 have hfw2 := HS5.out.box.lt
 clear hO4 HS4 HB3
 rw [HL7.out, HNR.out] at hits hfr ⊢
 cases hdi : decItems ((bs.drop 16).take (7 * rcN bs)) with
 | none =>
  have hno : decRc bs = none := rc_no_items HFT.out hdi
  have HNO := hH hno
  simp only [Option.getD_none, Option.isSome_none, List.length_nil, Bool.false_eq_true, if_false]
  clear hits hfr hno
  go_wp2
  (try simp only [Exit.inBlock, Exit.then])
  refine marks_ret (v := (.tuple #[.agg #[.int .i64 0, .int .i64 0, .int .i64 0, .slice none 0 0, .slice none 0 0], .int .i64 0, .int .i64 2])) ?_ rfl (RcSays.no HNO.out ?_)
  ·simp only [results, HRES.out]
   go_simp
  (repeat' first | (with_reducible refine Only.set ?_ (.inr hfw) _) | (with_reducible exact HS5.out.only))
 | some its =>
  have hie := rc_some_items HFT.out hdi
  have hil : its.length = Nv := by rw [hie, HNR.out]; exact parse_length _ _
  rw [hdi] at hits hfr
  simp only [Option.getD_some] at hits hfr
  rw [hil] at hits hfr
  simp only [Option.getD_some, Option.isSome_some, if_true]
  rw [hil]
  have HIE := hH hie
  have HFR : Hid (0 < Nv → ∀ a, A4 = some a → a.block ≠ f ∧ w.heap.size ≤ a.block) := hH (fun h0 a ha => by have := hfr h0 a ha; omega)
  have HIT5 := hH (hits.keepS ((Only.refl [f] w4).set (p := ⟨f, 3, none⟩) (by simp) (.slice A4 Nv c4)) (fun h0 a ha => by simpa using (HFR.out h0 a ha).1))
  have hp5 := HS5.out.put 3 (.slice A4 Nv c4)
  simp only [List.set_cons_zero, List.set_cons_succ] at hp5
  have HP5 := hH hp5
  clear hdi hie hil hits hfr hp5
  go_wp2_with fail
  generalize hw5 : w4.setCell ⟨f, 3, none⟩ (.slice A4 Nv c4) = w5 at *
  clear hw5 HS5
  clear hx0 hx1 hx2 hx3 hx4 hz0' hz1' hz2' hz3' hz4' hfw2
  refine (from_any A n c bs _ (by exact HI.out.keep0 HP5.out.only) (by omega)).mono ?_
  rintro en w6 ⟨p2, g2, rfl, hp, hg, hr, hO⟩
  have HNA : Hid (0 < Nv → ∀ a, A4 = some a → a.block ≠ p2) := hH (fun h0 a ha => by have := HIT5.out.block_lt h0 a ha; omega)
  have HIT := hH (HIT5.out.keep0 hO)
  have HS : Hid (Decs w w6 p2 g2 0 f bs [.int .i64 0, .int .i64 0, .int .i64 0, .slice A4 Nv c4, .slice none 0 0]) := hH (Decs.start HP5.out.box hfw HP5.out.only hp hg hr hO)
  clear hp hg hr hO HP5 HIT5
  have HRM : Hid (((num ((bs.drop 2).take 4) : Nat) : Int) = rd bs 2 4) := hH rfl
  have HRN : Hid (((num ((bs.drop 6).take 4) : Nat) : Int) = rd bs 6 4) := hH rfl
  have HRP : Hid (((num ((bs.drop 10).take 4) : Nat) : Int) = rd bs 10 4) := hH rfl
  have HRO : Hid (rcOf bs = ⟨rd bs 2 4, rd bs 6 4, rd bs 10 4, its, rcBl bs kb⟩) := hH (by rw [HIE.out, HKR.out]; rfl)
  generalize rd bs 2 4 = rm at *
  generalize rd bs 6 4 = rn at *
  generalize rd bs 10 4 = rp at *
  go_wp2_with fail
  refine (take_any p2 g2 0 bs 2 _ HS.out.row (by rw [HL.out]; omega)).mono ?_
  rintro en w7 ⟨A7, c7, rfl, -, -, -, hr, hO⟩
  have HSn := hH (HS.out.got hr hO)
  have HITn := hH (HIT.out.keepS hO (fun h0 a ha => by simpa using HNA.out h0 a ha))
  clear hr hO HS HIT
  have HS := HSn
  have HIT := HITn
  clear HSn HITn
  go_wp2_with fail
  refine (get_any p2 g2 2 bs 4 _ HS.out.row (by decide) (by rw [HL.out]; omega)).mono ?_
  rintro en w8 ⟨rfl, hr, hO⟩
  rw [HRM.out]
  have HSg := hH (HS.out.got hr hO)
  have HITg := hH (HIT.out.keepS hO (fun h0 a ha => by simpa using HNA.out h0 a ha))
  clear hr hO HS HIT
  have hq0 := Kn.own1 HSg.out.box
  have hq1 := HSg.out.box.frozen 0
  have hq2 := HSg.out.box.lt
  have hp5 := HSg.out.put 0 (.int .i64 rm)
  simp only [List.set_cons_zero, List.set_cons_succ] at hp5
  have HS := hH hp5
  have HIT := hH (HITg.out.keepS ((Only.refl [f] w8).set (p := ⟨f, 0, none⟩) (by simp) (.int .i64 rm)) (fun h0 a ha => by simpa using (HFR.out h0 a ha).1))
  clear hp5 HSg HITg
  go_upto_region 12 with fail
  generalize hw5 : World.setCell w8 ⟨f, 0, none⟩ (.int .i64 rm) = w9 at *
  clear hw5 hq0 hq1 hq2
  go_wp2_with fail
  refine (get_any p2 g2 6 bs 4 _ HS.out.row (by decide) (by rw [HL.out]; omega)).mono ?_
  rintro en w10 ⟨rfl, hr, hO⟩
  rw [HRN.out]
  have HSg := hH (HS.out.got hr hO)
  have HITg := hH (HIT.out.keepS hO (fun h0 a ha => by simpa using HNA.out h0 a ha))
  clear hr hO HS HIT
  have hq0 := HSg.out.box.cell 1 (by simp)
  simp only [g0, gs] at hq0
  have hq1 := HSg.out.box.frozen 1
  have hq2 := HSg.out.box.lt
  have hp5 := HSg.out.put 1 (.int .i64 rn)
  simp only [List.set_cons_zero, List.set_cons_succ] at hp5
  have HS := hH hp5
  have HIT := hH (HITg.out.keepS ((Only.refl [f] w10).set (p := ⟨f, 1, none⟩) (by simp) (.int .i64 rn)) (fun h0 a ha => by simpa using (HFR.out h0 a ha).1))
  clear hp5 HSg HITg
  go_upto_region 13 with fail
  generalize hw5 : World.setCell w10 ⟨f, 1, none⟩ (.int .i64 rn) = w11 at *
  clear hw5 hq0 hq1 hq2
  go_wp2_with fail
  refine (get_any p2 g2 10 bs 4 _ HS.out.row (by decide) (by rw [HL.out]; omega)).mono ?_
  rintro en w12 ⟨rfl, hr, hO⟩
  rw [HRP.out]
  have HSg := hH (HS.out.got hr hO)
  have HITg := hH (HIT.out.keepS hO (fun h0 a ha => by simpa using HNA.out h0 a ha))
  clear hr hO HS HIT
  have hq0 := HSg.out.box.cell 2 (by simp)
  simp only [g0, gs] at hq0
  have hq1 := HSg.out.box.frozen 2
  have hq2 := HSg.out.box.lt
  have hp5 := HSg.out.put 2 (.int .i64 rp)
  simp only [List.set_cons_zero, List.set_cons_succ] at hp5
  have HS := hH hp5
  have HIT := hH (HITg.out.keepS ((Only.refl [f] w12).set (p := ⟨f, 2, none⟩) (by simp) (.int .i64 rp)) (fun h0 a ha => by simpa using (HFR.out h0 a ha).1))
  clear hp5 HSg HITg
  go_upto_region 14 with fail
  generalize hw5 : World.setCell w12 ⟨f, 2, none⟩ (.int .i64 rp) = w13 at *
  clear hw5 hq0 hq1 hq2
  have hs64 : ∀ w, (Instr.slice 47 (.slice A n c) (some (.int .i64 64)) none none).run Tryz.prog w = .ok (.slice (cutA A c 64) (64 * kb) (c - 64)) w := fun w => run_slice1_lo (P := Tryz.prog) w 47 5 Tryz.underlying47 (by kernel_rfl) A n c 64 64 (64 * kb) .i64 rfl (by omega) (by omega)
  go_wp2_with fail
  refine (chunk_any (cutA A c 64) (64 * kb) (c - 64) _).mono ?_
  rintro en wx ⟨rfl, rfl⟩
  have hw1 := ((Wc.mk1 HS.out.only HS.out.box HS.out.hf).gnew 47 1)
  have hw2 := (hw1.addF (fun W => Its W A4 Nv c4 its) (HIT.out.fc (fun h0 a ha hm => by
   have := HFR.out h0 a ha
   simp [Mut, Value.ownBlock] at hm
   omega))).old (f := fun W => Bys W A n c bs) (Row1.fc HI.out (fun _ _ _ h => h))
  have hw3 := (hw2.newB #[.slice (cutA A c 64) (64 * kb) (c - 64)] 47 rfl).newB #[.int .i64 64] 3 (b := w13.heap.size + 1) (by simp)
  have hbl := HS.out.box.lt
  have hHD : Hid (w.heap.size ≤ w13.heap.size) := hH HS.out.only.size
  clear hw1 hw2 HS HIT hs64
  generalize hwL : (w13.alloc (.cells #[.slice (cutA A c 64) (64 * kb) (c - 64)] 47)).alloc (.cells #[.int .i64 64] 3) = wL at *
  have hsz : wL.heap.size = w13.heap.size + 2 := by rw [← hwL]; simp
  generalize w13.heap.size + 1 = b2 at *
  generalize w13.heap.size = b1 at *
  have HWL := hH hw3
  have HSZ := hH hsz
  clear hw3 hwL hsz
  obtain ⟨ga, oa, rfl, -⟩ := HI.out.at_ (by omega)
  obtain ⟨A1, hA1⟩ : ∃ x, cutA (some (⟨ga, oa, none⟩ : Addr)) c 64 = x := ⟨_, rfl⟩
  have hA2 : 0 < kb → A1 = some ⟨ga, oa + 64, none⟩ := fun h0 => by
   have := HNK.out
   rw [← hA1, cutA, if_neg (by omega)]
   simp only [Option.map_some, Addr.add]
   split <;> simp_all
  rw [hA1] at HWL ⊢
  clear hA1
  have HA2 := hH hA2
  clear hA2
  go_wp2_with fail
  refine (wpIn_wide (n := 4)).1 ?_
  refine wpIn_rangeFunc_ownG (F := Fence.wide) (n := 4) rfl (by decide) (gf := 206) (lb := #[.pointer (some ⟨b1, 0, none⟩), .pointer (some ⟨b2, 0, none⟩)]) rfl trivial (enters_of Tryz.func206 (by kernel_rfl) rfl)
   (chunk_stops 3 (by decide) b1 b2 ga (oa + 64) (c - 64) kb A1 HA2.out wL ((HWL.out.boxi 1 rfl).cell 0 (by simp)) ((HWL.out.boxi 0 rfl).cell 0 (by simp)) (by omega) (by omega) (by unfold maxLen; omega))
   (fun h k => h.trans k) (kpAt_b (by have := HSZ.out; intro k hk; have h1 := (HWL.out.boxi 1 rfl).lt; have h2 := (HWL.out.boxi 0 rfl).lt; simp at hk; rcases hk with rfl | rfl <;> assumption)) (Below.refl _ _) (fun _ => rfl)
   (fun (pre : List (Fin kb)) W => ∃ (A5 : Option Addr) (c5 : Nat) (sl : List (Option Addr × Nat × Nat)), Wc w W [(b2, [.int .i64 64]), (b1, [.slice A1 (64 * kb) (c - 64)]), (f, [.int .i64 rm, .int .i64 rn, .int .i64 rp, .slice A4 Nv c4, .slice A5 pre.length c5])] [⟨47, 1, .slice A5 pre.length c5, pre.length, sl.map slv⟩] [(fun W => Bls W sl (pre.map fun (x : Fin kb) => chunkB bs x.val)), (fun W => Bys W (some ⟨ga, oa, none⟩) n c bs), (fun W => Its W A4 Nv c4 its)] ∧ (∀ s ∈ sl, ∀ a, s.1 = some a → w.heap.size ≤ a.block))
   (fun _ _ _ => False)
   (fun s W W' row ⟨A5, c5, sl, h, hp⟩ hg hr => ⟨A5, c5, sl, h.grown HWL.out.only.size hg hr, hp⟩)
   (fun _ _ _ _ _ hs _ _ => hs)
   ⟨none, 0, [], HWL.out.addF (fun W => Bls W [] []) (fun W _ => Bls.nil W), by simp⟩
   (a₁ := ?a1) ?assign ?body ?done ?stop
  case assign =>
   intro l x W K hK
   gi_wp2
   exact hK
  case stop =>
   rintro D c pre W _ _ h _
   exact h.elim
  case body =>
   rintro l pre x W ⟨A5, c5, sl, hw, hfr⟩ hlen
   have HCH : Hid (∀ V, Bys V (some ⟨ga, oa, none⟩) n c bs → Bys V (some ⟨ga, oa + 64 + 64 * x.val, none⟩) 64 64 (chunkB bs x.val)) := hH (fun V h => by
    have hx := x.isLt
    have h3 := Row1.three h (l := 64 + 64 * x.val) (m := 64) (by have := HNK.out; omega)
    rw [bvs_cut, ← Nat.add_assoc] at h3
    unfold chunkB
    rw [show 64 * (x.val + 1) = 64 + 64 * x.val from by omega]
    exact h3)
   have HCL : Hid ((chunkB bs x.val).length = 64) := hH (by
    have hx := x.isLt
    have := HNK.out
    have := HL.out
    unfold chunkB
    rw [List.length_take, List.length_drop]
    omega)
   have HFRR := hH hfr
   have HMP : Hid ((pre ++ [x]).map (fun (x : Fin kb) => chunkB bs x.val) = pre.map (fun (x : Fin kb) => chunkB bs x.val) ++ [chunkB bs x.val]) := hH (by simp)
   have HPL : Hid ((pre ++ [x]).length = pre.length + 1) := hH (by simp)
   have HWs := hH hw
   have HIS : Hid (∀ k ∈ f :: (Value.slice A5 pre.length c5).ownBlock.toList, (∀ ob, W.heap[k]? = some ob → ob.isCells = true) ∧ k ≠ b1 ∧ k ≠ b2) := hH (fun k hk => by
    have hnd := hw.nd
    simp at hnd
    rcases List.mem_cons.1 hk with rfl | hk
    ·exact ⟨(hw.boxi 2 rfl).isCells, fun e => hnd.2 e.symm, fun e => hnd.1.2 e.symm⟩
    have hk2 : (Value.slice A5 pre.length c5).ownBlock = some k := by simpa using hk
    exact ⟨ownsRow_isCells (hw.gi 0 rfl) k hk2, fun e => hw.g3 (b1, [.slice A1 (64 * kb) (c - 64)]) (by simp) _ (List.mem_singleton.2 rfl) (by rw [← e]; exact hk2), fun e => hw.g3 (b2, [.int .i64 64]) (by simp) _ (List.mem_singleton.2 rfl) (by rw [← e]; exact hk2)⟩)
   obtain ⟨S0, hS0⟩ : ∃ S, S = f :: (Value.slice A5 pre.length c5).ownBlock.toList := ⟨_, rfl⟩
   rw [← hS0] at HIS
   have HSf : Hid (f ∈ S0) := hH (by rw [hS0]; simp)
   have HSo : Hid (∀ k, (Value.slice A5 pre.length c5).ownBlock = some k → k ∈ S0) := hH (fun k hk => by rw [hS0, hk]; simp)
   have HDs := hH hw.drew
   have HOs : Hid (Only S0 W W.drew) := hH (Only.refl _ _).drew
   obtain ⟨jj, hjj⟩ : ∃ j, j = pre.length := ⟨_, rfl⟩
   rw [← hjj] at HDs HSo HPL hlen
   have HJJ := hH hjj
   clear hw hfr hS0 hjj
   have hjk : jj ≤ 1000 := by omega
   refine wpIn_block ?_
   refine wpIn_region_held_drew (S := fun w' => w'.cell? ⟨f, 0, none⟩ = some (.int .i64 rm)) not_letsOut_ownPostG (plainOps_spec (by kernel_rfl)) (by kernel_rfl) ((HDs.out.boxi 2 rfl).cell 0 (by simp)) (fun hSw0 => ?_)
   generalize W.drew = ws at *
   refine tS 0 74 ?_
   refine tS 2 76 ?_
   refine wpAnyH_ready (rs := [1, 3]) (by kernel_rfl) (by simp) ?_
   refine AllReadyH.cons (o := ⟨some 75, _, _, _, _, _⟩) rfl (fun K hK => ?_) ?_
   ·have yq := (HDs.out.boxi 2 rfl).cell 4 (by simp)
    simp only [g0, gs] at yq
    have lq := (HDs.out.boxi 2 rfl).lt
    go_simp
    clear yq lq
    refine hK.out _ _ ((HDs.out.boxi 2 rfl).cell 0 (by simp)) (fun hSn => ?_)
    clear hK K hSw0
    have hSw0 := hSn
    clear hSn
    refine tR 3 77 fun K hK => ?_
    go_simp
    refine (clone_any _ 64 64 (chunkB bs x.val) _ (HCH.out _ (HDs.out.fi 1 rfl)) (by decide)).mono ?_
    rintro en va ⟨A7, c7, rfl, hc7, hm7, hpos7, hO⟩
    rw [HCL.out] at hc7 hpos7 ⊢
    obtain ⟨g7, rfl, hg7, ho7⟩ := hpos7 (by decide)
    have hbw := HDs.out.only.size
    have HDa := hH (HDs.out.addFc hO (f := fun V => Bys V (some ⟨g7, 0, none⟩) 64 c7 (chunkB bs x.val)) (Row1.fc (Row1.of_Own ho7 (by rw [bvs_length, HCL.out]) hc7 hm7) (fun _ a ha => by injection ha with ha; subst ha; simp; omega)))
    have HOa := hH (HOs.out.trans' (hO.mono (by simp)))
    have hgw : w.heap.size ≤ g7 := by omega
    clear hpos7 hO ho7 hg7 hbw
    refine hK.out _ _ ((HDa.out.boxi 2 rfl).cell 0 (by simp)) (fun hSn => ?_)
    clear hK K hSw0
    have hSw0 := hSn
    clear hSn
    refine tR 4 78 fun K hK => ?_
    go_simp
    have HDb := hH (HDa.out.alloc (.cells #[.slice (some ⟨g7, 0, none⟩) 64 c7] 47))
    have HOb := hH (HOa.out.alloc (.cells #[.slice (some ⟨g7, 0, none⟩) 64 c7] 47))
    have hnr : Row1 (va.alloc (.cells #[.slice (some ⟨g7, 0, none⟩) 64 c7] 47)) (some ⟨va.heap.size, 0, none⟩) 1 1 ([(some ⟨g7, 0, none⟩, 64, c7)].map slv) := Row1.of_Own (Own.new va #[.slice (some ⟨g7, 0, none⟩) 64 c7] 47) rfl (Nat.le_refl _) (by simp [maxLen])
    have HNR2 := hH hnr
    clear hnr
    have hbw := HDb.out.only.size
    generalize hvz : va.heap.size = vz at *
    generalize hvb : va.alloc (.cells #[.slice (some ⟨g7, 0, none⟩) 64 c7] 47) = vb at *
    clear hvb hvz
    refine hK.out _ _ ((HDb.out.boxi 2 rfl).cell 0 (by simp)) (fun hSn => ?_)
    clear hK K hSw0
    have hSw0 := hSn
    clear hSn
    refine tR 5 79 fun K hK => ?_
    refine step_append_row1 rfl (.tmp 75) (.tmp 78) 54 rfl w.heap.size 47 i0 _ 24 Tryz.underlying54 hi0 hz0 hz1 hz2 rfl (.slice A5 jj c5) jj (sl.map slv) rfl (HDb.out.gi 0 rfl) (some ⟨vz, 0, none⟩) 1 1 ([(some ⟨g7, 0, none⟩, 64, c7)].map slv) rfl HNR2.out (slv_one _) (by unfold maxLen; omega) (by omega) hbw ?_
    intro v' vd hown hgrow hat
    rw [← List.map_append] at hown
    have hdd := HDb.out.gapp 0 rfl hown hgrow hat
    obtain ⟨A6, c6, rfl⟩ := hdd.gform 0 rfl
    have HDd := hH hdd
    have HOd := hH (HOb.out.grown hgrow (fun k hk => .inl (HSo.out k hk)))
    clear hdd hown hgrow hat
    refine hK.out _ _ ((HDd.out.boxi 2 rfl).cell 0 (by simp)) (fun hSn => ?_)
    clear hK K hSw0
    have hSw0 := hSn
    clear hSn
    refine tS 6 80 ?_
    refine Kn.takeR 7 ⟨none, _, _, _, _, _⟩ fun K hK => ?_
    have yq := (HDd.out.boxi 2 rfl).cell 4 (by simp)
    simp only [g0, gs] at yq
    have lq := (HDd.out.boxi 2 rfl).lt
    have fq := (HDd.out.boxi 2 rfl).frozen 4
    go_simp
    have HDz := hH (HDd.out.put 2 rfl 4 (.slice A6 (jj + 1) c6))
    have HOz := hH (HOd.out.set (p := ⟨f, 4, none⟩) (.inl HSf.out) (.slice A6 (jj + 1) c6))
    clear yq lq fq
    refine hK.out _ _ ((HDz.out.boxi 2 rfl).cell 0 (by simp)) (fun hSn => ?_)
    clear hK K hSw0
    have hSw0 := hSn
    clear hSn
    refine tD ?_ _
    clear hSw0
    have hkf := keeps_of_only HOz.out (fun k hk => (HIS.out k hk).1)
    have hkp : KpAt [b1, b2] W _ := KpAt.of_only HOz.out (fun k hk => ⟨fun hm => by have := (HIS.out k hm).2; simp at hk; rcases hk with rfl | rfl <;> simp_all, by have h1 := (HWs.out.boxi 1 rfl).lt; have h2 := (HWs.out.boxi 0 rfl).lt; simp at hk; rcases hk with rfl | rfl <;> assumption⟩)
    refine ⟨hkf.from _, hkp, A6, c6, sl ++ [(some ⟨g7, 0, none⟩, 64, c7)], ?_, ?_⟩
    ·rw [HPL.out, HMP.out]
     refine (HDz.out.fuse (f1 := fun V => Bys V (some ⟨g7, 0, none⟩) 64 c7 (chunkB bs x.val)) (f2 := fun V => Bls V sl (pre.map fun (x : Fin kb) => chunkB bs x.val)) (f := fun V => Bls V (sl ++ [(some ⟨g7, 0, none⟩, 64, c7)]) (pre.map (fun (x : Fin kb) => chunkB bs x.val) ++ [chunkB bs x.val])) (List.mem_cons_self ..) (mc _ (List.mem_cons_self ..)) (fun V h1 h2 => h2.snoc h1)).sub (List.Sublist.refl _) ?_
     intro f1 hf1
     simp only [List.mem_cons, List.not_mem_nil, or_false] at hf1 ⊢
     rcases hf1 with rfl | rfl | rfl <;> simp
    intro s hs a ha
    rcases List.mem_append.1 hs with hs | hs
    ·exact HFRR.out s hs a ha
    simp at hs
    subst hs
    injection ha with ha
    subst ha
    exact hgw
   refine AllReadyH.cons (o := ⟨some 77, _, _, _, _, _⟩) rfl (fun K hK => ?_) ?_
   ·go_simp
    refine (clone_any _ 64 64 (chunkB bs x.val) _ (HCH.out _ (HDs.out.fi 1 rfl)) (by decide)).mono ?_
    rintro en va ⟨A7, c7, rfl, hc7, hm7, hpos7, hO⟩
    rw [HCL.out] at hc7 hpos7 ⊢
    obtain ⟨g7, rfl, hg7, ho7⟩ := hpos7 (by decide)
    have hbw := HDs.out.only.size
    have HDa := hH (HDs.out.addFc hO (f := fun V => Bys V (some ⟨g7, 0, none⟩) 64 c7 (chunkB bs x.val)) (Row1.fc (Row1.of_Own ho7 (by rw [bvs_length, HCL.out]) hc7 hm7) (fun _ a ha => by injection ha with ha; subst ha; simp; omega)))
    have HOa := hH (HOs.out.trans' (hO.mono (by simp)))
    have hgw : w.heap.size ≤ g7 := by omega
    clear hpos7 hO ho7 hg7 hbw
    refine hK.out _ _ ((HDa.out.boxi 2 rfl).cell 0 (by simp)) (fun hSn => ?_)
    clear hK K hSw0
    have hSw0 := hSn
    clear hSn
    refine wpAnyH_ready (rs := [1, 4]) (by kernel_rfl) (by simp) ?_
    refine AllReadyH.cons (o := ⟨some 75, _, _, _, _, _⟩) rfl (fun K hK => ?_) ?_
    ·have yq := (HDa.out.boxi 2 rfl).cell 4 (by simp)
     simp only [g0, gs] at yq
     have lq := (HDa.out.boxi 2 rfl).lt
     go_simp
     clear yq lq
     refine hK.out _ _ ((HDa.out.boxi 2 rfl).cell 0 (by simp)) (fun hSn => ?_)
     clear hK K hSw0
     have hSw0 := hSn
     clear hSn
     refine tR 4 78 fun K hK => ?_
     go_simp
     have HDb := hH (HDa.out.alloc (.cells #[.slice (some ⟨g7, 0, none⟩) 64 c7] 47))
     have HOb := hH (HOa.out.alloc (.cells #[.slice (some ⟨g7, 0, none⟩) 64 c7] 47))
     have hnr : Row1 (va.alloc (.cells #[.slice (some ⟨g7, 0, none⟩) 64 c7] 47)) (some ⟨va.heap.size, 0, none⟩) 1 1 ([(some ⟨g7, 0, none⟩, 64, c7)].map slv) := Row1.of_Own (Own.new va #[.slice (some ⟨g7, 0, none⟩) 64 c7] 47) rfl (Nat.le_refl _) (by simp [maxLen])
     have HNR2 := hH hnr
     clear hnr
     have hbw := HDb.out.only.size
     generalize hvz : va.heap.size = vz at *
     generalize hvb : va.alloc (.cells #[.slice (some ⟨g7, 0, none⟩) 64 c7] 47) = vb at *
     clear hvb hvz
     refine hK.out _ _ ((HDb.out.boxi 2 rfl).cell 0 (by simp)) (fun hSn => ?_)
     clear hK K hSw0
     have hSw0 := hSn
     clear hSn
     refine tR 5 79 fun K hK => ?_
     refine step_append_row1 rfl (.tmp 75) (.tmp 78) 54 rfl w.heap.size 47 i0 _ 24 Tryz.underlying54 hi0 hz0 hz1 hz2 rfl (.slice A5 jj c5) jj (sl.map slv) rfl (HDb.out.gi 0 rfl) (some ⟨vz, 0, none⟩) 1 1 ([(some ⟨g7, 0, none⟩, 64, c7)].map slv) rfl HNR2.out (slv_one _) (by unfold maxLen; omega) (by omega) hbw ?_
     intro v' vd hown hgrow hat
     rw [← List.map_append] at hown
     have hdd := HDb.out.gapp 0 rfl hown hgrow hat
     obtain ⟨A6, c6, rfl⟩ := hdd.gform 0 rfl
     have HDd := hH hdd
     have HOd := hH (HOb.out.grown hgrow (fun k hk => .inl (HSo.out k hk)))
     clear hdd hown hgrow hat
     refine hK.out _ _ ((HDd.out.boxi 2 rfl).cell 0 (by simp)) (fun hSn => ?_)
     clear hK K hSw0
     have hSw0 := hSn
     clear hSn
     refine tS 6 80 ?_
     refine Kn.takeR 7 ⟨none, _, _, _, _, _⟩ fun K hK => ?_
     have yq := (HDd.out.boxi 2 rfl).cell 4 (by simp)
     simp only [g0, gs] at yq
     have lq := (HDd.out.boxi 2 rfl).lt
     have fq := (HDd.out.boxi 2 rfl).frozen 4
     go_simp
     have HDz := hH (HDd.out.put 2 rfl 4 (.slice A6 (jj + 1) c6))
     have HOz := hH (HOd.out.set (p := ⟨f, 4, none⟩) (.inl HSf.out) (.slice A6 (jj + 1) c6))
     clear yq lq fq
     refine hK.out _ _ ((HDz.out.boxi 2 rfl).cell 0 (by simp)) (fun hSn => ?_)
     clear hK K hSw0
     have hSw0 := hSn
     clear hSn
     refine tD ?_ _
     clear hSw0
     have hkf := keeps_of_only HOz.out (fun k hk => (HIS.out k hk).1)
     have hkp : KpAt [b1, b2] W _ := KpAt.of_only HOz.out (fun k hk => ⟨fun hm => by have := (HIS.out k hm).2; simp at hk; rcases hk with rfl | rfl <;> simp_all, by have h1 := (HWs.out.boxi 1 rfl).lt; have h2 := (HWs.out.boxi 0 rfl).lt; simp at hk; rcases hk with rfl | rfl <;> assumption⟩)
     refine ⟨hkf.from _, hkp, A6, c6, sl ++ [(some ⟨g7, 0, none⟩, 64, c7)], ?_, ?_⟩
     ·rw [HPL.out, HMP.out]
      refine (HDz.out.fuse (f1 := fun V => Bys V (some ⟨g7, 0, none⟩) 64 c7 (chunkB bs x.val)) (f2 := fun V => Bls V sl (pre.map fun (x : Fin kb) => chunkB bs x.val)) (f := fun V => Bls V (sl ++ [(some ⟨g7, 0, none⟩, 64, c7)]) (pre.map (fun (x : Fin kb) => chunkB bs x.val) ++ [chunkB bs x.val])) (List.mem_cons_self ..) (mc _ (List.mem_cons_self ..)) (fun V h1 h2 => h2.snoc h1)).sub (List.Sublist.refl _) ?_
      intro f1 hf1
      simp only [List.mem_cons, List.not_mem_nil, or_false] at hf1 ⊢
      rcases hf1 with rfl | rfl | rfl <;> simp
     intro s hs a ha
     rcases List.mem_append.1 hs with hs | hs
     ·exact HFRR.out s hs a ha
     simp at hs
     subst hs
     injection ha with ha
     subst ha
     exact hgw
    refine AllReadyH.cons (o := ⟨some 78, _, _, _, _, _⟩) rfl (fun K hK => ?_) ?_
    ·go_simp
     have HDb := hH (HDa.out.alloc (.cells #[.slice (some ⟨g7, 0, none⟩) 64 c7] 47))
     have HOb := hH (HOa.out.alloc (.cells #[.slice (some ⟨g7, 0, none⟩) 64 c7] 47))
     have hnr : Row1 (va.alloc (.cells #[.slice (some ⟨g7, 0, none⟩) 64 c7] 47)) (some ⟨va.heap.size, 0, none⟩) 1 1 ([(some ⟨g7, 0, none⟩, 64, c7)].map slv) := Row1.of_Own (Own.new va #[.slice (some ⟨g7, 0, none⟩) 64 c7] 47) rfl (Nat.le_refl _) (by simp [maxLen])
     have HNR2 := hH hnr
     clear hnr
     have hbw := HDb.out.only.size
     generalize hvz : va.heap.size = vz at *
     generalize hvb : va.alloc (.cells #[.slice (some ⟨g7, 0, none⟩) 64 c7] 47) = vb at *
     clear hvb hvz
     refine hK.out _ _ ((HDb.out.boxi 2 rfl).cell 0 (by simp)) (fun hSn => ?_)
     clear hK K hSw0
     have hSw0 := hSn
     clear hSn
     refine tR 1 75 fun K hK => ?_
     have yq := (HDb.out.boxi 2 rfl).cell 4 (by simp)
     simp only [g0, gs] at yq
     have lq := (HDb.out.boxi 2 rfl).lt
     go_simp
     clear yq lq
     refine hK.out _ _ ((HDb.out.boxi 2 rfl).cell 0 (by simp)) (fun hSn => ?_)
     clear hK K hSw0
     have hSw0 := hSn
     clear hSn
     refine tR 5 79 fun K hK => ?_
     refine step_append_row1 rfl (.tmp 75) (.tmp 78) 54 rfl w.heap.size 47 i0 _ 24 Tryz.underlying54 hi0 hz0 hz1 hz2 rfl (.slice A5 jj c5) jj (sl.map slv) rfl (HDb.out.gi 0 rfl) (some ⟨vz, 0, none⟩) 1 1 ([(some ⟨g7, 0, none⟩, 64, c7)].map slv) rfl HNR2.out (slv_one _) (by unfold maxLen; omega) (by omega) hbw ?_
     intro v' vd hown hgrow hat
     rw [← List.map_append] at hown
     have hdd := HDb.out.gapp 0 rfl hown hgrow hat
     obtain ⟨A6, c6, rfl⟩ := hdd.gform 0 rfl
     have HDd := hH hdd
     have HOd := hH (HOb.out.grown hgrow (fun k hk => .inl (HSo.out k hk)))
     clear hdd hown hgrow hat
     refine hK.out _ _ ((HDd.out.boxi 2 rfl).cell 0 (by simp)) (fun hSn => ?_)
     clear hK K hSw0
     have hSw0 := hSn
     clear hSn
     refine tS 6 80 ?_
     refine Kn.takeR 7 ⟨none, _, _, _, _, _⟩ fun K hK => ?_
     have yq := (HDd.out.boxi 2 rfl).cell 4 (by simp)
     simp only [g0, gs] at yq
     have lq := (HDd.out.boxi 2 rfl).lt
     have fq := (HDd.out.boxi 2 rfl).frozen 4
     go_simp
     have HDz := hH (HDd.out.put 2 rfl 4 (.slice A6 (jj + 1) c6))
     have HOz := hH (HOd.out.set (p := ⟨f, 4, none⟩) (.inl HSf.out) (.slice A6 (jj + 1) c6))
     clear yq lq fq
     refine hK.out _ _ ((HDz.out.boxi 2 rfl).cell 0 (by simp)) (fun hSn => ?_)
     clear hK K hSw0
     have hSw0 := hSn
     clear hSn
     refine tD ?_ _
     clear hSw0
     have hkf := keeps_of_only HOz.out (fun k hk => (HIS.out k hk).1)
     have hkp : KpAt [b1, b2] W _ := KpAt.of_only HOz.out (fun k hk => ⟨fun hm => by have := (HIS.out k hm).2; simp at hk; rcases hk with rfl | rfl <;> simp_all, by have h1 := (HWs.out.boxi 1 rfl).lt; have h2 := (HWs.out.boxi 0 rfl).lt; simp at hk; rcases hk with rfl | rfl <;> assumption⟩)
     refine ⟨hkf.from _, hkp, A6, c6, sl ++ [(some ⟨g7, 0, none⟩, 64, c7)], ?_, ?_⟩
     ·rw [HPL.out, HMP.out]
      refine (HDz.out.fuse (f1 := fun V => Bys V (some ⟨g7, 0, none⟩) 64 c7 (chunkB bs x.val)) (f2 := fun V => Bls V sl (pre.map fun (x : Fin kb) => chunkB bs x.val)) (f := fun V => Bls V (sl ++ [(some ⟨g7, 0, none⟩, 64, c7)]) (pre.map (fun (x : Fin kb) => chunkB bs x.val) ++ [chunkB bs x.val])) (List.mem_cons_self ..) (mc _ (List.mem_cons_self ..)) (fun V h1 h2 => h2.snoc h1)).sub (List.Sublist.refl _) ?_
      intro f1 hf1
      simp only [List.mem_cons, List.not_mem_nil, or_false] at hf1 ⊢
      rcases hf1 with rfl | rfl | rfl <;> simp
     intro s hs a ha
     rcases List.mem_append.1 hs with hs | hs
     ·exact HFRR.out s hs a ha
     simp at hs
     subst hs
     injection ha with ha
     subst ha
     exact hgw
    exact AllReadyH.nil
   exact AllReadyH.nil
  rintro D xs W hD hxs ⟨A5, c5, sl, hw, hfr⟩ hK
  have hxl : xs.length = kb := by have := congrArg List.length hxs; simpa using this
  have hbl : xs.map (fun (x : Fin kb) => chunkB bs x.val) = rcBl bs kb := by rw [rcBl_eq, ← hxs, List.map_map]; rfl
  rw [hxl, hbl] at hw
  have hDw : w.heap.size ≤ D := Nat.le_trans HWL.out.only.size hD
  have hDl := lt_of_obj hK
  have hDf : D ≠ f := fun e => by
   have h1 := (hw.boxi 2 rfl).isCells _ (by rw [← e]; exact hK)
   cases h1
  have HKW := hH hK
  have HWW := hH hw
  have HFRR := hH hfr
  have HGB : Hid (Blks W A5 kb c5 (rcBl bs kb)) := hH ⟨sl, (Row1.of_owns (hw.gi 0 rfl)).1, hw.fi 0 rfl⟩
  have HDO := hH (rc_dec_of HFT.out)
  clear hxs hxl hbl hK hw hfr
  obtain ⟨x0, x1, x2, x3, x4⟩ := Kn.own5 (HWW.out.boxi 2 rfl)
  go_wp2_with fail
  refine (rec_enc_any rm rn rp A4 Nv c4 its A5 kb c5 (rcBl bs kb) _ (by exact HWW.out.fi 2 rfl) (by exact HGB.out)).mono ?_
  intro en wy he
  rw [← HRO.out] at he
  have hdo := HDO.out
  have hpc : ∀ (V : World) (i : Nat) (ob : Obj), (World.putObj V D ob).cell? ⟨f, i, none⟩ = V.cell? ⟨f, i, none⟩ := fun V i ob => World.cell?_of_block (World.putObj_heap_other (Ne.symm hDf))
  cases hen : encRc (rcOf bs) with
  | none =>
   rw [hen] at he hdo
   obtain ⟨rfl, hO⟩ := he.of_none
   have HY := hH (HWW.out.keep0 hO)
   have HKY : Hid (wy.heap[D]? = some (.deferred (some []))) := hH ((hO.block D hDl (by simp)).trans HKW.out)
   have HNO : Hid (decRc bs = none) := hH hdo
   clear hen hO he hdo x0 x1 x2 x3 x4
   obtain ⟨hx0, hx1, hx2, hx3, hx4⟩ := Kn.own5 (HY.out.boxi 2 rfl)
   have hz0' := (HY.out.boxi 2 rfl).frozen 0
   have hz1' := (HY.out.boxi 2 rfl).frozen 1
   have hz2' := (HY.out.boxi 2 rfl).frozen 2
   have hz3' := (HY.out.boxi 2 rfl).frozen 3
   have hz4' := (HY.out.boxi 2 rfl).frozen 4
   have hfw2 := (HY.out.boxi 2 rfl).lt
   go_wp2
   (try simp only [Exit.inBlock, Exit.then])
   refine marks_ret1 (v := (.tuple #[.agg #[.int .i64 0, .int .i64 0, .int .i64 0, .slice none 0 0, .slice none 0 0], .int .i64 0, .int .i64 2])) (D := D) ?_ ?_ rfl (RcSays.no HNO.out ?_)
   ·(repeat' first | (with_reducible refine setCell_obj ?_ rfl) | (with_reducible exact HKY.out))
   ·simp only [results, HRES.out]
    go_simp
   refine Only.putObj ?_ hDw
   (repeat' first | (with_reducible refine Only.set ?_ (.inr hfw) _) | (with_reducible exact HY.out.only))
  | some ys =>
   obtain ⟨y, s⟩ := ys
   rw [hen] at he hdo
   obtain ⟨g9, c9, rfl, hc9, hm9, hg9, ho9, hO⟩ := he.of_some
   have HY := hH (HWW.out.keep0 hO)
   have HKY : Hid (wy.heap[D]? = some (.deferred (some []))) := hH ((hO.block D hDl (by simp)).trans HKW.out)
   have HB9 : Hid (Bys wy (some ⟨g9, 0, none⟩) y.length c9 y) := hH (Row1.of_Own ho9 (bvs_length _) hc9 hm9)
   have HDO2 : Hid (decRc bs = if y = bs then some (rcOf bs, s) else none) := hH hdo
   clear hen hO he hdo ho9 x0 x1 x2 x3 x4 HDO
   obtain ⟨hx0, hx1, hx2, hx3, hx4⟩ := Kn.own5 (HY.out.boxi 2 rfl)
   have hz0' := (HY.out.boxi 2 rfl).frozen 0
   have hz1' := (HY.out.boxi 2 rfl).frozen 1
   have hz2' := (HY.out.boxi 2 rfl).frozen 2
   have hz3' := (HY.out.boxi 2 rfl).frozen 3
   have hz4' := (HY.out.boxi 2 rfl).frozen 4
   have hfw2 := (HY.out.boxi 2 rfl).lt
   go_wp2_with fail
   refine (bytes_equal_any (some ⟨g9, 0, none⟩) y.length c9 y (some ⟨ga, oa, none⟩) n c bs _ (by exact HB9.out) (by exact HY.out.fi 1 rfl)).mono ?_
   rintro en w5 ⟨rfl, rfl⟩
   by_cases hyb : y = bs
   ·have hd : decide (y = bs) = true := by simp [hyb]
    have HYES : Hid (decRc bs = some (rcOf bs, s)) := hH (by rw [HDO2.out, if_pos hyb])
    clear hyb
    go_wp2
    (try simp only [Exit.inBlock, Exit.then])
    have hkd : (World.heap (World.setCell (World.setCell (World.setCell (World.setCell (World.setCell wy ⟨f, 0, none⟩ (.int .i64 rm)) ⟨f, 1, none⟩ (.int .i64 rn)) ⟨f, 2, none⟩ (.int .i64 rp)) ⟨f, 3, none⟩ (.slice A4 Nv c4)) ⟨f, 4, none⟩ (.slice A5 kb c5)))[D]? = some (.deferred (some [])) := by
     (repeat' first | (with_reducible refine setCell_obj ?_ rfl) | (with_reducible exact HKY.out))
    have hfin := (((((HY.out.put 2 rfl 0 (.int .i64 rm)).put 2 rfl 1 (.int .i64 rn)).put 2 rfl 2 (.int .i64 rp)).put 2 rfl 3 (.slice A4 Nv c4)).put 2 rfl 4 (.slice A5 kb c5)).putObj (.deferred none) hkd rfl hDw
    refine marks_ret1 (v := .tuple #[.agg #[.int .i64 rm, .int .i64 rn, .int .i64 rp, .slice A4 Nv c4, .slice A5 kb c5], .int .i64 (s : Nat), .int .i64 0]) (D := D) hkd ?_ rfl ?_
    ·simp only [results, HRES.out]
     go_simp
    rw [HYES.out]
    refine ⟨(A4, Nv, c4), (A5, kb, c5), ?_, ?_, hfin.only⟩
    ·simp only [Option.map_some, Option.getD_some, Option.isSome_some, if_true]
     rw [HRO.out]
     rfl
    simp only [Option.map_some, Option.getD_some]
    rw [HRO.out]
    exact hfin.rcFc (List.mem_cons_self ..) (mc _ (mc _ (List.mem_cons_self ..))) (fun h0 a ha => (HFR.out h0 a ha).2) HFRR.out
   have hd : decide (y = bs) = false := by simp [hyb]
   have HNO : Hid (decRc bs = none) := hH (by rw [HDO2.out, if_neg hyb])
   clear hyb
   go_wp2
   (try simp only [Exit.inBlock, Exit.then])
   refine marks_ret1 (v := (.tuple #[.agg #[.int .i64 0, .int .i64 0, .int .i64 0, .slice none 0 0, .slice none 0 0], .int .i64 0, .int .i64 2])) (D := D) ?_ ?_ rfl (RcSays.no HNO.out ?_)
   ·(repeat' first | (with_reducible refine setCell_obj ?_ rfl) | (with_reducible exact HKY.out))
   ·simp only [results, HRES.out]
    go_simp
   refine Only.putObj ?_ hDw
   (repeat' first | (with_reducible refine Only.set ?_ (.inr hfw) _) | (with_reducible exact HY.out.only))
end Go.Proofs.YtgcfdjcpcclcjaaGreat
namespace Go.Proofs.YtgcfdjcpcclcjaaGreat
open Go Go.RowKit Go.Kn
def NewR (w0 : World) (n : Nat) (c : Fr3) (w : World) (e : Ending) (w' : World) : Prop := ∃ r : RD, e = .returned (.pointer (some ⟨r.M, 0, none⟩)) ∧ r.N = n ∧ Rsk w0 w' r (Dk.new n) c
theorem NewR.mk {w0 w w' : World} {n M f cc : Nat} {A : Option Addr} {c : Fr3} {sl : List (Option Addr × Nat × Nat)} (h1 : 1 ≤ n) (h2 : n ≤ 4096) 
  (h : Wc w0 w' ((M, [.slice A n cc, .slice none 0 0, .slice (some ⟨f, 0, none⟩) n n, .int .i64 (-1), .bool false, .int .i64 0, .slice none 0 0]) :: (f, bls (List.replicate n false)) :: c.L) (⟨47, 1, .slice A n cc, n, sl.map slv⟩ :: c.G) ((fun W => Bls W sl (List.replicate n zero64)) :: c.F)) :
  NewR w0 n c w (.returned (.pointer (some ⟨M, 0, none⟩))) w' := by
 obtain ⟨A', c', hv, hcc, _, hcl, _⟩ := (h.gath (x := ⟨47, 1, .slice A n cc, n, sl.map slv⟩) List.mem_cons_self).form (by show 0 < 1; omega)
 injection hv with e1 e2 e3
 subst e1 e3
 obtain ⟨g, rfl, _⟩ := hcl (by show 0 < n; omega)
 have hb := h.gbox
 refine ⟨⟨M, g, f, n, cc, n⟩, rfl, rfl, Dk.new_ok h1 h2, by simp [Dk.new], hcc, Nat.le_refl _, .slice none 0 0, .slice none 0 0, 0, [], sl, [], rfl, ?_⟩
 have h3 := ((hb.perm (List.Perm.swap _ _ _) (List.Perm.refl _)).gnew 47 1).gnew 175 2
 exact (h3.addF (fun W => Bls W [] []) (fun W _ => Bls.nil W)).fswap
theorem rk_new_any (w0 w : World) (n : Nat) (c : Fr3) (h : Wc w0 w c.L c.G c.F) (h1 : 1 ≤ n) (h2 : n ≤ 4096) : Calls Tryz.prog 142 #[.int .i64 (n : Int)] w (NewR w0 n c w) := by
 obtain ⟨i1, hi1, hy0, hy1, hy2⟩ := info_parts Tryz.infoBys
 obtain ⟨ZF, hZF⟩ : ∃ z, (bls (List.replicate n false)) = z := ⟨_, rfl⟩
 have hmf := make_bools n h2
 rw [hZF] at hmf
 obtain ⟨zz, hzz⟩ : ∃ x : List UInt8, List.replicate 64 0 = x := ⟨_, rfl⟩
 have hzl := List.length_replicate (n := 64) (a := (0 : UInt8))
 have hmk : ∀ w : World, (Instr.makeSlice 47 (.int .i64 64) (.int .i64 64)).run Tryz.prog w = .ok (.slice (some ⟨w.heap.size, 0, none⟩) 64 64) (w.alloc (.cells (bvs (List.replicate 64 0)).toArray 5)) := make_bys 64 (by decide)
 rw [hzz] at hzl
 simp only [hzz] at hmk
 have HMK := hH hmk
 have HZZ := hH hzz
 have HZF := hH hZF
 have hww : w0.heap.size ≤ w.heap.size := h.only.size
 have HD0 := hH ((h.newB ZF.toArray 4 rfl).newB #[.slice none 0 0, .slice none 0 0, .slice (some ⟨w.heap.size, 0, none⟩) n n, .int .i64 (-1), .bool false, .int .i64 0, .slice none 0 0] 109 rfl)
 clear hZF hzz hmk h
 have hn1 : 1 ≤ (n : Int) := by omega
 have hn2 : (n : Int) ≤ 4096 := by omega
 go_enter Tryz.func142, Tryz.ntmps142
 go_wp2_with fail
 refine (within_any (n : Int) 1 4096 _).mono ?_
 rintro e w' ⟨rfl, rfl⟩
 rw [decide_eq_true (show (1 : Int) ≤ n ∧ (n : Int) ≤ 4096 from ⟨by omega, by omega⟩)]
 go_wp2_with fail
 clear hmf
 generalize (w.alloc (.cells ZF.toArray 4)).alloc (.cells #[.slice none 0 0, .slice none 0 0, .slice (some ⟨w.heap.size, 0, none⟩) n n, .int .i64 (-1), .bool false, .int .i64 0, .slice none 0 0] 109) = wb at *
 have hbm : (w.alloc (.cells ZF.toArray 4)).heap.size = w.heap.size + 1 := by simp
 rw [hbm] at HD0
 clear hbm
 generalize hbf : w.heap.size = bf at *
 generalize hbm : bf + 1 = bm at *
 have HBF := hH hbf
 clear hbf hbm
 have hd1 := HD0.out.gnew 47 1
 have HD1 := hH hd1
 clear HD0 hd1
 go_loopg [4] n (fun r i wr => ∃ (j : Nat) (A4 : Option Addr) (c4 : Nat) (sl : List (Option Addr × Nat × Nat)), j + r = n ∧ i = .int .i64 j ∧
  Wc w0 wr ((bm, [.slice A4 j c4, .slice none 0 0, .slice (some ⟨bf, 0, none⟩) n n, .int .i64 (-1), .bool false, .int .i64 0, .slice none 0 0]) :: (bf, ZF) :: c.L) (⟨47, 1, .slice A4 j c4, j, sl.map slv⟩ :: c.G) ((fun W => Bls W sl (List.replicate j zero64)) :: c.F))
 case atStart => exact ⟨0, none, 0, [], by omega, rfl, HD1.out.addF _ (fun W _ => Bls.nil W)⟩
 obtain ⟨j, A4, c4, sl, hj, rfl, hw⟩ := hrel
 have HD7 := hH hw.drew
 have HW := hH hw
 clear HD1 hw
 by_cases hlt : j < n
 ·have hlt2 : (j : Int) < (n : Int) := by omega
  clear HW
  go_wp2_with fail
  refine wp_region_held_drew (S := fun w' => w'.cell? ⟨bm, 1, none⟩ = some (.slice none 0 0)) (by kernel_rfl) ((HD7.out.boxi 0 rfl).cell 1 (by simp)) (fun hSw0 => ?_)
  generalize wr.drew = ws at *
  refine tS 0 17 ?_
  refine tS 1 18 ?_
  refine tS 2 19 ?_
  refine tS 3 20 ?_
  refine wpAnyH_ready (rs := [4, 5]) (by kernel_rfl) (by simp) ?_
  refine AllReadyH.cons (o := ⟨some 21, _, _, _, _, _⟩) rfl (fun K hK => ?_) ?_
  ·have yq := Kn.own1 (HD7.out.boxi 0 rfl)
   go_simp
   clear yq
   refine hK.out _ _ ((HD7.out.boxi 0 rfl).cell 1 (by simp)) (fun hSn => ?_)
   clear hK K hSw0
   have hSw0 := hSn
   clear hSn
   refine tR 5 22 fun K hK => ?_
   have hmk := HMK.out
   go_simp
   clear hmk
   have hbw := HD7.out.only.size
   have ho7 := Own.new ws (bvs zz).toArray 5
   have HDa := hH (HD7.out.addFc ((Only.refl [] ws).alloc (.cells (bvs zz).toArray 5)) (f := fun V => Bys V (some ⟨ws.heap.size, 0, none⟩) 64 64 zz) (Row1.fc (Row1.of_Own ho7 (by simp [hzl]) (Nat.le_refl _) (by simp [maxLen])) (fun _ a ha => by injection ha with ha; subst ha; simp)))
   obtain ⟨g7, hg7⟩ : ∃ g, ws.heap.size = g := ⟨_, rfl⟩
   clear ho7 hbw
   rw [hg7] at HDa ⊢
   clear hg7
   generalize ws.alloc (.cells (bvs zz).toArray 5) = va at *
   clear HD7
   refine hK.out _ _ ((HDa.out.boxi 0 rfl).cell 1 (by simp)) (fun hSn => ?_)
   clear hK K hSw0
   have hSw0 := hSn
   clear hSn
   refine tR 6 23 fun K hK => ?_
   go_simp
   have HDb := hH (HDa.out.alloc (.cells #[.slice (some ⟨g7, 0, none⟩) 64 64] 47))
   have hnr : Row1 (va.alloc (.cells #[.slice (some ⟨g7, 0, none⟩) 64 64] 47)) (some ⟨va.heap.size, 0, none⟩) 1 1 ([(some ⟨g7, 0, none⟩, 64, 64)].map slv) := Row1.of_Own (Own.new va #[.slice (some ⟨g7, 0, none⟩) 64 64] 47) rfl (Nat.le_refl _) (by simp [maxLen])
   have HNR2 := hH hnr
   clear hnr
   have hbw := HDb.out.only.size
   generalize hvz : va.heap.size = vz at *
   generalize hvb : va.alloc (.cells #[.slice (some ⟨g7, 0, none⟩) 64 64] 47) = vb at *
   clear hvb hvz
   refine hK.out _ _ ((HDb.out.boxi 0 rfl).cell 1 (by simp)) (fun hSn => ?_)
   clear hK K hSw0
   have hSw0 := hSn
   clear hSn
   refine tR 7 24 fun K hK => ?_
   refine step_append_row1 rfl (.tmp 21) (.tmp 23) 54 rfl w0.heap.size 47 i1 _ 24 Tryz.underlying54 hi1 hy0 hy1 hy2 rfl (.slice A4 j c4) j (sl.map slv) rfl (HDb.out.gi 0 rfl) (some ⟨vz, 0, none⟩) 1 1 ([(some ⟨g7, 0, none⟩, 64, 64)].map slv) rfl HNR2.out (slv_one _) (by unfold maxLen; omega) (by omega) hbw ?_
   intro v' vd hown hgrow hat
   rw [← List.map_append] at hown
   have hdd := HDb.out.gapp 0 rfl hown hgrow hat
   obtain ⟨A8, c8, rfl⟩ := hdd.gform 0 rfl
   simp only [List.set_cons_zero, List.set_cons_succ] at hdd
   have HDd := hH hdd
   clear hdd hown hgrow hat
   refine hK.out _ _ ((HDd.out.boxi 0 rfl).cell 1 (by simp)) (fun hSn => ?_)
   clear hK K hSw0
   have hSw0 := hSn
   clear hSn
   refine tS 8 25 ?_
   refine tS 9 26 ?_
   refine Kn.takeR 10 ⟨none, _, _, _, _, _⟩ fun K hK => ?_
   have yq := Kn.own1 (HDd.out.boxi 0 rfl)
   have fq := (HDd.out.boxi 0 rfl).frozen 0
   go_simp
   have hdz := HDd.out.put 0 rfl 0 (.slice A8 (j + 1) c8)
   simp only [List.set_cons_zero, List.set_cons_succ] at hdz
   have HDz := hH hdz
   clear hdz
   clear yq fq
   refine hK.out _ _ ((HDz.out.boxi 0 rfl).cell 1 (by simp)) (fun hSn => ?_)
   clear hK K hSw0
   have hSw0 := hSn
   clear hSn
   refine tD ?_ _
   clear hSw0
   go_wp2_with fail
   go_roundg (gk - 1)
   case measure => omega
   refine ⟨j + 1, A8, c8, sl ++ [(some ⟨g7, 0, none⟩, 64, 64)], by omega, by go_num, ?_⟩
   ·refine (HDz.out.fuse (f1 := fun V => Bys V (some ⟨g7, 0, none⟩) 64 64 zz) (f2 := fun V => Bls V sl (List.replicate j zero64)) (f := fun V => Bls V (sl ++ [(some ⟨g7, 0, none⟩, 64, 64)]) (List.replicate (j + 1) zero64)) (by simp) (by simp) (fun V h1 h2 => by rw [List.replicate_succ']; have := HZZ.out; unfold zero64 at h2 ⊢; rw [this] at h2 ⊢; exact h2.snoc h1)).subF ?_
    intro f1 hf1
    rcases List.mem_cons.1 hf1 with rfl | hf1
    ·simp
    simp [hf1]
  refine AllReadyH.cons (o := ⟨some 22, _, _, _, _, _⟩) rfl (fun K hK => ?_) ?_
  ·have hmk := HMK.out
   go_simp
   clear hmk
   have hbw := HD7.out.only.size
   have ho7 := Own.new ws (bvs zz).toArray 5
   have HDa := hH (HD7.out.addFc ((Only.refl [] ws).alloc (.cells (bvs zz).toArray 5)) (f := fun V => Bys V (some ⟨ws.heap.size, 0, none⟩) 64 64 zz) (Row1.fc (Row1.of_Own ho7 (by simp [hzl]) (Nat.le_refl _) (by simp [maxLen])) (fun _ a ha => by injection ha with ha; subst ha; simp)))
   obtain ⟨g7, hg7⟩ : ∃ g, ws.heap.size = g := ⟨_, rfl⟩
   clear ho7 hbw
   rw [hg7] at HDa ⊢
   clear hg7
   generalize ws.alloc (.cells (bvs zz).toArray 5) = va at *
   clear HD7
   refine hK.out _ _ ((HDa.out.boxi 0 rfl).cell 1 (by simp)) (fun hSn => ?_)
   clear hK K hSw0
   have hSw0 := hSn
   clear hSn
   refine wpAnyH_ready (rs := [4, 6]) (by kernel_rfl) (by simp) ?_
   refine AllReadyH.cons (o := ⟨some 21, _, _, _, _, _⟩) rfl (fun K hK => ?_) ?_
   ·have yq := Kn.own1 (HDa.out.boxi 0 rfl)
    go_simp
    clear yq
    refine hK.out _ _ ((HDa.out.boxi 0 rfl).cell 1 (by simp)) (fun hSn => ?_)
    clear hK K hSw0
    have hSw0 := hSn
    clear hSn
    refine tR 6 23 fun K hK => ?_
    go_simp
    have HDb := hH (HDa.out.alloc (.cells #[.slice (some ⟨g7, 0, none⟩) 64 64] 47))
    have hnr : Row1 (va.alloc (.cells #[.slice (some ⟨g7, 0, none⟩) 64 64] 47)) (some ⟨va.heap.size, 0, none⟩) 1 1 ([(some ⟨g7, 0, none⟩, 64, 64)].map slv) := Row1.of_Own (Own.new va #[.slice (some ⟨g7, 0, none⟩) 64 64] 47) rfl (Nat.le_refl _) (by simp [maxLen])
    have HNR2 := hH hnr
    clear hnr
    have hbw := HDb.out.only.size
    generalize hvz : va.heap.size = vz at *
    generalize hvb : va.alloc (.cells #[.slice (some ⟨g7, 0, none⟩) 64 64] 47) = vb at *
    clear hvb hvz
    refine hK.out _ _ ((HDb.out.boxi 0 rfl).cell 1 (by simp)) (fun hSn => ?_)
    clear hK K hSw0
    have hSw0 := hSn
    clear hSn
    refine tR 7 24 fun K hK => ?_
    refine step_append_row1 rfl (.tmp 21) (.tmp 23) 54 rfl w0.heap.size 47 i1 _ 24 Tryz.underlying54 hi1 hy0 hy1 hy2 rfl (.slice A4 j c4) j (sl.map slv) rfl (HDb.out.gi 0 rfl) (some ⟨vz, 0, none⟩) 1 1 ([(some ⟨g7, 0, none⟩, 64, 64)].map slv) rfl HNR2.out (slv_one _) (by unfold maxLen; omega) (by omega) hbw ?_
    intro v' vd hown hgrow hat
    rw [← List.map_append] at hown
    have hdd := HDb.out.gapp 0 rfl hown hgrow hat
    obtain ⟨A8, c8, rfl⟩ := hdd.gform 0 rfl
    simp only [List.set_cons_zero, List.set_cons_succ] at hdd
    have HDd := hH hdd
    clear hdd hown hgrow hat
    refine hK.out _ _ ((HDd.out.boxi 0 rfl).cell 1 (by simp)) (fun hSn => ?_)
    clear hK K hSw0
    have hSw0 := hSn
    clear hSn
    refine tS 8 25 ?_
    refine tS 9 26 ?_
    refine Kn.takeR 10 ⟨none, _, _, _, _, _⟩ fun K hK => ?_
    have yq := Kn.own1 (HDd.out.boxi 0 rfl)
    have fq := (HDd.out.boxi 0 rfl).frozen 0
    go_simp
    have hdz := HDd.out.put 0 rfl 0 (.slice A8 (j + 1) c8)
    simp only [List.set_cons_zero, List.set_cons_succ] at hdz
    have HDz := hH hdz
    clear hdz
    clear yq fq
    refine hK.out _ _ ((HDz.out.boxi 0 rfl).cell 1 (by simp)) (fun hSn => ?_)
    clear hK K hSw0
    have hSw0 := hSn
    clear hSn
    refine tD ?_ _
    clear hSw0
    go_wp2_with fail
    go_roundg (gk - 1)
    case measure => omega
    refine ⟨j + 1, A8, c8, sl ++ [(some ⟨g7, 0, none⟩, 64, 64)], by omega, by go_num, ?_⟩
    ·refine (HDz.out.fuse (f1 := fun V => Bys V (some ⟨g7, 0, none⟩) 64 64 zz) (f2 := fun V => Bls V sl (List.replicate j zero64)) (f := fun V => Bls V (sl ++ [(some ⟨g7, 0, none⟩, 64, 64)]) (List.replicate (j + 1) zero64)) (by simp) (by simp) (fun V h1 h2 => by rw [List.replicate_succ']; have := HZZ.out; unfold zero64 at h2 ⊢; rw [this] at h2 ⊢; exact h2.snoc h1)).subF ?_
     intro f1 hf1
     rcases List.mem_cons.1 hf1 with rfl | hf1
     ·simp
     simp [hf1]
   refine AllReadyH.cons (o := ⟨some 23, _, _, _, _, _⟩) rfl (fun K hK => ?_) ?_
   ·go_simp
    have HDb := hH (HDa.out.alloc (.cells #[.slice (some ⟨g7, 0, none⟩) 64 64] 47))
    have hnr : Row1 (va.alloc (.cells #[.slice (some ⟨g7, 0, none⟩) 64 64] 47)) (some ⟨va.heap.size, 0, none⟩) 1 1 ([(some ⟨g7, 0, none⟩, 64, 64)].map slv) := Row1.of_Own (Own.new va #[.slice (some ⟨g7, 0, none⟩) 64 64] 47) rfl (Nat.le_refl _) (by simp [maxLen])
    have HNR2 := hH hnr
    clear hnr
    have hbw := HDb.out.only.size
    generalize hvz : va.heap.size = vz at *
    generalize hvb : va.alloc (.cells #[.slice (some ⟨g7, 0, none⟩) 64 64] 47) = vb at *
    clear hvb hvz
    refine hK.out _ _ ((HDb.out.boxi 0 rfl).cell 1 (by simp)) (fun hSn => ?_)
    clear hK K hSw0
    have hSw0 := hSn
    clear hSn
    refine tR 4 21 fun K hK => ?_
    have yq := Kn.own1 (HDb.out.boxi 0 rfl)
    go_simp
    clear yq
    refine hK.out _ _ ((HDb.out.boxi 0 rfl).cell 1 (by simp)) (fun hSn => ?_)
    clear hK K hSw0
    have hSw0 := hSn
    clear hSn
    refine tR 7 24 fun K hK => ?_
    refine step_append_row1 rfl (.tmp 21) (.tmp 23) 54 rfl w0.heap.size 47 i1 _ 24 Tryz.underlying54 hi1 hy0 hy1 hy2 rfl (.slice A4 j c4) j (sl.map slv) rfl (HDb.out.gi 0 rfl) (some ⟨vz, 0, none⟩) 1 1 ([(some ⟨g7, 0, none⟩, 64, 64)].map slv) rfl HNR2.out (slv_one _) (by unfold maxLen; omega) (by omega) hbw ?_
    intro v' vd hown hgrow hat
    rw [← List.map_append] at hown
    have hdd := HDb.out.gapp 0 rfl hown hgrow hat
    obtain ⟨A8, c8, rfl⟩ := hdd.gform 0 rfl
    simp only [List.set_cons_zero, List.set_cons_succ] at hdd
    have HDd := hH hdd
    clear hdd hown hgrow hat
    refine hK.out _ _ ((HDd.out.boxi 0 rfl).cell 1 (by simp)) (fun hSn => ?_)
    clear hK K hSw0
    have hSw0 := hSn
    clear hSn
    refine tS 8 25 ?_
    refine tS 9 26 ?_
    refine Kn.takeR 10 ⟨none, _, _, _, _, _⟩ fun K hK => ?_
    have yq := Kn.own1 (HDd.out.boxi 0 rfl)
    have fq := (HDd.out.boxi 0 rfl).frozen 0
    go_simp
    have hdz := HDd.out.put 0 rfl 0 (.slice A8 (j + 1) c8)
    simp only [List.set_cons_zero, List.set_cons_succ] at hdz
    have HDz := hH hdz
    clear hdz
    clear yq fq
    refine hK.out _ _ ((HDz.out.boxi 0 rfl).cell 1 (by simp)) (fun hSn => ?_)
    clear hK K hSw0
    have hSw0 := hSn
    clear hSn
    refine tD ?_ _
    clear hSw0
    go_wp2_with fail
    go_roundg (gk - 1)
    case measure => omega
    refine ⟨j + 1, A8, c8, sl ++ [(some ⟨g7, 0, none⟩, 64, 64)], by omega, by go_num, ?_⟩
    ·refine (HDz.out.fuse (f1 := fun V => Bys V (some ⟨g7, 0, none⟩) 64 64 zz) (f2 := fun V => Bls V sl (List.replicate j zero64)) (f := fun V => Bls V (sl ++ [(some ⟨g7, 0, none⟩, 64, 64)]) (List.replicate (j + 1) zero64)) (by simp) (by simp) (fun V h1 h2 => by rw [List.replicate_succ']; have := HZZ.out; unfold zero64 at h2 ⊢; rw [this] at h2 ⊢; exact h2.snoc h1)).subF ?_
     intro f1 hf1
     rcases List.mem_cons.1 hf1 with rfl | hf1
     ·simp
     simp [hf1]
   exact AllReadyH.nil
  exact AllReadyH.nil
 obtain rfl : j = n := by omega
 go_wp2
 go_ret
 rw [HZF.out.symm] at HW
 exact NewR.mk h1 h2 HW.out
end Go.Proofs.YtgcfdjcpcclcjaaGreat
