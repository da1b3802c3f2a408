/- LaidA, RingA, Awake14, LgT, CuT: joined by pack.py, without what the claim does not use. -/
import Derived.Test.YtgcfdjcpcclcjaaGreatChainCutG
set_option linter.unusedVariables false
set_option linter.unusedSimpArgs false
namespace Go.Proofs.YtgcfdjcpcclcjaaGreat
open Go Go.RowKit Go.Kn
set_option maxRecDepth 100000 in
set_option maxHeartbeats 16000000 in
theorem laid14_any (w0 w : World) (p : PD) (r : RD) (d : Dk) (c : Fr3) (cf : Cf) (q : Ps) (A : Option Addr) (n cc : Nat) (l : List PR) (ss : List ((Option Addr × Nat × Nat) × List (Option Addr × Nat × Nat))) (h : Duo w0 w p r d d c) (hk : (fun W => Prts W A n cc l ss) ∈ c.F) (hl : ∀ x ∈ l, x.Ok) (hn : n ≤ 8) (hc : cf.Ok) (hq : headMay q.head = true) (hs : q.s ≤ cf.s - 1) (hm : q.m ≤ 2097152) (hll : q.l ≤ 2097152) (hlv : d.Live) (hh : d.held = []) :
  Calls Tryz.prog 63 #[.pointer (some ⟨p.D, 0, none⟩), .pointer (some ⟨r.M, 0, none⟩), .agg #[.int .i64 cf.b, .int .i64 cf.s, .int .i64 cf.l], .agg #[.int .i64 q.s, .int .i64 q.o, .int .i64 q.l, .int .i64 q.p, .int .i64 q.m], .slice A n cc] w (LogSays w0 p r c (laidRun cf l q d)) := by
 have hres : Tryz.f63.results = #[.cell 10 32, .tmp 11] := by kernel_rfl
 have HRES := Lib.hid hres
 have hpr := h.fact hk
 have hlen := hpr.len
 have hle := hpr.le
 have hcm := hpr.cm
 unfold maxLen at hcm
 have hqb := headMay_iff.1 hq
 simp only [Ps.head] at hqb
 obtain ⟨hb1, hb2, hb3, hb4⟩ := hqb
 have hok : LdOk cf 0 ⟨q.s, 1, q.l, q.p, q.m⟩ (d.puts (cf.at_ q.s) (headB q)) := by
  refine ⟨⟨⟨by show -1000000000000 ≤ q.m ∧ q.m ≤ 1000000000000; omega, by show -1000000000000 ≤ q.l ∧ q.l ≤ 1000000000000; omega, by show -1000000000000 ≤ q.p ∧ q.p ≤ 1000000000000; omega⟩, ⟨hb1.1, hs⟩, by show (0 : Int) ≤ 1 ∧ (1 : Int) ≤ 64; decide⟩, by show (1 : Int) ≤ 1; decide, ⟨hb2.1, by show q.m ≤ _; omega⟩, ⟨hb3.1, by show q.l ≤ _; omega⟩, hb4, (hlv.puts _ _).1, (hlv.puts _ _).2⟩
 have HL := Lib.hid hlen
 have HK := Lib.hid hk
 have HOK := Lib.hid hl
 have HC := Lib.hid hc
 have HQ := Lib.hid hq
 have HLD0 := Lib.hid hok
 obtain ⟨d1, hd1⟩ : ∃ x, x = d.puts (cf.at_ q.s) (headB q) := ⟨_, rfl⟩
 rw [← hd1] at HLD0
 have HD1 := Lib.hid hd1
 have hs1 : (w.alloc (.cells #[.int .i64 cf.b, .int .i64 cf.s, .int .i64 cf.l] 25)).heap.size = w.heap.size + 1 := by simp
 have hs2 : ((w.alloc (.cells #[.int .i64 cf.b, .int .i64 cf.s, .int .i64 cf.l] 25)).alloc (.cells #[.int .i64 q.s, .int .i64 q.o, .int .i64 q.l, .int .i64 q.p, .int .i64 q.m] 32)).heap.size = w.heap.size + 1 + 1 := by simp
 have H := Lib.hid (((h.newB #[.int .i64 cf.b, .int .i64 cf.s, .int .i64 cf.l] 25 rfl).newB #[.int .i64 q.s, .int .i64 q.o, .int .i64 q.l, .int .i64 q.p, .int .i64 q.m] 32 hs1).newB #[.int .i64 0, .int .i64 0, .int .i64 0, .int .i64 0, .int .i64 0] 32 hs2)
 clear h hres hpr hlen hk hl hc hq hlv hb1 hb2 hb3 hb4 hok hd1
 go_enter Tryz.func63, Tryz.ntmps63
 go_upto_region 1 with (fail)
 (try rw [hs2])
 (try rw [hs1])
 generalize hz1 : ((w.alloc (.cells #[.int .i64 cf.b, .int .i64 cf.s, .int .i64 cf.l] 25)).alloc (.cells #[.int .i64 q.s, .int .i64 q.o, .int .i64 q.l, .int .i64 q.p, .int .i64 q.m] 32)).alloc (.cells #[.int .i64 0, .int .i64 0, .int .i64 0, .int .i64 0, .int .i64 0] 32) = w1 at *
 clear hz1 hs1 hs2
 generalize w.heap.size = fb at *
 generalize fb + 1 = fp at *
 generalize fp + 1 = fo at *
 obtain ⟨p0, p1, p2, p3, p4⟩ := own5 (H.out.box (x := (fp, [.int .i64 q.s, .int .i64 q.o, .int .i64 q.l, .int .i64 q.p, .int .i64 q.m])) (by simp))
 obtain ⟨e0, e1, e2⟩ := own3 (H.out.box (x := (fb, [.int .i64 cf.b, .int .i64 cf.s, .int .i64 cf.l])) (by simp))
 go_wp2_with fail
 refine (kit_head_any w0 _ p r _ _ cf q H.out HC.out HQ.out hs (by rw [hh]; simp)).mono ?_
 rintro en w2 ⟨rfl, hd⟩
 rw [← HD1.out] at hd
 have H2 := Lib.hid hd
 clear hd H p0 p1 p2 p3 p4 e0 e1 e2 hs hh
 have hfr := (H2.out.box (x := (fp, [.int .i64 q.s, .int .i64 q.o, .int .i64 q.l, .int .i64 q.p, .int .i64 q.m])) (by simp)).frozen 1
 have hlt := (H2.out.box (x := (fp, [.int .i64 q.s, .int .i64 q.o, .int .i64 q.l, .int .i64 q.p, .int .i64 q.m])) (by simp)).lt
 obtain ⟨p0, p1, p2, p3, p4⟩ := own5 (H2.out.box (x := (fp, [.int .i64 q.s, .int .i64 q.o, .int .i64 q.l, .int .i64 q.p, .int .i64 q.m])) (by simp))
 go_upto_region 3 with (fail)
 have H3 := Lib.hid (H2.out.put 1 (b := fp) (cs := [.int .i64 q.s, .int .i64 q.o, .int .i64 q.l, .int .i64 q.p, .int .i64 q.m]) rfl 1 (.int .i64 1))
 simp only [List.set_cons_zero, List.set_cons_succ] at H3
 generalize w2.setCell ⟨fp, 1, none⟩ (.int .i64 1) = w3 at *
 clear hfr hlt H2 p0 p1 p2 p3 p4
 have HG0 : Hid (laidGo cf l ⟨q.s, 1, q.l, q.p, q.m⟩ d1 = laidRun cf l q d) := Lib.hid (by unfold laidRun; rw [HD1.out])
 have H4 : Hid (Duo w0 w3 p r d1 d1 ⟨(fo, [.int .i64 0, .int .i64 0, .int .i64 0, .int .i64 0, .int .i64 0]) :: (fp, [.int .i64 (⟨q.s, 1, q.l, q.p, q.m⟩ : Ps).s, .int .i64 (⟨q.s, 1, q.l, q.p, q.m⟩ : Ps).o, .int .i64 (⟨q.s, 1, q.l, q.p, q.m⟩ : Ps).l, .int .i64 (⟨q.s, 1, q.l, q.p, q.m⟩ : Ps).p, .int .i64 (⟨q.s, 1, q.l, q.p, q.m⟩ : Ps).m]) :: (fb, [.int .i64 cf.b, .int .i64 cf.s, .int .i64 cf.l]) :: c.L, c.G, c.F⟩) := Lib.hid H3.out
 clear H3
 go_wp2_with fail
 go_loopg [12, 13] n (fun gr t12 i wr => ∃ (j : Nat) (qj : Ps) (dj : Dk), j + gr = n ∧ t12 = .bool true ∧ i = .int .i64 j ∧ laidGo cf (l.drop j) qj dj = laidRun cf l q d ∧ LdOk cf (61 * (j : Int)) qj dj ∧ Duo w0 wr p r dj dj ⟨(fo, [.int .i64 0, .int .i64 0, .int .i64 0, .int .i64 0, .int .i64 0]) :: (fp, [.int .i64 qj.s, .int .i64 qj.o, .int .i64 qj.l, .int .i64 qj.p, .int .i64 qj.m]) :: (fb, [.int .i64 cf.b, .int .i64 cf.s, .int .i64 cf.l]) :: c.L, c.G, c.F⟩)
 case atStart => exact ⟨0, _, d1, by omega, rfl, rfl, HG0.out, HLD0.out, H4.out⟩
 obtain ⟨j, qj, dj, hj, rfl, rfl, hrun, hld, hd⟩ := hrel
 have HRUN := Lib.hid hrun
 have HLD := Lib.hid hld
 have HD := Lib.hid hd
 clear hrun hld hd HG0 HLD0 H4
 by_cases hlt : j < n
 ·have hjl : j < l.length := by rw [HL.out]; exact hlt
  have hpr := HD.out.fact (f := (fun W => Prts W A n cc l ss)) HK.out
  have hjs : j < ss.length := by rw [hpr.sl]; exact hlt
  obtain ⟨g, o, rfl, -⟩ := hpr.at_ (by omega)
  have HCL : Hid (∀ w' : World, Prts w' (some ⟨g, o, none⟩) n cc l ss → (w'.cell? ⟨g, o + j * 3, none⟩ = some (slv ss[j].1) ∧ w'.cell? ⟨g, o + j * 3 + 1, none⟩ = some (.int .i64 l[j].next) ∧ w'.cell? ⟨g, o + j * 3 + 2, none⟩ = some (.bool l[j].lost))) := Lib.hid (fun w' hw' => by
   obtain ⟨g', o', e, hc'⟩ := hw'.at_ (by omega)
   injection e with e
   injection e with e1 e2
   subst e1 e2
   exact hc' j hjl hjs)
  have HKR : Hid (∀ w' : World, Prts w' (some ⟨g, o, none⟩) n cc l ss → Krs w' ss[j].1.1 ss[j].1.2.1 ss[j].1.2.2 l[j].recs ss[j].2) := Lib.hid (fun w' hw' => hw'.ks j hjl hjs)
  have hdr : l.drop j = l[j] :: l.drop (j + 1) := List.drop_eq_getElem_cons hjl
  have hxo := HOK.out l[j] (List.getElem_mem _)
  obtain ⟨⟨⟨s1, s2, s3⟩, s4⟩, hss⟩ : ∃ s, ss[j] = s := ⟨_, rfl⟩
  obtain ⟨x, hx⟩ : ∃ x, l[j] = x := ⟨_, rfl⟩
  rw [hx, hss] at HCL HKR
  rw [hx] at hdr hxo
  rw [hdr] at HRUN
  simp only [slv] at HCL HKR
  obtain ⟨q2, d2, hlog⟩ : ∃ q2 d2, logRun cf x.recs qj dj = (q2, d2) := ⟨_, _, rfl⟩
  obtain ⟨hld2, hq2s⟩ := HLD.out.log HC.out x.recs
  rw [hlog] at hld2 hq2s
  simp only at hld2 hq2s
  have hxn := hxo.n
  have HLOG := Lib.hid hlog
  have HLD2 : Hid (LdOk cf (61 * (j : Int) + 60) q2 d2) := Lib.hid (by
   have a := hld2
   exact ⟨a.ps, a.o, ⟨a.m.1, by have := a.m.2; omega⟩, ⟨a.l.1, by have := a.l.2; omega⟩, a.p, a.lv, a.hh⟩)
  have HXO := Lib.hid hxo
  have hlt2 : (j : Int) < (n : Int) := by omega
  have hwn := IntWalk.i64_in ((n : Int) - 1) (by omega)
  have HDN : Hid (l.drop (j + 1) = [] ↔ j + 1 = n) := Lib.hid (by rw [List.drop_eq_nil_iff, HL.out]; omega)
  have HD0 := Lib.hid HD.out
  clear HD hjl hpr hjs hdr hxo hss hx hlog hld2 hq2s hxn
  go_wp2_with fail
  go_cut [12, 13, 14, 15] (fun t12 t13 t14 t15 wz => ∃ fr : Nat, t12 = .bool true ∧ t13 = .int .i64 j ∧ t14 = .pointer (some ⟨fr, 0, none⟩) ∧ t15 = .bool true ∧ Duo w0 wz p r d2 d2 ⟨(fr, [.int .i64 q2.s, .int .i64 q2.o, .int .i64 q2.l, .int .i64 q2.p, .int .i64 q2.m]) :: (fo, [.int .i64 0, .int .i64 0, .int .i64 0, .int .i64 0, .int .i64 0]) :: (fp, [.int .i64 qj.s, .int .i64 qj.o, .int .i64 qj.l, .int .i64 qj.p, .int .i64 qj.m]) :: (fb, [.int .i64 cf.b, .int .i64 cf.s, .int .i64 cf.l]) :: c.L, c.G, c.F⟩)
  case first =>
   have HY := Lib.hid HD0.out.drew
   clear HD0
   refine wp_region_held_drew (S := (fun w' => (Kn.Own w' fp [.int .i64 qj.s, .int .i64 qj.o, .int .i64 qj.l, .int .i64 qj.p, .int .i64 qj.m] ∧ Kn.Own w' fb [.int .i64 cf.b, .int .i64 cf.s, .int .i64 cf.l]) ∧ Prts w' (some ⟨g, o, none⟩) n cc l ss)) (by kernel_rfl) ⟨⟨HY.out.box (x := (fp, [.int .i64 qj.s, .int .i64 qj.o, .int .i64 qj.l, .int .i64 qj.p, .int .i64 qj.m])) (by simp), HY.out.box (x := (fb, [.int .i64 cf.b, .int .i64 cf.s, .int .i64 cf.l])) (by simp)⟩, HY.out.fact (f := (fun W => Prts W (some ⟨g, o, none⟩) n cc l ss)) (by first | exact HK.out | exact List.mem_cons_of_mem _ HK.out)⟩ (fun hSw0 => ?_)
   generalize wr.drew = ws at *
   refine Kn.takeS 0 ⟨some 29, _, _, _, _, _⟩ ?_
   refine Kn.takeS 1 ⟨some 30, _, _, _, _, _⟩ ?_
   refine Kn.takeS 2 ⟨some 31, _, _, _, _, _⟩ (v := (.agg #[.int .i64 cf.b, .int .i64 cf.s, .int .i64 cf.l])) (hy := fun w hSw => by
    have q0 := hSw.1.2
    obtain ⟨q00, q01, q02⟩ := Kn.own3 q0
    clear q0
    go_simp) ?_
   refine Kn.takeS 3 ⟨some 32, _, _, _, _, _⟩ (v := (.agg #[.int .i64 qj.s, .int .i64 qj.o, .int .i64 qj.l, .int .i64 qj.p, .int .i64 qj.m])) (hy := fun w hSw => by
    have q0 := hSw.1.1
    obtain ⟨q00, q01, q02, q03, q04⟩ := Kn.own5 q0
    clear q0
    go_simp) ?_
   refine Kn.takeS 4 ⟨some 33, _, _, _, _, _⟩ ?_
   refine Kn.takeS 5 ⟨some 34, _, _, _, _, _⟩ ?_
   refine Kn.takeS 6 ⟨some 35, _, _, _, _, _⟩ ?_
   refine Kn.takeS 7 ⟨some 36, _, _, _, _, _⟩ ?_
   refine Kn.takeS 8 ⟨some 37, _, _, _, _, _⟩ (v := (.slice s1 s2 s3)) (hy := fun w hSw => by
    have q0 := (HCL.out _ hSw.2).1
    go_simp) ?_
   refine wpAnyH_ready (rs := [9, 13]) (by kernel_rfl) (by simp) ?_
   refine AllReadyH.cons (o := ⟨some 38, _, _, _, _, _⟩) rfl (fun K hK => ?_) ?_
   ·go_simp
    refine (kit_log_any w0 _ p r dj _ cf qj s1 s2 s3 x.recs s4 (HY.out.imp (f1 := (fun W => Prts W (some ⟨g, o, none⟩) n cc l ss)) (f := fun W => Krs W s1 s2 s3 x.recs s4) HK.out HKR.out) List.mem_cons_self HXO.out.wf HC.out HLD.out.ps HLD.out.lv HLD.out.hh).mono ?_
    rw [HLOG.out]
    rintro en wb ⟨rfl, hd⟩
    have HYc := Lib.hid (Duo.subF hd (F' := c.F) (fun f hf => List.mem_cons_of_mem _ hf))
    clear hd HY
    refine hK.out _ _ ⟨⟨HYc.out.box (x := (fp, [.int .i64 qj.s, .int .i64 qj.o, .int .i64 qj.l, .int .i64 qj.p, .int .i64 qj.m])) (by simp), HYc.out.box (x := (fb, [.int .i64 cf.b, .int .i64 cf.s, .int .i64 cf.l])) (by simp)⟩, HYc.out.fact (f := (fun W => Prts W (some ⟨g, o, none⟩) n cc l ss)) (by first | exact HK.out | exact List.mem_cons_of_mem _ HK.out)⟩ (fun hSn => ?_)
    clear hK K hSw0
    have hSw0 := hSn
    clear hSn
    refine Kn.takeS 10 ⟨some 28, _, _, _, _, _⟩ ?_
    refine Kn.takeS 11 ⟨some 39, _, _, _, _, _⟩ ?_
    refine Kn.takeS 12 ⟨some 40, _, _, _, _, _⟩ ?_
    refine Kn.takeR 13 ⟨some 14, _, _, _, _, _⟩ fun K hK => ?_
    go_simp
    have HYac := Lib.hid ((HYc.out).newB #[.int .i64 0, .int .i64 0, .int .i64 0, .int .i64 0, .int .i64 0] 32 rfl)
    clear HYc
    generalize wb.heap.size = fr at *
    generalize hvb : wb.alloc (.cells #[.int .i64 0, .int .i64 0, .int .i64 0, .int .i64 0, .int .i64 0] 32) = vb at *
    clear hvb
    refine hK.out _ _ ⟨⟨HYac.out.box (x := (fp, [.int .i64 qj.s, .int .i64 qj.o, .int .i64 qj.l, .int .i64 qj.p, .int .i64 qj.m])) (by simp), HYac.out.box (x := (fb, [.int .i64 cf.b, .int .i64 cf.s, .int .i64 cf.l])) (by simp)⟩, HYac.out.fact (f := (fun W => Prts W (some ⟨g, o, none⟩) n cc l ss)) (by first | exact HK.out | exact List.mem_cons_of_mem _ HK.out)⟩ (fun hSn => ?_)
    clear hK K hSw0
    have hSw0 := hSn
    clear hSn
    refine Kn.takeR 14 ⟨none, _, _, _, _, _⟩ fun K hK => ?_
    refine step_store_own rfl 32 (.tmp 14) (.tmp 39) rfl fr [.int .i64 0, .int .i64 0, .int .i64 0, .int .i64 0, .int .i64 0] [.int .i64 q2.s, .int .i64 q2.o, .int .i64 q2.l, .int .i64 q2.p, .int .i64 q2.m] (by kernel_rfl) rfl rfl (HYac.out.box (x := (fr, [.int .i64 0, .int .i64 0, .int .i64 0, .int .i64 0, .int .i64 0])) (by simp)) rfl (by intro u hu; simp at hu; rcases hu with rfl | rfl | rfl | rfl | rfl <;> rfl) ?_
    intro w9 ho9 hO9
    have HY3 := Lib.hid (HYac.out.head ho9 hO9)
    clear ho9 hO9 HYac
    refine hK.out _ _ ⟨⟨HY3.out.box (x := (fp, [.int .i64 qj.s, .int .i64 qj.o, .int .i64 qj.l, .int .i64 qj.p, .int .i64 qj.m])) (by simp), HY3.out.box (x := (fb, [.int .i64 cf.b, .int .i64 cf.s, .int .i64 cf.l])) (by simp)⟩, HY3.out.fact (f := (fun W => Prts W (some ⟨g, o, none⟩) n cc l ss)) (by first | exact HK.out | exact List.mem_cons_of_mem _ HK.out)⟩ (fun hSn => ?_)
    clear hK K hSw0
    have hSw0 := hSn
    clear hSn
    refine Kn.takeS 15 ⟨some 15, _, _, _, _, _⟩ ?_
    refine wpAnyH_done (by kernel_rfl) ?_ _
    clear hSw0
    go_wp2
    go_meet
    case rel => exact ⟨fr, rfl, rfl, rfl, rfl, HY3.out⟩
   refine AllReadyH.cons (o := ⟨some 14, _, _, _, _, _⟩) rfl (fun K hK => ?_) ?_
   ·go_simp
    have HYa := Lib.hid ((HY.out).newB #[.int .i64 0, .int .i64 0, .int .i64 0, .int .i64 0, .int .i64 0] 32 rfl)
    clear HY
    generalize ws.heap.size = fr at *
    generalize hvb : ws.alloc (.cells #[.int .i64 0, .int .i64 0, .int .i64 0, .int .i64 0, .int .i64 0] 32) = vb at *
    clear hvb
    refine hK.out _ _ ⟨⟨HYa.out.box (x := (fp, [.int .i64 qj.s, .int .i64 qj.o, .int .i64 qj.l, .int .i64 qj.p, .int .i64 qj.m])) (by simp), HYa.out.box (x := (fb, [.int .i64 cf.b, .int .i64 cf.s, .int .i64 cf.l])) (by simp)⟩, HYa.out.fact (f := (fun W => Prts W (some ⟨g, o, none⟩) n cc l ss)) (by first | exact HK.out | exact List.mem_cons_of_mem _ HK.out)⟩ (fun hSn => ?_)
    clear hK K hSw0
    have hSw0 := hSn
    clear hSn
    refine Kn.takeR 9 ⟨some 38, _, _, _, _, _⟩ fun K hK => ?_
    go_simp
    refine (kit_log_any w0 _ p r dj _ cf qj s1 s2 s3 x.recs s4 (HYa.out.imp (f1 := (fun W => Prts W (some ⟨g, o, none⟩) n cc l ss)) (f := fun W => Krs W s1 s2 s3 x.recs s4) HK.out HKR.out) List.mem_cons_self HXO.out.wf HC.out HLD.out.ps HLD.out.lv HLD.out.hh).mono ?_
    rw [HLOG.out]
    rintro en wb ⟨rfl, hd⟩
    have HYca := Lib.hid (Duo.subF hd (F' := c.F) (fun f hf => List.mem_cons_of_mem _ hf))
    clear hd HYa
    refine hK.out _ _ ⟨⟨HYca.out.box (x := (fp, [.int .i64 qj.s, .int .i64 qj.o, .int .i64 qj.l, .int .i64 qj.p, .int .i64 qj.m])) (by simp), HYca.out.box (x := (fb, [.int .i64 cf.b, .int .i64 cf.s, .int .i64 cf.l])) (by simp)⟩, HYca.out.fact (f := (fun W => Prts W (some ⟨g, o, none⟩) n cc l ss)) (by first | exact HK.out | exact List.mem_cons_of_mem _ HK.out)⟩ (fun hSn => ?_)
    clear hK K hSw0
    have hSw0 := hSn
    clear hSn
    refine Kn.takeS 10 ⟨some 28, _, _, _, _, _⟩ ?_
    refine Kn.takeS 11 ⟨some 39, _, _, _, _, _⟩ ?_
    refine Kn.takeS 12 ⟨some 40, _, _, _, _, _⟩ ?_
    refine Kn.takeR 14 ⟨none, _, _, _, _, _⟩ fun K hK => ?_
    refine step_store_own rfl 32 (.tmp 14) (.tmp 39) rfl fr [.int .i64 0, .int .i64 0, .int .i64 0, .int .i64 0, .int .i64 0] [.int .i64 q2.s, .int .i64 q2.o, .int .i64 q2.l, .int .i64 q2.p, .int .i64 q2.m] (by kernel_rfl) rfl rfl (HYca.out.box (x := (fr, [.int .i64 0, .int .i64 0, .int .i64 0, .int .i64 0, .int .i64 0])) (by simp)) rfl (by intro u hu; simp at hu; rcases hu with rfl | rfl | rfl | rfl | rfl <;> rfl) ?_
    intro w9 ho9 hO9
    have HY3 := Lib.hid (HYca.out.head ho9 hO9)
    clear ho9 hO9 HYca
    refine hK.out _ _ ⟨⟨HY3.out.box (x := (fp, [.int .i64 qj.s, .int .i64 qj.o, .int .i64 qj.l, .int .i64 qj.p, .int .i64 qj.m])) (by simp), HY3.out.box (x := (fb, [.int .i64 cf.b, .int .i64 cf.s, .int .i64 cf.l])) (by simp)⟩, HY3.out.fact (f := (fun W => Prts W (some ⟨g, o, none⟩) n cc l ss)) (by first | exact HK.out | exact List.mem_cons_of_mem _ HK.out)⟩ (fun hSn => ?_)
    clear hK K hSw0
    have hSw0 := hSn
    clear hSn
    refine Kn.takeS 15 ⟨some 15, _, _, _, _, _⟩ ?_
    refine wpAnyH_done (by kernel_rfl) ?_ _
    clear hSw0
    go_wp2
    go_meet
    case rel => exact ⟨fr, rfl, rfl, rfl, rfl, HY3.out⟩
   exact AllReadyH.nil
  case rest =>
   obtain ⟨fr, rfl, rfl, rfl, rfl, hd⟩ := hcut
   have HY := Lib.hid hd
   clear hd HD0
   obtain ⟨x0, x1, x2, x3, x4⟩ := own5 (HY.out.boxi 0 rfl)
   have b := HY.out.box (x := (fp, [.int .i64 qj.s, .int .i64 qj.o, .int .i64 qj.l, .int .i64 qj.p, .int .i64 qj.m])) (by simp)
   have y0 := b.frozen 0
   have y1 := b.frozen 1
   have y2 := b.frozen 2
   have y3 := b.frozen 3
   have y4 := b.frozen 4
   obtain ⟨u0, u1, u2, u3, u4⟩ := Kn.own5 b
   have HY2 := Lib.hid ((HY.out.call 2 rfl (own_set5 b (.int .i64 q2.s) (.int .i64 q2.o) (.int .i64 q2.l) (.int .i64 q2.p) (.int .i64 q2.m)) (only_set5 _ fp _ _ _ _ _)).ldrop)
   simp only [List.set_cons_zero, List.set_cons_succ] at HY2
   have hlp := b.lt
   clear b HY
   go_upto_region 8 with (fail)
   generalize hz : ((((wc.setCell ⟨fp, 0, none⟩ (.int .i64 q2.s)).setCell ⟨fp, 1, none⟩ (.int .i64 q2.o)).setCell ⟨fp, 2, none⟩ (.int .i64 q2.l)).setCell ⟨fp, 3, none⟩ (.int .i64 q2.p)).setCell ⟨fp, 4, none⟩ (.int .i64 q2.m) = wk at *
   clear hz x0 x1 x2 x3 x4 y0 y1 y2 y3 y4 u0 u1 u2 u3 u4 hlp
   by_cases hlast : (j : Int) = (n : Int) - 1
   ·obtain ⟨y0, y1, y2, y3, y4⟩ := own5 (HY2.out.box (x := (fp, [.int .i64 q2.s, .int .i64 q2.o, .int .i64 q2.l, .int .i64 q2.p, .int .i64 q2.m])) (by simp))
    have z := HY2.out.box (x := (fo, [.int .i64 0, .int .i64 0, .int .i64 0, .int .i64 0, .int .i64 0])) (by simp)
    have z0 := z.frozen 0
    have z1 := z.frozen 1
    have z2 := z.frozen 2
    have z3 := z.frozen 3
    have z4 := z.frozen 4
    obtain ⟨o0, o1, o2, o3, o4⟩ := Kn.own5 z
    clear z
    have HFIN : Hid (laidGo cf (x :: l.drop (j + 1)) qj dj = (q2, d2)) := Lib.hid (by rw [HDN.out.2 (by omega), laidGo_one, HLOG.out])
    go_wp2_with fail
    have HEND := Lib.hid (Duo.subF ((HY2.out.call 0 rfl (own_set5 (HY2.out.box (x := (fo, [.int .i64 0, .int .i64 0, .int .i64 0, .int .i64 0, .int .i64 0])) (by simp)) (.int .i64 q2.s) (.int .i64 q2.o) (.int .i64 q2.l) (.int .i64 q2.p) (.int .i64 q2.m)) (only_set5 _ fo _ _ _ _ _)).ldrop.ldrop.ldrop) (F' := c.F) (fun f hf => by simp [hf]))
    (try simp only [Exit.inBlock, Exit.then])
    refine bodyPost_ret (v := .tuple #[.agg #[.int .i64 q2.s, .int .i64 q2.o, .int .i64 q2.l, .int .i64 q2.p, .int .i64 q2.m], .bool true]) ?_ rfl ?_
    ·simp only [results, HRES.out]
     go_simp
    ·rw [← HRUN.out, HFIN.out]
     exact ⟨rfl, HEND.out⟩
   ·have hne : l.drop (j + 1) ≠ [] := fun e => by have := HDN.out.1 e; omega
    have HNE := Lib.hid hne
    obtain ⟨v, hv⟩ : ∃ v, x.next % cf.s = v := ⟨_, rfl⟩
    have hs8 := HC.out.2.1
    have hvb : 0 ≤ v ∧ v ≤ cf.s - 1 := by
     have h1 := Int.emod_nonneg x.next (b := cf.s) (by omega)
     have h2 := Int.emod_lt_of_pos x.next (b := cf.s) (by omega)
     omega
    have HV := Lib.hid hv
    have HVB := Lib.hid hvb
    obtain ⟨b, hb⟩ : ∃ b, x.lost = b := ⟨_, rfl⟩
    have HB := Lib.hid hb
    rw [hb] at HCL
    obtain ⟨q3, d3, htr⟩ : ∃ q3 d3, turnRun cf v (!b) q2 d2 = (q3, d3) := ⟨_, _, rfl⟩
    have HTR := Lib.hid htr
    clear hne hv hvb hb htr
    go_wp2_with fail
    go_cut [12, 13] (fun t12 t13 wz => t12 = .bool true ∧ t13 = .int .i64 j ∧ Duo w0 wz p r d3 d3 ⟨(fo, [.int .i64 0, .int .i64 0, .int .i64 0, .int .i64 0, .int .i64 0]) :: (fp, [.int .i64 q3.s, .int .i64 q3.o, .int .i64 q3.l, .int .i64 q3.p, .int .i64 q3.m]) :: (fb, [.int .i64 cf.b, .int .i64 cf.s, .int .i64 cf.l]) :: c.L, c.G, c.F⟩)
    case first =>
     have HY := Lib.hid HY2.out.drew
     clear HY2
     refine wp_region_held_drew (S := (fun w' => Kn.Own w' fb [.int .i64 cf.b, .int .i64 cf.s, .int .i64 cf.l] ∧ Prts w' (some ⟨g, o, none⟩) n cc l ss)) (by kernel_rfl) ⟨HY.out.box (x := (fb, [.int .i64 cf.b, .int .i64 cf.s, .int .i64 cf.l])) (by simp), HY.out.fact (f := (fun W => Prts W (some ⟨g, o, none⟩) n cc l ss)) HK.out⟩ (fun hSw0 => ?_)
     generalize wk.drew = wt0 at *
     refine Kn.takeS 0 ⟨some 58, _, _, _, _, _⟩ ?_
     refine Kn.takeS 1 ⟨some 59, _, _, _, _, _⟩ ?_
     refine Kn.takeS 2 ⟨some 60, _, _, _, _, _⟩ (v := (.agg #[.int .i64 cf.b, .int .i64 cf.s, .int .i64 cf.l])) (hy := fun w hSw => by
      have q0 := hSw.1
      obtain ⟨q00, q01, q02⟩ := Kn.own3 q0
      clear q0
      go_simp) ?_
     refine Kn.takeS 4 ⟨some 62, _, _, _, _, _⟩ ?_
     refine Kn.takeS 5 ⟨some 63, _, _, _, _, _⟩ ?_
     refine Kn.takeS 6 ⟨some 64, _, _, _, _, _⟩ ?_
     refine Kn.takeS 7 ⟨some 65, _, _, _, _, _⟩ ?_
     refine Kn.takeS 8 ⟨some 66, _, _, _, _, _⟩ (v := (.int .i64 x.next)) (hy := fun w hSw => by
      have q0 := (HCL.out _ hSw.2).2.1
      go_simp) ?_
     refine Kn.takeS 9 ⟨some 67, _, _, _, _, _⟩ ?_
     refine Kn.takeS 10 ⟨some 68, _, _, _, _, _⟩ (v := (.int .i64 cf.s)) (hy := fun w hSw => by
      have q0 := hSw.1.cell 1 (by simp)
      simp only [List.getElem_cons_zero, List.getElem_cons_succ] at q0
      go_simp) ?_
     refine Kn.takeS 12 ⟨some 70, _, _, _, _, _⟩ ?_
     refine Kn.takeS 13 ⟨some 71, _, _, _, _, _⟩ ?_
     refine Kn.takeS 14 ⟨some 72, _, _, _, _, _⟩ ?_
     refine Kn.takeS 15 ⟨some 73, _, _, _, _, _⟩ ?_
     refine Kn.takeS 16 ⟨some 74, _, _, _, _, _⟩ (v := (.bool b)) (hy := fun w hSw => by
      have q0 := (HCL.out _ hSw.2).2.2
      go_simp) ?_
     refine Kn.takeS 17 ⟨some 75, _, _, _, _, _⟩ ?_
     refine wpAnyH_ready (rs := [3, 11]) (by kernel_rfl) (by simp) ?_
     refine AllReadyH.cons (o := ⟨some 61, _, _, _, _, _⟩) rfl (fun K hK => ?_) ?_
     ·have b1 := HY.out.box (x := (fp, [.int .i64 q2.s, .int .i64 q2.o, .int .i64 q2.l, .int .i64 q2.p, .int .i64 q2.m])) (by simp)
      obtain ⟨k0, k1, k2, k3, k4⟩ := Kn.own5 b1
      clear b1
      go_simp
      clear k0 k1 k2 k3 k4
      refine hK.out _ _ hSw0 (fun hSn => ?_)
      clear hK K hSw0
      have hSw0 := hSn
      clear hSn
      refine Kn.takeR 11 ⟨some 69, _, _, _, _, _⟩ fun K hK => ?_
      go_simp
      refine (round_any x.next cf.s _ HXO.out.next (by have := HC.out.2.1; omega) (by have := HC.out.2.1; omega)).mono ?_
      rintro en wu ⟨rfl, rfl⟩
      rw [HV.out]
      refine hK.out _ _ hSw0 (fun hSn => ?_)
      clear hK K hSw0
      have hSw0 := hSn
      clear hSn
      refine Kn.takeR 18 ⟨some 76, _, _, _, _, _⟩ fun K hK => ?_
      go_simp
      refine (kit_turn_any w0 _ p r d2 _ cf q2 v (!b) HY.out HC.out HLD2.out.ps ⟨HLD2.out.m.1, by have := HLD2.out.m.2; omega⟩ ⟨HLD2.out.l.1, by have := HLD2.out.l.2; omega⟩ HLD2.out.p HVB.out HLD2.out.lv HLD2.out.hh).mono ?_
      rw [HTR.out]
      rintro en wt ⟨rfl, hd⟩
      have HT2 := Lib.hid hd
      clear hd HY
      refine hK.out _ _ ⟨HT2.out.box (x := (fb, [.int .i64 cf.b, .int .i64 cf.s, .int .i64 cf.l])) (by simp), HT2.out.fact (f := (fun W => Prts W (some ⟨g, o, none⟩) n cc l ss)) HK.out⟩ (fun hSn => ?_)
      clear hK K hSw0
      have hSw0 := hSn
      clear hSn
      refine Kn.takeS 19 ⟨some 57, _, _, _, _, _⟩ ?_
      refine Kn.takeS 20 ⟨some 77, _, _, _, _, _⟩ ?_
      refine Kn.takeS 21 ⟨some 78, _, _, _, _, _⟩ ?_
      refine Kn.takeR 22 ⟨none, _, _, _, _, _⟩ fun K hK => ?_
      refine step_store_own rfl 32 (.tmp 8) (.tmp 77) rfl fp [.int .i64 q2.s, .int .i64 q2.o, .int .i64 q2.l, .int .i64 q2.p, .int .i64 q2.m] [.int .i64 q3.s, .int .i64 q3.o, .int .i64 q3.l, .int .i64 q3.p, .int .i64 q3.m] (by kernel_rfl) rfl rfl (HT2.out.box (x := (fp, [.int .i64 q2.s, .int .i64 q2.o, .int .i64 q2.l, .int .i64 q2.p, .int .i64 q2.m])) (by simp)) rfl (by intro u hu; simp at hu; rcases hu with rfl | rfl | rfl | rfl | rfl <;> rfl) ?_
      intro w9 ho9 hO9
      have HT3 := Lib.hid (Duo.lswap ((Duo.lswap HT2.out).head ho9 hO9))
      clear ho9 hO9 HT2
      refine hK.out _ _ ⟨HT3.out.box (x := (fb, [.int .i64 cf.b, .int .i64 cf.s, .int .i64 cf.l])) (by simp), HT3.out.fact (f := (fun W => Prts W (some ⟨g, o, none⟩) n cc l ss)) HK.out⟩ (fun hSn => ?_)
      clear hK K hSw0
      have hSw0 := hSn
      clear hSn
      refine Kn.takeS 23 ⟨some 12, _, _, _, _, _⟩ ?_
      refine wpAnyH_done (by kernel_rfl) ?_ _
      clear hSw0
      go_wp2
      go_meet
      case rel => exact ⟨rfl, rfl, HT3.out⟩
     refine AllReadyH.cons (o := ⟨some 69, _, _, _, _, _⟩) rfl (fun K hK => ?_) ?_
     ·go_simp
      refine (round_any x.next cf.s _ HXO.out.next (by have := HC.out.2.1; omega) (by have := HC.out.2.1; omega)).mono ?_
      rintro en wu ⟨rfl, rfl⟩
      rw [HV.out]
      refine hK.out _ _ hSw0 (fun hSn => ?_)
      clear hK K hSw0
      have hSw0 := hSn
      clear hSn
      refine Kn.takeR 3 ⟨some 61, _, _, _, _, _⟩ fun K hK => ?_
      have b1 := HY.out.box (x := (fp, [.int .i64 q2.s, .int .i64 q2.o, .int .i64 q2.l, .int .i64 q2.p, .int .i64 q2.m])) (by simp)
      obtain ⟨k0, k1, k2, k3, k4⟩ := Kn.own5 b1
      clear b1
      go_simp
      clear k0 k1 k2 k3 k4
      refine hK.out _ _ hSw0 (fun hSn => ?_)
      clear hK K hSw0
      have hSw0 := hSn
      clear hSn
      refine Kn.takeR 18 ⟨some 76, _, _, _, _, _⟩ fun K hK => ?_
      go_simp
      refine (kit_turn_any w0 _ p r d2 _ cf q2 v (!b) HY.out HC.out HLD2.out.ps ⟨HLD2.out.m.1, by have := HLD2.out.m.2; omega⟩ ⟨HLD2.out.l.1, by have := HLD2.out.l.2; omega⟩ HLD2.out.p HVB.out HLD2.out.lv HLD2.out.hh).mono ?_
      rw [HTR.out]
      rintro en wt ⟨rfl, hd⟩
      have HT2 := Lib.hid hd
      clear hd HY
      refine hK.out _ _ ⟨HT2.out.box (x := (fb, [.int .i64 cf.b, .int .i64 cf.s, .int .i64 cf.l])) (by simp), HT2.out.fact (f := (fun W => Prts W (some ⟨g, o, none⟩) n cc l ss)) HK.out⟩ (fun hSn => ?_)
      clear hK K hSw0
      have hSw0 := hSn
      clear hSn
      refine Kn.takeS 19 ⟨some 57, _, _, _, _, _⟩ ?_
      refine Kn.takeS 20 ⟨some 77, _, _, _, _, _⟩ ?_
      refine Kn.takeS 21 ⟨some 78, _, _, _, _, _⟩ ?_
      refine Kn.takeR 22 ⟨none, _, _, _, _, _⟩ fun K hK => ?_
      refine step_store_own rfl 32 (.tmp 8) (.tmp 77) rfl fp [.int .i64 q2.s, .int .i64 q2.o, .int .i64 q2.l, .int .i64 q2.p, .int .i64 q2.m] [.int .i64 q3.s, .int .i64 q3.o, .int .i64 q3.l, .int .i64 q3.p, .int .i64 q3.m] (by kernel_rfl) rfl rfl (HT2.out.box (x := (fp, [.int .i64 q2.s, .int .i64 q2.o, .int .i64 q2.l, .int .i64 q2.p, .int .i64 q2.m])) (by simp)) rfl (by intro u hu; simp at hu; rcases hu with rfl | rfl | rfl | rfl | rfl <;> rfl) ?_
      intro w9 ho9 hO9
      have HT3 := Lib.hid (Duo.lswap ((Duo.lswap HT2.out).head ho9 hO9))
      clear ho9 hO9 HT2
      refine hK.out _ _ ⟨HT3.out.box (x := (fb, [.int .i64 cf.b, .int .i64 cf.s, .int .i64 cf.l])) (by simp), HT3.out.fact (f := (fun W => Prts W (some ⟨g, o, none⟩) n cc l ss)) HK.out⟩ (fun hSn => ?_)
      clear hK K hSw0
      have hSw0 := hSn
      clear hSn
      refine Kn.takeS 23 ⟨some 12, _, _, _, _, _⟩ ?_
      refine wpAnyH_done (by kernel_rfl) ?_ _
      clear hSw0
      go_wp2
      go_meet
      case rel => exact ⟨rfl, rfl, HT3.out⟩
     exact AllReadyH.nil
    case rest =>
     obtain ⟨rfl, rfl, hd⟩ := hcut
     have HE := Lib.hid hd
     clear hd HY2
     cases b with
     | true =>
      have HFIN : Hid (laidGo cf (x :: l.drop (j + 1)) qj dj = (q3, d3)) := Lib.hid (by rw [laidGo_lost HNE.out HB.out, HLOG.out, HV.out]; exact HTR.out)
      have hq3 : q3.o = 0 := by have h := HTR.out; unfold turnRun at h; simp only [Bool.not_true, Bool.false_eq_true, if_false] at h; injection h with h1 h2; rw [← h1]; rfl
      obtain ⟨a3, b3, e3, f3, g3⟩ := q3
      simp only at hq3
      subst hq3
      obtain ⟨y0, y1, y2, y3, y4⟩ := own5 (HE.out.box (x := (fp, [.int .i64 (⟨a3, 0, e3, f3, g3⟩ : Ps).s, .int .i64 (⟨a3, 0, e3, f3, g3⟩ : Ps).o, .int .i64 (⟨a3, 0, e3, f3, g3⟩ : Ps).l, .int .i64 (⟨a3, 0, e3, f3, g3⟩ : Ps).p, .int .i64 (⟨a3, 0, e3, f3, g3⟩ : Ps).m])) (by simp))
      have z := HE.out.box (x := (fo, [.int .i64 0, .int .i64 0, .int .i64 0, .int .i64 0, .int .i64 0])) (by simp)
      have z0 := z.frozen 0
      have z1 := z.frozen 1
      have z2 := z.frozen 2
      have z3 := z.frozen 3
      have z4 := z.frozen 4
      obtain ⟨o0, o1, o2, o3, o4⟩ := Kn.own5 z
      clear z
      simp only at y0 y1 y2 y3 y4
      go_wp2_with fail
      have HEND := Lib.hid (Duo.subF ((HE.out.call 0 rfl (own_set5 (HE.out.box (x := (fo, [.int .i64 0, .int .i64 0, .int .i64 0, .int .i64 0, .int .i64 0])) (by simp)) (.int .i64 (⟨a3, 0, e3, f3, g3⟩ : Ps).s) (.int .i64 (⟨a3, 0, e3, f3, g3⟩ : Ps).o) (.int .i64 (⟨a3, 0, e3, f3, g3⟩ : Ps).l) (.int .i64 (⟨a3, 0, e3, f3, g3⟩ : Ps).p) (.int .i64 (⟨a3, 0, e3, f3, g3⟩ : Ps).m)) (only_set5 _ fo _ _ _ _ _)).ldrop.ldrop.ldrop) (F' := c.F) (fun f hf => by simp [hf]))
      (try simp only [Exit.inBlock, Exit.then])
      refine bodyPost_ret (v := .tuple #[.agg #[.int .i64 (⟨a3, 0, e3, f3, g3⟩ : Ps).s, .int .i64 (⟨a3, 0, e3, f3, g3⟩ : Ps).o, .int .i64 (⟨a3, 0, e3, f3, g3⟩ : Ps).l, .int .i64 (⟨a3, 0, e3, f3, g3⟩ : Ps).p, .int .i64 (⟨a3, 0, e3, f3, g3⟩ : Ps).m], .bool true]) ?_ rfl ?_
      ·simp only [results, HRES.out]
       go_simp
      ·rw [← HRUN.out, HFIN.out]
       exact ⟨rfl, HEND.out⟩
     | false =>
      have hq3 : q3.o = 1 := by have h := HTR.out; unfold turnRun at h; simp only [Bool.not_false, if_true] at h; injection h with h1 h2; rw [← h1]; rfl
      have htr : turnRun cf v true q2 d2 = (q3, d3) := HTR.out
      have hld3 := HLD2.out.turn HC.out (v := v) (by omega) HVB.out
      rw [htr] at hld3
      have HLD3 : Hid (LdOk cf (61 * ((j + 1 : Nat) : Int)) q3 d3) := Lib.hid (by rw [show 61 * ((j + 1 : Nat) : Int) = 61 * (j : Int) + 60 + 1 from by push_cast; omega]; exact hld3)
      have HRUN2 : Hid (laidGo cf (l.drop (j + 1)) q3 d3 = laidRun cf l q d) := Lib.hid (by rw [← HRUN.out, laidGo_on HNE.out HB.out, HLOG.out, HV.out]; simp only; rw [htr])
      clear hld3 htr
      obtain ⟨y0, y1, y2, y3, y4⟩ := own5 (HE.out.box (x := (fp, [.int .i64 q3.s, .int .i64 q3.o, .int .i64 q3.l, .int .i64 q3.p, .int .i64 q3.m])) (by simp))
      have z := HE.out.box (x := (fo, [.int .i64 0, .int .i64 0, .int .i64 0, .int .i64 0, .int .i64 0])) (by simp)
      have z0 := z.frozen 0
      have z1 := z.frozen 1
      have z2 := z.frozen 2
      have z3 := z.frozen 3
      have z4 := z.frozen 4
      obtain ⟨o0, o1, o2, o3, o4⟩ := Kn.own5 z
      clear z
      go_wp2_with fail
      go_roundg (gk - 1)
      case measure => omega
      case rel => exact ⟨j + 1, q3, d3, by omega, rfl, by go_num, HRUN2.out, HLD3.out, HE.out⟩
 ·obtain rfl : j = n := by omega
  have hdr : l.drop j = [] := List.drop_of_length_le (by rw [HL.out]; exact Nat.le_refl _)
  rw [hdr] at HRUN
  have HFIN : Hid (laidGo cf [] qj dj = (qj, dj)) := Lib.hid rfl
  clear hdr
  obtain ⟨y0, y1, y2, y3, y4⟩ := own5 (HD.out.box (x := (fp, [.int .i64 qj.s, .int .i64 qj.o, .int .i64 qj.l, .int .i64 qj.p, .int .i64 qj.m])) (by simp))
  have z := HD.out.box (x := (fo, [.int .i64 0, .int .i64 0, .int .i64 0, .int .i64 0, .int .i64 0])) (by simp)
  have z0 := z.frozen 0
  have z1 := z.frozen 1
  have z2 := z.frozen 2
  have z3 := z.frozen 3
  have z4 := z.frozen 4
  obtain ⟨o0, o1, o2, o3, o4⟩ := Kn.own5 z
  clear z
  go_wp2_with fail
  have HEND := Lib.hid (Duo.subF ((HD.out.call 0 rfl (own_set5 (HD.out.box (x := (fo, [.int .i64 0, .int .i64 0, .int .i64 0, .int .i64 0, .int .i64 0])) (by simp)) (.int .i64 qj.s) (.int .i64 qj.o) (.int .i64 qj.l) (.int .i64 qj.p) (.int .i64 qj.m)) (only_set5 _ fo _ _ _ _ _)).ldrop.ldrop.ldrop) (F' := c.F) (fun f hf => by simp [hf]))
  (try simp only [Exit.inBlock, Exit.then])
  refine bodyPost_ret (v := .tuple #[.agg #[.int .i64 qj.s, .int .i64 qj.o, .int .i64 qj.l, .int .i64 qj.p, .int .i64 qj.m], .bool true]) ?_ rfl ?_
  ·simp only [results, HRES.out]
   go_simp
  ·rw [← HRUN.out, HFIN.out]
   exact ⟨rfl, HEND.out⟩
end Go.Proofs.YtgcfdjcpcclcjaaGreat
namespace Go.Kn
open Go Go.RowKit
/-- cells of a slice that begins its block -/
def Cel (W : World) (A : Option Addr) (n c : Nat) (xs : List Value) : Prop := n ≤ c ∧ c ≤ maxLen ∧ (0 < n → ∃ g, A = some ⟨g, 0, none⟩ ∧ ∀ j u, xs[j]? = some u → W.cell? ⟨g, j, none⟩ = some u)
theorem Cel.fc {w : World} {M : Nat → Prop} {A : Option Addr} {n c : Nat} {xs : List Value} (h : Cel w A n c xs) (hm : ∀ a, A = some a → ¬ M a.block) : Fc w M (fun W => Cel W A n c xs) := fun W hW => ⟨h.1, h.2.1, fun hn => by
 obtain ⟨g, e, hc⟩ := h.2.2 hn
 exact ⟨g, e, fun j u hj => fc_cell (hc j u hj) (show ¬ M g from hm ⟨g, 0, none⟩ e) W hW⟩⟩
theorem Wc.goutN {w0 w : World} {L : List (Nat × List Value)} {G : List Gs} {F : List (World → Prop)} {e sz n c : Nat} {A : Option Addr} {xs : List Value} (h : Wc w0 w L (⟨e, sz, .slice A n c, n, xs⟩ :: G) F) : Wc w0 w L G ((fun W => Cel W A n c xs) :: F) := by
 have hr : Cel w A n c xs := cells_owns (h.gi 0 rfl)
 refine h.gdrop.addF _ (hr.fc fun a ha hm => ?_)
 subst ha
 have hob : (Value.slice (some a) n c).ownBlock = some a.block := rfl
 rcases hm with hm | ⟨y, hy, hk⟩
 ·obtain ⟨x, hx, e1⟩ := List.mem_map.1 hm
  exact h.g3 x hx _ List.mem_cons_self (by rw [hob, e1])
 ·exact (List.pairwise_cons.1 h.g2).1 y hy _ hob hk
structure Prx where
 pr : PR
 s : Option Addr × Nat × Nat
 ss : List (Option Addr × Nat × Nat)
def Prx.one (x : Prx) : List Value := [slv x.s, .int .i64 x.pr.next, .bool x.pr.lost]
def Prx.fct (x : Prx) : World → Prop := fun W => Krs W x.s.1 x.s.2.1 x.s.2.2 x.pr.recs x.ss
def prxV (xs : List Prx) : List Value := xs.flatMap Prx.one
theorem prxV_snoc (xs : List Prx) (x : Prx) : prxV (xs ++ [x]) = prxV xs ++ x.one := by simp [prxV]
theorem prx_one_one (x : Prx) : ∀ u ∈ x.one, u.oneCell' = true := by
 intro u hu
 simp only [Prx.one, slv, List.mem_cons, List.mem_nil_iff, or_false] at hu
 rcases hu with rfl | rfl | rfl <;> rfl
theorem Prts.of_cel {W : World} {A : Option Addr} {c : Nat} {xs : List Prx} (h : Cel W A xs.length c (prxV xs)) (hf : ∀ y ∈ xs, y.fct W) : Prts W A xs.length c (xs.map Prx.pr) (xs.map fun x => (x.s, x.ss)) := by
 refine ⟨by simp, by simp, h.1, h.2.1, fun hn => ?_, fun i h1 h2 => ?_⟩
 ·obtain ⟨g, e, hc⟩ := h.2.2 hn
  refine ⟨g, 0, e, fun i h1 h2 => ?_⟩
  have hi : i < xs.length := by simpa using h1
  have hk : ∀ k, k < 3 → (prxV xs)[i * 3 + k]? = (Prx.one xs[i])[k]? := fun k hk => flatMap_get Prx.one 3 (fun x => rfl) xs i k hi hk
  simp only [Nat.zero_add, List.getElem_map]
  exact ⟨hc _ _ ((hk 0 (by decide)).trans rfl), hc _ _ ((hk 1 (by decide)).trans rfl), hc _ _ ((hk 2 (by decide)).trans rfl)⟩
 ·have hi : i < xs.length := by simpa using h1
  simp only [List.getElem_map]
  exact hf _ (List.getElem_mem hi)
theorem Ins.nil0 (w : World) : Ins w none 0 0 [] := Row1.nil w
theorem madeCells_at (n i t : Nat) (hi : i < n) (ht : t < 5) : (madeCells #[.slice none 0 0, .int .i64 0, .int .i64 0, .int .i64 0, .int .i64 0] (n * 5)).toList[i * 5 + t]? = #[.slice none 0 0, .int .i64 0, .int .i64 0, .int .i64 0, .int .i64 0].toList[t]? := by
 have h1 : i * 5 + t < n * 5 := by omega
 have h2 : (i * 5 + t) % 5 = t := by omega
 unfold madeCells
 simp only [Array.toList_map, Array.toList_range, List.getElem?_map, List.getElem?_range h1, Option.map_some, List.size_toArray, List.length_cons, List.length_nil]
 rw [h2]
 rcases (show t = 0 ∨ t = 1 ∨ t = 2 ∨ t = 3 ∨ t = 4 from by omega) with rfl | rfl | rfl | rfl | rfl <;> rfl
theorem krs_made {w : World} {g n : Nat} (hn : n ≤ 1000) (h : Own w g (madeCells #[.slice none 0 0, .int .i64 0, .int .i64 0, .int .i64 0, .int .i64 0] (n * 5)).toList) : Krs w (some ⟨g, 0, none⟩) n n (List.replicate n kr0) (List.replicate n (none, 0, 0)) := by
 refine ⟨by simp, by simp, Nat.le_refl _, by unfold maxLen; omega, fun _ => ⟨g, 0, rfl, fun i h1 h2 => ?_⟩, fun i h1 h2 => ?_⟩
 ·have hi : i < n := by simpa using h1
  have hc : ∀ t v, t < 5 → #[.slice none 0 0, .int .i64 0, .int .i64 0, .int .i64 0, .int .i64 0].toList[t]? = some v → w.cell? ⟨g, i * 5 + t, none⟩ = some v := by
   intro t v ht hv
   obtain ⟨h3, h4⟩ := List.getElem?_eq_some_iff.1 ((madeCells_at n i t hi ht).trans hv)
   exact (h.cell (i * 5 + t) h3).trans (congrArg some h4)
  simp only [List.getElem_replicate, Nat.zero_add]
  exact ⟨hc 0 _ (by decide) rfl, hc 1 _ (by decide) rfl, hc 2 _ (by decide) rfl, hc 3 _ (by decide) rfl, hc 4 _ (by decide) rfl⟩
 ·simp only [List.getElem_replicate]
  exact Ins.nil0 w
set_option maxRecDepth 100000 in
theorem ringL_ok {e : Nat} (he : e ≤ 20) : ∀ (f left : Nat) (s : Int), -1000 ≤ s → s ≤ 1000 - (f : Int) → ∀ x ∈ ringL e f left s, x.Ok
 | 0, _, _, _, _, x, hx => by simp [ringL] at hx
 | f + 1, left, s, h1, h2, x, hx => by
  unfold ringL at hx
  split at hx
  ·simp at hx
  ·rcases List.mem_cons.1 hx with rfl | hx
   ·refine ⟨by simp; omega, fun y hy => ?_, ?_⟩
    ·obtain ⟨_, rfl⟩ := List.mem_replicate.1 hy
     exact ⟨by simp [kr0], by decide, by decide, by decide, by decide⟩
    ·exact wf_small (by show -4611686018427387904 ≤ s + 1; omega) (by show s + 1 ≤ _; push_cast at h2; omega)
   ·exact ringL_ok he f _ (s + 1) (by omega) (by push_cast at h2 ⊢; omega) x hx
end Go.Kn
namespace Go.Proofs.YtgcfdjcpcclcjaaGreat
open Go Go.RowKit Go.Kn
theorem infoRecK : (Tryz.prog.info? 38).map (fun i => (i.zero, i.size, i.bytes)) = some (some (.agg #[.slice none 0 0, .int .i64 0, .int .i64 0, .int .i64 0, .int .i64 0]), 5, 56) := by kernel_rfl
theorem infoPart : (Tryz.prog.info? 203).map (fun i => (i.zero, i.size, i.bytes)) = some (some (.agg #[.slice none 0 0, .int .i64 0, .bool false]), 3, 40) := by kernel_rfl
theorem make_recs (n : Nat) (hn : n ≤ 1000) (w : World) : (Instr.makeSlice 39 (.int .i64 n) (.int .i64 n)).run Tryz.prog w = .ok (.slice (some ⟨w.heap.size, 0, none⟩) n n) (w.alloc (.cells (madeCells #[.slice none 0 0, .int .i64 0, .int .i64 0, .int .i64 0, .int .i64 0] (n * 5)) 38)) := by
 obtain ⟨i0, hi, hz0, hz1, hz2⟩ := info_parts infoRecK
 have h := run_make (P := Tryz.prog) w 39 38 i0 _ Tryz.underlying39 hi hz0 .i64 .i64 n n (by omega) (by omega) (by rw [hz2]; omega) (by omega)
 rw [h, hz1]
 rfl
theorem Duo.goutN {w0 w : World} {p : PD} {r : RD} {d e : Dk} {L : List (Nat × List Value)} {G : List Gs} {F : List (World → Prop)} {t sz n c : Nat} {A : Option Addr} {xs : List Value} (h : Duo w0 w p r d e ⟨L, ⟨t, sz, .slice A n c, n, xs⟩ :: G, F⟩) : Duo w0 w p r d e ⟨L, G, (fun W => Cel W A n c xs) :: F⟩ := by
 obtain ⟨L0, G0, F0, hw, back⟩ := h.fr
 exact back w ⟨L, G, _ :: F⟩ (Wc.goutN hw)
set_option maxRecDepth 100000 in
set_option maxHeartbeats 8000000 in
theorem ring14_any (w0 w : World) (p : PD) (r : RD) (d : Dk) (c : Fr3) (cf : Cf) (q : Ps) (n e : Nat) (h : Duo w0 w p r d d c) (hc : cf.Ok) (h8 : cf.s = 8) (hn : 1 ≤ n ∧ n ≤ 100) (he : 1 ≤ e ∧ e ≤ 20) (hq : headMay q.head = true) (hs : q.s ≤ cf.s - 1) (hm : q.m ≤ 2097152) (hll : q.l ≤ 2097152) (hlv : d.Live) (hh : d.held = []) :
  Calls Tryz.prog 55 #[.pointer (some ⟨p.D, 0, none⟩), .pointer (some ⟨r.M, 0, none⟩), .agg #[.int .i64 cf.b, .int .i64 cf.s, .int .i64 cf.l], .agg #[.int .i64 q.s, .int .i64 q.o, .int .i64 q.l, .int .i64 q.p, .int .i64 q.m], .int .i64 (n : Int), .int .i64 (e : Int)] w (LogSays w0 p r c (laidRun cf (ringL e 8 n q.s) q d)) := by
 have hres : Tryz.f55.results = #[.cell 12 32, .tmp 13] := by kernel_rfl
 have HRES := Lib.hid hres
 have hqb := headMay_iff.1 hq
 simp only [Ps.head] at hqb
 obtain ⟨hb1, hb2, hb3, hb4⟩ := hqb
 obtain ⟨hqs0, hqs1⟩ := hb1
 have HC := Lib.hid hc
 have HQ := Lib.hid hq
 have H8 := Lib.hid h8
 have HH := Lib.hid hh
 have HLV := Lib.hid hlv
 have HSS := Lib.hid hs
 obtain ⟨hn1, hn2⟩ := hn
 obtain ⟨he1, he2⟩ := he
 obtain ⟨i0, hi0, hz0, hz1, hz2⟩ := info_parts infoPart
 have hs1 : (w.alloc (.cells #[.int .i64 cf.b, .int .i64 cf.s, .int .i64 cf.l] 25)).heap.size = w.heap.size + 1 := by simp
 have hs2 : ((w.alloc (.cells #[.int .i64 cf.b, .int .i64 cf.s, .int .i64 cf.l] 25)).alloc (.cells #[.int .i64 q.s, .int .i64 q.o, .int .i64 q.l, .int .i64 q.p, .int .i64 q.m] 32)).heap.size = w.heap.size + 1 + 1 := by simp
 have H := Lib.hid (((((h.newB #[.int .i64 cf.b, .int .i64 cf.s, .int .i64 cf.l] 25 rfl).newB #[.int .i64 q.s, .int .i64 q.o, .int .i64 q.l, .int .i64 q.p, .int .i64 q.m] 32 hs1).newB #[.int .i64 0, .int .i64 0, .int .i64 0, .int .i64 0, .int .i64 0] 32 hs2)).gnew 203 3)
 clear h hres hc hq hb2 hb3 hb4 h8 hh hlv hs
 go_enter Tryz.func55, Tryz.ntmps55
 go_upto_region 1 with (fail)
 (try rw [hs2])
 (try rw [hs1])
 generalize hz : ((w.alloc (.cells #[.int .i64 cf.b, .int .i64 cf.s, .int .i64 cf.l] 25)).alloc (.cells #[.int .i64 q.s, .int .i64 q.o, .int .i64 q.l, .int .i64 q.p, .int .i64 q.m] 32)).alloc (.cells #[.int .i64 0, .int .i64 0, .int .i64 0, .int .i64 0, .int .i64 0] 32) = w1 at *
 clear hz hs1 hs2
 generalize w.heap.size = fb at *
 generalize fb + 1 = fp at *
 generalize fp + 1 = fo at *
 have q0 := Kn.own1 (H.out.box (x := (fp, [.int .i64 q.s, .int .i64 q.o, .int .i64 q.l, .int .i64 q.p, .int .i64 q.m])) (by simp))
 go_wp2_with fail
 clear q0
 go_loopg [14, 15, 16] 8 (fun gr t14 t15 t16 wr => ∃ (t left : Nat) (A : Option Addr) (cA : Nat) (xs : List Prx) (fs : List (World → Prop)), t + gr = 8 ∧ t14 = .slice A t cA ∧ t15 = .int .i64 (left : Int) ∧ t16 = .int .i64 (q.s + (t : Int)) ∧ left ≤ n ∧ xs.length = t ∧ xs.map Prx.pr ++ ringL e (8 - t) left (q.s + (t : Nat)) = ringL e 8 n q.s ∧ (∀ y ∈ xs, y.fct ∈ fs) ∧ Duo w0 wr p r d d ⟨(fo, [.int .i64 0, .int .i64 0, .int .i64 0, .int .i64 0, .int .i64 0]) :: (fp, [.int .i64 q.s, .int .i64 q.o, .int .i64 q.l, .int .i64 q.p, .int .i64 q.m]) :: (fb, [.int .i64 cf.b, .int .i64 cf.s, .int .i64 cf.l]) :: c.L, ⟨203, 3, .slice A t cA, t, prxV xs⟩ :: c.G, fs ++ c.F⟩)
 case atStart => exact ⟨0, n, none, 0, [], [], by omega, rfl, rfl, by simp, Nat.le_refl _, rfl, by simp, by simp, H.out⟩
 clear H
 obtain ⟨t, left, A, cA, xs, fs, ht, rfl, rfl, rfl, hln, hxl, hring, hfs, hd⟩ := hrel
 have HD := Lib.hid hd
 have HRG := Lib.hid hring
 have HFS := Lib.hid hfs
 have HXL := Lib.hid hxl
 clear hd hring hfs hxl
 have c1 := (HD.out.box (x := (fb, [.int .i64 cf.b, .int .i64 cf.s, .int .i64 cf.l])) (by simp)).cell 1 (by simp)
 simp only [List.getElem_cons_zero, List.getElem_cons_succ] at c1
 rw [H8.out] at c1
 by_cases hgo : 0 < left ∧ t < 8
 ·obtain ⟨hl0, ht8⟩ := hgo
  have hl0' : (left : Int) > 0 := by omega
  have ht8' : (t : Int) < 8 := by omega
  have hw1 := IntWalk.i64_in (q.s + (t : Int) + 1) (by omega)
  go_upto_region 7 with (fail)
  obtain ⟨k, hk⟩ : ∃ k : Nat, k = min left e := ⟨_, rfl⟩
  have hmin : (if e < left then (e : Int) else (left : Int)) = (k : Int) := by split <;> omega
  rw [hmin]
  have hk1 : k ≤ 20 ∧ k ≤ left := by omega
  obtain ⟨hk20, hkl⟩ := hk1
  have hw2 := IntWalk.i64_in ((left : Int) - (k : Int)) (by omega)
  have hmk : ∀ w : World, (Instr.makeSlice 39 (.int .i64 (k : Int)) (.int .i64 (k : Int))).run Tryz.prog w = .ok (.slice (some ⟨w.heap.size, 0, none⟩) k k) (w.alloc (.cells (madeCells #[.slice none 0 0, .int .i64 0, .int .i64 0, .int .i64 0, .int .i64 0] (k * 5)) 38)) := make_recs k (by omega)
  obtain ⟨y, hy⟩ : ∃ y : Prx, y = ⟨⟨List.replicate k kr0, q.s + (t : Int) + 1, false⟩, (some ⟨wr.heap.size, 0, none⟩, k, k), List.replicate k (none, 0, 0)⟩ := ⟨_, rfl⟩
  have hyo : y.one = [.slice (some ⟨wr.heap.size, 0, none⟩) k k, .int .i64 (q.s + (t : Int) + 1), .bool false] := by rw [hy]; rfl
  have HD1 : Hid (Duo w0 (wr.alloc (.cells (madeCells #[.slice none 0 0, .int .i64 0, .int .i64 0, .int .i64 0, .int .i64 0] (k * 5)) 38)) p r d d ⟨(fo, [.int .i64 0, .int .i64 0, .int .i64 0, .int .i64 0, .int .i64 0]) :: (fp, [.int .i64 q.s, .int .i64 q.o, .int .i64 q.l, .int .i64 q.p, .int .i64 q.m]) :: (fb, [.int .i64 cf.b, .int .i64 cf.s, .int .i64 cf.l]) :: c.L, ⟨203, 3, .slice A t cA, t, prxV xs⟩ :: c.G, y.fct :: (fs ++ c.F)⟩) := Lib.hid (by
   have h1 := HD.out.addFc ((Only.refl _ _).alloc _) (Kn.Own.fc (Kn.Own.new wr (madeCells #[.slice none 0 0, .int .i64 0, .int .i64 0, .int .i64 0, .int .i64 0] (k * 5)) 38) (M := fun k => k < wr.heap.size) (by omega))
   refine h1.impF fun g hg W hW => ?_
   rcases List.mem_cons.1 hg with rfl | hg
   ·rw [hy]
    exact krs_made (n := k) (by omega) (hW _ List.mem_cons_self)
   ·exact hW g (List.mem_cons_of_mem _ hg))
  have HRG2 : Hid ((xs ++ [y]).map Prx.pr ++ ringL e (8 - (t + 1)) (left - k) (q.s + ((t + 1 : Nat) : Int)) = ringL e 8 n q.s) := Lib.hid (by
   rw [← HRG.out, List.map_append, List.append_assoc]
   congr 1
   obtain ⟨f, hf⟩ : ∃ f, 8 - t = f + 1 := ⟨7 - t, by omega⟩
   rw [hf, show 8 - (t + 1) = f from by omega, hy]
   conv => rhs; unfold ringL
   rw [if_neg (by omega), ← hk, show q.s + ((t + 1 : Nat) : Int) = q.s + (t : Nat) + 1 from by push_cast; omega]
   rfl)
  have HAL := Lib.hid (HD1.out.alloc (.cells #[.slice (some ⟨wr.heap.size, 0, none⟩) k k, .int .i64 (q.s + (t : Int) + 1), .bool false] 203))
  have hnw := news_new (wr.alloc (.cells (madeCells #[.slice none 0 0, .int .i64 0, .int .i64 0, .int .i64 0, .int .i64 0] (k * 5)) 38)) #[.slice (some ⟨wr.heap.size, 0, none⟩) k k, .int .i64 (q.s + (t : Int) + 1), .bool false] 203 (by simp [maxLen])
  rw [show (wr.alloc (.cells (madeCells #[.slice none 0 0, .int .i64 0, .int .i64 0, .int .i64 0, .int .i64 0] (k * 5)) 38)).heap.size = wr.heap.size + 1 from by simp] at hnw
  have HNW := Lib.hid hnw
  have HON := Lib.hid (prx_one_one y)
  rw [hyo] at HON
  have HYO := Lib.hid hyo
  have HBS := Lib.hid HAL.out.only.size
  have HYF : Hid (∀ z ∈ xs ++ [y], z.fct ∈ y.fct :: fs) := Lib.hid (fun z hz => by
   rcases List.mem_append.1 hz with hz | hz
   ·exact List.mem_cons_of_mem _ (HFS.out z hz)
   ·rw [List.mem_singleton.1 hz]; exact List.mem_cons_self)
  have HYL : Hid ((xs ++ [y]).length = t + 1) := Lib.hid (by simp [HXL.out])
  clear hnw hy hyo hk hmin HD HD1 HRG HFS HXL c1
  go_upto_region 8 with (first
   | (at_builtin; refine wpList_append_own_at _ rfl (.tmp 35) (.tmp 41) 122 rfl w0.heap.size 203 i0 _ 3 40 Tryz.underlying122 hi0 hz0 hz1 hz2 rfl (by decide) (.slice A t cA) t (prxV xs) rfl (HAL.out.gi 0 rfl) ⟨wr.heap.size + 1, 0, none⟩ 1 1 [.slice (some ⟨wr.heap.size, 0, none⟩) k k, .int .i64 (q.s + (t : Int) + 1), .bool false] rfl rfl HNW.out HON.out (by unfold maxLen; omega) (by omega) HBS.out ?_; intro v5 w5 hown hgrow _ hat2; rw [← HYO.out, ← prxV_snoc] at hown; have hdd := HAL.out.gapp 0 rfl hown hgrow hat2; obtain ⟨A6, k6, rfl⟩ := hdd.gform 0 rfl; simp only [List.set_cons_zero, List.set_cons_succ] at hdd; have HD5 := Lib.hid hdd; clear hdd hown hgrow hat2 HNW HON HBS HAL HYO)
   | fail)
  clear hmk
  go_wp2_with fail
  go_roundg (gk - 1)
  case measure => omega
  case rel => exact ⟨t + 1, left - k, A6, k6, xs ++ [y], y.fct :: fs, by omega, rfl, by go_num, by go_num, by omega, HYL.out, HRG2.out, HYF.out, HD5.out⟩
 ·have hrl : xs.map Prx.pr = ringL e 8 n q.s := by
   rw [← HRG.out]
   have : ringL e (8 - t) left (q.s + (t : Nat)) = [] := by
    rcases Nat.eq_zero_or_pos left with h0 | h0
    ·rw [h0]
     cases 8 - t with
     | zero => rfl
     | succ f => unfold ringL; rw [if_pos rfl]
    ·rw [show 8 - t = 0 from by omega]; rfl
   rw [this, List.append_nil]
  have hpr : Duo w0 wr p r d d ⟨(fo, [.int .i64 0, .int .i64 0, .int .i64 0, .int .i64 0, .int .i64 0]) :: (fp, [.int .i64 q.s, .int .i64 q.o, .int .i64 q.l, .int .i64 q.p, .int .i64 q.m]) :: (fb, [.int .i64 cf.b, .int .i64 cf.s, .int .i64 cf.l]) :: c.L, c.G, (fun W => Prts W A t cA (ringL e 8 n q.s) (xs.map fun x => (x.s, x.ss))) :: (fs ++ c.F)⟩ := by
   have h1 := HD.out.goutN
   refine h1.impF fun g hg W hW => ?_
   rcases List.mem_cons.1 hg with rfl | hg
   ·have h2 := Prts.of_cel (xs := xs) (W := W) (A := A) (c := cA) (by rw [HXL.out]; exact hW _ List.mem_cons_self) (fun y hy => hW _ (List.mem_cons_of_mem _ (List.mem_append_left _ (HFS.out y hy))))
    rw [hrl, HXL.out] at h2
    exact h2
   ·exact hW g (List.mem_cons_of_mem _ hg)
  have HP := Lib.hid hpr
  have HRO := Lib.hid (ringL_ok (e := e) (by omega) 8 n q.s (by omega) (by omega))
  obtain ⟨q2, d2, hrun⟩ : ∃ q2 d2, laidRun cf (ringL e 8 n q.s) q d = (q2, d2) := ⟨_, _, rfl⟩
  have HRUN := Lib.hid hrun
  clear hrl hpr hrun HD HRG HFS HXL c1
  obtain ⟨e0, e1, e2⟩ := own3 (HP.out.box (x := (fb, [.int .i64 cf.b, .int .i64 cf.s, .int .i64 cf.l])) (by simp))
  obtain ⟨p0, p1, p2, p3, p4⟩ := own5 (HP.out.box (x := (fp, [.int .i64 q.s, .int .i64 q.o, .int .i64 q.l, .int .i64 q.p, .int .i64 q.m])) (by simp))
  rw [H8.out] at e1
  have hexit : (left : Int) = 0 ∨ (0 < (left : Int) ∧ (t : Int) = 8) := by omega
  have fin : ∀ (P : Prop), P → P := fun _ h => h
  rcases hexit with hx | ⟨hx, hx2⟩
  all_goals (
   have hx3 : ¬ ((t : Int) < 8 ∧ 0 < (left : Int)) := by omega
   go_wp2_with fail
   rw [← H8.out]
   refine (laid14_any w0 _ p r d _ cf q A t cA (ringL e 8 n q.s) (xs.map fun x => (x.s, x.ss)) HP.out List.mem_cons_self HRO.out (by omega) HC.out HQ.out HSS.out hm hll HLV.out HH.out).mono ?_
   rw [HRUN.out]
   rintro en w2 ⟨rfl, hd⟩
   have HE := Lib.hid hd
   clear hd HP e0 e1 e2 p0 p1 p2 p3 p4
   have z := HE.out.box (x := (fo, [.int .i64 0, .int .i64 0, .int .i64 0, .int .i64 0, .int .i64 0])) (by simp)
   have z0 := z.frozen 0
   have z1 := z.frozen 1
   have z2 := z.frozen 2
   have z3 := z.frozen 3
   have z4 := z.frozen 4
   have zl := z.lt
   obtain ⟨o0, o1, o2, o3, o4⟩ := own5 z
   clear z
   go_wp2_with fail
   have HEND := Lib.hid (Duo.subF ((HE.out.call 0 rfl (own_set5 (HE.out.box (x := (fo, [.int .i64 0, .int .i64 0, .int .i64 0, .int .i64 0, .int .i64 0])) (by simp)) (.int .i64 q2.s) (.int .i64 q2.o) (.int .i64 q2.l) (.int .i64 q2.p) (.int .i64 q2.m)) (only_set5 _ fo _ _ _ _ _)).ldrop.ldrop.ldrop) (F' := c.F) (fun f hf => by simp [hf]))
   (try simp only [Exit.inBlock, Exit.then])
   refine bodyPost_ret (v := .tuple #[.agg #[.int .i64 q2.s, .int .i64 q2.o, .int .i64 q2.l, .int .i64 q2.p, .int .i64 q2.m], .bool true]) ?_ rfl ?_
   ·simp only [results, HRES.out]
    go_simp
   ·rw [HRUN.out]
    exact ⟨rfl, HEND.out⟩)
end Go.Proofs.YtgcfdjcpcclcjaaGreat
namespace Go.Kn
open Go Go.RowKit
theorem Cel.of_own {W : World} {g n c : Nat} {xs : List Value} (h : Own W g xs) (h1 : n ≤ c) (h2 : c ≤ maxLen) : Cel W (some ⟨g, 0, none⟩) n c xs := ⟨h1, h2, fun _ => ⟨g, rfl, fun j u hj => by
 obtain ⟨h3, h4⟩ := List.getElem?_eq_some_iff.1 hj
 exact (h.cell j h3).trans (congrArg some h4)⟩⟩
theorem krs_zero {w : World} {g : Nat} (h : Own w g [.slice none 0 0, .int .i64 0, .int .i64 0, .int .i64 0, .int .i64 0]) : Krs w (some ⟨g, 0, none⟩) 1 1 [kr0] [(none, 0, 0)] := by
 refine ⟨rfl, rfl, Nat.le_refl _, by decide, fun _ => ⟨g, 0, rfl, fun i h1 h2 => ?_⟩, fun i h1 h2 => ?_⟩
 ·obtain rfl : i = 0 := by simp at h1; omega
  exact ⟨h.cell 0 (by simp), h.cell 1 (by simp), h.cell 2 (by simp), h.cell 3 (by simp), h.cell 4 (by simp)⟩
 ·obtain rfl : i = 0 := by simp at h1; omega
  exact Ins.nil0 w
def sgA (t : Nat) : Int := if t = 0 then 2 else 6
theorem sgs_aw (hc : Cf.Ok (⟨2, 8, 24⟩ : Cf)) : Sgs (⟨2, 8, 24⟩ : Cf) sgA 2 := ⟨hc, rfl, rfl, fun t ht => by unfold sgA; split <;> decide, fun t u ht hu h => by
 unfold sgA at h
 split at h <;> split at h <;> first | omega | (exfalso; revert h; decide)⟩
/-- the two segments of law14.awake -/
theorem awake_two (hc : Cf.Ok (⟨2, 8, 24⟩ : Cf)) : ∃ (x1 x2 x3 : Ps × Rc) (qe : Ps) (de : Dk), laidRun (⟨2, 8, 24⟩ : Cf) [⟨[kr0], 6, false⟩, ⟨[kr0], 0, false⟩] (⟨2, 0, 5, 9, 1⟩ : Ps) (Dk.new (Cf.sectors (⟨2, 8, 24⟩ : Cf)).toNat) = (qe, de) ∧ chainR de (⟨2, 8, 24⟩ : Cf) (⟨2, 0, 5, 9, 1⟩ : Ps) = ([x1, x2, x3], qe, 0) ∧ x3.1.s = 6 ∧ x3.1.o = 1 := by
 have hs := sgs_aw hc
 have h0 : RL (⟨2, 8, 24⟩ : Cf) sgA 2 ((Dk.new (Cf.sectors (⟨2, 8, 24⟩ : Cf)).toNat).puts (Cf.at_ (⟨2, 8, 24⟩ : Cf) 2) (headB (⟨2, 0, 5, 9, 1⟩ : Ps))) ⟨2, 1, 5, 9, 1⟩ [] 1 ⟨2, 1, 5, 9, 1⟩ := RL.start hs (by decide) (p := (⟨2, 0, 5, 9, 1⟩ : Ps)) rfl (by decide) (by decide) (by decide)
 obtain ⟨r1, q1, d1, e1, h1⟩ := h0.mark hs (by decide) (by decide) []
 obtain ⟨q2, d2, e2, h2⟩ := h1.turn hs (by decide) (by decide) (by decide)
 obtain ⟨r3, q3, d3, e3, h3⟩ := h2.mark hs (by decide) (by decide) []
 have hsg : sgA ((1 + 1) / 24 + 1) = 6 := rfl
 rw [hsg] at e2 h2 h3
 have hp := h2.run.pl.2.1
 refine ⟨_, _, _, q3, d3, ?_, h3.run.told hs (by decide) (p := (⟨2, 0, 5, 9, 1⟩ : Ps)) h3.hd (h3.none_ hs) (by decide) rfl, hp.s, hp.o⟩
 unfold laidRun
 show laidGo (⟨2, 8, 24⟩ : Cf) [⟨[kr0], 6, false⟩, ⟨[kr0], 0, false⟩] ⟨2, 1, 5, 9, 1⟩ _ = _
 rw [laidGo_on (by simp) rfl]
 show laidGo (⟨2, 8, 24⟩ : Cf) [⟨[kr0], 0, false⟩] (turnRun (⟨2, 8, 24⟩ : Cf) (6 % 8) true (logRun (⟨2, 8, 24⟩ : Cf) [kr0] _ _).1 (logRun (⟨2, 8, 24⟩ : Cf) [kr0] _ _).2).1 (turnRun (⟨2, 8, 24⟩ : Cf) (6 % 8) true (logRun (⟨2, 8, 24⟩ : Cf) [kr0] _ _).1 (logRun (⟨2, 8, 24⟩ : Cf) [kr0] _ _).2).2 = _
 rw [e1]
 show laidGo (⟨2, 8, 24⟩ : Cf) [⟨[kr0], 0, false⟩] (turnRun (⟨2, 8, 24⟩ : Cf) 6 true q1 d1).1 (turnRun (⟨2, 8, 24⟩ : Cf) 6 true q1 d1).2 = _
 rw [e2, laidGo_one]
 exact e3
end Go.Kn
namespace Go.Proofs.YtgcfdjcpcclcjaaGreat
open Go Go.RowKit Go.Kn
set_option maxRecDepth 100000 in
set_option maxHeartbeats 16000000 in
theorem awake14_any (w : World) : Calls Tryz.prog 60 #[] w fun e w' => e = .returned (.bool true) ∧ Only [] w w' := by
 have hc : Cf.Ok (⟨2, 8, 24⟩ : Cf) := c13ok
 obtain ⟨x1, x2, x3, qe, de, hrun, hch, hx3, hx3o⟩ := awake_two hc
 have HRUN := Lib.hid hrun
 have HCH := Lib.hid hch
 have HX3 := Lib.hid hx3
 have HX3O := Lib.hid hx3o
 have HC := Lib.hid hc
 clear hrun hch hx3 hx3o hc
 have H1 := Lib.hid ((Wc.start w).newB #[.int .i64 2, .int .i64 8, .int .i64 24] 25 rfl)
 go_enter Tryz.func60, Tryz.ntmps60
 go_upto_region 2 with (fail)
 generalize hz : w.alloc (.cells #[.int .i64 2, .int .i64 8, .int .i64 24] 25) = w1 at *
 obtain ⟨f1, hf1⟩ : ∃ k, k = w.heap.size := ⟨_, rfl⟩
 rw [← hf1] at H1 ⊢
 clear hz hf1
 obtain ⟨e0, e1, e2⟩ := own3 (H1.out.boxi 0 rfl)
 go_wp2_with fail
 refine (desk14_any w w1 (⟨2, 8, 24⟩ : Cf) ⟨[(f1, [.int .i64 2, .int .i64 8, .int .i64 24])], [], []⟩ H1.out HC.out).mono ?_
 rintro en w2 ⟨p, rr, gb, rfl, hd⟩
 have HD := Lib.hid (Duo.newB hd #[.int .i64 2, .int .i64 0, .int .i64 5, .int .i64 9, .int .i64 1] 32 rfl)
 clear hd H1 e0 e1 e2
 go_upto_region 4 with (fail)
 generalize hz : w2.alloc (.cells #[.int .i64 2, .int .i64 0, .int .i64 5, .int .i64 9, .int .i64 1] 32) = w3 at *
 generalize w2.heap.size = f6 at *
 clear hz w2 w1
 obtain ⟨q0, q1, q2, q3, q4⟩ := own5 (HD.out.box (x := (f6, [.int .i64 2, .int .i64 0, .int .i64 5, .int .i64 9, .int .i64 1])) (by simp))
 obtain ⟨e0, e1, e2⟩ := own3 (HD.out.box (x := (f1, [.int .i64 2, .int .i64 8, .int .i64 24])) (by simp))
 obtain ⟨g1, hg1⟩ : ∃ k, k = w3.heap.size := ⟨_, rfl⟩
 have hs1 : (w3.alloc (.cells #[.slice none 0 0, .int .i64 0, .int .i64 0, .int .i64 0, .int .i64 0] 38)).heap.size = g1 + 1 := by simp [hg1]
 have hs2 : ((w3.alloc (.cells #[.slice none 0 0, .int .i64 0, .int .i64 0, .int .i64 0, .int .i64 0] 38)).alloc (.cells #[.slice none 0 0, .int .i64 0, .int .i64 0, .int .i64 0, .int .i64 0] 38)).heap.size = g1 + 1 + 1 := by simp [hg1]
 have HP3 : Hid (Duo w (((w3.alloc (.cells #[.slice none 0 0, .int .i64 0, .int .i64 0, .int .i64 0, .int .i64 0] 38)).alloc (.cells #[.slice none 0 0, .int .i64 0, .int .i64 0, .int .i64 0, .int .i64 0] 38)).alloc (.cells #[.slice (some ⟨g1, 0, none⟩) 1 1, .int .i64 6, .bool false, .slice (some ⟨g1 + 1, 0, none⟩) 1 1, .int .i64 0, .bool false] 203)) p rr (Dk.new (Cf.sectors (⟨2, 8, 24⟩ : Cf)).toNat) (Dk.new (Cf.sectors (⟨2, 8, 24⟩ : Cf)).toNat) ⟨(f6, [.int .i64 2, .int .i64 0, .int .i64 5, .int .i64 9, .int .i64 1]) :: (f1, [.int .i64 2, .int .i64 8, .int .i64 24]) :: [], [], (fun W => Prts W (some ⟨g1 + 1 + 1, 0, none⟩) 2 2 [⟨[kr0], 6, false⟩, ⟨[kr0], 0, false⟩] [((some ⟨g1, 0, none⟩, 1, 1), [(none, 0, 0)]), ((some ⟨g1 + 1, 0, none⟩, 1, 1), [(none, 0, 0)])]) :: (fun W => GeoAt W gb 2 8 24) :: []⟩) := Lib.hid (by
  have k1 := HD.out.addFc ((Only.refl _ _).alloc _) (Kn.Own.fc (Kn.Own.new w3 #[.slice none 0 0, .int .i64 0, .int .i64 0, .int .i64 0, .int .i64 0] 38) (M := fun k => k < w3.heap.size) (by omega))
  have k2 := k1.addFc ((Only.refl _ _).alloc _) (Kn.Own.fc (Kn.Own.new (w3.alloc (.cells #[.slice none 0 0, .int .i64 0, .int .i64 0, .int .i64 0, .int .i64 0] 38)) #[.slice none 0 0, .int .i64 0, .int .i64 0, .int .i64 0, .int .i64 0] 38) (M := fun k => k < (w3.alloc (.cells #[.slice none 0 0, .int .i64 0, .int .i64 0, .int .i64 0, .int .i64 0] 38)).heap.size) (by omega))
  have k3 := k2.addFc ((Only.refl _ _).alloc _) (Kn.Own.fc (Kn.Own.new ((w3.alloc (.cells #[.slice none 0 0, .int .i64 0, .int .i64 0, .int .i64 0, .int .i64 0] 38)).alloc (.cells #[.slice none 0 0, .int .i64 0, .int .i64 0, .int .i64 0, .int .i64 0] 38)) #[.slice (some ⟨g1, 0, none⟩) 1 1, .int .i64 6, .bool false, .slice (some ⟨g1 + 1, 0, none⟩) 1 1, .int .i64 0, .bool false] 203) (M := fun k => k < ((w3.alloc (.cells #[.slice none 0 0, .int .i64 0, .int .i64 0, .int .i64 0, .int .i64 0] 38)).alloc (.cells #[.slice none 0 0, .int .i64 0, .int .i64 0, .int .i64 0, .int .i64 0] 38)).heap.size) (by omega))
  rw [hs2, hs1, ← hg1] at k3
  refine k3.impF fun g hg W hW => ?_
  rcases List.mem_cons.1 hg with rfl | hg
  ·exact Prts.of_cel (xs := [⟨⟨[kr0], 6, false⟩, (some ⟨g1, 0, none⟩, 1, 1), [(none, 0, 0)]⟩, ⟨⟨[kr0], 0, false⟩, (some ⟨g1 + 1, 0, none⟩, 1, 1), [(none, 0, 0)]⟩]) (Cel.of_own (hW _ List.mem_cons_self) (Nat.le_refl _) (by decide)) (fun y hy => by
    simp only [List.mem_cons, List.mem_nil_iff, or_false] at hy
    rcases hy with rfl | rfl
    ·exact krs_zero (hW (fun W => Kn.Own W g1 [.slice none 0 0, .int .i64 0, .int .i64 0, .int .i64 0, .int .i64 0]) (by simp))
    ·exact krs_zero (hW _ (List.mem_cons_of_mem _ List.mem_cons_self)))
  ·exact hW g (by simp only [List.mem_cons, List.mem_nil_iff, or_false] at hg ⊢; rcases hg with rfl; simp))
 clear HD
 (try rw [hg1] at HP3)
 go_wp2_with fail
 refine (laid14_any w _ p rr _ _ (⟨2, 8, 24⟩ : Cf) (⟨2, 0, 5, 9, 1⟩ : Ps) _ 2 2 _ _ HP3.out List.mem_cons_self ?hok (by decide) HC.out (by decide) (by decide) (by decide) (by decide) ⟨rfl, rfl⟩ rfl).mono ?_
 case hok =>
  intro x hx
  simp only [List.mem_cons, List.mem_nil_iff, or_false] at hx
  rcases hx with rfl | rfl
  ·exact ⟨by decide, fun y hy => by rw [List.mem_singleton.1 hy]; exact ⟨by simp [kr0], by decide, by decide, by decide, by decide⟩, by decide⟩
  ·exact ⟨by decide, fun y hy => by rw [List.mem_singleton.1 hy]; exact ⟨by simp [kr0], by decide, by decide, by decide, by decide⟩, by decide⟩
 rw [HRUN.out]
 rintro en w4 ⟨rfl, hd⟩
 have HD4 := Lib.hid (Duo.newB hd #[.int .i64 qe.s, .int .i64 qe.o, .int .i64 qe.l, .int .i64 qe.p, .int .i64 qe.m] 32 rfl)
 clear hd HP3 q0 q1 q2 q3 q4 e0 e1 e2 hs1 hs2
 go_upto_region 7 with (fail)
 generalize hz : w4.alloc (.cells #[.int .i64 qe.s, .int .i64 qe.o, .int .i64 qe.l, .int .i64 qe.p, .int .i64 qe.m] 32) = w5 at *
 generalize w4.heap.size = f7 at *
 clear hz
 obtain ⟨q0, q1, q2, q3, q4⟩ := own5 (HD4.out.box (x := (f6, [.int .i64 2, .int .i64 0, .int .i64 5, .int .i64 9, .int .i64 1])) (by simp))
 go_wp2_with fail
 refine (duo_chnew HD4.out gb (⟨2, 0, 5, 9, 1⟩ : Ps)).mono ?_
 rintro en w6 ⟨C, rfl, hd⟩
 have HD6 := Lib.hid hd
 clear hd HD4 q0 q1 q2 q3 q4
 obtain ⟨q0, q1, q2, q3, q4⟩ := own5 (HD6.out.box (x := (f6, [.int .i64 2, .int .i64 0, .int .i64 5, .int .i64 9, .int .i64 1])) (by simp))
 go_wp2_with fail
 refine (chain_new_none w6 gb (⟨2, 0, 5, 9, 1⟩ : Ps)).mono ?_
 rintro en w7 ⟨rfl, hO⟩
 have HD7 := Lib.hid (HD6.out.keep0 hO)
 clear hO HD6 q0 q1 q2 q3 q4
 go_wp2_with fail
 refine (duo_chend HD7.out List.mem_cons_self).mono ?_
 rintro en w8 ⟨rfl, hO⟩
 have HD8 := Lib.hid (((HD7.out.keep0 hO).newB #[.int .i64 2, .int .i64 0, .int .i64 5, .int .i64 9, .int .i64 1] 32 rfl).lswap)
 clear hO HD7
 go_upto_region 11 with (fail)
 generalize hz : w8.alloc (.cells #[.int .i64 2, .int .i64 0, .int .i64 5, .int .i64 9, .int .i64 1] 32) = w8b at *
 generalize w8.heap.size = f10 at *
 clear hz
 go_wp2_with fail
 refine (duo_walk14 (cf := (⟨2, 8, 24⟩ : Cf)) HD8.out (List.mem_cons_of_mem _ List.mem_cons_self) HC.out 9 (by rw [HCH.out]; simp) (by decide)).mono ?_
 rw [HCH.out]
 rintro en w9 ⟨xs, A1, k1, fs1, rfl, hx1, hf1, hd⟩
 have hxl : xs.length = 3 := by have h := congrArg List.length hx1; simpa using h
 have HD9 := Lib.hid hd
 obtain ⟨g, rfl, hcel⟩ := (cells_owns (hd.gi 0 rfl)).2.2 (by rw [hxl]; decide)
 obtain ⟨y1, y2, y3, rfl⟩ : ∃ y1 y2 y3, xs = [y1, y2, y3] := by
  match xs, hxl with
  | [a, b, c], _ => exact ⟨a, b, c, rfl⟩
 have hy3 : y3.p = x3.1 := by
  simp only [List.map_cons, List.map_nil, List.cons.injEq] at hx1
  rw [← hx1.2.2.1]
  rfl
 simp only [List.length_cons, List.length_nil] at HD9 ⊢
 have HP : Hid (∀ (W : World) (F' : List (World → Prop)), Duo w W p rr de de ⟨(C, CB p.D gb (⟨2, 0, 5, 9, 1⟩ : Ps) qe 0) :: (f10, [.int .i64 2, .int .i64 0, .int .i64 5, .int .i64 9, .int .i64 1]) :: (f7, [.int .i64 qe.s, .int .i64 qe.o, .int .i64 qe.l, .int .i64 qe.p, .int .i64 qe.m]) :: (f6, [.int .i64 2, .int .i64 0, .int .i64 5, .int .i64 9, .int .i64 1]) :: (f1, [.int .i64 2, .int .i64 8, .int .i64 24]) :: [], [⟨118, 10, .slice (some ⟨g, 0, none⟩) 3 k1, 3, rfndV [y1, y2, y3]⟩], F'⟩ → (fun w' => Kn.Own w' f10 [.int .i64 2, .int .i64 0, .int .i64 5, .int .i64 9, .int .i64 1] ∧ Kn.Own w' f6 [.int .i64 2, .int .i64 0, .int .i64 5, .int .i64 9, .int .i64 1] ∧ Kn.Own w' f7 [.int .i64 qe.s, .int .i64 qe.o, .int .i64 qe.l, .int .i64 qe.p, .int .i64 qe.m] ∧ w'.cell? ⟨g, 20, none⟩ = some (.int .i64 6) ∧ w'.cell? ⟨g, 21, none⟩ = some (.int .i64 1)) W) := Lib.hid (fun W F' hW => by
  obtain ⟨g', hg', hc'⟩ := (cells_owns (hW.gi 0 rfl)).2.2 (by decide)
  injection hg' with hg'
  injection hg' with hg'
  subst hg'
  have h20 := hc' 20 (.int .i64 y3.p.s) rfl
  have h21 := hc' 21 (.int .i64 y3.p.o) rfl
  rw [hy3, HX3.out] at h20
  rw [hy3, HX3O.out] at h21
  exact ⟨hW.box (x := (f10, [.int .i64 2, .int .i64 0, .int .i64 5, .int .i64 9, .int .i64 1])) (by simp), hW.box (x := (f6, [.int .i64 2, .int .i64 0, .int .i64 5, .int .i64 9, .int .i64 1])) (by simp), hW.box (x := (f7, [.int .i64 qe.s, .int .i64 qe.o, .int .i64 qe.l, .int .i64 qe.p, .int .i64 qe.m])) (by simp), h20, h21⟩)
 clear hd HD8 hcel hxl hx1 hf1 hy3
 have hn3 : (2 : Nat) < 3 := by decide
 go_wp2_with fail
 have HY := Lib.hid HD9.out.drew
 clear HD9
 refine wp_region_held_drew (S := (fun w' => Kn.Own w' f10 [.int .i64 2, .int .i64 0, .int .i64 5, .int .i64 9, .int .i64 1] ∧ Kn.Own w' f6 [.int .i64 2, .int .i64 0, .int .i64 5, .int .i64 9, .int .i64 1] ∧ Kn.Own w' f7 [.int .i64 qe.s, .int .i64 qe.o, .int .i64 qe.l, .int .i64 qe.p, .int .i64 qe.m] ∧ w'.cell? ⟨g, 20, none⟩ = some (.int .i64 6) ∧ w'.cell? ⟨g, 21, none⟩ = some (.int .i64 1))) (by kernel_rfl) (HP.out _ _ HY.out) (fun hSw0 => ?_)
 generalize w9.drew = wz at *
 refine Kn.takeS 0 ⟨some 59, _, _, _, _, _⟩ (v := (.agg #[.int .i64 2, .int .i64 0, .int .i64 5, .int .i64 9, .int .i64 1])) (hy := fun w hSw => by
  have q0 := hSw.1
  obtain ⟨q00, q01, q02, q03, q04⟩ := Kn.own5 q0
  clear q0
  go_simp) ?_
 refine Kn.takeS 1 ⟨some 60, _, _, _, _, _⟩ (v := (.agg #[.int .i64 2, .int .i64 0, .int .i64 5, .int .i64 9, .int .i64 1])) (hy := fun w hSw => by
  have q0 := hSw.2.1
  obtain ⟨q00, q01, q02, q03, q04⟩ := Kn.own5 q0
  clear q0
  go_simp) ?_
 refine Kn.takeS 2 ⟨some 61, _, _, _, _, _⟩ ?_
 refine Kn.takeS 3 ⟨some 62, _, _, _, _, _⟩ ?_
 refine Kn.takeS 4 ⟨some 63, _, _, _, _, _⟩ ?_
 refine Kn.takeS 5 ⟨some 64, _, _, _, _, _⟩ ?_
 refine Kn.takeS 6 ⟨some 65, _, _, _, _, _⟩ ?_
 refine Kn.takeS 7 ⟨some 66, _, _, _, _, _⟩ ?_
 refine Kn.takeS 8 ⟨some 67, _, _, _, _, _⟩ ?_
 refine Kn.takeS 9 ⟨some 68, _, _, _, _, _⟩ ?_
 refine Kn.takeS 10 ⟨some 69, _, _, _, _, _⟩ ?_
 refine Kn.takeS 11 ⟨some 70, _, _, _, _, _⟩ ?_
 refine Kn.takeS 12 ⟨some 71, _, _, _, _, _⟩ ?_
 refine Kn.takeS 13 ⟨some 72, _, _, _, _, _⟩ (v := (.int .i64 6)) (hy := fun w hSw => by
  have q0 := hSw.2.2.2.1
  go_simp) ?_
 refine Kn.takeS 14 ⟨some 73, _, _, _, _, _⟩ ?_
 refine Kn.takeS 15 ⟨some 74, _, _, _, _, _⟩ ?_
 refine Kn.takeS 16 ⟨some 75, _, _, _, _, _⟩ ?_
 refine Kn.takeS 17 ⟨some 76, _, _, _, _, _⟩ ?_
 refine Kn.takeS 18 ⟨some 77, _, _, _, _, _⟩ ?_
 refine Kn.takeS 19 ⟨some 78, _, _, _, _, _⟩ ?_
 refine Kn.takeS 20 ⟨some 79, _, _, _, _, _⟩ ?_
 refine Kn.takeS 21 ⟨some 80, _, _, _, _, _⟩ (v := (.int .i64 1)) (hy := fun w hSw => by
  have q0 := hSw.2.2.2.2
  go_simp) ?_
 refine Kn.takeS 22 ⟨some 81, _, _, _, _, _⟩ ?_
 refine Kn.takeS 23 ⟨some 82, _, _, _, _, _⟩ ?_
 refine Kn.takeS 24 ⟨some 83, _, _, _, _, _⟩ ?_
 refine Kn.takeS 25 ⟨some 84, _, _, _, _, _⟩ ?_
 refine Kn.takeS 27 ⟨some 86, _, _, _, _, _⟩ (v := (.agg #[.int .i64 qe.s, .int .i64 qe.o, .int .i64 qe.l, .int .i64 qe.p, .int .i64 qe.m])) (hy := fun w hSw => by
  have q0 := hSw.2.2.1
  obtain ⟨q00, q01, q02, q03, q04⟩ := Kn.own5 q0
  clear q0
  go_simp) ?_
 refine Kn.takeR 26 ⟨some 85, _, _, _, _, _⟩ fun K hK => ?_
 go_simp
 refine (duo_chend HY.out List.mem_cons_self).mono ?_
 rintro en wa ⟨rfl, hO⟩
 have HY1 := Lib.hid (HY.out.keep0 hO)
 clear hO HY
 refine hK.out _ _ (HP.out _ _ HY1.out) (fun hSn => ?_)
 clear hK K hSw0
 have hSw0 := hSn
 clear hSn
 refine Kn.takeS 28 ⟨some 87, _, _, _, _, _⟩ ?_
 refine Kn.takeS 29 ⟨some 88, _, _, _, _, _⟩ ?_
 refine Kn.takeS 30 ⟨some 89, _, _, _, _, _⟩ ?_
 refine Kn.takeS 31 ⟨some 90, _, _, _, _, _⟩ ?_
 refine Kn.takeR 32 ⟨some 91, _, _, _, _, _⟩ fun K hK => ?_
 go_simp
 refine (duo_cherr HY1.out List.mem_cons_self).mono ?_
 rintro en wb ⟨rfl, rfl⟩
 refine hK.out _ _ (HP.out _ _ HY1.out) (fun hSn => ?_)
 clear hK K hSw0
 have hSw0 := hSn
 clear hSn
 refine Kn.takeS 33 ⟨some 92, _, _, _, _, _⟩ ?_
 refine Kn.takeS 34 ⟨some 93, _, _, _, _, _⟩ ?_
 refine Kn.takeS 35 ⟨some 94, _, _, _, _, _⟩ ?_
 refine Kn.takeS 36 ⟨some 95, _, _, _, _, _⟩ ?_
 refine Kn.takeR 37 ⟨some 96, _, _, _, _, _⟩ fun K hK => ?_
 go_simp
 refine (chain_err_none _).mono ?_
 rintro en wc ⟨rfl, rfl⟩
 refine hK.out _ _ (HP.out _ _ HY1.out) (fun hSn => ?_)
 clear hK K hSw0
 have hSw0 := hSn
 clear hSn
 refine Kn.takeS 38 ⟨some 97, _, _, _, _, _⟩ ?_
 refine Kn.takeS 39 ⟨some 98, _, _, _, _, _⟩ ?_
 refine Kn.takeS 40 ⟨some 99, _, _, _, _, _⟩ ?_
 refine Kn.takeS 41 ⟨some 100, _, _, _, _, _⟩ ?_
 refine Kn.takeR 42 ⟨some 101, _, _, _, _, _⟩ fun K hK => ?_
 go_simp
 refine (duo_walk14_nil HY1.out 3 (by decide)).mono ?_
 rintro en wd ⟨rfl, hd⟩
 have HY2 := Lib.hid hd
 clear hd HY1
 refine hK.out _ _ (HP.out _ _ HY2.out) (fun hSn => ?_)
 clear hK K hSw0
 have hSw0 := hSn
 clear hSn
 refine Kn.takeS 43 ⟨some 102, _, _, _, _, _⟩ ?_
 refine Kn.takeS 44 ⟨some 103, _, _, _, _, _⟩ ?_
 refine Kn.takeS 45 ⟨some 104, _, _, _, _, _⟩ ?_
 refine Kn.takeS 46 ⟨some 0, _, _, _, _, _⟩ ?_
 refine wpAnyH_done (by kernel_rfl) ?_ _
 clear hSw0
 go_wp2
 (try simp only [Exit.inBlock, Exit.then])
 refine bodyPost_ret (v := .bool true) (by kernel_rfl) rfl ⟨rfl, HY2.out.only⟩
end Go.Proofs.YtgcfdjcpcclcjaaGreat
namespace Go.Kn
open Go Go.RowKit
theorem rfnd_cell {w : World} {b t n c : Nat} {A : Option Addr} {xs : List Fnd} (h : w.ownsRow b t 10 (.slice A n c) n (Go.Proofs.YtgcfdjcpcclcjaaGreat.rfndV xs)) {i : Nat} (hi : i < xs.length) (hn : xs.length = n) : ∃ g, A = some ⟨g, 0, none⟩ ∧ ∀ j u, (Go.Proofs.YtgcfdjcpcclcjaaGreat.rfnd xs[i])[j]? = some u → w.cell? ⟨g, i * 10 + j, none⟩ = some u := by
 obtain ⟨_, _, h3⟩ := cells_owns h
 obtain ⟨g, e, hc⟩ := h3 (by omega)
 refine ⟨g, e, fun j u hj => hc _ _ ?_⟩
 have hj2 : j < 10 := by
  have := (List.getElem?_eq_some_iff.1 hj).1
  simpa [Go.Proofs.YtgcfdjcpcclcjaaGreat.rfnd, Rc.cells] using this
 exact (flatMap_get Go.Proofs.YtgcfdjcpcclcjaaGreat.rfnd 10 (fun x => rfl) xs i j hi hj2).trans hj
end Go.Kn
namespace Go.Proofs.YtgcfdjcpcclcjaaGreat
open Go Go.RowKit Go.Kn
set_option maxRecDepth 100000 in
set_option maxHeartbeats 16000000 in
theorem cut14_any (n0 e0 k0 a0 : Int) (w : World) (hn : (Lit.int .i64 n0).wf = true) (he : (Lit.int .i64 e0).wf = true) (hz : (Lit.int .i64 k0).wf = true) (ha : (Lit.int .i64 a0).wf = true) :
  Calls Tryz.prog 9 #[.int .i64 n0, .int .i64 e0, .int .i64 k0, .int .i64 a0] w fun en w' => en = .returned (.bool true) ∧ Only [] w w' := by
 obtain ⟨k, hk⟩ : ∃ k : Nat, 1 + n0 % 30 = (k : Int) := ⟨(1 + n0 % 30).toNat, by omega⟩
 obtain ⟨e, hee⟩ : ∃ k : Nat, 6 + e0 % 8 = (k : Int) := ⟨(6 + e0 % 8).toNat, by omega⟩
 have hk2 : 1 ≤ k ∧ k ≤ 30 := by omega
 have he2 : 6 ≤ e ∧ e ≤ 13 := by omega
 obtain ⟨l, qe, de, Y, hrun, hrl, hlen, hl46, hch, hqs, hql⟩ := ring_told (s0 := 1) (l0 := 1) (p0 := 0) (m0 := 1) (by decide) (by decide) (by decide) (by decide) (k := k) ⟨hk2.1, by omega⟩ (e := e) ⟨he2.1, by omega⟩
 obtain ⟨N, hN⟩ : ∃ N, l.length = N := ⟨_, rfl⟩
 generalize (k - 1) / e = tt at hlen
 have hN1 : 1 ≤ N ∧ N ≤ 46 := by omega
 obtain ⟨kk, hkk⟩ : ∃ x : Nat, k0 % (N : Int) = (x : Int) := ⟨(k0 % (N : Int)).toNat, by have := Int.emod_nonneg k0 (b := (N : Int)) (by omega); omega⟩
 have hkl : kk < N := by have := Int.emod_lt_of_pos k0 (b := (N : Int)) (by omega); omega
 have hS := sgs_ring c38ok rfl rfl 1
 obtain ⟨qk, f1, f3, f4, f5, f6, f7, f8⟩ := hrl.flip hS (by decide) (p := (⟨1, 0, 1, 0, 1⟩ : Ps)) rfl rfl (by decide) (k := kk) (by omega)
 obtain ⟨b0, hb0⟩ : ∃ m : Nat, a0 % 512 = m := ⟨(a0 % 512).toNat, by omega⟩
 obtain ⟨tn, htn⟩ : ∃ m, b0 / 8 = m := ⟨_, rfl⟩
 obtain ⟨mn, hmn⟩ : ∃ m, b0 % 8 = m := ⟨_, rfl⟩
 have htl : tn < 64 := by omega
 have hml : mn < 8 := by omega
 have hdq : Int.tdiv (b0 : Int) 8 = (tn : Int) := by rw [Int.tdiv_eq_ediv_of_nonneg (by omega)]; omega
 have hdm : Int.tmod (b0 : Int) 8 = (mn : Int) := by rw [Int.tmod_eq_emod_of_nonneg (by omega)]; omega
 have hwq := IntWalk.i64_in (tn : Int) (by omega)
 have hwn := IntWalk.i64_in (mn : Int) (by omega)
 obtain ⟨X, hX⟩ : ∃ z, de.read (c38.at_ qk.s + qk.o) = z := ⟨_, rfl⟩
 rw [hX] at f7 f8
 have hXt : tn < X.length := by omega
 obtain ⟨xt, hxt⟩ : ∃ z, X[tn] = z := ⟨_, rfl⟩
 obtain ⟨v, hv⟩ : ∃ z, UInt8.ofNat (xt.toNat ^^^ 2 ^ mn) = z := ⟨_, rfl⟩
 have hfb := flip_byte xt mn hml
 rw [hv] at hfb
 have hsh := shl_u8 mn hml
 obtain ⟨g1, g2⟩ := f8 tn v xt (by rw [List.getElem?_eq_getElem hXt, hxt]) (by rw [← hv]; exact flip_ne xt mn hml)
 have hwk : IntKind.i64.wrap (1 + n0 % 30) = (k : Int) := by rw [hk]; exact IntWalk.i64_in _ (by omega)
 have hwe : IntKind.i64.wrap (6 + e0 % 8) = (e : Int) := by rw [hee]; exact IntWalk.i64_in _ (by omega)
 have hwB := IntWalk.i64_in (c38.at_ qk.s + qk.o) (by omega)
 have HQK := Lib.hid f1
 have HE := Lib.hid f6
 have HXX := Lib.hid hX
 have HX64 := Lib.hid f7
 have HXT : Hid (∀ h : tn < X.length, X[tn] = xt) := Lib.hid (fun _ => hxt)
 have HWZ := Lib.hid g1
 have HCH2 := Lib.hid g2
 have HHL : Hid (de.held.length ≤ 1000000) := Lib.hid (by rw [laidRun_held hrun ⟨rfl, rfl⟩]; decide)
 have HRUN := Lib.hid hrun
 have HCH := Lib.hid hch
 have HN := Lib.hid hN
 have HKK := Lib.hid hkk
 have HB0 := Lib.hid hb0
 have hnl1 : ¬ (N : Int) < 1 := by omega
 obtain ⟨hk1, hk2⟩ := hk2
 obtain ⟨he1, he2⟩ := he2
 obtain ⟨hN1, hN46⟩ := hN1
 clear hrun hrl hlen hch hqs hql hk hee hN hkk hS f1 f3 f4 f5 f6 f7 f8 g1 g2 hX hxt hv hb0 htn hmn hXt
 have H1 := Lib.hid ((Wc.start w).newB #[.int .i64 3, .int .i64 8, .int .i64 24] 25 rfl)
 go_enter Tryz.func9, Tryz.ntmps9
 go_upto_region 2 with (fail)
 generalize hz : w.alloc (.cells #[.int .i64 3, .int .i64 8, .int .i64 24] 25) = w1 at *
 obtain ⟨f7, hf7⟩ : ∃ k, k = w.heap.size := ⟨_, rfl⟩
 rw [← hf7] at H1 ⊢
 clear hz hf7
 obtain ⟨e0, e1, e2⟩ := own3 (H1.out.boxi 0 rfl)
 go_wp2_with fail
 refine (desk14_any w w1 c38 ⟨[(f7, [.int .i64 3, .int .i64 8, .int .i64 24])], [], []⟩ H1.out c38ok).mono ?_
 rintro en w2 ⟨p, rr, gb, rfl, hd⟩
 have HD0 := Lib.hid hd
 clear hd H1 e0 e1 e2
 have HD := Lib.hid (Duo.newB HD0.out #[.int .i64 1, .int .i64 0, .int .i64 1, .int .i64 0, .int .i64 1] 32 rfl)
 clear HD0
 go_upto_region 4 with (fail)
 generalize hz : w2.alloc (.cells #[.int .i64 1, .int .i64 0, .int .i64 1, .int .i64 0, .int .i64 1] 32) = w3 at *
 generalize w2.heap.size = f14 at *
 clear hz w2 w1
 go_wp2_with fail
 go_cut [13] (fun ta wz => ta = .bool true ∧ Duo w wz p rr de de ⟨(f14, [.int .i64 1, .int .i64 0, .int .i64 1, .int .i64 0, .int .i64 1]) :: (f7, [.int .i64 3, .int .i64 8, .int .i64 24]) :: [], [], (fun W => GeoAt W gb c38.b c38.s c38.l) :: []⟩)
 case first =>
  have HY := Lib.hid HD.out.drew
  clear HD
  refine wp_region_held_drew (S := (fun w' => Kn.Own w' f14 [.int .i64 1, .int .i64 0, .int .i64 1, .int .i64 0, .int .i64 1] ∧ Kn.Own w' f7 [.int .i64 3, .int .i64 8, .int .i64 24])) (by kernel_rfl) ⟨HY.out.box (x := (f14, [.int .i64 1, .int .i64 0, .int .i64 1, .int .i64 0, .int .i64 1])) (by simp), HY.out.box (x := (f7, [.int .i64 3, .int .i64 8, .int .i64 24])) (by simp)⟩ (fun hSw0 => ?_)
  generalize w3.drew = wz at *
  refine Kn.takeS 0 ⟨some 36, _, _, _, _, _⟩ ?_
  refine Kn.takeS 1 ⟨some 37, _, _, _, _, _⟩ ?_
  refine Kn.takeS 2 ⟨some 38, _, _, _, _, _⟩ (v := (.agg #[.int .i64 3, .int .i64 8, .int .i64 24])) (hy := fun w hSw => by
   have q0 := hSw.2
   obtain ⟨q00, q01, q02⟩ := Kn.own3 q0
   clear q0
   go_simp) ?_
  refine Kn.takeS 3 ⟨some 39, _, _, _, _, _⟩ (v := (.agg #[.int .i64 1, .int .i64 0, .int .i64 1, .int .i64 0, .int .i64 1])) (hy := fun w hSw => by
   have q0 := hSw.1
   obtain ⟨q00, q01, q02, q03, q04⟩ := Kn.own5 q0
   clear q0
   go_simp) ?_
  refine Kn.takeS 4 ⟨some 40, _, _, _, _, _⟩ ?_
  refine Kn.takeS 7 ⟨some 43, _, _, _, _, _⟩ ?_
  refine Kn.takeR 5 ⟨some 41, _, _, _, _, _⟩ fun K hK => ?_
  go_simp
  refine (round_any n0 30 _ hn (by decide) (by decide)).mono ?_
  rintro en wu ⟨rfl, rfl⟩
  refine hK.out _ _ hSw0 (fun hSn => ?_)
  clear hK K hSw0
  have hSw0 := hSn
  clear hSn
  refine Kn.takeS 6 ⟨some 42, _, _, _, _, _⟩ ?_
  refine Kn.takeR 8 ⟨some 44, _, _, _, _, _⟩ fun K hK => ?_
  go_simp
  refine (round_any e0 8 _ he (by decide) (by decide)).mono ?_
  rintro en wu ⟨rfl, rfl⟩
  refine hK.out _ _ hSw0 (fun hSn => ?_)
  clear hK K hSw0
  have hSw0 := hSn
  clear hSn
  refine Kn.takeS 9 ⟨some 45, _, _, _, _, _⟩ ?_
  refine Kn.takeR 10 ⟨some 46, _, _, _, _, _⟩ fun K hK => ?_
  go_simp
  refine (ring14_any w _ p rr _ _ c38 (⟨1, 0, 1, 0, 1⟩ : Ps) k e HY.out c38ok rfl ⟨hk1, by omega⟩ ⟨by omega, by omega⟩ (by decide) (by decide) (by decide) (by decide) ⟨rfl, rfl⟩ rfl).mono ?_
  rw [HRUN.out]
  rintro en wb ⟨rfl, hd⟩
  have HYc := Lib.hid hd
  clear hd HY
  refine hK.out _ _ ⟨HYc.out.box (x := (f14, [.int .i64 1, .int .i64 0, .int .i64 1, .int .i64 0, .int .i64 1])) (by simp), HYc.out.box (x := (f7, [.int .i64 3, .int .i64 8, .int .i64 24])) (by simp)⟩ (fun hSn => ?_)
  clear hK K hSw0
  have hSw0 := hSn
  clear hSn
  refine Kn.takeS 11 ⟨some 35, _, _, _, _, _⟩ ?_
  refine Kn.takeS 12 ⟨some 47, _, _, _, _, _⟩ ?_
  refine Kn.takeS 13 ⟨some 48, _, _, _, _, _⟩ ?_
  refine Kn.takeS 14 ⟨some 13, _, _, _, _, _⟩ ?_
  refine wpAnyH_done (by kernel_rfl) ?_ _
  clear hSw0
  go_wp2
  go_meet
  case rel => exact ⟨rfl, HYc.out⟩
 case rest =>
  obtain ⟨rfl, hd⟩ := hcut
  have HD1 := Lib.hid hd
  clear hd HD
  obtain ⟨q0, q1, q2, q3, q4⟩ := own5 (HD1.out.boxi 0 rfl)
  go_wp2_with fail
  refine (duo_chnew HD1.out gb (⟨1, 0, 1, 0, 1⟩ : Ps)).mono ?_
  rintro en w6 ⟨C, rfl, hd⟩
  have HD2 := Lib.hid hd
  clear hd HD1 q0 q1 q2 q3 q4
  go_wp2_with fail
  refine (duo_walk14 (cf := c38) HD2.out (by simp) c38ok 99 (by rw [HCH.out]; show l.length ≤ 99; omega) (by decide)).mono ?_
  rw [HCH.out]
  rintro en w7 ⟨xs, A, c, fs, rfl, hx, hxf, hd⟩
  have hxl : xs.length = N := by have h := congrArg List.length hx; simp only [List.length_map] at h; rw [h]; exact HN.out
  rw [hxl] at hd ⊢
  have hxi : kk < xs.length := by rw [hxl]; exact hkl
  obtain ⟨g, rfl, -⟩ := rfnd_cell (hd.gi 0 rfl) hxi hxl
  have hxp : l[kk]? = some xs[kk].pr := by rw [← (show xs.map Fnd.pr = l from hx), List.getElem?_map, List.getElem?_eq_getElem hxi]; rfl
  have hqk : xs[kk].p = qk := HQK.out _ hxp
  have HD3 := Lib.hid hd
  have HX := Lib.hid hx
  have HXL := Lib.hid hxl
  have HXF := Lib.hid hxf
  have HPQ : Hid (∀ (W : World) (b : Nat), W.ownsRow b 118 10 (.slice (some ⟨g, 0, none⟩) N c) N (rfndV xs) → (W.cell? ⟨g, kk * 10, none⟩ = some (.int .i64 qk.s) ∧ W.cell? ⟨g, kk * 10 + 1, none⟩ = some (.int .i64 qk.o) ∧ W.cell? ⟨g, kk * 10 + 2, none⟩ = some (.int .i64 qk.l) ∧ W.cell? ⟨g, kk * 10 + 3, none⟩ = some (.int .i64 qk.p) ∧ W.cell? ⟨g, kk * 10 + 4, none⟩ = some (.int .i64 qk.m))) := Lib.hid (fun W b hW => by
   obtain ⟨g', hg', hc'⟩ := rfnd_cell hW hxi HXL.out
   injection hg' with hg'
   injection hg' with hg'
   subst hg'
   exact ⟨hc' 0 _ (by show some (Value.int .i64 xs[kk].p.s) = _; rw [hqk]), hc' 1 _ (by show some (Value.int .i64 xs[kk].p.o) = _; rw [hqk]), hc' 2 _ (by show some (Value.int .i64 xs[kk].p.l) = _; rw [hqk]), hc' 3 _ (by show some (Value.int .i64 xs[kk].p.p) = _; rw [hqk]), hc' 4 _ (by show some (Value.int .i64 xs[kk].p.m) = _; rw [hqk])⟩)
  have hlt2 : (kk : Int) < (N : Int) := by omega
  clear hd hx hxl hxf hxi hxp hqk HD2
  go_wp2_with fail
  refine (round_any k0 (N : Int) _ hz (by omega) (by omega)).mono ?_
  rintro en wq ⟨rfl, rfl⟩
  rw [HKK.out]
  go_wp2_with fail
  have HY := Lib.hid HD3.out.drew
  clear HD3
  refine wp_region_held_drew (S := (fun w' => w'.cell? ⟨g, kk * 10, none⟩ = some (.int .i64 qk.s) ∧ w'.cell? ⟨g, kk * 10 + 1, none⟩ = some (.int .i64 qk.o) ∧ w'.cell? ⟨g, kk * 10 + 2, none⟩ = some (.int .i64 qk.l) ∧ w'.cell? ⟨g, kk * 10 + 3, none⟩ = some (.int .i64 qk.p) ∧ w'.cell? ⟨g, kk * 10 + 4, none⟩ = some (.int .i64 qk.m))) (by kernel_rfl) (HPQ.out _ _ (HY.out.gi 0 rfl)) (fun hSw0 => ?_)
  generalize w7.drew = w8 at *
  refine Kn.takeS 0 ⟨some 68, _, _, _, _, _⟩ ?_
  refine Kn.takeS 1 ⟨some 69, _, _, _, _, _⟩ ?_
  refine Kn.takeS 2 ⟨some 70, _, _, _, _, _⟩ ?_
  refine Kn.takeS 3 ⟨some 71, _, _, _, _, _⟩ ?_
  refine Kn.takeS 4 ⟨some 72, _, _, _, _, _⟩ ?_
  refine Kn.takeS 5 ⟨some 73, _, _, _, _, _⟩ ?_
  refine Kn.takeS 6 ⟨some 74, _, _, _, _, _⟩ (v := (.int .i64 qk.s)) (hy := fun w hSw => by
   have q0 := hSw.1
   go_simp) ?_
  refine Kn.takeS 8 ⟨some 76, _, _, _, _, _⟩ ?_
  refine Kn.takeS 9 ⟨some 77, _, _, _, _, _⟩ ?_
  refine Kn.takeS 10 ⟨some 78, _, _, _, _, _⟩ ?_
  refine Kn.takeS 11 ⟨some 79, _, _, _, _, _⟩ ?_
  refine Kn.takeS 12 ⟨some 80, _, _, _, _, _⟩ ?_
  refine Kn.takeS 13 ⟨some 81, _, _, _, _, _⟩ (v := (.int .i64 qk.o)) (hy := fun w hSw => by
   have q0 := hSw.2.1
   go_simp) ?_
  refine Kn.takeR 7 ⟨some 75, _, _, _, _, _⟩ fun K hK => ?_
  go_simp
  refine (geom_seg_any gb c38 qk.s _ (HY.out.fact (f := (fun W => GeoAt W gb c38.b c38.s c38.l)) (by simp)) c38ok).mono ?_
  rintro en wa ⟨rfl, hO⟩
  have HY1 := Lib.hid (HY.out.keep0 hO)
  clear hO HY
  refine hK.out _ _ (HPQ.out _ _ (HY1.out.gi 0 rfl)) (fun hSn => ?_)
  clear hK K hSw0
  have hSw0 := hSn
  clear hSn
  refine Kn.takeS 14 ⟨some 82, _, _, _, _, _⟩ ?_
  refine Kn.takeS 15 ⟨some 18, _, _, _, _, _⟩ ?_
  refine wpAnyH_done (by kernel_rfl) ?_ _
  clear hSw0
  go_wp2_with fail
  refine (duo_read_own HY1.out (c38.at_ qk.s + qk.o)).mono ?_
  rw [HE.out, HXX.out]
  rintro en w9 ⟨A6, n6, c6, rfl, hd, -⟩
  have h6 := (hd.gi 0 rfl).1
  simp only [bvs_length] at h6
  obtain rfl : n6 = 64 := by rw [HX64.out] at h6; omega
  have hr6 := hd.grow 0 rfl
  obtain ⟨gx, ox, rfl, hc6⟩ := hr6.at_ (by decide)
  obtain ⟨rfl, -⟩ := ownsRow_zero (hd.gi 0 rfl)
  have HR := Lib.hid hd
  have q0 := hc6 tn (by rw [bvs_length, HX64.out]; exact htl)
  rw [Nat.zero_add, bvs_get, HXT.out] at q0
  have HQ0 := Lib.hid q0
  clear hd h6 hr6 hc6 q0 HY1
  go_wp2_with fail
  refine (round_any a0 512 _ ha (by decide) (by decide)).mono ?_
  rintro en wq ⟨rfl, rfl⟩
  rw [HB0.out]
  have q0 := HQ0.out
  have f0 := HR.out.gown.frozen tn
  have hst := HR.out.gset 0 rfl (g := gx) rfl tn (.int .u8 (v.toNat : Int))
  have hse : (bvs X).set tn (.int .u8 (v.toNat : Int)) = bvs (X.set tn v) := by unfold bvs; rw [List.map_set]
  simp only [List.set_cons_zero, hse] at hst
  have HST := Lib.hid hst.gout.drew
  clear hst hse HR HQ0
  have hl6 : (tn : Int) < 64 := by omega
  have ht6 : ((tn : Int)).toNat = tn := by omega
  have ht0 : 0 ≤ (tn : Int) := by omega
  have hmt : ((mn : Int)).toNat = mn := by omega
  have hm0 : 0 ≤ (mn : Int) := by omega
  go_upto_region 19 with (fail)
  refine still_tail 13 (by kernel_rfl) (by kernel_rfl) ?_
  simp only [List.take_succ_cons, List.take_zero, List.drop_succ_cons, List.drop_zero]
  repeat still_step
  refine wpStill_nil ?_
  go_upto_region 20 with (fail)
  generalize hw10 : World.drew (w9.setCell ⟨gx, tn, none⟩ (.int .u8 (v.toNat : Int))) = w10 at *
  clear hw10 q0 f0 w9
  go_wp2_with fail
  refine (duo_write HST.out (c38.at_ qk.s + qk.o) (some ⟨gx, 0, none⟩) 64 c6 (X.set tn v) List.mem_cons_self HHL.out).mono ?_
  rw [HWZ.out]
  rintro en w11 ⟨rfl, hd⟩
  obtain ⟨d3, hd3⟩ : ∃ z, (de.write (c38.at_ qk.s + qk.o) (X.set tn v)).1 = z := ⟨_, rfl⟩
  rw [hd3] at hd
  have HCH3 := HCH2.out
  rw [hd3] at HCH3
  have HCH4 := Lib.hid HCH3
  have HV := Lib.hid (hd.subF (F' := fs ++ ((fun W => GeoAt W gb c38.b c38.s c38.l) :: [])) (fun f hf => List.mem_cons_of_mem _ hf))
  clear hd HST hd3 HCH3
  go_wp2_with fail
  refine (duo_walk14 (cf := c38) HV.out (by simp) c38ok 99 (by rw [HCH4.out]; show (l.take kk).length ≤ 99; rw [List.length_take]; omega) (by decide)).mono ?_
  rw [HCH4.out]
  rintro en w12 ⟨ys, B, c2, fs2, rfl, hy, hyf, hd⟩
  have hyl : ys.length = kk := by have h := congrArg List.length hy; simp only [List.length_map, List.length_take] at h; rw [h, HN.out]; omega
  rw [hyl] at hd ⊢
  have HV2 := Lib.hid hd
  have HYP := Lib.hid hy
  have HYL := Lib.hid hyl
  have HYF := Lib.hid hyf
  clear hd hy hyl hyf HV
  go_wp2_with fail
  have HZ := Lib.hid HV2.out.drew
  clear HV2
  refine wp_region_held_drew (S := (fun w' => w'.cell? ⟨g, kk * 10, none⟩ = some (.int .i64 qk.s) ∧ w'.cell? ⟨g, kk * 10 + 1, none⟩ = some (.int .i64 qk.o) ∧ w'.cell? ⟨g, kk * 10 + 2, none⟩ = some (.int .i64 qk.l) ∧ w'.cell? ⟨g, kk * 10 + 3, none⟩ = some (.int .i64 qk.p) ∧ w'.cell? ⟨g, kk * 10 + 4, none⟩ = some (.int .i64 qk.m))) (by kernel_rfl) (HPQ.out _ _ (HZ.out.gi 1 rfl)) (fun hSw0 => ?_)
  generalize w12.drew = wz at *
  refine Kn.takeS 0 ⟨some 118, _, _, _, _, _⟩ ?_
  refine Kn.takeS 1 ⟨some 119, _, _, _, _, _⟩ ?_
  refine Kn.takeS 2 ⟨some 120, _, _, _, _, _⟩ ?_
  refine Kn.takeS 3 ⟨some 121, _, _, _, _, _⟩ ?_
  refine Kn.takeS 4 ⟨some 122, _, _, _, _, _⟩ ?_
  refine Kn.takeS 5 ⟨some 123, _, _, _, _, _⟩ ?_
  refine Kn.takeS 7 ⟨some 125, _, _, _, _, _⟩ ?_
  refine Kn.takeS 8 ⟨some 126, _, _, _, _, _⟩ ?_
  refine Kn.takeS 9 ⟨some 127, _, _, _, _, _⟩ ?_
  refine Kn.takeS 10 ⟨some 128, _, _, _, _, _⟩ ?_
  refine Kn.takeS 11 ⟨some 129, _, _, _, _, _⟩ (v := (.agg #[.int .i64 qk.s, .int .i64 qk.o, .int .i64 qk.l, .int .i64 qk.p, .int .i64 qk.m])) (hy := fun w hSw => by
   obtain ⟨r0, r1, r2, r3, r4⟩ := hSw
   go_simp) ?_
  refine Kn.takeR 6 ⟨some 124, _, _, _, _, _⟩ fun K hK => ?_
  go_simp
  refine (duo_chend HZ.out (C := C) (gb := gb) (q := (⟨1, 0, 1, 0, 1⟩ : Ps)) (en := qk) (er := 0) (by simp)).mono ?_
  rintro en wb ⟨rfl, hO⟩
  have HZ1 := Lib.hid (HZ.out.keep0 hO)
  clear hO HZ
  refine hK.out _ _ (HPQ.out _ _ (HZ1.out.gi 1 rfl)) (fun hSn => ?_)
  clear hK K hSw0
  have hSw0 := hSn
  clear hSn
  refine Kn.takeS 12 ⟨some 130, _, _, _, _, _⟩ ?_
  refine Kn.takeS 13 ⟨some 131, _, _, _, _, _⟩ ?_
  refine wpAnyH_done (by kernel_rfl) ?_ _
  clear hSw0
  go_wp2_with fail
  go_loopg [23] kk (fun gr t23 wr => ∃ i : Nat, i + gr = kk ∧ t23 = .int .i64 i ∧ Duo w wr p rr d3 de ⟨(C, CB p.D gb (⟨1, 0, 1, 0, 1⟩ : Ps) qk 0) :: (f14, [.int .i64 1, .int .i64 0, .int .i64 1, .int .i64 0, .int .i64 1]) :: (f7, [.int .i64 3, .int .i64 8, .int .i64 24]) :: [], [⟨118, 10, .slice B kk c2, kk, rfndV ys⟩, ⟨118, 10, .slice (some ⟨g, 0, none⟩) N c, N, rfndV xs⟩], fs2 ++ (fs ++ ((fun W => GeoAt W gb c38.b c38.s c38.l) :: []))⟩)
  case atStart => exact ⟨0, by omega, rfl, HZ1.out⟩
  clear HZ1
  obtain ⟨i, hi, rfl, hd⟩ := hrel
  have HD := Lib.hid hd
  clear hd
  by_cases hlt : i < kk
  ·have hyi : i < ys.length := by rw [HYL.out]; exact hlt
   have hxi : i < xs.length := by rw [HXL.out]; omega
   obtain ⟨g2, rfl, -⟩ := rfnd_cell (HD.out.gi 0 rfl) hyi HYL.out
   obtain ⟨y, hyy⟩ : ∃ y, ys[i] = y := ⟨_, rfl⟩
   obtain ⟨x, hxx⟩ : ∃ x, xs[i] = x := ⟨_, rfl⟩
   have HPP : Hid (∀ (W : World) (b b2 : Nat), W.ownsRow b 118 10 (.slice (some ⟨g2, 0, none⟩) kk c2) kk (rfndV ys) → W.ownsRow b2 118 10 (.slice (some ⟨g, 0, none⟩) N c) N (rfndV xs) → (fun w' => (∀ j u, (rfnd y)[j]? = some u → w'.cell? ⟨g2, i * 10 + j, none⟩ = some u) ∧ (∀ j u, (rfnd x)[j]? = some u → w'.cell? ⟨g, i * 10 + j, none⟩ = some u)) W) := Lib.hid (fun W b b2 h1 h2 => by
    obtain ⟨ga, ha, hc1⟩ := rfnd_cell h1 hyi HYL.out
    injection ha with ha
    injection ha with ha
    subst ha
    obtain ⟨gb2, hb, hc2⟩ := rfnd_cell h2 hxi HXL.out
    injection hb with hb
    injection hb with hb
    subst hb
    rw [hyy] at hc1
    rw [hxx] at hc2
    exact ⟨hc1, hc2⟩)
   have hpr : y.pr = x.pr := by
    have h1 : (ys.map Fnd.pr)[i]? = (xs.map Fnd.pr)[i]? := by rw [HYP.out, HX.out, List.getElem?_take, if_pos hlt]
    rw [List.getElem?_map, List.getElem?_map, List.getElem?_eq_getElem hyi, List.getElem?_eq_getElem hxi, hyy, hxx] at h1
    simpa using h1
   have hyr := HD.out.fact (f := y.fct) (List.mem_append_left _ (HYF.out y (by rw [← hyy]; exact List.getElem_mem hyi)))
   have hxr := HD.out.fact (f := x.fct) (List.mem_append_right _ (List.mem_append_left _ (HXF.out x (by rw [← hxx]; exact List.getElem_mem hxi))))
   have HFY : Hid (y.fct ∈ fs2) := Lib.hid (HYF.out y (by rw [← hyy]; exact List.getElem_mem hyi))
   have HFX : Hid (x.fct ∈ fs) := Lib.hid (HXF.out x (by rw [← hxx]; exact List.getElem_mem hxi))
   obtain ⟨yp, yr, ⟨u1, u2, u3⟩, ⟨v1, v2, v3⟩⟩ := y
   obtain ⟨xp, xr, ⟨s1, s2, s3⟩, ⟨t1, t2, t3⟩⟩ := x
   simp only [Fnd.pr, Prod.mk.injEq] at hpr
   obtain ⟨rfl, rfl⟩ := hpr
   have hlt3 : (i : Int) < (kk : Int) := by omega
   have hlt4 : (i : Int) < (N : Int) := by omega
   clear hyi hxi hyy hxx hyr hxr
   go_wp2_with fail
   have HW := Lib.hid HD.out.drew
   clear HD
   refine wp_region_held_drew (S := (fun w' => (∀ j u, (rfnd (⟨yp, yr, (u1, u2, u3), (v1, v2, v3)⟩ : Fnd))[j]? = some u → w'.cell? ⟨g2, i * 10 + j, none⟩ = some u) ∧ (∀ j u, (rfnd (⟨yp, yr, (s1, s2, s3), (t1, t2, t3)⟩ : Fnd))[j]? = some u → w'.cell? ⟨g, i * 10 + j, none⟩ = some u))) (by kernel_rfl) (HPP.out _ _ _ (HW.out.gi 0 rfl) (HW.out.gi 1 rfl)) (fun hSw0 => ?_)
   generalize wr.drew = ws at *
   refine Kn.takeS 0 ⟨some 137, _, _, _, _, _⟩ ?_
   refine Kn.takeS 1 ⟨some 138, _, _, _, _, _⟩ ?_
   refine Kn.takeS 2 ⟨some 139, _, _, _, _, _⟩ ?_
   refine Kn.takeS 3 ⟨some 140, _, _, _, _, _⟩ ?_
   refine Kn.takeS 4 ⟨some 141, _, _, _, _, _⟩ (v := (.agg #[.int .i64 yp.s, .int .i64 yp.o, .int .i64 yp.l, .int .i64 yp.p, .int .i64 yp.m])) (hy := fun w hSw => by
    have r0 : w.cell? ⟨g2, i * 10, none⟩ = some (.int .i64 yp.s) := hSw.1 0 _ rfl
    have r1 : w.cell? ⟨g2, i * 10 + 1, none⟩ = some (.int .i64 yp.o) := hSw.1 1 _ rfl
    have r2 : w.cell? ⟨g2, i * 10 + 2, none⟩ = some (.int .i64 yp.l) := hSw.1 2 _ rfl
    have r3 : w.cell? ⟨g2, i * 10 + 3, none⟩ = some (.int .i64 yp.p) := hSw.1 3 _ rfl
    have r4 : w.cell? ⟨g2, i * 10 + 4, none⟩ = some (.int .i64 yp.m) := hSw.1 4 _ rfl
    go_simp) ?_
   refine Kn.takeS 5 ⟨some 142, _, _, _, _, _⟩ ?_
   refine Kn.takeS 6 ⟨some 143, _, _, _, _, _⟩ ?_
   refine Kn.takeS 7 ⟨some 144, _, _, _, _, _⟩ ?_
   refine Kn.takeS 8 ⟨some 145, _, _, _, _, _⟩ ?_
   refine Kn.takeS 9 ⟨some 146, _, _, _, _, _⟩ (v := (.agg #[.int .i64 yp.s, .int .i64 yp.o, .int .i64 yp.l, .int .i64 yp.p, .int .i64 yp.m])) (hy := fun w hSw => by
    have r0 : w.cell? ⟨g, i * 10, none⟩ = some (.int .i64 yp.s) := hSw.2 0 _ rfl
    have r1 : w.cell? ⟨g, i * 10 + 1, none⟩ = some (.int .i64 yp.o) := hSw.2 1 _ rfl
    have r2 : w.cell? ⟨g, i * 10 + 2, none⟩ = some (.int .i64 yp.l) := hSw.2 2 _ rfl
    have r3 : w.cell? ⟨g, i * 10 + 3, none⟩ = some (.int .i64 yp.p) := hSw.2 3 _ rfl
    have r4 : w.cell? ⟨g, i * 10 + 4, none⟩ = some (.int .i64 yp.m) := hSw.2 4 _ rfl
    go_simp) ?_
   refine Kn.takeS 10 ⟨some 147, _, _, _, _, _⟩ ?_
   refine Kn.takeS 11 ⟨some 148, _, _, _, _, _⟩ ?_
   refine Kn.takeS 12 ⟨some 149, _, _, _, _, _⟩ ?_
   refine Kn.takeS 13 ⟨some 150, _, _, _, _, _⟩ ?_
   refine Kn.takeS 14 ⟨some 151, _, _, _, _, _⟩ ?_
   refine Kn.takeS 15 ⟨some 152, _, _, _, _, _⟩ ?_
   refine Kn.takeS 16 ⟨some 153, _, _, _, _, _⟩ (v := (.agg #[.int .i64 yr.m, .int .i64 yr.n, .int .i64 yr.p, .slice u1 u2 u3, .slice v1 v2 v3])) (hy := fun w hSw => by
    have r0 : w.cell? ⟨g2, i * 10 + 5, none⟩ = some (.int .i64 yr.m) := hSw.1 5 _ rfl
    have r1 : w.cell? ⟨g2, i * 10 + 5 + 1, none⟩ = some (.int .i64 yr.n) := hSw.1 6 _ rfl
    have r2 : w.cell? ⟨g2, i * 10 + 5 + 2, none⟩ = some (.int .i64 yr.p) := hSw.1 7 _ rfl
    have r3 : w.cell? ⟨g2, i * 10 + 5 + 3, none⟩ = some (.slice u1 u2 u3) := hSw.1 8 _ rfl
    have r4 : w.cell? ⟨g2, i * 10 + 5 + 4, none⟩ = some (.slice v1 v2 v3) := hSw.1 9 _ rfl
    go_simp) ?_
   refine Kn.takeS 17 ⟨some 154, _, _, _, _, _⟩ ?_
   refine Kn.takeS 18 ⟨some 155, _, _, _, _, _⟩ ?_
   refine Kn.takeS 19 ⟨some 156, _, _, _, _, _⟩ ?_
   refine Kn.takeS 20 ⟨some 157, _, _, _, _, _⟩ ?_
   refine Kn.takeS 21 ⟨some 158, _, _, _, _, _⟩ (v := (.agg #[.int .i64 yr.m, .int .i64 yr.n, .int .i64 yr.p, .slice s1 s2 s3, .slice t1 t2 t3])) (hy := fun w hSw => by
    have r0 : w.cell? ⟨g, i * 10 + 5, none⟩ = some (.int .i64 yr.m) := hSw.2 5 _ rfl
    have r1 : w.cell? ⟨g, i * 10 + 5 + 1, none⟩ = some (.int .i64 yr.n) := hSw.2 6 _ rfl
    have r2 : w.cell? ⟨g, i * 10 + 5 + 2, none⟩ = some (.int .i64 yr.p) := hSw.2 7 _ rfl
    have r3 : w.cell? ⟨g, i * 10 + 5 + 3, none⟩ = some (.slice s1 s2 s3) := hSw.2 8 _ rfl
    have r4 : w.cell? ⟨g, i * 10 + 5 + 4, none⟩ = some (.slice t1 t2 t3) := hSw.2 9 _ rfl
    go_simp) ?_
   refine Kn.takeR 22 ⟨some 159, _, _, _, _, _⟩ fun K hK => ?_
   go_simp
   have hyr : RcAt _ yr (u1, u2, u3) (v1, v2, v3) := HW.out.fact (List.mem_append_left _ HFY.out)
   have hxr : RcAt _ yr (s1, s2, s3) (t1, t2, t3) := HW.out.fact (List.mem_append_right _ (List.mem_append_left _ HFX.out))
   refine (alike_record_any yr.m yr.n yr.p u1 u2 u3 yr.its v1 v2 v3 yr.bl yr.m yr.n yr.p s1 s2 s3 yr.its t1 t2 t3 yr.bl _ hyr.1 hyr.2 hxr.1 hxr.2).mono ?_
   rw [decide_eq_true (rfl : (⟨yr.m, yr.n, yr.p, yr.its, yr.bl⟩ : Rc) = ⟨yr.m, yr.n, yr.p, yr.its, yr.bl⟩)]
   rintro en wb ⟨rfl, hO⟩
   have HW1 := Lib.hid (HW.out.keep0 hO)
   clear hO hyr hxr HW
   refine hK.out _ _ (HPP.out _ _ _ (HW1.out.gi 0 rfl) (HW1.out.gi 1 rfl)) (fun hSn => ?_)
   clear hK K hSw0
   have hSw0 := hSn
   clear hSn
   refine Kn.takeS 23 ⟨some 160, _, _, _, _, _⟩ ?_
   refine Kn.takeS 24 ⟨some 161, _, _, _, _, _⟩ ?_
   refine wpAnyH_done (by kernel_rfl) ?_ _
   clear hSw0
   go_wp2_with fail
   go_roundg (gk - 1)
   case measure => omega
   case rel => exact ⟨i + 1, by omega, by go_num, HW1.out⟩
  ·obtain rfl : i = kk := by omega
   go_wp2_with fail
   refine (awake14_any _).mono ?_
   rintro en w19 ⟨rfl, hO⟩
   have HO := Lib.hid (HD.out.only.trans' hO)
   clear hO HD
   go_wp2_with fail
   refine bodyPost_ret (v := .bool true) (by kernel_rfl) rfl ⟨rfl, HO.out⟩
end Go.Proofs.YtgcfdjcpcclcjaaGreat
