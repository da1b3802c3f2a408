/- Awake14, LgT, RChA, FewP, CpT, FrameH, FrameU, FrameP: joined by pack.py, without what the claim does not use. -/
import Derived.Test.YtgcfdjcpcclcjaaGreatChainPlaysH
set_option linter.unusedVariables false
set_option linter.unusedSimpArgs false
set_option maxHeartbeats 16000000
set_option maxRecDepth 100000
namespace Go.Kn
open Go Go.RowKit
theorem Cel.of_own {W : World} {g n c : Nat} {xs : List Value} (h : Own W g xs) (h1 : n ≤ c) (h2 : c ≤ maxLen) : Cel W (some ⟨g, 0, none⟩) n c xs := ⟨h1, h2, fun _ => ⟨g, rfl, fun j u hj => by
 obtain ⟨h3, h4⟩ := List.getElem?_eq_some_iff.1 hj
 exact (h.cell j h3).trans (congrArg some h4)⟩⟩
theorem krs_zero {w : World} {g : Nat} (h : Own w g [.slice none 0 0, .int .i64 0, .int .i64 0, .int .i64 0, .int .i64 0]) : Krs w (some ⟨g, 0, none⟩) 1 1 [kr0] [(none, 0, 0)] := by
 refine ⟨rfl, rfl, Nat.le_refl _, by decide, fun _ => ⟨g, 0, rfl, fun i h1 h2 => ?_⟩, fun i h1 h2 => ?_⟩
 ·obtain rfl : i = 0 := by simp at h1; omega
  exact ⟨h.cell 0 (by simp), h.cell 1 (by simp), h.cell 2 (by simp), h.cell 3 (by simp), h.cell 4 (by simp)⟩
 obtain rfl : i = 0 := by simp at h1; omega
 exact Ins.nil0 w
def sgA (t : Nat) : Int := if t = 0 then 2 else 6
theorem sgs_aw (hc : Cf.Ok (⟨2, 8, 24⟩ : Cf)) : Sgs (⟨2, 8, 24⟩ : Cf) sgA 2 := ⟨hc, rfl, rfl, fun t ht => by unfold sgA; split <;> decide, fun t u ht hu h => by
 unfold sgA at h
 split at h <;> split at h <;> first | omega | (exfalso; revert h; decide)⟩
/-- the two segments of law14.awake -/
theorem awake_two (hc : Cf.Ok (⟨2, 8, 24⟩ : Cf)) : ∃ (x1 x2 x3 : Ps × Rc) (qe : Ps) (de : Dk), laidRun (⟨2, 8, 24⟩ : Cf) [⟨[kr0], 6, false⟩, ⟨[kr0], 0, false⟩] (⟨2, 0, 5, 9, 1⟩ : Ps) (Dk.new (Cf.sectors (⟨2, 8, 24⟩ : Cf)).toNat) = (qe, de) ∧ chainR de (⟨2, 8, 24⟩ : Cf) (⟨2, 0, 5, 9, 1⟩ : Ps) = ([x1, x2, x3], qe, 0) ∧ x3.1.s = 6 ∧ x3.1.o = 1 := by
 have hs := sgs_aw hc
 have h0 : RL (⟨2, 8, 24⟩ : Cf) sgA 2 ((Dk.new (Cf.sectors (⟨2, 8, 24⟩ : Cf)).toNat).puts (Cf.at_ (⟨2, 8, 24⟩ : Cf) 2) (headB (⟨2, 0, 5, 9, 1⟩ : Ps))) ⟨2, 1, 5, 9, 1⟩ [] 1 ⟨2, 1, 5, 9, 1⟩ := RL.start hs (by decide) (p := (⟨2, 0, 5, 9, 1⟩ : Ps)) rfl (by decide) (by decide) (by decide)
 obtain ⟨r1, q1, d1, e1, h1⟩ := h0.mark hs (by decide) (by decide) []
 obtain ⟨q2, d2, e2, h2⟩ := h1.turn hs (by decide) (by decide) (by decide)
 obtain ⟨r3, q3, d3, e3, h3⟩ := h2.mark hs (by decide) (by decide) []
 have hsg : sgA ((1 + 1) / 24 + 1) = 6 := rfl
 rw [hsg] at e2 h2 h3
 have hp := h2.run.pl.2.1
 refine ⟨_, _, _, q3, d3, ?_, h3.run.told hs (by decide) (p := (⟨2, 0, 5, 9, 1⟩ : Ps)) h3.hd (h3.none_ hs) (by decide) rfl, hp.s, hp.o⟩
 unfold laidRun
 show laidGo (⟨2, 8, 24⟩ : Cf) [⟨[kr0], 6, false⟩, ⟨[kr0], 0, false⟩] ⟨2, 1, 5, 9, 1⟩ _ = _
 rw [laidGo_on (by simp) rfl]
 show laidGo (⟨2, 8, 24⟩ : Cf) [⟨[kr0], 0, false⟩] (turnRun (⟨2, 8, 24⟩ : Cf) (6 % 8) true (logRun (⟨2, 8, 24⟩ : Cf) [kr0] _ _).1 (logRun (⟨2, 8, 24⟩ : Cf) [kr0] _ _).2).1 (turnRun (⟨2, 8, 24⟩ : Cf) (6 % 8) true (logRun (⟨2, 8, 24⟩ : Cf) [kr0] _ _).1 (logRun (⟨2, 8, 24⟩ : Cf) [kr0] _ _).2).2 = _
 rw [e1]
 show laidGo (⟨2, 8, 24⟩ : Cf) [⟨[kr0], 0, false⟩] (turnRun (⟨2, 8, 24⟩ : Cf) 6 true q1 d1).1 (turnRun (⟨2, 8, 24⟩ : Cf) 6 true q1 d1).2 = _
 rw [e2, laidGo_one]
 exact e3
end Go.Kn
namespace Go.Proofs.YtgcfdjcpcclcjaaGreat
open Go Go.RowKit Go.Kn
theorem awake14_any (w : World) : Calls Tryz.prog 60 #[] w fun e w' => e = .returned (.bool true) ∧ Only [] w w' := by
 have hc : Cf.Ok (⟨2, 8, 24⟩ : Cf) := c13ok
 obtain ⟨x1, x2, x3, qe, de, hrun, hch, hx3, hx3o⟩ := awake_two hc
 have HRUN := hH hrun
 have HCH := hH hch
 have HX3 := hH hx3
 have HX3O := hH hx3o
 have HC := hH hc
 clear hrun hch hx3 hx3o hc
 have H1 := hH ((Wc.start w).newB #[.int .i64 2, .int .i64 8, .int .i64 24] 25 rfl)
 go_enter Tryz.func60, Tryz.ntmps60
 go_upto_region 2 with (fail)
 generalize hz : w.alloc (.cells #[.int .i64 2, .int .i64 8, .int .i64 24] 25) = w1 at *
 obtain ⟨f1, hf1⟩ : ∃ k, k = w.heap.size := ⟨_, rfl⟩
 rw [← hf1] at H1 ⊢
 clear hz hf1
 obtain ⟨e0, e1, e2⟩ := own3 (H1.out.boxi 0 rfl)
 go_wp2_with fail
 refine (desk14_any w w1 (⟨2, 8, 24⟩ : Cf) ⟨[(f1, [.int .i64 2, .int .i64 8, .int .i64 24])], [], []⟩ H1.out HC.out).mono ?_
 rintro en w2 ⟨p, rr, gb, rfl, hd⟩
 have HD := hH (Duo.newB hd #[.int .i64 2, .int .i64 0, .int .i64 5, .int .i64 9, .int .i64 1] 32 rfl)
 clear hd H1 e0 e1 e2
 go_upto_region 4 with (fail)
 generalize hz : w2.alloc (.cells #[.int .i64 2, .int .i64 0, .int .i64 5, .int .i64 9, .int .i64 1] 32) = w3 at *
 generalize w2.heap.size = f6 at *
 clear hz w2 w1
 obtain ⟨q0, q1, q2, q3, q4⟩ := own5 (HD.out.box (x := (f6, [.int .i64 2, .int .i64 0, .int .i64 5, .int .i64 9, .int .i64 1])) (by simp))
 obtain ⟨e0, e1, e2⟩ := own3 (HD.out.box (x := (f1, [.int .i64 2, .int .i64 8, .int .i64 24])) (by simp))
 obtain ⟨g1, hg1⟩ : ∃ k, k = w3.heap.size := ⟨_, rfl⟩
 have hs1 : (w3.alloc (.cells #[.slice none 0 0, .int .i64 0, .int .i64 0, .int .i64 0, .int .i64 0] 38)).heap.size = g1 + 1 := by simp [hg1]
 have hs2 : ((w3.alloc (.cells #[.slice none 0 0, .int .i64 0, .int .i64 0, .int .i64 0, .int .i64 0] 38)).alloc (.cells #[.slice none 0 0, .int .i64 0, .int .i64 0, .int .i64 0, .int .i64 0] 38)).heap.size = g1 + 1 + 1 := by simp [hg1]
 have HP3 : Hid (Duo w (((w3.alloc (.cells #[.slice none 0 0, .int .i64 0, .int .i64 0, .int .i64 0, .int .i64 0] 38)).alloc (.cells #[.slice none 0 0, .int .i64 0, .int .i64 0, .int .i64 0, .int .i64 0] 38)).alloc (.cells #[.slice (some ⟨g1, 0, none⟩) 1 1, .int .i64 6, .bool false, .slice (some ⟨g1 + 1, 0, none⟩) 1 1, .int .i64 0, .bool false] 203)) p rr (Dk.new (Cf.sectors (⟨2, 8, 24⟩ : Cf)).toNat) (Dk.new (Cf.sectors (⟨2, 8, 24⟩ : Cf)).toNat) ⟨(f6, [.int .i64 2, .int .i64 0, .int .i64 5, .int .i64 9, .int .i64 1]) :: (f1, [.int .i64 2, .int .i64 8, .int .i64 24]) :: [], [], (fun W => Prts W (some ⟨g1 + 1 + 1, 0, none⟩) 2 2 [⟨[kr0], 6, false⟩, ⟨[kr0], 0, false⟩] [((some ⟨g1, 0, none⟩, 1, 1), [(none, 0, 0)]), ((some ⟨g1 + 1, 0, none⟩, 1, 1), [(none, 0, 0)])]) :: (fun W => GeoAt W gb 2 8 24) :: []⟩) := hH (by
  have k1 := HD.out.addFc ((Only.refl _ _).alloc _) (Kn.Own.fc (Kn.Own.new w3 #[.slice none 0 0, .int .i64 0, .int .i64 0, .int .i64 0, .int .i64 0] 38) (M := fun k => k < w3.heap.size) (by omega))
  have k2 := k1.addFc ((Only.refl _ _).alloc _) (Kn.Own.fc (Kn.Own.new (w3.alloc (.cells #[.slice none 0 0, .int .i64 0, .int .i64 0, .int .i64 0, .int .i64 0] 38)) #[.slice none 0 0, .int .i64 0, .int .i64 0, .int .i64 0, .int .i64 0] 38) (M := fun k => k < (w3.alloc (.cells #[.slice none 0 0, .int .i64 0, .int .i64 0, .int .i64 0, .int .i64 0] 38)).heap.size) (by omega))
  have k3 := k2.addFc ((Only.refl _ _).alloc _) (Kn.Own.fc (Kn.Own.new ((w3.alloc (.cells #[.slice none 0 0, .int .i64 0, .int .i64 0, .int .i64 0, .int .i64 0] 38)).alloc (.cells #[.slice none 0 0, .int .i64 0, .int .i64 0, .int .i64 0, .int .i64 0] 38)) #[.slice (some ⟨g1, 0, none⟩) 1 1, .int .i64 6, .bool false, .slice (some ⟨g1 + 1, 0, none⟩) 1 1, .int .i64 0, .bool false] 203) (M := fun k => k < ((w3.alloc (.cells #[.slice none 0 0, .int .i64 0, .int .i64 0, .int .i64 0, .int .i64 0] 38)).alloc (.cells #[.slice none 0 0, .int .i64 0, .int .i64 0, .int .i64 0, .int .i64 0] 38)).heap.size) (by omega))
  rw [hs2, hs1, ← hg1] at k3
  refine k3.impF fun g hg W hW => ?_
  rcases List.mem_cons.1 hg with rfl | hg
  ·exact Prts.of_cel (xs := [⟨⟨[kr0], 6, false⟩, (some ⟨g1, 0, none⟩, 1, 1), [(none, 0, 0)]⟩, ⟨⟨[kr0], 0, false⟩, (some ⟨g1 + 1, 0, none⟩, 1, 1), [(none, 0, 0)]⟩]) (Cel.of_own (hW _ List.mem_cons_self) (Nat.le_refl _) (by decide)) (fun y hy => by
    simp only [List.mem_cons, List.mem_nil_iff, or_false] at hy
    rcases hy with rfl | rfl
    ·exact krs_zero (hW (fun W => Kn.Own W g1 [.slice none 0 0, .int .i64 0, .int .i64 0, .int .i64 0, .int .i64 0]) (by simp))
    exact krs_zero (hW _ (mc _ List.mem_cons_self)))
  exact hW g (by simp only [List.mem_cons, List.mem_nil_iff, or_false] at hg ⊢; rcases hg with rfl; simp))
 clear HD
 (try rw [hg1] at HP3)
 go_wp2_with fail
 refine (laid14_any w _ p rr _ _ (⟨2, 8, 24⟩ : Cf) (⟨2, 0, 5, 9, 1⟩ : Ps) _ 2 2 _ _ HP3.out List.mem_cons_self ?hok (by decide) HC.out (by decide) (by decide) (by decide) (by decide) ⟨rfl, rfl⟩ rfl).mono ?_
 case hok =>
  intro x hx
  simp only [List.mem_cons, List.mem_nil_iff, or_false] at hx
  rcases hx with rfl | rfl
  ·exact ⟨by decide, fun y hy => by rw [List.mem_singleton.1 hy]; exact ⟨by simp [kr0], by decide, by decide, by decide, by decide⟩, by decide⟩
  exact ⟨by decide, fun y hy => by rw [List.mem_singleton.1 hy]; exact ⟨by simp [kr0], by decide, by decide, by decide, by decide⟩, by decide⟩
 rw [HRUN.out]
 rintro en w4 ⟨rfl, hd⟩
 have HD4 := hH (Duo.newB hd #[.int .i64 qe.s, .int .i64 qe.o, .int .i64 qe.l, .int .i64 qe.p, .int .i64 qe.m] 32 rfl)
 clear hd HP3 q0 q1 q2 q3 q4 e0 e1 e2 hs1 hs2
 go_upto_region 7 with (fail)
 generalize hz : w4.alloc (.cells #[.int .i64 qe.s, .int .i64 qe.o, .int .i64 qe.l, .int .i64 qe.p, .int .i64 qe.m] 32) = w5 at *
 generalize w4.heap.size = f7 at *
 clear hz
 obtain ⟨q0, q1, q2, q3, q4⟩ := own5 (HD4.out.box (x := (f6, [.int .i64 2, .int .i64 0, .int .i64 5, .int .i64 9, .int .i64 1])) (by simp))
 go_wp2_with fail
 refine (duo_chnew HD4.out gb (⟨2, 0, 5, 9, 1⟩ : Ps)).mono ?_
 rintro en w6 ⟨C, rfl, hd⟩
 have HD6 := hH hd
 clear hd HD4 q0 q1 q2 q3 q4
 obtain ⟨q0, q1, q2, q3, q4⟩ := own5 (HD6.out.box (x := (f6, [.int .i64 2, .int .i64 0, .int .i64 5, .int .i64 9, .int .i64 1])) (by simp))
 go_wp2_with fail
 refine (chain_new_none w6 gb (⟨2, 0, 5, 9, 1⟩ : Ps)).mono ?_
 rintro en w7 ⟨rfl, hO⟩
 have HD7 := hH (HD6.out.keep0 hO)
 clear hO HD6 q0 q1 q2 q3 q4
 go_wp2_with fail
 refine (duo_chend HD7.out List.mem_cons_self).mono ?_
 rintro en w8 ⟨rfl, hO⟩
 have HD8 := hH (((HD7.out.keep0 hO).newB #[.int .i64 2, .int .i64 0, .int .i64 5, .int .i64 9, .int .i64 1] 32 rfl).lswap)
 clear hO HD7
 go_upto_region 11 with (fail)
 generalize hz : w8.alloc (.cells #[.int .i64 2, .int .i64 0, .int .i64 5, .int .i64 9, .int .i64 1] 32) = w8b at *
 generalize w8.heap.size = f10 at *
 clear hz
 go_wp2_with fail
 refine (duo_walk14 (cf := (⟨2, 8, 24⟩ : Cf)) HD8.out (mc _ List.mem_cons_self) HC.out 9 (by rw [HCH.out]; simp) (by decide)).mono ?_
 rw [HCH.out]
 rintro en w9 ⟨xs, A1, k1, fs1, rfl, hx1, hf1, hd⟩
 have hxl : xs.length = 3 := by have h := congrArg List.length hx1; simpa using h
 have HD9 := hH hd
 obtain ⟨g, rfl, hcel⟩ := (cells_owns (hd.gi 0 rfl)).2.2 (by rw [hxl]; decide)
 obtain ⟨y1, y2, y3, rfl⟩ : ∃ y1 y2 y3, xs = [y1, y2, y3] := by
  match xs, hxl with
  | [a, b, c], _ => exact ⟨a, b, c, rfl⟩
 have hy3 : y3.p = x3.1 := by
  simp only [List.map_cons, List.map_nil, List.cons.injEq] at hx1
  rw [← hx1.2.2.1]
  rfl
 simp only [List.length_cons, List.length_nil] at HD9 ⊢
 have HP : Hid (∀ (W : World) (F' : List (World → Prop)), Duo w W p rr de de ⟨(C, CB p.D gb (⟨2, 0, 5, 9, 1⟩ : Ps) qe 0) :: (f10, [.int .i64 2, .int .i64 0, .int .i64 5, .int .i64 9, .int .i64 1]) :: (f7, [.int .i64 qe.s, .int .i64 qe.o, .int .i64 qe.l, .int .i64 qe.p, .int .i64 qe.m]) :: (f6, [.int .i64 2, .int .i64 0, .int .i64 5, .int .i64 9, .int .i64 1]) :: (f1, [.int .i64 2, .int .i64 8, .int .i64 24]) :: [], [⟨118, 10, .slice (some ⟨g, 0, none⟩) 3 k1, 3, rfndV [y1, y2, y3]⟩], F'⟩ → (fun w' => Kn.Own w' f10 [.int .i64 2, .int .i64 0, .int .i64 5, .int .i64 9, .int .i64 1] ∧ Kn.Own w' f6 [.int .i64 2, .int .i64 0, .int .i64 5, .int .i64 9, .int .i64 1] ∧ Kn.Own w' f7 [.int .i64 qe.s, .int .i64 qe.o, .int .i64 qe.l, .int .i64 qe.p, .int .i64 qe.m] ∧ w'.cell? ⟨g, 20, none⟩ = some (.int .i64 6) ∧ w'.cell? ⟨g, 21, none⟩ = some (.int .i64 1)) W) := hH (fun W F' hW => by
  obtain ⟨g', hg', hc'⟩ := (cells_owns (hW.gi 0 rfl)).2.2 (by decide)
  injection hg' with hg'
  injection hg' with hg'
  subst hg'
  have h20 := hc' 20 (.int .i64 y3.p.s) rfl
  have h21 := hc' 21 (.int .i64 y3.p.o) rfl
  rw [hy3, HX3.out] at h20
  rw [hy3, HX3O.out] at h21
  exact ⟨hW.box (x := (f10, [.int .i64 2, .int .i64 0, .int .i64 5, .int .i64 9, .int .i64 1])) (by simp), hW.box (x := (f6, [.int .i64 2, .int .i64 0, .int .i64 5, .int .i64 9, .int .i64 1])) (by simp), hW.box (x := (f7, [.int .i64 qe.s, .int .i64 qe.o, .int .i64 qe.l, .int .i64 qe.p, .int .i64 qe.m])) (by simp), h20, h21⟩)
 clear hd HD8 hcel hxl hx1 hf1 hy3
 have hn3 : (2 : Nat) < 3 := by decide
 go_wp2_with fail
 have HY := hH HD9.out.drew
 clear HD9
 refine wp_region_held_drew (S := (fun w' => Kn.Own w' f10 [.int .i64 2, .int .i64 0, .int .i64 5, .int .i64 9, .int .i64 1] ∧ Kn.Own w' f6 [.int .i64 2, .int .i64 0, .int .i64 5, .int .i64 9, .int .i64 1] ∧ Kn.Own w' f7 [.int .i64 qe.s, .int .i64 qe.o, .int .i64 qe.l, .int .i64 qe.p, .int .i64 qe.m] ∧ w'.cell? ⟨g, 20, none⟩ = some (.int .i64 6) ∧ w'.cell? ⟨g, 21, none⟩ = some (.int .i64 1))) (by kernel_rfl) (HP.out _ _ HY.out) (fun hSw0 => ?_)
 generalize w9.drew = wz at *
 refine tS 0 59 (v := (.agg #[.int .i64 2, .int .i64 0, .int .i64 5, .int .i64 9, .int .i64 1])) (hy := fun w hSw => by
  have q0 := hSw.1
  obtain ⟨q00, q01, q02, q03, q04⟩ := Kn.own5 q0
  clear q0
  go_simp) ?_
 refine tS 1 60 (v := (.agg #[.int .i64 2, .int .i64 0, .int .i64 5, .int .i64 9, .int .i64 1])) (hy := fun w hSw => by
  have q0 := hSw.2.1
  obtain ⟨q00, q01, q02, q03, q04⟩ := Kn.own5 q0
  clear q0
  go_simp) ?_
 refine tS 2 61 ?_
 refine tS 3 62 ?_
 refine tS 4 63 ?_
 refine tS 5 64 ?_
 refine tS 6 65 ?_
 refine tS 7 66 ?_
 refine tS 8 67 ?_
 refine tS 9 68 ?_
 refine tS 10 69 ?_
 refine tS 11 70 ?_
 refine tS 12 71 ?_
 refine tS 13 72 (v := (.int .i64 6)) (hy := fun w hSw => by
  have q0 := hSw.2.2.2.1
  go_simp) ?_
 refine tS 14 73 ?_
 refine tS 15 74 ?_
 refine tS 16 75 ?_
 refine tS 17 76 ?_
 refine tS 18 77 ?_
 refine tS 19 78 ?_
 refine tS 20 79 ?_
 refine tS 21 80 (v := (.int .i64 1)) (hy := fun w hSw => by
  have q0 := hSw.2.2.2.2
  go_simp) ?_
 refine tS 22 81 ?_
 refine tS 23 82 ?_
 refine tS 24 83 ?_
 refine tS 25 84 ?_
 refine tS 27 86 (v := (.agg #[.int .i64 qe.s, .int .i64 qe.o, .int .i64 qe.l, .int .i64 qe.p, .int .i64 qe.m])) (hy := fun w hSw => by
  have q0 := hSw.2.2.1
  obtain ⟨q00, q01, q02, q03, q04⟩ := Kn.own5 q0
  clear q0
  go_simp) ?_
 refine tR 26 85 fun K hK => ?_
 go_simp
 refine (duo_chend HY.out List.mem_cons_self).mono ?_
 rintro en wa ⟨rfl, hO⟩
 have HY1 := hH (HY.out.keep0 hO)
 clear hO HY
 refine hK.out _ _ (HP.out _ _ HY1.out) (fun hSn => ?_)
 clear hK K hSw0
 have hSw0 := hSn
 clear hSn
 refine tS 28 87 ?_
 refine tS 29 88 ?_
 refine tS 30 89 ?_
 refine tS 31 90 ?_
 refine tR 32 91 fun K hK => ?_
 go_simp
 refine (duo_cherr HY1.out List.mem_cons_self).mono ?_
 rintro en wb ⟨rfl, rfl⟩
 refine hK.out _ _ (HP.out _ _ HY1.out) (fun hSn => ?_)
 clear hK K hSw0
 have hSw0 := hSn
 clear hSn
 refine tS 33 92 ?_
 refine tS 34 93 ?_
 refine tS 35 94 ?_
 refine tS 36 95 ?_
 refine tR 37 96 fun K hK => ?_
 go_simp
 refine (chain_err_none _).mono ?_
 rintro en wc ⟨rfl, rfl⟩
 refine hK.out _ _ (HP.out _ _ HY1.out) (fun hSn => ?_)
 clear hK K hSw0
 have hSw0 := hSn
 clear hSn
 refine tS 38 97 ?_
 refine tS 39 98 ?_
 refine tS 40 99 ?_
 refine tS 41 100 ?_
 refine tR 42 101 fun K hK => ?_
 go_simp
 refine (duo_walk14_nil HY1.out 3 (by decide)).mono ?_
 rintro en wd ⟨rfl, hd⟩
 have HY2 := hH hd
 clear hd HY1
 refine hK.out _ _ (HP.out _ _ HY2.out) (fun hSn => ?_)
 clear hK K hSw0
 have hSw0 := hSn
 clear hSn
 refine tS 43 102 ?_
 refine tS 44 103 ?_
 refine tS 45 104 ?_
 refine tS 46 0 ?_
 refine tD ?_ _
 clear hSw0
 go_wp2
 (try simp only [Exit.inBlock, Exit.then])
 refine bodyPost_ret (v := .bool true) (by kernel_rfl) rfl ⟨rfl, HY2.out.only⟩
end Go.Proofs.YtgcfdjcpcclcjaaGreat
namespace Go.Kn
open Go Go.RowKit
theorem rfnd_cell {w : World} {b t n c : Nat} {A : Option Addr} {xs : List Fnd} (h : w.ownsRow b t 10 (.slice A n c) n (Go.Proofs.YtgcfdjcpcclcjaaGreat.rfndV xs)) {i : Nat} (hi : i < xs.length) (hn : xs.length = n) : ∃ g, A = some ⟨g, 0, none⟩ ∧ ∀ j u, (Go.Proofs.YtgcfdjcpcclcjaaGreat.rfnd xs[i])[j]? = some u → w.cell? ⟨g, i * 10 + j, none⟩ = some u := by
 obtain ⟨_, _, h3⟩ := cells_owns h
 obtain ⟨g, e, hc⟩ := h3 (by omega)
 refine ⟨g, e, fun j u hj => hc _ _ ?_⟩
 have hj2 : j < 10 := by
  have := (List.getElem?_eq_some_iff.1 hj).1
  simpa [Go.Proofs.YtgcfdjcpcclcjaaGreat.rfnd, Rc.cells] using this
 exact (flatMap_get Go.Proofs.YtgcfdjcpcclcjaaGreat.rfnd 10 (fun x => rfl) xs i j hi hj2).trans hj
end Go.Kn
namespace Go.Kn
open Go Go.RowKit
/-- 'append(s, x...)', s a row of the call's own, x a slice that begins its block, or none -/
theorem run_append_rowN {P : Program} (w : World) (base : Nat) (t ty e : TypeId) (i : TypeInfo) (z : Value) (size bytes : Nat) (ht : P.underlying t = some (.slice e)) (hi : P.info? e = some i) (hz : i.zero = some z)
  (hsize : i.size = size) (hby : i.bytes = bytes) (hzs : z.cells.size = size) (hsz : 0 < size)
  (v : Value) (n : Nat) (xs : List Value) (hown : w.ownsRow base e size v n xs)
  (A : Option Addr) (m c : Nat) (news : List Value) (hl : news.length = m * size) (hr : 0 < m → ∃ g, A = some ⟨g, 0, none⟩ ∧ ∀ j u, news[j]? = some u → w.cell? ⟨g, j, none⟩ = some u) (h1 : ∀ u ∈ news, u.oneCell' = true)
  (h63 : n + m ≤ maxLen) (hbytes : (n + m) * bytes ≤ 140737488355328) (hbase : base ≤ w.heap.size) :
  ∃ v' w', (Builtin.append_ #[t, t] ty #[v, .slice A m c]).run P w = .ok v' w' ∧ w'.ownsRow base e size v' (n + m) (xs ++ news) ∧ w.grownBy w' v.ownBlock ∧ (v'.ownBlock = v.ownBlock ∨ v'.ownBlock = some w.heap.size) := by
 rcases A with _ | ad
 ·have hm : m = 0 := by
   rcases Nat.eq_zero_or_pos m with h0 | h0
   ·exact h0
   obtain ⟨g, h, _⟩ := hr h0
   cases h
  subst hm
  have hn : news = [] := List.eq_nil_of_length_eq_zero (by simpa using hl)
  subst hn
  refine ⟨v, w, ?_, by simpa using hown, World.grownBy.refl w _, .inl rfl⟩
  rcases hown.2 with ⟨rfl, rfl⟩ | ⟨g, cap, cur, rfl, _, _, hnc, _⟩
  ·simp [Builtin.append_, run_underlying ht, sizeOf, typeInfo, hi, Builtin.lenOf, Builtin.firstCells]
  simp [Builtin.append_, run_underlying ht, sizeOf, typeInfo, hi, Builtin.lenOf, Builtin.firstCells, hnc, storeCells]
 obtain ⟨v', w', hrun, h2, h3, _, h5⟩ := run_append_own_at (P := P) w base t ty e i z size bytes ht hi hz hsize hby hzs hsz v n xs hown ad m c news hl (fun j u hj => by
  rcases Nat.eq_zero_or_pos m with h0 | h0
  ·have : news = [] := List.eq_nil_of_length_eq_zero (by rw [hl, h0]; simp)
   rw [this] at hj
   simp at hj
  obtain ⟨g, h, hc⟩ := hr h0
  injection h with h
  subst h
  have : (⟨g, 0, none⟩ : Addr).add j = ⟨g, j, none⟩ := by unfold Addr.add; split <;> simp_all
  rw [this]
  exact hc j u hj) h1 h63 hbytes hbase
 exact ⟨v', w', hrun, h2, h3, h5⟩
theorem wpList_append_rowN {P : Program} {w : World} {ops : Array Oper} {rest : List Oper} {o : Oper} {a : Act} {Q : Exit → Act → World → Prop} (hgd : o.guard = none) (s x : Operand) (t : TypeId)
  (ho : o.op = .call { callee := .builtin .append, args := #[s, x], argTypes := #[t, t] })
  (base : Nat) (e : TypeId) (i : TypeInfo) (z : Value) (size bytes : Nat) (ht : P.underlying t = some (.slice e)) (hi : P.info? e = some i) (hz : i.zero = some z)
  (hsize : i.size = size) (hby : i.bytes = bytes) (hzs : z.cells.size = size) (hsz : 0 < size)
  (v : Value) (n : Nat) (xs : List Value) (hs : a.eval s = v) (hown : w.ownsRow base e size v n xs)
  (A : Option Addr) (m c : Nat) (news : List Value) (hx : a.eval x = .slice A m c) (hl : news.length = m * size) (hr : 0 < m → ∃ g, A = some ⟨g, 0, none⟩ ∧ ∀ j u, news[j]? = some u → w.cell? ⟨g, j, none⟩ = some u) (h1 : ∀ u ∈ news, u.oneCell' = true)
  (h63 : n + m ≤ maxLen) (hbytes : (n + m) * bytes ≤ 140737488355328) (hbase : base ≤ w.heap.size)
  (h : ∀ v' w', w'.ownsRow base e size v' (n + m) (xs ++ news) → w.grownBy w' v.ownBlock → (v'.ownBlock = v.ownBlock ∨ v'.ownBlock = some w.heap.size) → wpList P ops Q rest (a.put o.dst v') w') : wpList P ops Q (o :: rest) a w := by
 refine wpList_plain hgd fun K hK => ?_
 obtain ⟨v', w', hrun, h2, h3, h4⟩ := run_append_rowN (P := P) w base t o.type e i z size bytes ht hi hz hsize hby hzs hsz v n xs hown A m c news hl hr h1 h63 hbytes hbase
 unfold Oper.wp execOp
 simp only [ho, resolve, invoke, builtin, Sem.run_bind, Sem.run_pure, Result.andThen_ok, List.map_toArray, List.map_cons, List.map_nil, hs, hx, hrun]
 exact hK _ _ (h v' w' h2 h3 h4)
theorem rfndV_len (xs : List Fnd) : (Go.Proofs.YtgcfdjcpcclcjaaGreat.rfndV xs).length = xs.length * 10 := by
 induction xs with
 | nil => rfl
 | cons x xs ih => rw [Go.Proofs.YtgcfdjcpcclcjaaGreat.rfndV, List.flatMap_cons, List.length_append, List.length_cons, show (List.flatMap Go.Proofs.YtgcfdjcpcclcjaaGreat.rfnd xs).length = _ from ih]; show 10 + _ = _; omega
theorem rfndV_app (xs ys : List Fnd) : Go.Proofs.YtgcfdjcpcclcjaaGreat.rfndV (xs ++ ys) = Go.Proofs.YtgcfdjcpcclcjaaGreat.rfndV xs ++ Go.Proofs.YtgcfdjcpcclcjaaGreat.rfndV ys := by simp [Go.Proofs.YtgcfdjcpcclcjaaGreat.rfndV]
theorem rfndV_one (xs : List Fnd) : ∀ u ∈ Go.Proofs.YtgcfdjcpcclcjaaGreat.rfndV xs, u.oneCell' = true := by
 intro u hu
 unfold Go.Proofs.YtgcfdjcpcclcjaaGreat.rfndV at hu
 obtain ⟨x, _, hx⟩ := List.mem_flatMap.1 hu
 exact Go.Proofs.YtgcfdjcpcclcjaaGreat.rfnd_one x u hx
theorem next_err {d : Dk} {c : Cf} {p : Ps} (h : (scanR d c false p).2.2 ≠ 0 ∨ (scanR d c false p).1 = []) : nextIn c (scanR d c false p).1 = none := by
 rcases h with h | h
 ·cases hn : nextIn c (scanR d c false p).1 with
  | none => rfl
  | some v =>
   obtain ⟨l', x, hl, hx, _⟩ := nextIn_last hn
   exact absurd ((scanR_last hl).2 (by rw [hx]; rfl)) h
 rw [h]; rfl
end Go.Kn
namespace Go.Proofs.YtgcfdjcpcclcjaaGreat
open Go Go.RowKit Go.Kn
theorem infoFoundR : (Tryz.prog.info? 183).map (fun i => (i.zero, i.size, i.bytes)) = some (some (.agg #[.int .i64 0, .int .i64 0, .int .i64 0, .int .i64 0, .int .i64 0, .int .i64 0, .int .i64 0, .int .i64 0, .slice none 0 0, .slice none 0 0]), 10, 112) := by kernel_rfl
theorem duo_rchain (w0 w : World) (p : PD) (r : RD) (d e : Dk) (c : Fr3) (h : Duo w0 w p r d e c) (hh : e.held.length ≤ 1000000) (cf : Cf) (hc : cf.Ok) (q : Ps) :
  Calls Tryz.prog 64 #[.pointer (some ⟨r.M, 0, none⟩), .agg #[.int .i64 cf.b, .int .i64 cf.s, .int .i64 cf.l], .agg #[.int .i64 q.s, .int .i64 q.o, .int .i64 q.l, .int .i64 q.p, .int .i64 q.m]] w (DRef w0 p r d e c (chainR e cf q)) := by
 have hres : Tryz.f64.results = #[.tmp 6, .cell 7 32, .tmp 8] := by kernel_rfl
 have HRES := hH hres
 obtain ⟨k0, hk0⟩ : ∃ k0, (2147483648 - q.l).toNat + 1 = k0 := ⟨_, rfl⟩
 have hends := chEnds_some_k e cf q
 have hch : chainR e cf q = chainG e cf k0 q := by rw [← hk0]; rfl
 rw [hk0] at hends
 rw [hch]
 have hle : (chainG e cf k0 q).1.length ≤ 4096 := Nat.le_trans (told_le k0 q) (Nat.le_trans (List.countP_le_length) (by rw [Dk.now_length]; exact h.ok'.n.2))
 obtain ⟨X, hX⟩ : ∃ X, chainG e cf k0 q = X := ⟨_, rfl⟩
 have HEN := hH hends
 have HX := hH hX
 rw [hX] at hle ⊢
 have HLE := hH hle
 have HC := hH hc
 have HHH := hH hh
 obtain ⟨i0, hi0, hz0, hz1, hz2⟩ := info_parts infoFoundR
 have hs1 : (w.alloc (.cells #[.int .i64 cf.b, .int .i64 cf.s, .int .i64 cf.l] 25)).heap.size = w.heap.size + 1 := by simp
 have hs2 : ((w.alloc (.cells #[.int .i64 cf.b, .int .i64 cf.s, .int .i64 cf.l] 25)).alloc (.cells #[.int .i64 q.s, .int .i64 q.o, .int .i64 q.l, .int .i64 q.p, .int .i64 q.m] 32)).heap.size = w.heap.size + 1 + 1 := by simp
 have H := hH (((((h.newB #[.int .i64 cf.b, .int .i64 cf.s, .int .i64 cf.l] 25 rfl).newB #[.int .i64 q.s, .int .i64 q.o, .int .i64 q.l, .int .i64 q.p, .int .i64 q.m] 32 hs1).newB #[.int .i64 0, .int .i64 0, .int .i64 0, .int .i64 0, .int .i64 0] 32 hs2)).gnew 183 10)
 clear h hres hch hends hX hk0 hle hc hh
 go_enter Tryz.func64, Tryz.ntmps64
 go_upto_region 1 with (fail)
 (try rw [hs2])
 (try rw [hs1])
 generalize hz : ((w.alloc (.cells #[.int .i64 cf.b, .int .i64 cf.s, .int .i64 cf.l] 25)).alloc (.cells #[.int .i64 q.s, .int .i64 q.o, .int .i64 q.l, .int .i64 q.p, .int .i64 q.m] 32)).alloc (.cells #[.int .i64 0, .int .i64 0, .int .i64 0, .int .i64 0, .int .i64 0] 32) = w1 at *
 clear hz hs1 hs2
 generalize w.heap.size = f4 at *
 generalize f4 + 1 = f5 at *
 generalize f5 + 1 = f7 at *
 go_upto_region 2 with (fail)
 go_loopg [9] k0 (fun gr t9 wr => ∃ (pre : List Fnd) (n : Nat) (A : Option Addr) (cc : Nat) (fs : List (World → Prop)) (qj : Ps), t9 = .slice A n cc ∧ pre.length = n ∧ ChEnds e cf gr qj ∧ (pre.map Fnd.pr ++ (chainG e cf gr qj).1, (chainG e cf gr qj).2) = X ∧ (∀ y ∈ pre, y.fct ∈ fs) ∧
  Duo w0 wr p r d e ⟨(f7, [.int .i64 0, .int .i64 0, .int .i64 0, .int .i64 0, .int .i64 0]) :: (f5, [.int .i64 qj.s, .int .i64 qj.o, .int .i64 qj.l, .int .i64 qj.p, .int .i64 qj.m]) :: (f4, [.int .i64 cf.b, .int .i64 cf.s, .int .i64 cf.l]) :: c.L, ⟨183, 10, .slice A n cc, n, rfndV pre⟩ :: c.G, fs ++ c.F⟩)
 case atStart => exact ⟨[], 0, none, 0, [], q, rfl, rfl, HEN.out, by rw [← HX.out]; rfl, by simp, H.out⟩
 clear H
 obtain ⟨pre, n, A, cc, fs, qj, rfl, hpl, hen, hpre, hfs, hd⟩ := hrel
 obtain ⟨k, rfl⟩ : ∃ k, gk = k + 1 := ⟨gk - 1, by cases gk with
  | zero => exact hen.elim
  | succ k => rfl⟩
 obtain ⟨xl, xq, xe, hsc⟩ : ∃ a b f, scanR e cf false qj = (a, b, f) := ⟨_, _, _, rfl⟩
 have HSC := hH hsc
 have HEJ := hH hen
 have HPRE := hH hpre
 have HPL := hH hpl
 have HFS := hH hfs
 have HD := hH hd
 clear hsc hen hpre hpl hfs hd
 obtain ⟨e0, e1, e2⟩ := own3 (HD.out.box (x := (f4, [.int .i64 cf.b, .int .i64 cf.s, .int .i64 cf.l])) (by simp))
 obtain ⟨q0, q1, q2, q3, q4⟩ := own5 (HD.out.box (x := (f5, [.int .i64 qj.s, .int .i64 qj.o, .int .i64 qj.l, .int .i64 qj.p, .int .i64 qj.m])) (by simp))
 go_wp2_with fail
 refine (duo_rscan HD.out HHH.out (cf := cf) HC.out qj).mono ?_
 rw [HSC.out]
 rintro en w2 ⟨xs, B, cb, gs, rfl, hx, hxf, hd⟩
 obtain ⟨m, hm⟩ : ∃ m, xs.length = m := ⟨_, rfl⟩
 rw [hm] at hd ⊢
 have HD2 := hH (Duo.newB hd #[.int .i64 xq.s, .int .i64 xq.o, .int .i64 xq.l, .int .i64 xq.p, .int .i64 xq.m] 32 rfl)
 have hlim : n + m ≤ 4096 := by
  have h1 := congrArg (fun x => x.1.length) HPRE.out
  simp only [List.length_append, List.length_map] at h1
  have h2 := (scan_prefix_chain e cf k qj).length_le
  rw [HSC.out] at h2
  have h3 := congrArg List.length hx
  rw [List.length_map, hm] at h3
  have h4 := HLE.out
  have h5 := HPL.out
  simp only at h2 h3
  omega
 have HXX := hH hx
 have HXF := hH hxf
 have HM := hH hm
 clear hd hx hxf hm HD q0 q1 q2 q3 q4 e0 e1 e2
 go_upto_region 3 with (fail)
 generalize hz : w2.alloc (.cells #[.int .i64 xq.s, .int .i64 xq.o, .int .i64 xq.l, .int .i64 xq.p, .int .i64 xq.m] 32) = w3 at *
 generalize w2.heap.size = f11 at *
 clear hz
 have HBS := hH HD2.out.only.size
 have hcel := (cells_owns (HD2.out.gi 0 rfl)).2.2
 have HCE := hH hcel
 clear hcel
 have hlen : (rfndV xs).length = m * 10 := by rw [rfndV_len, HM.out]
 have HLN := hH hlen
 clear hlen
 go_upto_region 4 with (first
  | (at_builtin; refine wpList_append_rowN rfl (.tmp 22) (.tmp 23) 80 rfl w0.heap.size 183 i0 _ 10 112 Tryz.underlying80 hi0 hz0 hz1 hz2 rfl (by decide) (.slice A n cc) n (rfndV pre) rfl (HD2.out.gi 1 rfl) B m cb (rfndV xs) rfl HLN.out HCE.out (rfndV_one xs) (by unfold maxLen; omega) (by omega) HBS.out ?_; intro v5 w5 hown hgrow hat2; rw [← rfndV_app] at hown; have hdd := HD2.out.gapp 1 rfl hown hgrow hat2; obtain ⟨A6, k6, rfl⟩ := hdd.gform 1 rfl; simp only [List.set_cons_zero, List.set_cons_succ] at hdd; have HD3 := hH hdd; clear hdd hown hgrow hat2 HBS HD2 HCE HLN)
  | fail)
 by_cases hstop : xe ≠ 0 ∨ m = 0
 ·have HNI : Hid (nextIn cf (scanR e cf false qj).1 = none) := hH (next_err (by
   rw [HSC.out]
   rcases hstop with h | h
   ·exact .inl h
   right
   have h3 := congrArg List.length HXX.out
   rw [List.length_map, HM.out, h] at h3
   exact List.eq_nil_of_length_eq_zero h3.symm))
  have hcase : (xe ≠ 0) ∨ (xe = 0 ∧ (m : Int) = 0) := by omega
  have HEQ : Hid (((pre ++ xs).map Fnd.pr, xq, xe) = X) := hH (by
   rw [← HPRE.out, chainG_none HNI.out, HSC.out, List.map_append, HXX.out])
  have HPF : Hid (∀ y ∈ pre ++ xs, y.fct ∈ gs ++ fs) := hH (fun y hy => by
   rcases List.mem_append.1 hy with hy | hy
   ·exact List.mem_append_right _ (HFS.out y hy)
   exact List.mem_append_left _ (HXF.out y hy))
  have HPN : Hid ((pre ++ xs).length = n + m) := hH (by rw [List.length_append, HPL.out, HM.out])
  rcases hcase with hxe | ⟨hxe, hm0⟩
  ·have hxb : (xe != 0) = true := by rw [bne_iff_ne]; exact hxe
   go_wp2_with fail
   have HV := hH HD3.out.drew
   clear HD3
   refine wp_region_held_drew (S := (fun w' => Kn.Own w' f11 [.int .i64 xq.s, .int .i64 xq.o, .int .i64 xq.l, .int .i64 xq.p, .int .i64 xq.m])) (by kernel_rfl) (HV.out.box (x := (f11, [.int .i64 xq.s, .int .i64 xq.o, .int .i64 xq.l, .int .i64 xq.p, .int .i64 xq.m])) (by simp)) (fun hSw0 => ?_)
   generalize w5.drew = wz at *
   refine tS 0 32 ?_
   refine tS 1 33 (v := (.agg #[.int .i64 xq.s, .int .i64 xq.o, .int .i64 xq.l, .int .i64 xq.p, .int .i64 xq.m])) (hy := fun w hSw => by
    have q0 := hSw
    obtain ⟨q00, q01, q02, q03, q04⟩ := Kn.own5 q0
    clear q0
    go_simp) ?_
   refine tS 2 34 ?_
   refine tS 3 6 ?_
   refine Kn.takeR 4 ⟨none, _, _, _, _, _⟩ fun K hK => ?_
   refine step_store_own rfl 32 (.tmp 7) (.tmp 33) rfl f7 [.int .i64 0, .int .i64 0, .int .i64 0, .int .i64 0, .int .i64 0] [.int .i64 xq.s, .int .i64 xq.o, .int .i64 xq.l, .int .i64 xq.p, .int .i64 xq.m] (by kernel_rfl) rfl rfl (HV.out.box (x := (f7, [.int .i64 0, .int .i64 0, .int .i64 0, .int .i64 0, .int .i64 0])) (by simp)) rfl (by intro u hu; simp at hu; rcases hu with rfl | rfl | rfl | rfl | rfl <;> rfl) ?_
   intro w9 ho9 hO9
   have HV3 := hH (Duo.lswap ((Duo.lswap HV.out).head ho9 hO9))
   clear ho9 hO9 HV
   refine hK.out _ _ (HV3.out.box (x := (f11, [.int .i64 xq.s, .int .i64 xq.o, .int .i64 xq.l, .int .i64 xq.p, .int .i64 xq.m])) (by simp)) (fun hSn => ?_)
   clear hK K hSw0
   have hSw0 := hSn
   clear hSn
   refine tS 5 8 ?_
   refine tD ?_ _
   clear hSw0
   obtain ⟨r0, r1, r2, r3, r4⟩ := own5 (HV3.out.box (x := (f7, [.int .i64 xq.s, .int .i64 xq.o, .int .i64 xq.l, .int .i64 xq.p, .int .i64 xq.m])) (by simp))
   go_wp2
   (try simp only [Exit.inBlock, Exit.then])
   have HF1 := hH (HV3.out.sub (L' := c.L) (G' := ⟨183, 10, .slice A6 (n + m) k6, n + m, rfndV (pre ++ xs)⟩ :: c.G) (F' := (gs ++ fs) ++ c.F) (.cons _ (.cons _ (.cons _ (.cons _ (List.Sublist.refl _))))) (.cons _ (List.Sublist.refl _)) (fun f hf => by rw [List.append_assoc] at hf; exact hf))
   refine bodyPost_ret (v := .tuple #[.slice A6 (n + m) k6, .agg #[.int .i64 xq.s, .int .i64 xq.o, .int .i64 xq.l, .int .i64 xq.p, .int .i64 xq.m], .int .i64 xe]) ?_ rfl ?_
   ·simp only [results, HRES.out]
    go_simp
   rw [← HEQ.out]
   refine ⟨pre ++ xs, A6, k6, gs ++ fs, ?_, rfl, HPF.out, ?_⟩
   ·rw [HPN.out]
   rw [HPN.out]
   exact HF1.out
  go_wp2_with fail
  have HV := hH HD3.out.drew
  clear HD3
  refine wp_region_held_drew (S := (fun w' => Kn.Own w' f11 [.int .i64 xq.s, .int .i64 xq.o, .int .i64 xq.l, .int .i64 xq.p, .int .i64 xq.m])) (by kernel_rfl) (HV.out.box (x := (f11, [.int .i64 xq.s, .int .i64 xq.o, .int .i64 xq.l, .int .i64 xq.p, .int .i64 xq.m])) (by simp)) (fun hSw0 => ?_)
  generalize w5.drew = wz at *
  refine tS 0 32 ?_
  refine tS 1 33 (v := (.agg #[.int .i64 xq.s, .int .i64 xq.o, .int .i64 xq.l, .int .i64 xq.p, .int .i64 xq.m])) (hy := fun w hSw => by
   have q0 := hSw
   obtain ⟨q00, q01, q02, q03, q04⟩ := Kn.own5 q0
   clear q0
   go_simp) ?_
  refine tS 2 34 ?_
  refine tS 3 6 ?_
  refine Kn.takeR 4 ⟨none, _, _, _, _, _⟩ fun K hK => ?_
  refine step_store_own rfl 32 (.tmp 7) (.tmp 33) rfl f7 [.int .i64 0, .int .i64 0, .int .i64 0, .int .i64 0, .int .i64 0] [.int .i64 xq.s, .int .i64 xq.o, .int .i64 xq.l, .int .i64 xq.p, .int .i64 xq.m] (by kernel_rfl) rfl rfl (HV.out.box (x := (f7, [.int .i64 0, .int .i64 0, .int .i64 0, .int .i64 0, .int .i64 0])) (by simp)) rfl (by intro u hu; simp at hu; rcases hu with rfl | rfl | rfl | rfl | rfl <;> rfl) ?_
  intro w9 ho9 hO9
  have HV3 := hH (Duo.lswap ((Duo.lswap HV.out).head ho9 hO9))
  clear ho9 hO9 HV
  refine hK.out _ _ (HV3.out.box (x := (f11, [.int .i64 xq.s, .int .i64 xq.o, .int .i64 xq.l, .int .i64 xq.p, .int .i64 xq.m])) (by simp)) (fun hSn => ?_)
  clear hK K hSw0
  have hSw0 := hSn
  clear hSn
  refine tS 5 8 ?_
  refine tD ?_ _
  clear hSw0
  obtain ⟨r0, r1, r2, r3, r4⟩ := own5 (HV3.out.box (x := (f7, [.int .i64 xq.s, .int .i64 xq.o, .int .i64 xq.l, .int .i64 xq.p, .int .i64 xq.m])) (by simp))
  go_wp2
  (try simp only [Exit.inBlock, Exit.then])
  have HF1 := hH (HV3.out.sub (L' := c.L) (G' := ⟨183, 10, .slice A6 (n + m) k6, n + m, rfndV (pre ++ xs)⟩ :: c.G) (F' := (gs ++ fs) ++ c.F) (.cons _ (.cons _ (.cons _ (.cons _ (List.Sublist.refl _))))) (.cons _ (List.Sublist.refl _)) (fun f hf => by rw [List.append_assoc] at hf; exact hf))
  refine bodyPost_ret (v := .tuple #[.slice A6 (n + m) k6, .agg #[.int .i64 xq.s, .int .i64 xq.o, .int .i64 xq.l, .int .i64 xq.p, .int .i64 xq.m], .int .i64 xe]) ?_ rfl ?_
  ·simp only [results, HRES.out]
   go_simp
  rw [← HEQ.out]
  refine ⟨pre ++ xs, A6, k6, gs ++ fs, ?_, rfl, HPF.out, ?_⟩
  ·rw [HPN.out]
  rw [HPN.out]
  exact HF1.out
 have hxe : xe = 0 := by omega
 have hm1 : 1 ≤ m := by omega
 have hm0 : ¬ (m : Int) = 0 := by omega
 have hne : xs ≠ [] := fun h => by have := HM.out; rw [h] at this; simp at this; omega
 obtain ⟨ys, y, hys⟩ : ∃ ys y, xs = ys ++ [y] := by rcases List.eq_nil_or_concat xs with h | ⟨ys, y, h⟩; exact absurd h hne; exact ⟨ys, y, by rw [h, List.concat_eq_append]⟩
 have hyl : ys.length = m - 1 := by have := HM.out; rw [hys] at this; simp at this; omega
 have hxi : m - 1 < xs.length := by rw [HM.out]; omega
 have hgy : xs[m - 1] = y := by simp only [hys, ← hyl]; simp
 have hlast : (scanR e cf false qj).1 = ys.map Fnd.pr ++ [y.pr] := by rw [HSC.out]; show xl = _; rw [← (show xs.map Fnd.pr = xl from HXX.out), hys, List.map_append]; rfl
 have hni : nextIn cf (scanR e cf false qj).1 = (nextOf y.r).filter fun v => decide (v ≤ cf.s - 1) := by rw [hlast, nextIn_snoc]; rfl
 have hfol := (scanR_last hlast).1
 have hnx : ∀ v, nextOf y.r = some v → 0 ≤ v ∧ v ≤ 31 := fun v hv => follow_next hfol hv
 obtain ⟨g, rfl, hc⟩ := rfnd_cell (HD3.out.gi 0 rfl) hxi HM.out
 rw [hgy] at hc
 have hfy := HD3.out.fact (f := y.fct) (List.mem_append_left _ (HXF.out y (by rw [hys]; simp)))
 obtain ⟨yp, yr, ⟨s1, s2, s3⟩, ⟨t1, t2, t3⟩⟩ := y
 have c5 : w5.cell? ⟨g, (m - 1) * 10 + 5, none⟩ = some (.int .i64 yr.m) := hc 5 _ rfl
 have c6 : w5.cell? ⟨g, (m - 1) * 10 + 5 + 1, none⟩ = some (.int .i64 yr.n) := hc 6 _ rfl
 have c7 : w5.cell? ⟨g, (m - 1) * 10 + 5 + 2, none⟩ = some (.int .i64 yr.p) := hc 7 _ rfl
 have c8 : w5.cell? ⟨g, (m - 1) * 10 + 5 + 3, none⟩ = some (.slice s1 s2 s3) := hc 8 _ rfl
 have c9 : w5.cell? ⟨g, (m - 1) * 10 + 5 + 4, none⟩ = some (.slice t1 t2 t3) := hc 9 _ rfl
 obtain ⟨j, hj⟩ : ∃ j : Nat, m - 1 = j := ⟨_, rfl⟩
 rw [hj] at c5 c6 c7 c8 c9
 have hwj : IntKind.i64.wrap ((m : Int) - 1) = (j : Int) := by rw [show (m : Int) - 1 = (j : Int) from by omega]; exact IntWalk.i64_in _ (by omega)
 have hjm : (j : Int) < (m : Int) := by omega
 have HNX := hH hnx
 have HNI0 := hH hni
 have HFY : Hid (RcAt w5 yr (s1, s2, s3) (t1, t2, t3)) := hH hfy
 clear hc hfy hnx hni hfol hlast hgy hxi hyl hys hne hj
 have e1 := (HD3.out.box (x := (f4, [.int .i64 cf.b, .int .i64 cf.s, .int .i64 cf.l])) (by simp)).cellv 1
 go_wp2_with fail
 refine (ref_next_any yr (s1, s2, s3) (t1, t2, t3) _ HFY.out.1).mono ?_
 rintro en w6 ⟨rfl, hO⟩
 have HD4 := hH (HD3.out.keep0 hO)
 clear hO HD3 c5 c6 c7 c8 c9 HFY e1
 have e1 := (HD4.out.box (x := (f4, [.int .i64 cf.b, .int .i64 cf.s, .int .i64 cf.l])) (by simp)).cellv 1
 have hs32 := HC.out.2.1
 cases hno : nextOf yr with
 | none =>
  have HNI : Hid (nextIn cf (scanR e cf false qj).1 = none) := hH (by rw [HNI0.out]; show (nextOf yr).filter _ = none; rw [hno]; rfl)
  simp only [Option.getD_none]
  have HEQ : Hid (((pre ++ xs).map Fnd.pr, xq, xe) = X) := hH (by
   rw [← HPRE.out, chainG_none HNI.out, HSC.out, List.map_append, HXX.out])
  have HPF : Hid (∀ y ∈ pre ++ xs, y.fct ∈ gs ++ fs) := hH (fun y hy => by
   rcases List.mem_append.1 hy with hy | hy
   ·exact List.mem_append_right _ (HFS.out y hy)
   exact List.mem_append_left _ (HXF.out y hy))
  have HPN : Hid ((pre ++ xs).length = n + m) := hH (by rw [List.length_append, HPL.out, HM.out])
  go_wp2_with fail
  have HV := hH HD4.out.drew
  clear HD4
  refine wp_region_held_drew (S := (fun w' => Kn.Own w' f11 [.int .i64 xq.s, .int .i64 xq.o, .int .i64 xq.l, .int .i64 xq.p, .int .i64 xq.m])) (by kernel_rfl) (HV.out.box (x := (f11, [.int .i64 xq.s, .int .i64 xq.o, .int .i64 xq.l, .int .i64 xq.p, .int .i64 xq.m])) (by simp)) (fun hSw0 => ?_)
  generalize w6.drew = wz at *
  refine tS 0 51 ?_
  refine tS 1 52 (v := (.agg #[.int .i64 xq.s, .int .i64 xq.o, .int .i64 xq.l, .int .i64 xq.p, .int .i64 xq.m])) (hy := fun w hSw => by
   have q0 := hSw
   obtain ⟨q00, q01, q02, q03, q04⟩ := Kn.own5 q0
   clear q0
   go_simp) ?_
  refine tS 2 53 ?_
  refine tS 3 6 ?_
  refine Kn.takeR 4 ⟨none, _, _, _, _, _⟩ fun K hK => ?_
  refine step_store_own rfl 32 (.tmp 7) (.tmp 52) rfl f7 [.int .i64 0, .int .i64 0, .int .i64 0, .int .i64 0, .int .i64 0] [.int .i64 xq.s, .int .i64 xq.o, .int .i64 xq.l, .int .i64 xq.p, .int .i64 xq.m] (by kernel_rfl) rfl rfl (HV.out.box (x := (f7, [.int .i64 0, .int .i64 0, .int .i64 0, .int .i64 0, .int .i64 0])) (by simp)) rfl (by intro u hu; simp at hu; rcases hu with rfl | rfl | rfl | rfl | rfl <;> rfl) ?_
  intro w9 ho9 hO9
  have HV3 := hH (Duo.lswap ((Duo.lswap HV.out).head ho9 hO9))
  clear ho9 hO9 HV
  refine hK.out _ _ (HV3.out.box (x := (f11, [.int .i64 xq.s, .int .i64 xq.o, .int .i64 xq.l, .int .i64 xq.p, .int .i64 xq.m])) (by simp)) (fun hSn => ?_)
  clear hK K hSw0
  have hSw0 := hSn
  clear hSn
  refine tS 5 8 ?_
  refine tD ?_ _
  clear hSw0
  obtain ⟨r0, r1, r2, r3, r4⟩ := own5 (HV3.out.box (x := (f7, [.int .i64 xq.s, .int .i64 xq.o, .int .i64 xq.l, .int .i64 xq.p, .int .i64 xq.m])) (by simp))
  go_wp2
  (try simp only [Exit.inBlock, Exit.then])
  have HF1 := hH (HV3.out.sub (L' := c.L) (G' := ⟨183, 10, .slice A6 (n + m) k6, n + m, rfndV (pre ++ xs)⟩ :: c.G) (F' := (gs ++ fs) ++ c.F) (.cons _ (.cons _ (.cons _ (.cons _ (List.Sublist.refl _))))) (.cons _ (List.Sublist.refl _)) (fun f hf => by rw [List.append_assoc] at hf; exact hf))
  refine bodyPost_ret (v := .tuple #[.slice A6 (n + m) k6, .agg #[.int .i64 xq.s, .int .i64 xq.o, .int .i64 xq.l, .int .i64 xq.p, .int .i64 xq.m], .int .i64 xe]) ?_ rfl ?_
  ·simp only [results, HRES.out]
   go_simp
  rw [← HEQ.out]
  refine ⟨pre ++ xs, A6, k6, gs ++ fs, ?_, rfl, HPF.out, ?_⟩
  ·rw [HPN.out]
  rw [HPN.out]
  exact HF1.out
 | some v =>
  obtain ⟨hv0, hv31⟩ := HNX.out v hno
  simp only [Option.getD_some]
  have hvn : ¬ v < 0 := by omega
  by_cases hfar : v ≤ cf.s - 1
  ·have hni2 : nextIn cf (scanR e cf false qj).1 = some v := by rw [HNI0.out]; show (nextOf yr).filter _ = some v; rw [hno]; simp [Option.filter, hfar]
   have hge : ¬ v ≥ cf.s := by omega
   have hen2 := (chEnds_some hni2).1 HEJ.out
   rw [HSC.out] at hen2
   have hpr2 := HPRE.out
   rw [chainG_some hni2, HSC.out] at hpr2
   simp only at hpr2 hen2
   have HEN2 : Hid (ChEnds e cf k (turnP xq v)) := hH hen2
   have HPR2 : Hid (((pre ++ xs).map Fnd.pr ++ (chainG e cf k (turnP xq v)).1, (chainG e cf k (turnP xq v)).2) = X) := hH (by rw [← hpr2, List.map_append, HXX.out, List.append_assoc])
   have HPF : Hid (∀ y ∈ pre ++ xs, y.fct ∈ gs ++ fs) := hH (fun y hy => by
    rcases List.mem_append.1 hy with hy | hy
    ·exact List.mem_append_right _ (HFS.out y hy)
    exact List.mem_append_left _ (HXF.out y hy))
   have HPN : Hid ((pre ++ xs).length = n + m) := hH (by rw [List.length_append, HPL.out, HM.out])
   clear hni2 hen2 hpr2 hno
   obtain ⟨x0, x1, x2, x3, x4⟩ := own5 (HD4.out.boxi 0 rfl)
   have b := HD4.out.box (x := (f5, [.int .i64 qj.s, .int .i64 qj.o, .int .i64 qj.l, .int .i64 qj.p, .int .i64 qj.m])) (by simp)
   have y0 := b.frozen 0
   have y1 := b.frozen 1
   have y2 := b.frozen 2
   have y3 := b.frozen 3
   have y4 := b.frozen 4
   obtain ⟨u0, u1, u2, u3, u4⟩ := Kn.own5 b
   have hlp := b.lt
   clear b
   have HD5 := hH (HD4.out.call 2 rfl (own_set5 (HD4.out.box (x := (f5, [.int .i64 qj.s, .int .i64 qj.o, .int .i64 qj.l, .int .i64 qj.p, .int .i64 qj.m])) (by simp)) (.int .i64 xq.s) (.int .i64 xq.o) (.int .i64 xq.l) (.int .i64 xq.p) (.int .i64 xq.m)) (only_set5 _ f5 _ _ _ _ _))
   simp only [List.set_cons_zero, List.set_cons_succ] at HD5
   go_upto_region 10 with (fail)
   generalize hz : ((((w6.setCell ⟨f5, 0, none⟩ (.int .i64 xq.s)).setCell ⟨f5, 1, none⟩ (.int .i64 xq.o)).setCell ⟨f5, 2, none⟩ (.int .i64 xq.l)).setCell ⟨f5, 3, none⟩ (.int .i64 xq.p)).setCell ⟨f5, 4, none⟩ (.int .i64 xq.m) = w7 at *
   clear hz HD4 x0 x1 x2 x3 x4 y0 y1 y2 y3 y4 u0 u1 u2 u3 u4 hlp
   have b := HD5.out.box (x := (f5, [.int .i64 xq.s, .int .i64 xq.o, .int .i64 xq.l, .int .i64 xq.p, .int .i64 xq.m])) (by simp)
   have y0 := b.frozen 0
   have y1 := b.frozen 1
   obtain ⟨u0, u1, u2, u3, u4⟩ := Kn.own5 b
   have hlp := b.lt
   clear b
   have HD6 := hH ((HD5.out.put 2 rfl 0 (.int .i64 v)).put 2 rfl 1 (.int .i64 0))
   simp only [List.set_cons_zero, List.set_cons_succ] at HD6
   go_wp2_with fail
   have HF1 := hH (HD6.out.sub (L' := (f7, [.int .i64 0, .int .i64 0, .int .i64 0, .int .i64 0, .int .i64 0]) :: (f5, [.int .i64 (turnP xq v).s, .int .i64 (turnP xq v).o, .int .i64 (turnP xq v).l, .int .i64 (turnP xq v).p, .int .i64 (turnP xq v).m]) :: (f4, [.int .i64 cf.b, .int .i64 cf.s, .int .i64 cf.l]) :: c.L) (G' := ⟨183, 10, .slice A6 (n + m) k6, n + m, rfndV (pre ++ xs)⟩ :: c.G) (F' := (gs ++ fs) ++ c.F) (.cons _ (List.Sublist.refl _)) (.cons _ (List.Sublist.refl _)) (fun f hf => by rw [List.append_assoc] at hf; exact hf))
   go_roundg k
   case measure => omega
   case rel => exact ⟨pre ++ xs, n + m, A6, k6, gs ++ fs, turnP xq v, rfl, HPN.out, HEN2.out, HPR2.out, HPF.out, HF1.out⟩
  have HNI : Hid (nextIn cf (scanR e cf false qj).1 = none) := hH (by rw [HNI0.out]; show (nextOf yr).filter _ = none; rw [hno]; simp [Option.filter]; omega)
  have hge : v ≥ cf.s := by omega
  have HEQ : Hid (((pre ++ xs).map Fnd.pr, xq, xe) = X) := hH (by
   rw [← HPRE.out, chainG_none HNI.out, HSC.out, List.map_append, HXX.out])
  have HPF : Hid (∀ y ∈ pre ++ xs, y.fct ∈ gs ++ fs) := hH (fun y hy => by
   rcases List.mem_append.1 hy with hy | hy
   ·exact List.mem_append_right _ (HFS.out y hy)
   exact List.mem_append_left _ (HXF.out y hy))
  have HPN : Hid ((pre ++ xs).length = n + m) := hH (by rw [List.length_append, HPL.out, HM.out])
  go_wp2_with fail
  have HV := hH HD4.out.drew
  clear HD4
  refine wp_region_held_drew (S := (fun w' => Kn.Own w' f11 [.int .i64 xq.s, .int .i64 xq.o, .int .i64 xq.l, .int .i64 xq.p, .int .i64 xq.m])) (by kernel_rfl) (HV.out.box (x := (f11, [.int .i64 xq.s, .int .i64 xq.o, .int .i64 xq.l, .int .i64 xq.p, .int .i64 xq.m])) (by simp)) (fun hSw0 => ?_)
  generalize w6.drew = wz at *
  refine tS 0 51 ?_
  refine tS 1 52 (v := (.agg #[.int .i64 xq.s, .int .i64 xq.o, .int .i64 xq.l, .int .i64 xq.p, .int .i64 xq.m])) (hy := fun w hSw => by
   have q0 := hSw
   obtain ⟨q00, q01, q02, q03, q04⟩ := Kn.own5 q0
   clear q0
   go_simp) ?_
  refine tS 2 53 ?_
  refine tS 3 6 ?_
  refine Kn.takeR 4 ⟨none, _, _, _, _, _⟩ fun K hK => ?_
  refine step_store_own rfl 32 (.tmp 7) (.tmp 52) rfl f7 [.int .i64 0, .int .i64 0, .int .i64 0, .int .i64 0, .int .i64 0] [.int .i64 xq.s, .int .i64 xq.o, .int .i64 xq.l, .int .i64 xq.p, .int .i64 xq.m] (by kernel_rfl) rfl rfl (HV.out.box (x := (f7, [.int .i64 0, .int .i64 0, .int .i64 0, .int .i64 0, .int .i64 0])) (by simp)) rfl (by intro u hu; simp at hu; rcases hu with rfl | rfl | rfl | rfl | rfl <;> rfl) ?_
  intro w9 ho9 hO9
  have HV3 := hH (Duo.lswap ((Duo.lswap HV.out).head ho9 hO9))
  clear ho9 hO9 HV
  refine hK.out _ _ (HV3.out.box (x := (f11, [.int .i64 xq.s, .int .i64 xq.o, .int .i64 xq.l, .int .i64 xq.p, .int .i64 xq.m])) (by simp)) (fun hSn => ?_)
  clear hK K hSw0
  have hSw0 := hSn
  clear hSn
  refine tS 5 8 ?_
  refine tD ?_ _
  clear hSw0
  obtain ⟨r0, r1, r2, r3, r4⟩ := own5 (HV3.out.box (x := (f7, [.int .i64 xq.s, .int .i64 xq.o, .int .i64 xq.l, .int .i64 xq.p, .int .i64 xq.m])) (by simp))
  go_wp2
  (try simp only [Exit.inBlock, Exit.then])
  have HF1 := hH (HV3.out.sub (L' := c.L) (G' := ⟨183, 10, .slice A6 (n + m) k6, n + m, rfndV (pre ++ xs)⟩ :: c.G) (F' := (gs ++ fs) ++ c.F) (.cons _ (.cons _ (.cons _ (.cons _ (List.Sublist.refl _))))) (.cons _ (List.Sublist.refl _)) (fun f hf => by rw [List.append_assoc] at hf; exact hf))
  refine bodyPost_ret (v := .tuple #[.slice A6 (n + m) k6, .agg #[.int .i64 xq.s, .int .i64 xq.o, .int .i64 xq.l, .int .i64 xq.p, .int .i64 xq.m], .int .i64 xe]) ?_ rfl ?_
  ·simp only [results, HRES.out]
   go_simp
  rw [← HEQ.out]
  refine ⟨pre ++ xs, A6, k6, gs ++ fs, ?_, rfl, HPF.out, ?_⟩
  ·rw [HPN.out]
  rw [HPN.out]
  exact HF1.out
end Go.Proofs.YtgcfdjcpcclcjaaGreat
namespace Go.Kn
open Go Go.RowKit
def fewPt (x : PR) : Bool := decide (x.recs.length ≤ 4) && x.recs.all fewOne
def fewP (l : List PR) : Bool := l.all fewPt && decide (l.length ≤ 8)
theorem fewP_no {l : List PR} {j : Nat} {x : PR} (hj : j < l.length) (hx : l[j] = x) (h : ¬ x.recs.length ≤ 4 ∨ ∃ i e, ∃ hi : i < x.recs.length, x.recs[i] = e ∧ fewOne e = false) : (Ending.returned (.bool false)) = .returned (.bool (fewP l)) := by
 have : fewPt x = false := by
  unfold fewPt
  rcases h with h | ⟨i, e, hi, he, hf⟩
  ·rw [decide_eq_false h, Bool.false_and]
  have : x.recs.all fewOne = false := by
   rw [Bool.eq_false_iff]
   intro ha
   have := List.all_eq_true.1 ha x.recs[i] (List.getElem_mem hi)
   rw [he, hf] at this
   cases this
  rw [this, Bool.and_false]
 have : l.all fewPt = false := by
  rw [Bool.eq_false_iff]
  intro ha
  have h2 := List.all_eq_true.1 ha l[j] (List.getElem_mem hj)
  rw [hx, this] at h2
  cases h2
 unfold fewP
 rw [this]
 rfl
theorem fewP_step {l : List PR} {j : Nat} {x : PR} (hj : j < l.length) (hal : (l.take j).all fewPt = true) (hx : l[j] = x) (h4 : x.recs.length ≤ 4) (h : x.recs.all fewOne = true) : (l.take (j + 1)).all fewPt = true := by
 rw [List.take_succ_eq_append_getElem hj, List.all_append, hal, hx]
 simp [fewPt, h, h4]
theorem fewP_end {l : List PR} (hal : l.all fewPt = true) : fewP l = decide (l.length ≤ 8) := by
 unfold fewP
 rw [hal, Bool.true_and]
theorem Prts.fc0 {w : World} {A : Option Addr} {n c : Nat} {l : List PR} {ss : List ((Option Addr × Nat × Nat) × List (Option Addr × Nat × Nat))} (h : Prts w A n c l ss) : Fc w (fun _ => False) (fun W => Prts W A n c l ss) := fun W hW =>
 ⟨h.len, h.sl, h.le, h.cm, fun hn => by
  obtain ⟨g, o, e, hc⟩ := h.at_ hn
  exact ⟨g, o, e, fun i h1 h2 => by
   obtain ⟨a0, a1, a2⟩ := hc i h1 h2
   exact ⟨fc_cell a0 (by simp) W hW, fc_cell a1 (by simp) W hW, fc_cell a2 (by simp) W hW⟩⟩,
  fun i h1 h2 => (h.ks i h1 h2).fc0 W hW⟩
theorem Prts.wc {w : World} {A : Option Addr} {n c : Nat} {l : List PR} {ss : List ((Option Addr × Nat × Nat) × List (Option Addr × Nat × Nat))} (h : Prts w A n c l ss) : Wc w w [] [] [(fun W => Prts W A n c l ss)] := (Wc.start w).addF _ (fun W hW => h.fc0 W (fun k o _ ho hc => hW k o (by rintro (hk | ⟨y, hy, _⟩) <;> simp_all) ho hc))
structure Both (w0 w1 : World) (L : List (Nat × List Value)) (G : List Gs) (F : List (World → Prop)) (w : World) : Prop where
 mk ::
 wc : Wc w0 w L G F
 o : Only [] w1 w
theorem Both.keep0 {w0 w1 w w' : World} {L : List (Nat × List Value)} {G : List Gs} {F : List (World → Prop)} (h : Both w0 w1 L G F w) (hO : Only [] w w') : Both w0 w1 L G F w' := ⟨h.wc.keep0 hO, h.o.trans' hO⟩
theorem Both.drew {w0 w1 w : World} {L : List (Nat × List Value)} {G : List Gs} {F : List (World → Prop)} (h : Both w0 w1 L G F w) : Both w0 w1 L G F w.drew := h.keep0 (Only.refl _ _).drew
end Go.Kn
namespace Go.Proofs.YtgcfdjcpcclcjaaGreat
open Go Go.RowKit Go.Kn
theorem few14_any (A : Option Addr) (n c : Nat) (l : List PR) (ss : List ((Option Addr × Nat × Nat) × List (Option Addr × Nat × Nat))) (w : World) (hk : Prts w A n c l ss) :
  Calls Tryz.prog 62 #[.slice A n c] w fun e w' => e = .returned (.bool (fewP l)) ∧ Only [] w w' := by
 have hcm := hk.cm
 have hcl := hk.le
 unfold maxLen at hcm
 have HL := hH hk.len
 have HS := hH hk.sl
 have H0 := hH hk.wc
 clear hk
 go_enter Tryz.func62, Tryz.ntmps62
 go_wp2_with fail
 go_loopg [3] n (fun r t3 wr => ∃ j : Nat, j + r = n ∧ t3 = .int .i64 j ∧ Wc w wr [] [] [(fun W => Prts W A n c l ss)] ∧ (l.take j).all fewPt = true)
 case atStart => exact ⟨0, by omega, rfl, H0.out, by simp⟩
 clear H0
 obtain ⟨j, hj, rfl, hw, hal⟩ := hrel
 have HW := hH hw
 have HAL := hH hal
 obtain ⟨og, hog⟩ : ∃ x, x = gk := ⟨_, rfl⟩
 have hog2 : j + og = n := by omega
 clear hal hw
 by_cases hlt : j < n
 ·have hjz : j < l.length := by rw [HL.out]; exact hlt
  have hjs : j < ss.length := by rw [HS.out]; exact hlt
  obtain ⟨g, o, rfl, -⟩ := (HW.out.fact _ List.mem_cons_self).at_ (by omega)
  obtain ⟨⟨⟨s1, s2, s3⟩, s4⟩, hss⟩ : ∃ s, ss[j] = s := ⟨_, rfl⟩
  obtain ⟨x, hx⟩ : ∃ x, l[j] = x := ⟨_, rfl⟩
  have HCL : Hid (∀ W : World, Prts W (some ⟨g, o, none⟩) n c l ss → W.cell? ⟨g, o + j * 3, none⟩ = some (.slice s1 s2 s3) ∧ Krs W s1 s2 s3 x.recs s4) := hH (fun W hW => by
   obtain ⟨g', o', e, hc'⟩ := hW.at_ (by omega)
   injection e with e
   injection e with e1 e2
   subst e1 e2
   have h1 := (hc' j hjz hjs).1
   have h2 := hW.ks j hjz hjs
   rw [hss] at h1 h2
   rw [hx] at h2
   exact ⟨h1, h2⟩)
  have hxl : x.recs.length = s2 := (HCL.out _ (HW.out.fact _ List.mem_cons_self)).2.len
  have hx2 := (HCL.out _ (HW.out.fact _ List.mem_cons_self)).2.le
  have hx3 := (HCL.out _ (HW.out.fact _ List.mem_cons_self)).2.cm
  unfold maxLen at hx3
  have HJZ := hH hjz
  have HLX := hH hx
  have HXL := hH hxl
  have hlt2 : (j : Int) < (n : Int) := by omega
  have c0 := (HCL.out _ (HW.out.fact _ List.mem_cons_self)).1
  clear hss hx hjs
  by_cases h4 : s2 ≤ 4
  ·have hn4 : ¬ (s2 : Int) > 4 := by omega
   go_wp2_with fail
   clear c0
   go_loopg [4] s2 (fun r2 t4 wr2 => ∃ i : Nat, i + r2 = s2 ∧ t4 = .int .i64 i ∧ Wc w wr2 [] [] [(fun W => Prts W (some ⟨g, o, none⟩) n c l ss)] ∧ (x.recs.take i).all fewOne = true)
   case atStart => exact ⟨0, by omega, rfl, HW.out, by simp⟩
   clear HW
   obtain ⟨i, hi, rfl, hw, hai⟩ := hrel
   have HW2 := hH hw
   have HAI := hH hai
   clear hw hai
   obtain ⟨c0, hkr⟩ := HCL.out _ (HW2.out.fact _ List.mem_cons_self)
   by_cases hli : i < s2
   ·have hiz : i < x.recs.length := by rw [HXL.out]; exact hli
    have his : i < s4.length := by rw [hkr.sl]; exact hli
    obtain ⟨ga, oa, rfl, hc⟩ := hkr.at_ (by omega)
    obtain ⟨k0, k1, k2, k3, k4⟩ := hc i hiz his
    have hkl := (hkr.ks i hiz his).len
    obtain ⟨⟨B, kn, kc⟩, hss⟩ : ∃ s, s4[i] = s := ⟨_, rfl⟩
    obtain ⟨e, he⟩ : ∃ e, x.recs[i] = e := ⟨_, rfl⟩
    rw [hss] at k0 hkl
    rw [he] at k1 k2 k3 k4 hkl
    simp only [slv] at k0
    have hkl2 : e.kinds.length = kn := by simpa [ivs] using hkl
    have HE := hH he
    have HIZ := hH hiz
    have hli2 : (i : Int) < (s2 : Int) := by omega
    clear hc hkl hss he his hkr
    have HB := hH (HW2.out.newB #[.slice B kn kc, .int .i64 e.fill, .int .i64 e.skew, .int .i64 e.twist, .int .i64 e.up] 38 rfl)
    go_upto_region 10 with (fail)
    generalize hz : World.alloc wr (.cells #[.slice B kn kc, .int .i64 e.fill, .int .i64 e.skew, .int .i64 e.twist, .int .i64 e.up] 38) = wb at *
    generalize wr.heap.size = fr at *
    clear hz c0 k0 k1 k2 k3 k4 HW2
    obtain ⟨k0, k1, k2, k3, k4⟩ := own5 (HB.out.boxi 0 rfl)
    by_cases hk : ¬ e.kinds.length ≤ 6
    ·have hkz : (kn : Int) > 6 := by omega
     have hno : fewOne e = false := by unfold fewOne; rw [decide_eq_false]; intro h; omega
     have HNO := hH hno
     clear hno
     go_wp2
     go_ret
     exact ⟨fewP_no HJZ.out HLX.out (.inr ⟨i, e, HIZ.out, HE.out, HNO.out⟩), HB.out.only⟩
    have hkz0 : ¬ (kn : Int) > 6 := by omega
    by_cases hf0 : ¬ 0 ≤ e.fill
    ·have hkz : e.fill < 0 := by omega
     have hno : fewOne e = false := by unfold fewOne; rw [decide_eq_false]; intro h; omega
     have HNO := hH hno
     clear hno
     go_wp2
     go_ret
     exact ⟨fewP_no HJZ.out HLX.out (.inr ⟨i, e, HIZ.out, HE.out, HNO.out⟩), HB.out.only⟩
    have hkz1 : ¬ e.fill < 0 := by omega
    by_cases hf1 : ¬ e.fill ≤ 1099511627776
    ·have hkz : e.fill > 1099511627776 := by omega
     have hno : fewOne e = false := by unfold fewOne; rw [decide_eq_false]; intro h; omega
     have HNO := hH hno
     clear hno
     go_wp2
     go_ret
     exact ⟨fewP_no HJZ.out HLX.out (.inr ⟨i, e, HIZ.out, HE.out, HNO.out⟩), HB.out.only⟩
    have hkz2 : ¬ e.fill > 1099511627776 := by omega
    by_cases hs0 : ¬ -1000 ≤ e.skew
    ·have hkz : e.skew < -1000 := by omega
     have hno : fewOne e = false := by unfold fewOne; rw [decide_eq_false]; intro h; omega
     have HNO := hH hno
     clear hno
     go_wp2
     go_ret
     exact ⟨fewP_no HJZ.out HLX.out (.inr ⟨i, e, HIZ.out, HE.out, HNO.out⟩), HB.out.only⟩
    have hkz3 : ¬ e.skew < -1000 := by omega
    by_cases hs1 : ¬ e.skew ≤ 1000
    ·have hkz : e.skew > 1000 := by omega
     have hno : fewOne e = false := by unfold fewOne; rw [decide_eq_false]; intro h; omega
     have HNO := hH hno
     clear hno
     go_wp2
     go_ret
     exact ⟨fewP_no HJZ.out HLX.out (.inr ⟨i, e, HIZ.out, HE.out, HNO.out⟩), HB.out.only⟩
    have hkz4 : ¬ e.skew > 1000 := by omega
    by_cases hu0 : ¬ -1000 ≤ e.up
    ·have hkz : e.up < -1000 := by omega
     have hno : fewOne e = false := by unfold fewOne; rw [decide_eq_false]; intro h; omega
     have HNO := hH hno
     clear hno
     go_wp2
     go_ret
     exact ⟨fewP_no HJZ.out HLX.out (.inr ⟨i, e, HIZ.out, HE.out, HNO.out⟩), HB.out.only⟩
    have hkz5 : ¬ e.up < -1000 := by omega
    by_cases hu1 : ¬ e.up ≤ 1000
    ·have hkz : e.up > 1000 := by omega
     have hno : fewOne e = false := by unfold fewOne; rw [decide_eq_false]; intro h; omega
     have HNO := hH hno
     clear hno
     go_wp2
     go_ret
     exact ⟨fewP_no HJZ.out HLX.out (.inr ⟨i, e, HIZ.out, HE.out, HNO.out⟩), HB.out.only⟩
    have hkz6 : ¬ e.up > 1000 := by omega
    have hyes : fewOne e = true := by unfold fewOne; rw [decide_eq_true_iff]; omega
    have HYS := hH hyes
    clear hyes
    go_wp2
    go_roundg (gk - 1)
    case measure => omega
    case rel => exact ⟨i + 1, by omega, by go_num, HB.out.ldrop, few_step HIZ.out HAI.out HE.out HYS.out⟩
   obtain rfl : i = s2 := by omega
   have hfull : x.recs.take i = x.recs := List.take_of_length_le (by rw [HXL.out]; omega)
   have hai := HAI.out
   rw [hfull] at hai
   have HAA := hH hai
   clear hai hfull hkr
   go_wp2
   go_roundg (og - 1)
   case measure => omega
   case rel => exact ⟨j + 1, by omega, by go_num, HW2.out, fewP_step HJZ.out HAL.out HLX.out (by rw [HXL.out]; exact h4) HAA.out⟩
  have hn4 : (s2 : Int) > 4 := by omega
  go_wp2
  go_ret
  exact ⟨fewP_no HJZ.out HLX.out (.inl (by rw [HXL.out]; exact h4)), HW.out.only⟩
 obtain rfl : j = n := by omega
 have hfull : l.take j = l := List.take_of_length_le (by rw [HL.out]; omega)
 have hal := HAL.out
 rw [hfull] at hal
 have hfe := fewP_end hal
 rw [HL.out] at hfe
 have HFE := hH hfe
 clear hal hfull hfe
 by_cases h12 : j ≤ 8
 ·have hd : (j : Int) ≤ 8 := by omega
  go_wp2
  go_ret
  exact ⟨by rw [HFE.out]; simp [h12], HW.out.only⟩
 have hd : ¬ (j : Int) ≤ 8 := by omega
 go_wp2
 go_ret
 exact ⟨by rw [HFE.out]; simp [h12], HW.out.only⟩
/-- two slices that hold the same are the same, for law14 -/
theorem same14_eq (A B : Option Addr) (n c k : Nat) (ys xs : List Fnd) (w : World) (L : List (Nat × List Value)) (G : List Gs) (F : List (World → Prop)) (w0 : World) (hw : Wc w0 w L G F) (h1 : (fun W => Cel W A n c (rfndV ys)) ∈ F) (h2 : (fun W => Cel W B n k (rfndV xs)) ∈ F) (hy : ∀ y ∈ ys, y.fct ∈ F) (hx : ∀ x ∈ xs, x.fct ∈ F) (hyl : ys.length = n) (hpr : ys.map Fnd.pr = xs.map Fnd.pr) :
  Calls Tryz.prog 65 #[.slice A n c, .slice B n k] w fun e w' => e = .returned (.bool true) ∧ Only [] w w' := by
 have hxl : xs.length = n := by have := congrArg List.length hpr; simp only [List.length_map] at this; omega
 have hcl := (hw.fact _ h1).1
 have hcm := (hw.fact _ h1).2.1
 unfold maxLen at hcm
 have HYL := hH hyl
 have HXL := hH hxl
 have HPR := hH hpr
 have HY := hH hy
 have HX := hH hx
 have H1 := hH h1
 have H2 := hH h2
 have HW0 := hH hw
 clear hw h1 h2 hy hx hyl hxl hpr
 go_enter Tryz.func65, Tryz.ntmps65
 go_wp2_with fail
 go_loopg [5] n (fun r t5 wr => ∃ i : Nat, i + r = n ∧ t5 = .int .i64 i ∧ Both w0 w L G F wr)
 case atStart => exact ⟨0, by omega, rfl, ⟨HW0.out, Only.refl _ _⟩⟩
 clear HW0
 obtain ⟨i, hi, rfl, hw⟩ := hrel
 have HW := hH hw
 clear hw
 by_cases hlt : i < n
 ·have hyi : i < ys.length := by rw [HYL.out]; exact hlt
  have hxi : i < xs.length := by rw [HXL.out]; exact hlt
  obtain ⟨g2, rfl, -⟩ := (HW.out.wc.fact _ H1.out).2.2 (by omega)
  obtain ⟨g, rfl, -⟩ := (HW.out.wc.fact _ H2.out).2.2 (by omega)
  obtain ⟨y, hyy⟩ : ∃ y, ys[i] = y := ⟨_, rfl⟩
  obtain ⟨x, hxx⟩ : ∃ x, xs[i] = x := ⟨_, rfl⟩
  have HCY : Hid (∀ W, Both w0 w L G F W → ∀ j u, (rfnd y)[j]? = some u → W.cell? ⟨g2, i * 10 + j, none⟩ = some u) := hH (fun W hW j u hj => by
   obtain ⟨g', e, hc⟩ := (hW.wc.fact _ H1.out).2.2 (by omega)
   injection e with e
   injection e with e
   subst e
   have hj2 : j < 10 := (List.getElem?_eq_some_iff.1 hj).1
   exact hc _ _ ((flatMap_get rfnd 10 (fun x => rfl) ys i j hyi hj2).trans (by rw [hyy]; exact hj)))
  have HCX : Hid (∀ W, Both w0 w L G F W → ∀ j u, (rfnd x)[j]? = some u → W.cell? ⟨g, i * 10 + j, none⟩ = some u) := hH (fun W hW j u hj => by
   obtain ⟨g', e, hc⟩ := (hW.wc.fact _ H2.out).2.2 (by omega)
   injection e with e
   injection e with e
   subst e
   have hj2 : j < 10 := (List.getElem?_eq_some_iff.1 hj).1
   exact hc _ _ ((flatMap_get rfnd 10 (fun x => rfl) xs i j hxi hj2).trans (by rw [hxx]; exact hj)))
  have hpr : y.pr = x.pr := by
   have h1 : (ys.map Fnd.pr)[i]? = (xs.map Fnd.pr)[i]? := by rw [HPR.out]
   rw [List.getElem?_map, List.getElem?_map, List.getElem?_eq_getElem hyi, List.getElem?_eq_getElem hxi, hyy, hxx] at h1
   simpa using h1
  have HRY : Hid (∀ W, Both w0 w L G F W → y.fct W) := hH (fun W hW => hW.wc.fact _ (HY.out y (by rw [← hyy]; exact List.getElem_mem hyi)))
  have HRX : Hid (∀ W, Both w0 w L G F W → x.fct W) := hH (fun W hW => hW.wc.fact _ (HX.out x (by rw [← hxx]; exact List.getElem_mem hxi)))
  obtain ⟨yp, yr, ⟨u1, u2, u3⟩, ⟨v1, v2, v3⟩⟩ := y
  obtain ⟨xp, xr, ⟨s1, s2, s3⟩, ⟨t1, t2, t3⟩⟩ := x
  simp only [Fnd.pr, Prod.mk.injEq] at hpr
  obtain ⟨rfl, rfl⟩ := hpr
  have hlt2 : (i : Int) < (n : Int) := by omega
  clear hyi hxi hyy hxx
  go_wp2_with fail
  have HV := hH HW.out.drew
  clear HW
  refine wp_region_held_drew (S := (fun w' => (∀ j u, (rfnd (⟨yp, yr, (u1, u2, u3), (v1, v2, v3)⟩ : Fnd))[j]? = some u → w'.cell? ⟨g2, i * 10 + j, none⟩ = some u) ∧ (∀ j u, (rfnd (⟨yp, yr, (s1, s2, s3), (t1, t2, t3)⟩ : Fnd))[j]? = some u → w'.cell? ⟨g, i * 10 + j, none⟩ = some u))) (by kernel_rfl) ⟨HCY.out _ HV.out, HCX.out _ HV.out⟩ (fun hSw0 => ?_)
  generalize wr.drew = wz at *
  refine tS 0 17 ?_
  refine tS 1 18 ?_
  refine tS 2 19 ?_
  refine tS 3 20 ?_
  refine tS 4 21 (v := (.agg #[.int .i64 yp.s, .int .i64 yp.o, .int .i64 yp.l, .int .i64 yp.p, .int .i64 yp.m])) (hy := fun w hSw => by
   have r0 : w.cell? ⟨g2, i * 10, none⟩ = some (.int .i64 yp.s) := hSw.1 0 _ rfl
   have r1 : w.cell? ⟨g2, i * 10 + 1, none⟩ = some (.int .i64 yp.o) := hSw.1 1 _ rfl
   have r2 : w.cell? ⟨g2, i * 10 + 2, none⟩ = some (.int .i64 yp.l) := hSw.1 2 _ rfl
   have r3 : w.cell? ⟨g2, i * 10 + 3, none⟩ = some (.int .i64 yp.p) := hSw.1 3 _ rfl
   have r4 : w.cell? ⟨g2, i * 10 + 4, none⟩ = some (.int .i64 yp.m) := hSw.1 4 _ rfl
   go_simp) ?_
  refine tS 5 22 ?_
  refine tS 6 23 ?_
  refine tS 7 24 ?_
  refine tS 8 25 ?_
  refine tS 9 26 (v := (.agg #[.int .i64 yp.s, .int .i64 yp.o, .int .i64 yp.l, .int .i64 yp.p, .int .i64 yp.m])) (hy := fun w hSw => by
   have r0 : w.cell? ⟨g, i * 10, none⟩ = some (.int .i64 yp.s) := hSw.2 0 _ rfl
   have r1 : w.cell? ⟨g, i * 10 + 1, none⟩ = some (.int .i64 yp.o) := hSw.2 1 _ rfl
   have r2 : w.cell? ⟨g, i * 10 + 2, none⟩ = some (.int .i64 yp.l) := hSw.2 2 _ rfl
   have r3 : w.cell? ⟨g, i * 10 + 3, none⟩ = some (.int .i64 yp.p) := hSw.2 3 _ rfl
   have r4 : w.cell? ⟨g, i * 10 + 4, none⟩ = some (.int .i64 yp.m) := hSw.2 4 _ rfl
   go_simp) ?_
  refine tS 10 27 ?_
  refine tS 11 28 ?_
  refine tS 12 29 ?_
  refine tS 13 30 ?_
  refine tS 14 31 ?_
  refine tS 15 32 ?_
  refine tS 16 33 (v := (.agg #[.int .i64 yr.m, .int .i64 yr.n, .int .i64 yr.p, .slice u1 u2 u3, .slice v1 v2 v3])) (hy := fun w hSw => by
   have r0 : w.cell? ⟨g2, i * 10 + 5, none⟩ = some (.int .i64 yr.m) := hSw.1 5 _ rfl
   have r1 : w.cell? ⟨g2, i * 10 + 5 + 1, none⟩ = some (.int .i64 yr.n) := hSw.1 6 _ rfl
   have r2 : w.cell? ⟨g2, i * 10 + 5 + 2, none⟩ = some (.int .i64 yr.p) := hSw.1 7 _ rfl
   have r3 : w.cell? ⟨g2, i * 10 + 5 + 3, none⟩ = some (.slice u1 u2 u3) := hSw.1 8 _ rfl
   have r4 : w.cell? ⟨g2, i * 10 + 5 + 4, none⟩ = some (.slice v1 v2 v3) := hSw.1 9 _ rfl
   go_simp) ?_
  refine tS 17 34 ?_
  refine tS 18 35 ?_
  refine tS 19 36 ?_
  refine tS 20 37 ?_
  refine tS 21 38 (v := (.agg #[.int .i64 yr.m, .int .i64 yr.n, .int .i64 yr.p, .slice s1 s2 s3, .slice t1 t2 t3])) (hy := fun w hSw => by
   have r0 : w.cell? ⟨g, i * 10 + 5, none⟩ = some (.int .i64 yr.m) := hSw.2 5 _ rfl
   have r1 : w.cell? ⟨g, i * 10 + 5 + 1, none⟩ = some (.int .i64 yr.n) := hSw.2 6 _ rfl
   have r2 : w.cell? ⟨g, i * 10 + 5 + 2, none⟩ = some (.int .i64 yr.p) := hSw.2 7 _ rfl
   have r3 : w.cell? ⟨g, i * 10 + 5 + 3, none⟩ = some (.slice s1 s2 s3) := hSw.2 8 _ rfl
   have r4 : w.cell? ⟨g, i * 10 + 5 + 4, none⟩ = some (.slice t1 t2 t3) := hSw.2 9 _ rfl
   go_simp) ?_
  refine tR 22 39 fun K hK => ?_
  go_simp
  have hyr := HRY.out _ HV.out
  have hxr := HRX.out _ HV.out
  refine (alike_record_any yr.m yr.n yr.p u1 u2 u3 yr.its v1 v2 v3 yr.bl yr.m yr.n yr.p s1 s2 s3 yr.its t1 t2 t3 yr.bl _ hyr.1 hyr.2 hxr.1 hxr.2).mono ?_
  rw [decide_eq_true (rfl : (⟨yr.m, yr.n, yr.p, yr.its, yr.bl⟩ : Rc) = ⟨yr.m, yr.n, yr.p, yr.its, yr.bl⟩)]
  rintro en wb ⟨rfl, hO⟩
  have HV1 := hH (HV.out.keep0 hO)
  clear hO hyr hxr HV
  refine hK.out _ _ ⟨HCY.out _ HV1.out, HCX.out _ HV1.out⟩ (fun hSn => ?_)
  clear hK K hSw0
  have hSw0 := hSn
  clear hSn
  refine tS 23 40 ?_
  refine tS 24 41 ?_
  refine tD ?_ _
  clear hSw0
  go_wp2_with fail
  go_roundg (gk - 1)
  case measure => omega
  case rel => exact ⟨i + 1, by omega, by go_num, HV1.out⟩
 obtain rfl : i = n := by omega
 go_wp2
 go_ret
 exact ⟨rfl, HW.out.o⟩
end Go.Proofs.YtgcfdjcpcclcjaaGreat
namespace Go.Kn
open Go Go.RowKit
theorem fault_now (d : Dk) (a : Int) (on : Bool) : (d.fault a on).1.now = d.now := by
 unfold Dk.fault
 split <;> rfl
theorem fewP_ok {l : List PR} (h : fewP l = true) (hw : ∀ x ∈ l, (∀ e ∈ x.recs, (∀ z ∈ e.kinds, (Lit.int .i64 z).wf = true) ∧ (Lit.int .i64 e.fill).wf = true ∧ (Lit.int .i64 e.twist).wf = true) ∧ (Lit.int .i64 x.next).wf = true) : l.length ≤ 8 ∧ (∀ x ∈ l, x.recs.length ≤ 4) ∧ ∀ x ∈ l, x.Ok := by
 unfold fewP at h
 rw [Bool.and_eq_true, decide_eq_true_eq] at h
 have h4 : ∀ x ∈ l, x.recs.length ≤ 4 ∧ x.recs.all fewOne = true := fun x hx => by
  have := List.all_eq_true.1 h.1 x hx
  unfold fewPt at this
  rw [Bool.and_eq_true, decide_eq_true_eq] at this
  exact this
 refine ⟨h.2, fun x hx => (h4 x hx).1, fun x hx => ⟨by have := (h4 x hx).1; omega, fun e he => ?_, (hw x hx).2⟩⟩
 have h1 := List.all_eq_true.1 (h4 x hx).2 e he
 unfold fewOne at h1
 simp only [decide_eq_true_eq] at h1
 obtain ⟨w1, w2, w3⟩ := (hw x hx).1 e he
 exact ⟨w1, w2, w3, by omega, by omega⟩
end Go.Kn
namespace Go.Proofs.YtgcfdjcpcclcjaaGreat.chainPlays
open Go Go.RowKit Go.Kn Go.ChangeShapes Go.WideShapes Go.ChangeAt
theorem plays (z0 z1 z2 : Int) (u : Ps) (A : Option Addr) (n c : Nat) (l : List PR) (ss : List ((Option Addr × Nat × Nat) × List (Option Addr × Nat × Nat))) (tu fa0 : Int) (w : World)
  (hz0 : (Lit.int .i64 z0).wf = true) (hz1 : (Lit.int .i64 z1).wf = true) (hz2 : (Lit.int .i64 z2).wf = true) (hwu : (Lit.int .i64 u.s).wf = true ∧ (Lit.int .i64 u.l).wf = true ∧ (Lit.int .i64 u.p).wf = true ∧ (Lit.int .i64 u.m).wf = true)
  (hk : Prts w A n c l ss) (hkw : ∀ x ∈ l, (∀ e ∈ x.recs, (∀ z ∈ e.kinds, (Lit.int .i64 z).wf = true) ∧ (Lit.int .i64 e.fill).wf = true ∧ (Lit.int .i64 e.twist).wf = true) ∧ (Lit.int .i64 x.next).wf = true) (htu : (Lit.int .i64 tu).wf = true) (hfa : (Lit.int .i64 fa0).wf = true) :
  Calls Tryz.prog 10 #[.agg #[.int .i64 z0, .int .i64 z1, .int .i64 z2], .agg #[.int .i64 u.s, .int .i64 u.o, .int .i64 u.l, .int .i64 u.p, .int .i64 u.m], .slice A n c, .int .i64 tu, .int .i64 fa0] w fun en w' => en = .returned (.bool true) ∧ Only [] w w' := by
 have HZ := hH (⟨hz0, hz1, hz2⟩ : (Lit.int .i64 z0).wf = true ∧ (Lit.int .i64 z1).wf = true ∧ (Lit.int .i64 z2).wf = true)
 have HWU := hH hwu
 have HK0 := hH hk
 have hln := hk.len
 have HLN := hH hln
 have H1 := hH ((((Wc.start w).old (f := (fun W => Prts W A n c l ss)) hk.fc0).newB #[.int .i64 z0, .int .i64 z1, .int .i64 z2] 71 (b := w.heap.size) rfl).newB #[.int .i64 u.s, .int .i64 u.o, .int .i64 u.l, .int .i64 u.p, .int .i64 u.m] 32 (b := w.heap.size + 1) (by simp))
 have HKW := hH hkw
 clear hz0 hz1 hz2 hwu hk hkw hln
 go_enter Tryz.func10, Tryz.ntmps10
 go_upto_region 1 with (fail)
 generalize hz1 : (w.alloc (.cells #[.int .i64 z0, .int .i64 z1, .int .i64 z2] 71)).alloc (.cells #[.int .i64 u.s, .int .i64 u.o, .int .i64 u.l, .int .i64 u.p, .int .i64 u.m] 32) = w1 at *
 have hs1 : (w.alloc (.cells #[.int .i64 z0, .int .i64 z1, .int .i64 z2] 71)).heap.size = w.heap.size + 1 := by simp
 try rw [hs1]
 clear hz1 hs1
 obtain ⟨fz, hfz⟩ : ∃ k, k = w.heap.size := ⟨_, rfl⟩
 rw [← hfz] at H1 ⊢
 obtain ⟨fu, hfu⟩ : ∃ k, k = fz + 1 := ⟨_, rfl⟩
 rw [← hfu] at H1 ⊢
 clear hfz hfu
 go_wp2_with fail
 refine (few14_any A n c l ss _ (H1.out.fact (fun W => Prts W A n c l ss) (by simp))).mono ?_
 rintro en w2 ⟨rfl, hO⟩
 have H1b := hH (H1.out.keep0 hO)
 clear hO H1
 cases hfew : fewP l with
 | false =>
  go_wp2_with fail
  refine (awake14_any _).mono ?_
  rintro en w9 ⟨rfl, hO⟩
  have HO := hH (H1b.out.only.trans' hO)
  clear hO H1b
  go_wp2_with fail
  refine bodyPost_ret (v := .bool true) (by kernel_rfl) rfl ⟨rfl, HO.out⟩
 | true =>
  obtain ⟨hl8, hl4, hpk⟩ := fewP_ok hfew HKW.out
  have HPK := hH hpk
  have hn8 : n ≤ 8 := by rw [← HLN.out]; exact hl8
  have HL4 := hH hl4
  have HL8 := hH hl8
  clear hfew HKW hl8 hl4 hpk
  obtain ⟨q0, q1, q2⟩ := own3 (H1b.out.boxi 1 rfl)
  go_wp2_with fail
  refine (alike_config_small z0 z1 z2 _ HZ.out.1 HZ.out.2.1 HZ.out.2.2).mono ?_
  rintro en w3 ⟨rfl, hO⟩
  have hzz0 := Int.emod_nonneg z0 (b := 24) (by decide)
  have hzz1 := Int.emod_lt_of_pos z0 (b := 24) (by decide)
  have hzz2 := Int.emod_nonneg z1 (b := 3) (by decide)
  have hzz3 := Int.emod_lt_of_pos z1 (b := 3) (by decide)
  have hzz4 := Int.emod_nonneg z2 (b := 4) (by decide)
  have hzz5 := Int.emod_lt_of_pos z2 (b := 4) (by decide)
  obtain ⟨cf, hcf⟩ : ∃ cf : Cf, cf = ⟨1 + z0 % 24, 8 + z1 % 3, 24 + z2 % 4⟩ := ⟨_, rfl⟩
  have hcb : 1 + z0 % 24 = cf.b := by rw [hcf]
  have hcs : 8 + z1 % 3 = cf.s := by rw [hcf]
  have hcl : 24 + z2 % 4 = cf.l := by rw [hcf]
  rw [hcb, hcs, hcl]
  have hc : cf.Ok := by rw [hcf]; exact ⟨by simp only; omega, by simp only; omega, by simp only; omega⟩
  have hcr : (8 ≤ cf.s ∧ cf.s ≤ 10) ∧ 24 ≤ cf.l ∧ cf.l ≤ 27 := by omega
  obtain ⟨⟨hcs0, hcs1⟩, hcl0, hcl1⟩ := hcr
  have HC := hH hc
  have H2 := hH ((H1b.out.keep0 hO).newB #[.int .i64 cf.b, .int .i64 cf.s, .int .i64 cf.l] 25 rfl)
  clear hO hcf hcb hcs hcl hc H1b HZ hzz0 hzz1 hzz2 hzz3 hzz4 hzz5 q0 q1 q2
  go_upto_region 4 with (fail)
  generalize hz1 : w3.alloc (.cells #[.int .i64 cf.b, .int .i64 cf.s, .int .i64 cf.l] 25) = w1 at *
  generalize hf3 : w3.heap.size = fc at *
  clear hz1 hf3 w3
  obtain ⟨e0, e1, e2⟩ := own3 (H2.out.boxi 0 rfl)
  go_wp2_with fail
  refine (desk14_any w w1 cf ⟨(fc, [.int .i64 cf.b, .int .i64 cf.s, .int .i64 cf.l]) :: (fu, [.int .i64 u.s, .int .i64 u.o, .int .i64 u.l, .int .i64 u.p, .int .i64 u.m]) :: (fz, [.int .i64 z0, .int .i64 z1, .int .i64 z2]) :: [], [], [(fun W => Prts W A n c l ss)]⟩ H2.out HC.out).mono ?_
  rintro en w3 ⟨p, rr, gb, rfl, hd⟩
  obtain ⟨x1, hx1⟩ : ∃ z, u.s % cf.s = z := ⟨_, rfl⟩
  have hx1b : 0 ≤ x1 ∧ x1 ≤ cf.s - 1 := by
   have := Int.emod_nonneg u.s (b := cf.s) (by omega)
   have := Int.emod_lt_of_pos u.s (b := cf.s) (by omega)
   omega
  obtain ⟨x3, hx3⟩ : ∃ z, u.p % 4294967296 = z := ⟨_, rfl⟩
  obtain ⟨x2, hx2⟩ : ∃ z, 1 + u.l % 1048576 = z := ⟨_, rfl⟩
  obtain ⟨x4, hx4⟩ : ∃ z, 1 + u.m % 1048576 = z := ⟨_, rfl⟩
  have hx3b : 0 ≤ x3 ∧ x3 ≤ 4294967295 := by omega
  have hx2b : 1 ≤ x2 ∧ x2 ≤ 1048576 := by omega
  have hx4b : 1 ≤ x4 ∧ x4 ≤ 1048576 := by omega
  have HX1 := hH hx1
  have HX3 := hH hx3
  have hw2 : IntKind.i64.wrap (1 + u.l % 1048576) = x2 := by rw [← hx2]; exact IntWalk.i64_in _ (by omega)
  have hw4 : IntKind.i64.wrap (1 + u.m % 1048576) = x4 := by rw [← hx4]; exact IntWalk.i64_in _ (by omega)
  have HMY := hH (pos_head (⟨hx1b.1, by omega⟩ : 0 ≤ x1 ∧ x1 ≤ 31) hx2b hx3b hx4b 0)
  have HXS : Hid (0 ≤ (⟨x1, 0, x2, x3, x4⟩ : Ps).s ∧ (⟨x1, 0, x2, x3, x4⟩ : Ps).s ≤ cf.s - 1) := hH hx1b
  have HXM : Hid ((⟨x1, 0, x2, x3, x4⟩ : Ps).m ≤ 2097152) := hH (by show x4 ≤ _; omega)
  have HXL : Hid ((⟨x1, 0, x2, x3, x4⟩ : Ps).l ≤ 2097152) := hH (by show x2 ≤ _; omega)
  have hlr := Hc.laidRun HC.out (l := l) (p := (⟨x1, 0, x2, x3, x4⟩ : Ps)) HMY.out HXS.out.2 HXM.out HXL.out HL8.out HL4.out
  have hs0 := Hc.start cf HC.out
  obtain ⟨d0, hd0⟩ : ∃ z, Dk.new cf.sectors.toNat = z := ⟨_, rfl⟩
  rw [hd0] at hd hs0 hlr
  have HD := hH hd
  have HS0 := hH hs0
  have HLR := hH hlr
  obtain ⟨e1', e2', e3'⟩ := Cf.sec cf HC.out 0 (by decide) (by omega)
  obtain ⟨sa, hsa⟩ : ∃ s, cf.at_ 0 = s := ⟨_, rfl⟩
  obtain ⟨sz, hsz⟩ : ∃ s, cf.s * cf.l = s := ⟨_, rfl⟩
  have hsz0 : 0 ≤ sz ∧ sz ≤ 2048 := by rw [← hsz]; exact Cf.prod cf HC.out cf.s (by omega) (by omega)
  obtain ⟨hsz1, hsz2⟩ := hsz0
  have hse : sa + sz ≤ cf.sectors := by
   rw [← hsa, ← hsz]
   unfold Cf.at_ Cf.sectors
   rw [if_pos ⟨by decide, by omega⟩]
   omega
  rw [hsa] at e1' e2'
  have HSA := hH hsa
  have HSE := hH hse
  have e4 : sa ≤ 4096 := by omega
  have hwz : IntKind.i64.wrap (cf.s * cf.l) = sz := by rw [hsz]; exact IntWalk.i64_in _ (by omega)
  clear hd hs0 hlr hd0 H2 e2' e3' hx1 hx2 hx3 hx4 hsa hsz hse hx1b hx2b hx3b hx4b e0 e1 e2
  go_upto_region 7 with (fail)
  go_cut [16] (fun s16 wy => ∃ fa : Nat, s16 = .pointer (some ⟨fa, 0, none⟩) ∧ Duo w wy p rr d0 d0 ⟨(fa, [.int .i64 x1, .int .i64 0, .int .i64 x2, .int .i64 x3, .int .i64 x4]) :: (fc, [.int .i64 cf.b, .int .i64 cf.s, .int .i64 cf.l]) :: (fu, [.int .i64 u.s, .int .i64 u.o, .int .i64 u.l, .int .i64 u.p, .int .i64 u.m]) :: (fz, [.int .i64 z0, .int .i64 z1, .int .i64 z2]) :: [], [], (fun W => GeoAt W gb cf.b cf.s cf.l) :: (fun W => Prts W A n c l ss) :: []⟩)
  case first =>
   as_aux_lemma =>
    have HY := hH HD.out.drew
    clear HD
    refine wp_region_held_drew (S := (fun w' => Kn.Own w' fu [.int .i64 u.s, .int .i64 u.o, .int .i64 u.l, .int .i64 u.p, .int .i64 u.m] ∧ Kn.Own w' fc [.int .i64 cf.b, .int .i64 cf.s, .int .i64 cf.l])) (by kernel_rfl) ⟨HY.out.box (x := (fu, [.int .i64 u.s, .int .i64 u.o, .int .i64 u.l, .int .i64 u.p, .int .i64 u.m])) (by simp), HY.out.box (x := (fc, [.int .i64 cf.b, .int .i64 cf.s, .int .i64 cf.l])) (by simp)⟩ (fun hSw0 => ?_)
    generalize w3.drew = wz at *
    refine tS 0 43 ?_
    refine tS 1 44 (v := (.int .i64 u.s)) (hy := fun w hSw => by
     have q0 := hSw.1.cellv 0
     go_simp) ?_
    refine tS 2 45 ?_
    refine tS 3 46 (v := (.int .i64 cf.s)) (hy := fun w hSw => by
     have q0 := hSw.2.cellv 1
     go_simp) ?_
    refine tS 5 48 ?_
    refine tS 6 49 (v := (.int .i64 u.l)) (hy := fun w hSw => by
     have q0 := hSw.1.cellv 2
     go_simp) ?_
    refine tS 9 52 ?_
    refine tS 10 53 (v := (.int .i64 u.p)) (hy := fun w hSw => by
     have q0 := hSw.1.cellv 3
     go_simp) ?_
    refine tS 12 55 ?_
    refine tS 13 56 (v := (.int .i64 u.m)) (hy := fun w hSw => by
     have q0 := hSw.1.cellv 4
     go_simp) ?_
    refine wpAnyH_ready (rs := [4, 17]) (by kernel_rfl) (by simp) ?_
    refine AllReadyH.cons (o := ⟨some 47, _, _, _, _, _⟩) rfl (fun K hK => ?_) ?_
    ·go_simp
     refine (round_any u.s cf.s _ HWU.out.1 (by omega) (by omega)).mono ?_
     rintro en wk ⟨rfl, rfl⟩
     rw [HX1.out]
     refine hK.out _ _ hSw0 (fun hSn => ?_)
     clear hK K hSw0
     have hSw0 := hSn
     clear hSn
     refine wpAnyH_ready (rs := [7, 17]) (by kernel_rfl) (by simp) ?_
     refine AllReadyH.cons (o := ⟨some 50, _, _, _, _, _⟩) rfl (fun K hK => ?_) ?_
     ·go_simp
      refine (round_any u.l 1048576 _ HWU.out.2.1 (by omega) (by omega)).mono ?_
      rintro en wk ⟨rfl, rfl⟩
      refine hK.out _ _ hSw0 (fun hSn => ?_)
      clear hK K hSw0
      have hSw0 := hSn
      clear hSn
      refine tS 8 51 ?_
      refine wpAnyH_ready (rs := [11, 17]) (by kernel_rfl) (by simp) ?_
      refine AllReadyH.cons (o := ⟨some 54, _, _, _, _, _⟩) rfl (fun K hK => ?_) ?_
      ·go_simp
       refine (round_any u.p 4294967296 _ HWU.out.2.2.1 (by omega) (by omega)).mono ?_
       rintro en wk ⟨rfl, rfl⟩
       rw [HX3.out]
       refine hK.out _ _ hSw0 (fun hSn => ?_)
       clear hK K hSw0
       have hSw0 := hSn
       clear hSn
       refine wpAnyH_ready (rs := [14, 17]) (by kernel_rfl) (by simp) ?_
       refine AllReadyH.cons (o := ⟨some 57, _, _, _, _, _⟩) rfl (fun K hK => ?_) ?_
       ·go_simp
        refine (round_any u.m 1048576 _ HWU.out.2.2.2 (by omega) (by omega)).mono ?_
        rintro en wk ⟨rfl, rfl⟩
        refine hK.out _ _ hSw0 (fun hSn => ?_)
        clear hK K hSw0
        have hSw0 := hSn
        clear hSn
        refine tS 15 58 ?_
        refine tS 16 59 ?_
        refine tR 17 16 fun K hK => ?_
        go_simp
        have HYa := hH (Duo.newB HY.out #[.int .i64 0, .int .i64 0, .int .i64 0, .int .i64 0, .int .i64 0] 32 rfl)
        clear HY
        generalize hvb : wz.alloc (.cells #[.int .i64 0, .int .i64 0, .int .i64 0, .int .i64 0, .int .i64 0] 32) = wy at *
        generalize wz.heap.size = fa at *
        clear hvb
        refine hK.out _ _ ⟨HYa.out.box (x := (fu, [.int .i64 u.s, .int .i64 u.o, .int .i64 u.l, .int .i64 u.p, .int .i64 u.m])) (by simp), HYa.out.box (x := (fc, [.int .i64 cf.b, .int .i64 cf.s, .int .i64 cf.l])) (by simp)⟩ (fun hSn => ?_)
        clear hK K hSw0
        have hSw0 := hSn
        clear hSn
        refine Kn.takeR 18 ⟨none, _, _, _, _, _⟩ fun K hK => ?_
        refine step_store_own rfl 32 (.tmp 16) (.tmp 59) rfl fa [.int .i64 0, .int .i64 0, .int .i64 0, .int .i64 0, .int .i64 0] [.int .i64 x1, .int .i64 0, .int .i64 x2, .int .i64 x3, .int .i64 x4] (by kernel_rfl) rfl rfl (HYa.out.box (x := (fa, [.int .i64 0, .int .i64 0, .int .i64 0, .int .i64 0, .int .i64 0])) (by simp)) rfl (by intro v hv; simp at hv; rcases hv with rfl | rfl | rfl | rfl | rfl <;> rfl) ?_
        intro wc ho9 hO9
        have HYb := hH (HYa.out.head ho9 hO9)
        clear ho9 hO9 HYa
        refine hK.out _ _ ⟨HYb.out.box (x := (fu, [.int .i64 u.s, .int .i64 u.o, .int .i64 u.l, .int .i64 u.p, .int .i64 u.m])) (by simp), HYb.out.box (x := (fc, [.int .i64 cf.b, .int .i64 cf.s, .int .i64 cf.l])) (by simp)⟩ (fun hSn => ?_)
        clear hK K hSw0
        have hSw0 := hSn
        clear hSn
        refine tD ?_ _
        clear hSw0
        go_wp2
        go_meet
        case rel => exact ⟨fa, rfl, HYb.out⟩
       refine AllReadyH.cons (o := ⟨some 16, _, _, _, _, _⟩) rfl (fun K hK => ?_) ?_
       ·go_simp
        have HYa := hH (Duo.newB HY.out #[.int .i64 0, .int .i64 0, .int .i64 0, .int .i64 0, .int .i64 0] 32 rfl)
        clear HY
        generalize hvb : wz.alloc (.cells #[.int .i64 0, .int .i64 0, .int .i64 0, .int .i64 0, .int .i64 0] 32) = wy at *
        generalize wz.heap.size = fa at *
        clear hvb
        refine hK.out _ _ ⟨HYa.out.box (x := (fu, [.int .i64 u.s, .int .i64 u.o, .int .i64 u.l, .int .i64 u.p, .int .i64 u.m])) (by simp), HYa.out.box (x := (fc, [.int .i64 cf.b, .int .i64 cf.s, .int .i64 cf.l])) (by simp)⟩ (fun hSn => ?_)
        clear hK K hSw0
        have hSw0 := hSn
        clear hSn
        refine tR 14 57 fun K hK => ?_
        go_simp
        refine (round_any u.m 1048576 _ HWU.out.2.2.2 (by omega) (by omega)).mono ?_
        rintro en wk ⟨rfl, rfl⟩
        refine hK.out _ _ hSw0 (fun hSn => ?_)
        clear hK K hSw0
        have hSw0 := hSn
        clear hSn
        refine tS 15 58 ?_
        refine tS 16 59 ?_
        refine Kn.takeR 18 ⟨none, _, _, _, _, _⟩ fun K hK => ?_
        refine step_store_own rfl 32 (.tmp 16) (.tmp 59) rfl fa [.int .i64 0, .int .i64 0, .int .i64 0, .int .i64 0, .int .i64 0] [.int .i64 x1, .int .i64 0, .int .i64 x2, .int .i64 x3, .int .i64 x4] (by kernel_rfl) rfl rfl (HYa.out.box (x := (fa, [.int .i64 0, .int .i64 0, .int .i64 0, .int .i64 0, .int .i64 0])) (by simp)) rfl (by intro v hv; simp at hv; rcases hv with rfl | rfl | rfl | rfl | rfl <;> rfl) ?_
        intro wc ho9 hO9
        have HYb := hH (HYa.out.head ho9 hO9)
        clear ho9 hO9 HYa
        refine hK.out _ _ ⟨HYb.out.box (x := (fu, [.int .i64 u.s, .int .i64 u.o, .int .i64 u.l, .int .i64 u.p, .int .i64 u.m])) (by simp), HYb.out.box (x := (fc, [.int .i64 cf.b, .int .i64 cf.s, .int .i64 cf.l])) (by simp)⟩ (fun hSn => ?_)
        clear hK K hSw0
        have hSw0 := hSn
        clear hSn
        refine tD ?_ _
        clear hSw0
        go_wp2
        go_meet
        case rel => exact ⟨fa, rfl, HYb.out⟩
       exact AllReadyH.nil
      refine AllReadyH.cons (o := ⟨some 16, _, _, _, _, _⟩) rfl (fun K hK => ?_) ?_
      ·go_simp
       have HYa := hH (Duo.newB HY.out #[.int .i64 0, .int .i64 0, .int .i64 0, .int .i64 0, .int .i64 0] 32 rfl)
       clear HY
       generalize hvb : wz.alloc (.cells #[.int .i64 0, .int .i64 0, .int .i64 0, .int .i64 0, .int .i64 0] 32) = wy at *
       generalize wz.heap.size = fa at *
       clear hvb
       refine hK.out _ _ ⟨HYa.out.box (x := (fu, [.int .i64 u.s, .int .i64 u.o, .int .i64 u.l, .int .i64 u.p, .int .i64 u.m])) (by simp), HYa.out.box (x := (fc, [.int .i64 cf.b, .int .i64 cf.s, .int .i64 cf.l])) (by simp)⟩ (fun hSn => ?_)
       clear hK K hSw0
       have hSw0 := hSn
       clear hSn
       refine tR 11 54 fun K hK => ?_
       go_simp
       refine (round_any u.p 4294967296 _ HWU.out.2.2.1 (by omega) (by omega)).mono ?_
       rintro en wk ⟨rfl, rfl⟩
       rw [HX3.out]
       refine hK.out _ _ hSw0 (fun hSn => ?_)
       clear hK K hSw0
       have hSw0 := hSn
       clear hSn
       refine tR 14 57 fun K hK => ?_
       go_simp
       refine (round_any u.m 1048576 _ HWU.out.2.2.2 (by omega) (by omega)).mono ?_
       rintro en wk ⟨rfl, rfl⟩
       refine hK.out _ _ hSw0 (fun hSn => ?_)
       clear hK K hSw0
       have hSw0 := hSn
       clear hSn
       refine tS 15 58 ?_
       refine tS 16 59 ?_
       refine Kn.takeR 18 ⟨none, _, _, _, _, _⟩ fun K hK => ?_
       refine step_store_own rfl 32 (.tmp 16) (.tmp 59) rfl fa [.int .i64 0, .int .i64 0, .int .i64 0, .int .i64 0, .int .i64 0] [.int .i64 x1, .int .i64 0, .int .i64 x2, .int .i64 x3, .int .i64 x4] (by kernel_rfl) rfl rfl (HYa.out.box (x := (fa, [.int .i64 0, .int .i64 0, .int .i64 0, .int .i64 0, .int .i64 0])) (by simp)) rfl (by intro v hv; simp at hv; rcases hv with rfl | rfl | rfl | rfl | rfl <;> rfl) ?_
       intro wc ho9 hO9
       have HYb := hH (HYa.out.head ho9 hO9)
       clear ho9 hO9 HYa
       refine hK.out _ _ ⟨HYb.out.box (x := (fu, [.int .i64 u.s, .int .i64 u.o, .int .i64 u.l, .int .i64 u.p, .int .i64 u.m])) (by simp), HYb.out.box (x := (fc, [.int .i64 cf.b, .int .i64 cf.s, .int .i64 cf.l])) (by simp)⟩ (fun hSn => ?_)
       clear hK K hSw0
       have hSw0 := hSn
       clear hSn
       refine tD ?_ _
       clear hSw0
       go_wp2
       go_meet
       case rel => exact ⟨fa, rfl, HYb.out⟩
      exact AllReadyH.nil
     refine AllReadyH.cons (o := ⟨some 16, _, _, _, _, _⟩) rfl (fun K hK => ?_) ?_
     ·go_simp
      have HYa := hH (Duo.newB HY.out #[.int .i64 0, .int .i64 0, .int .i64 0, .int .i64 0, .int .i64 0] 32 rfl)
      clear HY
      generalize hvb : wz.alloc (.cells #[.int .i64 0, .int .i64 0, .int .i64 0, .int .i64 0, .int .i64 0] 32) = wy at *
      generalize wz.heap.size = fa at *
      clear hvb
      refine hK.out _ _ ⟨HYa.out.box (x := (fu, [.int .i64 u.s, .int .i64 u.o, .int .i64 u.l, .int .i64 u.p, .int .i64 u.m])) (by simp), HYa.out.box (x := (fc, [.int .i64 cf.b, .int .i64 cf.s, .int .i64 cf.l])) (by simp)⟩ (fun hSn => ?_)
      clear hK K hSw0
      have hSw0 := hSn
      clear hSn
      refine tR 7 50 fun K hK => ?_
      go_simp
      refine (round_any u.l 1048576 _ HWU.out.2.1 (by omega) (by omega)).mono ?_
      rintro en wk ⟨rfl, rfl⟩
      refine hK.out _ _ hSw0 (fun hSn => ?_)
      clear hK K hSw0
      have hSw0 := hSn
      clear hSn
      refine tS 8 51 ?_
      refine tR 11 54 fun K hK => ?_
      go_simp
      refine (round_any u.p 4294967296 _ HWU.out.2.2.1 (by omega) (by omega)).mono ?_
      rintro en wk ⟨rfl, rfl⟩
      rw [HX3.out]
      refine hK.out _ _ hSw0 (fun hSn => ?_)
      clear hK K hSw0
      have hSw0 := hSn
      clear hSn
      refine tR 14 57 fun K hK => ?_
      go_simp
      refine (round_any u.m 1048576 _ HWU.out.2.2.2 (by omega) (by omega)).mono ?_
      rintro en wk ⟨rfl, rfl⟩
      refine hK.out _ _ hSw0 (fun hSn => ?_)
      clear hK K hSw0
      have hSw0 := hSn
      clear hSn
      refine tS 15 58 ?_
      refine tS 16 59 ?_
      refine Kn.takeR 18 ⟨none, _, _, _, _, _⟩ fun K hK => ?_
      refine step_store_own rfl 32 (.tmp 16) (.tmp 59) rfl fa [.int .i64 0, .int .i64 0, .int .i64 0, .int .i64 0, .int .i64 0] [.int .i64 x1, .int .i64 0, .int .i64 x2, .int .i64 x3, .int .i64 x4] (by kernel_rfl) rfl rfl (HYa.out.box (x := (fa, [.int .i64 0, .int .i64 0, .int .i64 0, .int .i64 0, .int .i64 0])) (by simp)) rfl (by intro v hv; simp at hv; rcases hv with rfl | rfl | rfl | rfl | rfl <;> rfl) ?_
      intro wc ho9 hO9
      have HYb := hH (HYa.out.head ho9 hO9)
      clear ho9 hO9 HYa
      refine hK.out _ _ ⟨HYb.out.box (x := (fu, [.int .i64 u.s, .int .i64 u.o, .int .i64 u.l, .int .i64 u.p, .int .i64 u.m])) (by simp), HYb.out.box (x := (fc, [.int .i64 cf.b, .int .i64 cf.s, .int .i64 cf.l])) (by simp)⟩ (fun hSn => ?_)
      clear hK K hSw0
      have hSw0 := hSn
      clear hSn
      refine tD ?_ _
      clear hSw0
      go_wp2
      go_meet
      case rel => exact ⟨fa, rfl, HYb.out⟩
     exact AllReadyH.nil
    refine AllReadyH.cons (o := ⟨some 16, _, _, _, _, _⟩) rfl (fun K hK => ?_) ?_
    ·go_simp
     have HYa := hH (Duo.newB HY.out #[.int .i64 0, .int .i64 0, .int .i64 0, .int .i64 0, .int .i64 0] 32 rfl)
     clear HY
     generalize hvb : wz.alloc (.cells #[.int .i64 0, .int .i64 0, .int .i64 0, .int .i64 0, .int .i64 0] 32) = wy at *
     generalize wz.heap.size = fa at *
     clear hvb
     refine hK.out _ _ ⟨HYa.out.box (x := (fu, [.int .i64 u.s, .int .i64 u.o, .int .i64 u.l, .int .i64 u.p, .int .i64 u.m])) (by simp), HYa.out.box (x := (fc, [.int .i64 cf.b, .int .i64 cf.s, .int .i64 cf.l])) (by simp)⟩ (fun hSn => ?_)
     clear hK K hSw0
     have hSw0 := hSn
     clear hSn
     refine tR 4 47 fun K hK => ?_
     go_simp
     refine (round_any u.s cf.s _ HWU.out.1 (by omega) (by omega)).mono ?_
     rintro en wk ⟨rfl, rfl⟩
     rw [HX1.out]
     refine hK.out _ _ hSw0 (fun hSn => ?_)
     clear hK K hSw0
     have hSw0 := hSn
     clear hSn
     refine tR 7 50 fun K hK => ?_
     go_simp
     refine (round_any u.l 1048576 _ HWU.out.2.1 (by omega) (by omega)).mono ?_
     rintro en wk ⟨rfl, rfl⟩
     refine hK.out _ _ hSw0 (fun hSn => ?_)
     clear hK K hSw0
     have hSw0 := hSn
     clear hSn
     refine tS 8 51 ?_
     refine tR 11 54 fun K hK => ?_
     go_simp
     refine (round_any u.p 4294967296 _ HWU.out.2.2.1 (by omega) (by omega)).mono ?_
     rintro en wk ⟨rfl, rfl⟩
     rw [HX3.out]
     refine hK.out _ _ hSw0 (fun hSn => ?_)
     clear hK K hSw0
     have hSw0 := hSn
     clear hSn
     refine tR 14 57 fun K hK => ?_
     go_simp
     refine (round_any u.m 1048576 _ HWU.out.2.2.2 (by omega) (by omega)).mono ?_
     rintro en wk ⟨rfl, rfl⟩
     refine hK.out _ _ hSw0 (fun hSn => ?_)
     clear hK K hSw0
     have hSw0 := hSn
     clear hSn
     refine tS 15 58 ?_
     refine tS 16 59 ?_
     refine Kn.takeR 18 ⟨none, _, _, _, _, _⟩ fun K hK => ?_
     refine step_store_own rfl 32 (.tmp 16) (.tmp 59) rfl fa [.int .i64 0, .int .i64 0, .int .i64 0, .int .i64 0, .int .i64 0] [.int .i64 x1, .int .i64 0, .int .i64 x2, .int .i64 x3, .int .i64 x4] (by kernel_rfl) rfl rfl (HYa.out.box (x := (fa, [.int .i64 0, .int .i64 0, .int .i64 0, .int .i64 0, .int .i64 0])) (by simp)) rfl (by intro v hv; simp at hv; rcases hv with rfl | rfl | rfl | rfl | rfl <;> rfl) ?_
     intro wc ho9 hO9
     have HYb := hH (HYa.out.head ho9 hO9)
     clear ho9 hO9 HYa
     refine hK.out _ _ ⟨HYb.out.box (x := (fu, [.int .i64 u.s, .int .i64 u.o, .int .i64 u.l, .int .i64 u.p, .int .i64 u.m])) (by simp), HYb.out.box (x := (fc, [.int .i64 cf.b, .int .i64 cf.s, .int .i64 cf.l])) (by simp)⟩ (fun hSn => ?_)
     clear hK K hSw0
     have hSw0 := hSn
     clear hSn
     refine tD ?_ _
     clear hSw0
     go_wp2
     go_meet
     case rel => exact ⟨fa, rfl, HYb.out⟩
    exact AllReadyH.nil
  obtain ⟨fa, rfl, hd⟩ := hcut
  have HD2 := hH hd
  clear hd HD w3
  obtain ⟨e0, e1, e2⟩ := own3 (HD2.out.box (x := (fc, [.int .i64 cf.b, .int .i64 cf.s, .int .i64 cf.l])) (by simp))
  obtain ⟨q0, q1, q2, q3, q4⟩ := own5 (HD2.out.box (x := (fa, [.int .i64 x1, .int .i64 0, .int .i64 x2, .int .i64 x3, .int .i64 x4])) (by simp))
  go_wp2_with fail
  refine (laid14_any w _ p rr d0 _ cf (⟨x1, 0, x2, x3, x4⟩ : Ps) A n c l ss HD2.out (by simp) HPK.out hn8 HC.out HMY.out HXS.out.2 HXM.out HXL.out HS0.out.std.rdy.live HS0.out.std.held).mono ?_
  rintro en w5 ⟨rfl, hd⟩
  obtain ⟨d2, hd2⟩ : ∃ z, (laidRun cf l (⟨x1, 0, x2, x3, x4⟩ : Ps) d0).2 = z := ⟨_, rfl⟩
  rw [hd2] at hd
  have HD3 := hH hd
  have HS2 := HLR.out
  rw [hd2] at HS2
  have HS2 := hH HS2
  clear hd hd2 HD2 e0 e1 e2 q0 q1 q2 q3 q4
  go_wp2_with fail
  go_cut [17, 18] (fun s17 s18 wy => s17 = .int .i64 sa ∧ s18 = .int .i64 sz ∧ Duo w wy p rr d2 d2 ⟨(fa, [.int .i64 x1, .int .i64 0, .int .i64 x2, .int .i64 x3, .int .i64 x4]) :: (fc, [.int .i64 cf.b, .int .i64 cf.s, .int .i64 cf.l]) :: (fu, [.int .i64 u.s, .int .i64 u.o, .int .i64 u.l, .int .i64 u.p, .int .i64 u.m]) :: (fz, [.int .i64 z0, .int .i64 z1, .int .i64 z2]) :: [], [], (fun W => GeoAt W gb cf.b cf.s cf.l) :: (fun W => Prts W A n c l ss) :: []⟩)
  case first =>
   have HY := hH HD3.out.drew
   clear HD3
   refine wp_region_held_drew (S := (fun w' => Kn.Own w' fc [.int .i64 cf.b, .int .i64 cf.s, .int .i64 cf.l])) (by kernel_rfl) (HY.out.box (x := (fc, [.int .i64 cf.b, .int .i64 cf.s, .int .i64 cf.l])) (by simp)) (fun hSw0 => ?_)
   generalize w5.drew = wz at *
   refine tS 0 71 (v := (.agg #[.int .i64 cf.b, .int .i64 cf.s, .int .i64 cf.l])) (hy := fun w hSw => by
    have q0 := hSw
    obtain ⟨q00, q01, q02⟩ := Kn.own3 q0
    clear q0
    go_simp) ?_
   refine tS 2 73 ?_
   refine tS 3 74 (v := (.int .i64 cf.s)) (hy := fun w hSw => by
    have q0 := hSw.cellv 1
    go_simp) ?_
   refine tS 4 75 ?_
   refine tS 5 76 (v := (.int .i64 cf.l)) (hy := fun w hSw => by
    have q0 := hSw.cellv 2
    go_simp) ?_
   refine tS 6 77 ?_
   refine tR 1 72 fun K hK => ?_
   go_simp
   refine (ref_segat_any cf 0 _ HC.out).mono ?_
   rintro en wu ⟨rfl, hO⟩
   rw [HSA.out]
   have HY2 := hH (HY.out.keep0 hO)
   clear hO HY
   refine hK.out _ _ (HY2.out.box (x := (fc, [.int .i64 cf.b, .int .i64 cf.s, .int .i64 cf.l])) (by simp)) (fun hSn => ?_)
   clear hK K hSw0
   have hSw0 := hSn
   clear hSn
   refine tS 7 17 ?_
   refine tS 8 18 ?_
   refine tD ?_ _
   clear hSw0
   go_wp2
   go_meet
   case rel => exact ⟨rfl, rfl, HY2.out⟩
  obtain ⟨rfl, rfl, hd⟩ := hcut
  have HD7 := hH hd
  clear hd HD3
  obtain ⟨tb, htb⟩ : ∃ b : Bool, decide (0 ≤ tu ∧ tu < sz) = b := ⟨_, rfl⟩
  have HTB := hH htb
  clear htb
  go_upto_region 12 with (fail)
  go_cut [84] (fun s84 wy => s84 = .bool tb ∧ Duo w wy p rr d2 d2 ⟨(fa, [.int .i64 x1, .int .i64 0, .int .i64 x2, .int .i64 x3, .int .i64 x4]) :: (fc, [.int .i64 cf.b, .int .i64 cf.s, .int .i64 cf.l]) :: (fu, [.int .i64 u.s, .int .i64 u.o, .int .i64 u.l, .int .i64 u.p, .int .i64 u.m]) :: (fz, [.int .i64 z0, .int .i64 z1, .int .i64 z2]) :: [], [], (fun W => GeoAt W gb cf.b cf.s cf.l) :: (fun W => Prts W A n c l ss) :: []⟩)
  case first =>
   as_aux_lemma =>
    by_cases h1 : 0 ≤ tu
    ·by_cases h2 : tu < sz
     ·go_wp2
      go_meet
      case rel => exact ⟨by rw [← HTB.out, decide_eq_true ⟨h1, h2⟩], HD7.out⟩
     go_wp2
     go_meet
     case rel => exact ⟨by rw [← HTB.out, decide_eq_false (by omega)], HD7.out⟩
    go_wp2
    go_meet
    case rel => exact ⟨by rw [← HTB.out, decide_eq_false (by omega)], HD7.out⟩
  obtain ⟨rfl, hd⟩ := hcut
  have HD8 := hH hd
  clear hd HD7
  go_upto_if 84 with (fail)
  go_cut [] (fun wy => ∃ d, Duo w wy p rr d d ⟨(fa, [.int .i64 x1, .int .i64 0, .int .i64 x2, .int .i64 x3, .int .i64 x4]) :: (fc, [.int .i64 cf.b, .int .i64 cf.s, .int .i64 cf.l]) :: (fu, [.int .i64 u.s, .int .i64 u.o, .int .i64 u.l, .int .i64 u.p, .int .i64 u.m]) :: (fz, [.int .i64 z0, .int .i64 z1, .int .i64 z2]) :: [], [], (fun W => GeoAt W gb cf.b cf.s cf.l) :: (fun W => Prts W A n c l ss) :: []⟩ ∧ Hc d cf 41)
  case first =>
   as_aux_lemma =>
    cases tb with
    | false =>
     go_wp2
     go_meet
     case rel => exact ⟨d2, HD8.out, HS2.out.mono (by decide)⟩
    | true =>
     have htt := of_decide_eq_true HTB.out
     obtain ⟨ht0, htl⟩ := htt
     obtain ⟨tm, rfl⟩ : ∃ m : Nat, tu = m := ⟨tu.toNat, by omega⟩
     obtain ⟨tn, htn⟩ : ∃ m, tm % 64 = m := ⟨_, rfl⟩
     have ht64 : tn < 64 := by omega
     have htr : Int.tmod (tm : Int) 64 = (tn : Int) := by rw [Int.tmod_eq_emod_of_nonneg (by omega)]; omega
     have hwr := IntWalk.i64_in (tn : Int) (by omega)
     have hwt := IntWalk.i64_in (sa + (tm : Int)) (by omega)
     have hse := HSE.out
     have hlen := HS2.out.std.len
     have hhas : d2.has (sa + (tm : Int)) = true := has_of (by omega) (by omega)
     have hE := HS2.out.std.rdy.err0 hhas
     have h64 := Dk.read_64 HS2.out.std.rdy.ok hE
     obtain ⟨X, hX⟩ : ∃ z, d2.read (sa + (tm : Int)) = z := ⟨_, rfl⟩
     rw [hX] at h64
     have hXt : tn < X.length := by omega
     obtain ⟨xt, hxt⟩ : ∃ z, X[tn] = z := ⟨_, rfl⟩
     obtain ⟨v, hv⟩ : ∃ z, UInt8.ofNat (xt.toNat ^^^ 2 ^ 2) = z := ⟨_, rfl⟩
     have hfb : bits .xor .u8 (xt.toNat : Int) 4 = (v.toNat : Int) := by have h := flip_byte xt 2 (by decide); rw [hv] at h; exact h
     have hw64 : (X.set tn v).length = 64 * 1 := by rw [List.length_set]; exact h64
     have HPT := hH (HS2.out.puts (a := sa + (tm : Int)) (b := X.set tn v) (n := 1) (by omega) hw64 (by omega) (fun i _ _ => by omega))
     have HHH : Hid (d2.held.length ≤ 1000) := hH (by rw [HS2.out.std.held]; decide)
     have HE := hH hE
     have HX := hH hX
     have HX64 := hH h64
     have HXT : Hid (∀ h : tn < X.length, X[tn] = xt) := hH (fun _ => hxt)
     clear hse hlen hhas hE hX h64 hxt hv hw64 hXt htn
     go_wp2_with fail
     refine (duo_rread_own HD8.out (Nat.le_trans HHH.out (by decide)) (sa + (tm : Int))).mono ?_
     rw [HE.out, HX.out]
     rintro en w9 ⟨A6, n6, c6, rfl, hd, -⟩
     have h6 := (hd.gi 0 rfl).1
     simp only [bvs_length] at h6
     obtain rfl : n6 = 64 := by rw [HX64.out] at h6; omega
     have hr6 := hd.grow 0 rfl
     obtain ⟨gx, ox, rfl, hc6⟩ := hr6.at_ (by decide)
     obtain ⟨rfl, -⟩ := ownsRow_zero (hd.gi 0 rfl)
     have q0 := hc6 tn (by rw [bvs_length, HX64.out]; exact ht64)
     rw [Nat.zero_add, bvs_get, HXT.out] at q0
     have f0 := hd.gown.frozen tn
     have hst := hd.gset 0 rfl (g := gx) rfl tn (.int .u8 (v.toNat : Int))
     have hse : (bvs X).set tn (.int .u8 (v.toNat : Int)) = bvs (X.set tn v) := by unfold bvs; rw [List.map_set]
     simp only [List.set_cons_zero, hse] at hst
     have HST := hH hst.gout
     clear hst hse hr6 hc6 h6 HD8 hd
     have hl6 : (tn : Int) < 64 := by omega
     have ht6 : ((tn : Int)).toNat = tn := by omega
     go_upto_region 15 with (fail)
     generalize hw10 : w9.setCell ⟨gx, tn, none⟩ (.int .u8 (v.toNat : Int)) = w10 at *
     clear hw10 q0 f0 w9
     go_wp2_with fail
     refine (kit_put_any w _ p rr d2 _ (sa + (tm : Int)) (some ⟨gx, 0, none⟩) 64 c6 (X.set tn v) HST.out List.mem_cons_self HHH.out (by decide) ⟨by omega, by omega⟩).mono ?_
     rintro en w11 ⟨rfl, hd⟩
     have HV := hH (hd.subF (F' := (fun W => GeoAt W gb cf.b cf.s cf.l) :: (fun W => Prts W A n c l ss) :: []) (fun f hf => mc _ hf))
     clear hd HST
     go_wp2
     go_meet
     case rel => exact ⟨_, HV.out, HPT.out⟩
  obtain ⟨d3, hd, hs3⟩ := hcut
  have HD9 := hH hd
  have HS3 := hH hs3
  clear hd hs3 HD8 HS2 HTB
  obtain ⟨fb, hfb⟩ : ∃ b : Bool, decide (0 ≤ fa0 ∧ fa0 < sz) = b := ⟨_, rfl⟩
  have HFB := hH hfb
  clear hfb
  go_upto_region 17 with (fail)
  go_cut [117] (fun s117 wy => s117 = .bool fb ∧ Duo w wy p rr d3 d3 ⟨(fa, [.int .i64 x1, .int .i64 0, .int .i64 x2, .int .i64 x3, .int .i64 x4]) :: (fc, [.int .i64 cf.b, .int .i64 cf.s, .int .i64 cf.l]) :: (fu, [.int .i64 u.s, .int .i64 u.o, .int .i64 u.l, .int .i64 u.p, .int .i64 u.m]) :: (fz, [.int .i64 z0, .int .i64 z1, .int .i64 z2]) :: [], [], (fun W => GeoAt W gb cf.b cf.s cf.l) :: (fun W => Prts W A n c l ss) :: []⟩)
  case first =>
   as_aux_lemma =>
    by_cases h1 : 0 ≤ fa0
    ·by_cases h2 : fa0 < sz
     ·go_wp2
      go_meet
      case rel => exact ⟨by rw [← HFB.out, decide_eq_true ⟨h1, h2⟩], HD9.out⟩
     go_wp2
     go_meet
     case rel => exact ⟨by rw [← HFB.out, decide_eq_false (by omega)], HD9.out⟩
    go_wp2
    go_meet
    case rel => exact ⟨by rw [← HFB.out, decide_eq_false (by omega)], HD9.out⟩
  obtain ⟨rfl, hd⟩ := hcut
  have HDa := hH hd
  clear hd HD9
  go_upto_if 117 with (fail)
  go_cut [] (fun wy => ∃ d, Duo w wy p rr d d ⟨(fa, [.int .i64 x1, .int .i64 0, .int .i64 x2, .int .i64 x3, .int .i64 x4]) :: (fc, [.int .i64 cf.b, .int .i64 cf.s, .int .i64 cf.l]) :: (fu, [.int .i64 u.s, .int .i64 u.o, .int .i64 u.l, .int .i64 u.p, .int .i64 u.m]) :: (fz, [.int .i64 z0, .int .i64 z1, .int .i64 z2]) :: [], [], (fun W => GeoAt W gb cf.b cf.s cf.l) :: (fun W => Prts W A n c l ss) :: []⟩ ∧ d.held.length ≤ 1000000 ∧ d.now.countP rcHd ≤ 41)
  case first =>
   as_aux_lemma =>
    cases fb with
    | false =>
     go_wp2
     go_meet
     case rel => exact ⟨d3, HDa.out, by rw [HS3.out.std.held]; decide, HS3.out.n⟩
    | true =>
     have htt := of_decide_eq_true HFB.out
     obtain ⟨ht0, htl⟩ := htt
     have hwt := IntWalk.i64_in (sa + fa0) (by omega)
     go_wp2_with fail
     refine (duo_fault HDa.out (sa + fa0) true).mono ?_
     rintro en w9 ⟨rfl, hd⟩
     have HV := hH hd
     clear hd HDa
     go_wp2_with fail
     refine (duo_rfault HV.out (sa + fa0) true).mono ?_
     rintro en w10 ⟨rfl, hd⟩
     have HV2 := hH hd
     clear hd HV
     go_wp2
     go_meet
     case rel => exact ⟨_, HV2.out, by rw [fault_held, HS3.out.std.held]; decide, by rw [fault_now]; exact HS3.out.n⟩
  obtain ⟨d4, hd, hs4, hcn⟩ := hcut
  have HD4a := hH hd
  have HHD := hH hs4
  have HCN := hH hcn
  clear hd hs4 hcn HDa HS3 HFB
  obtain ⟨q0, q1, q2, q3, q4⟩ := own5 (HD4a.out.box (x := (fa, [.int .i64 x1, .int .i64 0, .int .i64 x2, .int .i64 x3, .int .i64 x4])) (by simp))
  have HD4 := hH (Duo.newB HD4a.out #[.int .i64 x1, .int .i64 0, .int .i64 x2, .int .i64 x3, .int .i64 x4] 32 rfl)
  go_upto_region 21 with (fail)
  generalize hz4 : World.alloc wc (.cells #[.int .i64 x1, .int .i64 0, .int .i64 x2, .int .i64 x3, .int .i64 x4] 32) = w4 at *
  generalize hfq : (World.heap wc).size = fq at *
  clear hz4 hfq HD4a q0 q1 q2 q3 q4
  obtain ⟨q0, q1, q2, q3, q4⟩ := own5 (HD4.out.box (x := (fq, [.int .i64 x1, .int .i64 0, .int .i64 x2, .int .i64 x3, .int .i64 x4])) (by simp))
  have z1 := (HD4.out.box (x := (fq, [.int .i64 x1, .int .i64 0, .int .i64 x2, .int .i64 x3, .int .i64 x4])) (by simp)).frozen 1
  have l1 := (HD4.out.box (x := (fq, [.int .i64 x1, .int .i64 0, .int .i64 x2, .int .i64 x3, .int .i64 x4])) (by simp)).lt
  go_upto_region 22 with (fail)
  have HDb := hH (HD4.out.put 0 (b := fq) rfl 1 (.int .i64 1))
  simp only [List.set_cons_zero, List.set_cons_succ] at HDb
  generalize hz5 : World.setCell w4 ⟨fq, 1, none⟩ (.int .i64 1) = w5 at *
  clear hz5 HD4 z1 l1 q0 q1 q2 q3 q4
  obtain ⟨q0, q1, q2, q3, q4⟩ := own5 (HDb.out.box (x := (fa, [.int .i64 x1, .int .i64 0, .int .i64 x2, .int .i64 x3, .int .i64 x4])) (by simp))
  obtain ⟨r0, r1, r2, r3, r4⟩ := own5 (HDb.out.box (x := (fq, [.int .i64 x1, .int .i64 1, .int .i64 x2, .int .i64 x3, .int .i64 x4])) (by simp))
  obtain ⟨s0, s1, s2, s3, s4⟩ := own5 (HDb.out.box (x := (fu, [.int .i64 u.s, .int .i64 u.o, .int .i64 u.l, .int .i64 u.p, .int .i64 u.m])) (by simp))
  have HDc := hH (Duo.newB HDb.out #[.int .i64 x1, .int .i64 0, .int .i64 x2, .int .i64 x3, .int .i64 x4, .int .i64 x1, .int .i64 1, .int .i64 x2, .int .i64 x3, .int .i64 x4, .int .i64 u.s, .int .i64 u.o, .int .i64 u.l, .int .i64 u.p, .int .i64 u.m] 32 rfl)
  clear HDb
  go_upto_region 23 with (fail)
  generalize hz4 : World.alloc w5 (.cells #[.int .i64 x1, .int .i64 0, .int .i64 x2, .int .i64 x3, .int .i64 x4, .int .i64 x1, .int .i64 1, .int .i64 x2, .int .i64 x3, .int .i64 x4, .int .i64 u.s, .int .i64 u.o, .int .i64 u.l, .int .i64 u.p, .int .i64 u.m] 32) = w6 at *
  generalize hgp : (World.heap w5).size = gp at *
  clear hz4 hgp q0 q1 q2 q3 q4 r0 r1 r2 r3 r4 s0 s1 s2 s3 s4
  go_wp2_with fail
  go_loopg [23] 3 (fun gr i wr => ∃ j : Nat, j + gr = 3 ∧ i = .int .i64 j ∧ Duo w wr p rr d4 d4 ⟨(gp, [.int .i64 x1, .int .i64 0, .int .i64 x2, .int .i64 x3, .int .i64 x4, .int .i64 x1, .int .i64 1, .int .i64 x2, .int .i64 x3, .int .i64 x4, .int .i64 u.s, .int .i64 u.o, .int .i64 u.l, .int .i64 u.p, .int .i64 u.m]) :: (fq, [.int .i64 x1, .int .i64 1, .int .i64 x2, .int .i64 x3, .int .i64 x4]) :: (fa, [.int .i64 x1, .int .i64 0, .int .i64 x2, .int .i64 x3, .int .i64 x4]) :: (fc, [.int .i64 cf.b, .int .i64 cf.s, .int .i64 cf.l]) :: (fu, [.int .i64 u.s, .int .i64 u.o, .int .i64 u.l, .int .i64 u.p, .int .i64 u.m]) :: (fz, [.int .i64 z0, .int .i64 z1, .int .i64 z2]) :: [], [], (fun W => GeoAt W gb cf.b cf.s cf.l) :: (fun W => Prts W A n c l ss) :: []⟩)
  case atStart => exact ⟨0, by omega, rfl, HDc.out⟩
  clear HDc
  obtain ⟨j, hj, rfl, hd⟩ := hrel
  have HD := hH hd
  clear hd
  by_cases hlt : j < 3
  ·as_aux_lemma =>
    have hj3 : (j : Int) < 3 := by omega
    have hpc := pos_cells (a := (⟨x1, 0, x2, x3, x4⟩ : Ps)) (q := (⟨x1, 1, x2, x3, x4⟩ : Ps)) (p := u) (HD.out.box (x := (gp, [.int .i64 x1, .int .i64 0, .int .i64 x2, .int .i64 x3, .int .i64 x4, .int .i64 x1, .int .i64 1, .int .i64 x2, .int .i64 x3, .int .i64 x4, .int .i64 u.s, .int .i64 u.o, .int .i64 u.l, .int .i64 u.p, .int .i64 u.m])) (by simp)) hlt
    obtain ⟨pl, hpl⟩ : ∃ z, plc (⟨x1, 0, x2, x3, x4⟩ : Ps) (⟨x1, 1, x2, x3, x4⟩ : Ps) u j = z := ⟨_, rfl⟩
    rw [hpl] at hpc
    have HPC : Hid (∀ W : World, Kn.Own W gp [.int .i64 x1, .int .i64 0, .int .i64 x2, .int .i64 x3, .int .i64 x4, .int .i64 x1, .int .i64 1, .int .i64 x2, .int .i64 x3, .int .i64 x4, .int .i64 u.s, .int .i64 u.o, .int .i64 u.l, .int .i64 u.p, .int .i64 u.m] → W.cell? ⟨gp, j * 5, none⟩ = some (.int .i64 pl.s) ∧ W.cell? ⟨gp, j * 5 + 1, none⟩ = some (.int .i64 pl.o) ∧ W.cell? ⟨gp, j * 5 + 2, none⟩ = some (.int .i64 pl.l) ∧ W.cell? ⟨gp, j * 5 + 3, none⟩ = some (.int .i64 pl.p) ∧ W.cell? ⟨gp, j * 5 + 4, none⟩ = some (.int .i64 pl.m)) := hH (fun W h => hpl ▸ pos_cells (a := (⟨x1, 0, x2, x3, x4⟩ : Ps)) (q := (⟨x1, 1, x2, x3, x4⟩ : Ps)) (p := u) h hlt)
    obtain ⟨q0, q1, q2, q3, q4⟩ := hpc
    clear hpl
    go_wp2_with fail
    refine (duo_chnew HD.out gb pl).mono ?_
    rintro en w5 ⟨C, rfl, hd⟩
    have HE := hH hd
    clear hd HD q0 q1 q2 q3 q4
    obtain ⟨X1, X2, X3, hX⟩ : ∃ X1 X2 X3, chainR d4 cf pl = (X1, X2, X3) := ⟨_, _, _, rfl⟩
    have HX := hH hX
    have HX65 : Hid (X1.length ≤ 99) := hH (by have h := told_le (d := d4) (c := cf) ((2147483648 - pl.l).toNat + 1) pl; have h2 := HCN.out; unfold chainR at hX; rw [hX] at h; simp only at h; omega)
    clear hX
    go_wp2_with fail
    have HE1 := hH HE.out.drew
    clear HE
    refine wp_region_held_drew (S := (fun w' => w'.cell? ⟨gp, j * 5, none⟩ = some (.int .i64 pl.s) ∧ w'.cell? ⟨gp, j * 5 + 1, none⟩ = some (.int .i64 pl.o) ∧ w'.cell? ⟨gp, j * 5 + 2, none⟩ = some (.int .i64 pl.l) ∧ w'.cell? ⟨gp, j * 5 + 3, none⟩ = some (.int .i64 pl.p) ∧ w'.cell? ⟨gp, j * 5 + 4, none⟩ = some (.int .i64 pl.m))) (by kernel_rfl) (HPC.out _ (HE1.out.box (x := (gp, [.int .i64 x1, .int .i64 0, .int .i64 x2, .int .i64 x3, .int .i64 x4, .int .i64 x1, .int .i64 1, .int .i64 x2, .int .i64 x3, .int .i64 x4, .int .i64 u.s, .int .i64 u.o, .int .i64 u.l, .int .i64 u.p, .int .i64 u.m])) (by simp))) (fun hSw0 => ?_)
    generalize w5.drew = wz at *
    refine tS 0 147 ?_
    refine tS 1 148 ?_
    refine tS 2 149 ?_
    refine tS 3 150 ?_
    refine tS 5 152 ?_
    refine tS 6 153 ?_
    refine tS 7 154 ?_
    refine tS 8 155 (v := (.agg #[.int .i64 pl.s, .int .i64 pl.o, .int .i64 pl.l, .int .i64 pl.p, .int .i64 pl.m])) (hy := fun w hSw => by
     obtain ⟨q0, q1, q2, q3, q4⟩ := hSw
     go_simp) ?_
    refine tR 4 151 fun K hK => ?_
    go_simp
    refine (duo_chend HE1.out (C := C) (gb := gb) (q := pl) (en := pl) (er := 0) (by simp)).mono ?_
    rintro en wb ⟨rfl, hO⟩
    have HE2 := hH (HE1.out.keep0 hO)
    clear hO HE1
    refine hK.out _ _ (HPC.out _ (HE2.out.box (x := (gp, [.int .i64 x1, .int .i64 0, .int .i64 x2, .int .i64 x3, .int .i64 x4, .int .i64 x1, .int .i64 1, .int .i64 x2, .int .i64 x3, .int .i64 x4, .int .i64 u.s, .int .i64 u.o, .int .i64 u.l, .int .i64 u.p, .int .i64 u.m])) (by simp))) (fun hSn => ?_)
    clear hK K hSw0
    have hSw0 := hSn
    clear hSn
    refine tS 9 156 ?_
    refine tS 10 157 ?_
    refine tS 11 158 ?_
    refine tS 12 159 ?_
    refine tR 13 160 fun K hK => ?_
    go_simp
    refine (duo_cherr HE2.out (C := C) (gb := gb) (q := pl) (en := pl) (er := 0) (by simp)).mono ?_
    rintro en wd ⟨rfl, rfl⟩
    refine hK.out _ _ (HPC.out _ (HE2.out.box (x := (gp, [.int .i64 x1, .int .i64 0, .int .i64 x2, .int .i64 x3, .int .i64 x4, .int .i64 x1, .int .i64 1, .int .i64 x2, .int .i64 x3, .int .i64 x4, .int .i64 u.s, .int .i64 u.o, .int .i64 u.l, .int .i64 u.p, .int .i64 u.m])) (by simp))) (fun hSn => ?_)
    clear hK K hSw0
    have hSw0 := hSn
    clear hSn
    refine tS 14 161 ?_
    refine tS 15 162 ?_
    refine tD ?_ _
    clear hSw0
    go_upto_region 29 with (fail)
    go_cut [25, 26, 27] (fun s25 s26 s27 wy => ∃ (ff m : Nat) (ys : List Fnd) (B : Option Addr) (k : Nat) (fs : List (World → Prop)), s25 = .slice B m k ∧ s26 = .pointer (some ⟨ff, 0, none⟩) ∧ s27 = .int .i64 X3 ∧ ys.length = m ∧ ys.map Fnd.pr = X1 ∧ (∀ y ∈ ys, y.fct ∈ fs) ∧ Duo w wy p rr d4 d4 ⟨(ff, [.int .i64 X2.s, .int .i64 X2.o, .int .i64 X2.l, .int .i64 X2.p, .int .i64 X2.m]) :: (C, CB p.D gb pl pl 0) :: (gp, [.int .i64 x1, .int .i64 0, .int .i64 x2, .int .i64 x3, .int .i64 x4, .int .i64 x1, .int .i64 1, .int .i64 x2, .int .i64 x3, .int .i64 x4, .int .i64 u.s, .int .i64 u.o, .int .i64 u.l, .int .i64 u.p, .int .i64 u.m]) :: (fq, [.int .i64 x1, .int .i64 1, .int .i64 x2, .int .i64 x3, .int .i64 x4]) :: (fa, [.int .i64 x1, .int .i64 0, .int .i64 x2, .int .i64 x3, .int .i64 x4]) :: (fc, [.int .i64 cf.b, .int .i64 cf.s, .int .i64 cf.l]) :: (fu, [.int .i64 u.s, .int .i64 u.o, .int .i64 u.l, .int .i64 u.p, .int .i64 u.m]) :: (fz, [.int .i64 z0, .int .i64 z1, .int .i64 z2]) :: [], [⟨183, 10, .slice B m k, m, rfndV ys⟩], fs ++ (fun W => GeoAt W gb cf.b cf.s cf.l) :: (fun W => Prts W A n c l ss) :: []⟩)
    case first =>
     as_aux_lemma =>
      have HG := hH HE2.out.drew
      clear HE2
      refine wp_region_held_drew (S := (fun w' => (w'.cell? ⟨gp, j * 5, none⟩ = some (.int .i64 pl.s) ∧ w'.cell? ⟨gp, j * 5 + 1, none⟩ = some (.int .i64 pl.o) ∧ w'.cell? ⟨gp, j * 5 + 2, none⟩ = some (.int .i64 pl.l) ∧ w'.cell? ⟨gp, j * 5 + 3, none⟩ = some (.int .i64 pl.p) ∧ w'.cell? ⟨gp, j * 5 + 4, none⟩ = some (.int .i64 pl.m)) ∧ Kn.Own w' fc [.int .i64 cf.b, .int .i64 cf.s, .int .i64 cf.l])) (by kernel_rfl) ⟨HPC.out _ (HG.out.box (x := (gp, [.int .i64 x1, .int .i64 0, .int .i64 x2, .int .i64 x3, .int .i64 x4, .int .i64 x1, .int .i64 1, .int .i64 x2, .int .i64 x3, .int .i64 x4, .int .i64 u.s, .int .i64 u.o, .int .i64 u.l, .int .i64 u.p, .int .i64 u.m])) (by simp)), HG.out.box (x := (fc, [.int .i64 cf.b, .int .i64 cf.s, .int .i64 cf.l])) (by simp)⟩ (fun hSw0 => ?_)
      generalize wb.drew = wz2 at *
      refine tS 0 164 ?_
      refine tS 1 165 (v := (.agg #[.int .i64 cf.b, .int .i64 cf.s, .int .i64 cf.l])) (hy := fun w hSw => by
       have q0 := hSw.2
       obtain ⟨q00, q01, q02⟩ := Kn.own3 q0
       clear q0
       go_simp) ?_
      refine tS 2 166 ?_
      refine tS 3 167 ?_
      refine tS 4 168 ?_
      refine tS 5 169 (v := (.agg #[.int .i64 pl.s, .int .i64 pl.o, .int .i64 pl.l, .int .i64 pl.p, .int .i64 pl.m])) (hy := fun w hSw => by
       obtain ⟨⟨q0, q1, q2, q3, q4⟩, -⟩ := hSw
       go_simp) ?_
      refine wpAnyH_ready (rs := [6, 11]) (by kernel_rfl) (by simp) ?_
      refine AllReadyH.cons (o := ⟨some 170, _, _, _, _, _⟩) rfl (fun K hK => ?_) ?_
      ·go_simp
       refine (duo_rchain w _ p rr d4 d4 _ HG.out HHD.out cf HC.out pl).mono ?_
       rw [HX.out]
       rintro en wr2 ⟨ys, B, k, fs, rfl, hy, hf, hd⟩
       have HGc := hH hd
       have HYM := hH hy
       have HYF := hH hf
       clear hd hy hf HG
       refine hK.out _ _ ⟨HPC.out _ (HGc.out.box (x := (gp, [.int .i64 x1, .int .i64 0, .int .i64 x2, .int .i64 x3, .int .i64 x4, .int .i64 x1, .int .i64 1, .int .i64 x2, .int .i64 x3, .int .i64 x4, .int .i64 u.s, .int .i64 u.o, .int .i64 u.l, .int .i64 u.p, .int .i64 u.m])) (by simp)), HGc.out.box (x := (fc, [.int .i64 cf.b, .int .i64 cf.s, .int .i64 cf.l])) (by simp)⟩ (fun hSn => ?_)
       clear hK K hSw0
       have hSw0 := hSn
       clear hSn
       refine tS 7 163 ?_
       refine tS 8 171 ?_
       refine tS 9 172 ?_
       refine tS 10 173 ?_
       refine tR 11 26 fun K hK => ?_
       go_simp
       have HGca := hH (Duo.newB HGc.out #[.int .i64 0, .int .i64 0, .int .i64 0, .int .i64 0, .int .i64 0] 32 rfl)
       clear HGc
       generalize hvb : wr2.alloc (.cells #[.int .i64 0, .int .i64 0, .int .i64 0, .int .i64 0, .int .i64 0] 32) = wy2 at *
       generalize hff : (World.heap wr2).size = ff at *
       clear hvb hff
       refine hK.out _ _ ⟨HPC.out _ (HGca.out.box (x := (gp, [.int .i64 x1, .int .i64 0, .int .i64 x2, .int .i64 x3, .int .i64 x4, .int .i64 x1, .int .i64 1, .int .i64 x2, .int .i64 x3, .int .i64 x4, .int .i64 u.s, .int .i64 u.o, .int .i64 u.l, .int .i64 u.p, .int .i64 u.m])) (by simp)), HGca.out.box (x := (fc, [.int .i64 cf.b, .int .i64 cf.s, .int .i64 cf.l])) (by simp)⟩ (fun hSn => ?_)
       clear hK K hSw0
       have hSw0 := hSn
       clear hSn
       refine tS 12 25 ?_
       refine Kn.takeR 13 ⟨none, _, _, _, _, _⟩ fun K hK => ?_
       refine step_store_own rfl 32 (.tmp 26) (.tmp 172) rfl ff [.int .i64 0, .int .i64 0, .int .i64 0, .int .i64 0, .int .i64 0] [.int .i64 X2.s, .int .i64 X2.o, .int .i64 X2.l, .int .i64 X2.p, .int .i64 X2.m] (by kernel_rfl) rfl rfl (HGca.out.box (x := (ff, [.int .i64 0, .int .i64 0, .int .i64 0, .int .i64 0, .int .i64 0])) (by simp)) rfl (by intro v hv; simp at hv; rcases hv with rfl | rfl | rfl | rfl | rfl <;> rfl) ?_
       intro wc2 ho9 hO9
       have HGcas := hH (HGca.out.head ho9 hO9)
       clear ho9 hO9 HGca
       refine hK.out _ _ ⟨HPC.out _ (HGcas.out.box (x := (gp, [.int .i64 x1, .int .i64 0, .int .i64 x2, .int .i64 x3, .int .i64 x4, .int .i64 x1, .int .i64 1, .int .i64 x2, .int .i64 x3, .int .i64 x4, .int .i64 u.s, .int .i64 u.o, .int .i64 u.l, .int .i64 u.p, .int .i64 u.m])) (by simp)), HGcas.out.box (x := (fc, [.int .i64 cf.b, .int .i64 cf.s, .int .i64 cf.l])) (by simp)⟩ (fun hSn => ?_)
       clear hK K hSw0
       have hSw0 := hSn
       clear hSn
       refine tS 14 27 ?_
       refine tD ?_ _
       clear hSw0
       go_wp2
       go_meet
       case rel => exact ⟨ff, ys.length, ys, B, k, fs, rfl, rfl, rfl, rfl, HYM.out, HYF.out, HGcas.out⟩
      refine AllReadyH.cons (o := ⟨some 26, _, _, _, _, _⟩) rfl (fun K hK => ?_) ?_
      ·go_simp
       have HGa := hH (Duo.newB HG.out #[.int .i64 0, .int .i64 0, .int .i64 0, .int .i64 0, .int .i64 0] 32 rfl)
       clear HG
       generalize hvb : wz2.alloc (.cells #[.int .i64 0, .int .i64 0, .int .i64 0, .int .i64 0, .int .i64 0] 32) = wy2 at *
       generalize hff : (World.heap wz2).size = ff at *
       clear hvb hff
       refine hK.out _ _ ⟨HPC.out _ (HGa.out.box (x := (gp, [.int .i64 x1, .int .i64 0, .int .i64 x2, .int .i64 x3, .int .i64 x4, .int .i64 x1, .int .i64 1, .int .i64 x2, .int .i64 x3, .int .i64 x4, .int .i64 u.s, .int .i64 u.o, .int .i64 u.l, .int .i64 u.p, .int .i64 u.m])) (by simp)), HGa.out.box (x := (fc, [.int .i64 cf.b, .int .i64 cf.s, .int .i64 cf.l])) (by simp)⟩ (fun hSn => ?_)
       clear hK K hSw0
       have hSw0 := hSn
       clear hSn
       refine tR 6 170 fun K hK => ?_
       go_simp
       refine (duo_rchain w _ p rr d4 d4 _ HGa.out HHD.out cf HC.out pl).mono ?_
       rw [HX.out]
       rintro en wr2 ⟨ys, B, k, fs, rfl, hy, hf, hd⟩
       have HGac := hH hd
       have HYM := hH hy
       have HYF := hH hf
       clear hd hy hf HGa
       refine hK.out _ _ ⟨HPC.out _ (HGac.out.box (x := (gp, [.int .i64 x1, .int .i64 0, .int .i64 x2, .int .i64 x3, .int .i64 x4, .int .i64 x1, .int .i64 1, .int .i64 x2, .int .i64 x3, .int .i64 x4, .int .i64 u.s, .int .i64 u.o, .int .i64 u.l, .int .i64 u.p, .int .i64 u.m])) (by simp)), HGac.out.box (x := (fc, [.int .i64 cf.b, .int .i64 cf.s, .int .i64 cf.l])) (by simp)⟩ (fun hSn => ?_)
       clear hK K hSw0
       have hSw0 := hSn
       clear hSn
       refine tS 7 163 ?_
       refine tS 8 171 ?_
       refine tS 9 172 ?_
       refine tS 10 173 ?_
       refine tS 12 25 ?_
       refine Kn.takeR 13 ⟨none, _, _, _, _, _⟩ fun K hK => ?_
       refine step_store_own rfl 32 (.tmp 26) (.tmp 172) rfl ff [.int .i64 0, .int .i64 0, .int .i64 0, .int .i64 0, .int .i64 0] [.int .i64 X2.s, .int .i64 X2.o, .int .i64 X2.l, .int .i64 X2.p, .int .i64 X2.m] (by kernel_rfl) rfl rfl (HGac.out.box (x := (ff, [.int .i64 0, .int .i64 0, .int .i64 0, .int .i64 0, .int .i64 0])) (by simp)) rfl (by intro v hv; simp at hv; rcases hv with rfl | rfl | rfl | rfl | rfl <;> rfl) ?_
       intro wc2 ho9 hO9
       have HGacs := hH (HGac.out.head ho9 hO9)
       clear ho9 hO9 HGac
       refine hK.out _ _ ⟨HPC.out _ (HGacs.out.box (x := (gp, [.int .i64 x1, .int .i64 0, .int .i64 x2, .int .i64 x3, .int .i64 x4, .int .i64 x1, .int .i64 1, .int .i64 x2, .int .i64 x3, .int .i64 x4, .int .i64 u.s, .int .i64 u.o, .int .i64 u.l, .int .i64 u.p, .int .i64 u.m])) (by simp)), HGacs.out.box (x := (fc, [.int .i64 cf.b, .int .i64 cf.s, .int .i64 cf.l])) (by simp)⟩ (fun hSn => ?_)
       clear hK K hSw0
       have hSw0 := hSn
       clear hSn
       refine tS 14 27 ?_
       refine tD ?_ _
       clear hSw0
       go_wp2
       go_meet
       case rel => exact ⟨ff, ys.length, ys, B, k, fs, rfl, rfl, rfl, rfl, HYM.out, HYF.out, HGacs.out⟩
      exact AllReadyH.nil
    obtain ⟨ff, m, ys, B, k, fs, rfl, rfl, rfl, hyl, hy, hf, hd⟩ := hcut
    have HM := hH hd
    have HYM := hH hy
    have HYF := hH hf
    have HYL := hH hyl
    clear hd hy hf hyl HE2 HPC
    go_upto_region 30 with (fail)
    have HN := hH HM.out.drew
    clear HM
    refine wp_region_held_drew (S := (fun w' => Kn.Own w' ff [.int .i64 X2.s, .int .i64 X2.o, .int .i64 X2.l, .int .i64 X2.p, .int .i64 X2.m])) (by kernel_rfl) (HN.out.box (x := (ff, [.int .i64 X2.s, .int .i64 X2.o, .int .i64 X2.l, .int .i64 X2.p, .int .i64 X2.m])) (by simp)) (fun hSw0 => ?_)
    generalize wc.drew = wm at *
    refine tS 0 174 ?_
    refine tS 2 176 ?_
    refine tR 1 175 fun K hK => ?_
    go_simp
    have hmv := Duo.permL HN.out (List.Perm.swap _ _ _)
    refine (duo_walk14 (cf := cf) hmv (by simp) HC.out 99 (by rw [HX.out]; exact HX65.out) (by decide)).mono ?_
    clear hmv
    rw [HX.out]
    rintro en wa ⟨xs, A2, k2, gs, rfl, hx, hf, hd⟩
    have hxl : xs.length = m := by have h1 := congrArg List.length hx; have h2 := congrArg List.length HYM.out; simp only [List.length_map] at h1 h2; rw [h1, ← h2]; exact HYL.out
    rw [hxl] at hd ⊢
    have HXL2 := hH hxl
    have HM1 := hH ((Duo.permL hd (List.Perm.swap _ _ _)).goutN.goutN)
    have HXF := hH hf
    have HXM := hH hx
    clear hd hx hf hxl HN
    refine hK.out _ _ (HM1.out.box (x := (ff, [.int .i64 X2.s, .int .i64 X2.o, .int .i64 X2.l, .int .i64 X2.p, .int .i64 X2.m])) (by simp)) (fun hSn => ?_)
    clear hK K hSw0
    have hSw0 := hSn
    clear hSn
    refine tR 3 177 fun K hK => ?_
    go_simp
    obtain ⟨L9, G9, F9, hw9, -⟩ := HM1.out.fr
    refine (same14_eq A2 B m k2 k xs ys _ _ _ _ _ hw9 (by simp) (by simp) (fun y hy => List.mem_append_left _ (mc _ (mc _ (List.mem_append_left _ (HXF.out y hy))))) (fun y hy => List.mem_append_left _ (mc _ (mc _ (List.mem_append_right _ (List.mem_append_left _ (HYF.out y hy)))))) HXL2.out (HXM.out.trans HYM.out.symm)).mono ?_
    rintro en wb ⟨rfl, hO⟩
    have HM2 := hH (HM1.out.keep0 hO)
    clear hO HM1 hw9
    refine hK.out _ _ (HM2.out.box (x := (ff, [.int .i64 X2.s, .int .i64 X2.o, .int .i64 X2.l, .int .i64 X2.p, .int .i64 X2.m])) (by simp)) (fun hSn => ?_)
    clear hK K hSw0
    have hSw0 := hSn
    clear hSn
    refine tS 4 178 ?_
    refine tS 5 179 ?_
    refine tS 6 180 ?_
    refine tS 8 182 (v := (.agg #[.int .i64 X2.s, .int .i64 X2.o, .int .i64 X2.l, .int .i64 X2.p, .int .i64 X2.m])) (hy := fun w hSw => by
     have q0 := hSw
     obtain ⟨q00, q01, q02, q03, q04⟩ := Kn.own5 q0
     clear q0
     go_simp) ?_
    refine tR 7 181 fun K hK => ?_
    go_simp
    refine (duo_chend HM2.out (C := C) (gb := gb) (q := pl) (en := X2) (er := X3) (by simp)).mono ?_
    rintro en wd ⟨rfl, hO⟩
    have HM3 := hH (HM2.out.keep0 hO)
    clear hO HM2
    refine hK.out _ _ (HM3.out.box (x := (ff, [.int .i64 X2.s, .int .i64 X2.o, .int .i64 X2.l, .int .i64 X2.p, .int .i64 X2.m])) (by simp)) (fun hSn => ?_)
    clear hK K hSw0
    have hSw0 := hSn
    clear hSn
    refine tS 9 183 ?_
    refine tS 10 184 ?_
    refine tS 11 185 ?_
    refine tS 12 186 ?_
    refine tS 14 188 ?_
    refine tR 13 187 fun K hK => ?_
    go_simp
    refine (duo_cherr HM3.out (C := C) (gb := gb) (q := pl) (en := X2) (er := X3) (by simp)).mono ?_
    rintro en we ⟨rfl, rfl⟩
    refine hK.out _ _ (HM3.out.box (x := (ff, [.int .i64 X2.s, .int .i64 X2.o, .int .i64 X2.l, .int .i64 X2.p, .int .i64 X2.m])) (by simp)) (fun hSn => ?_)
    clear hK K hSw0
    have hSw0 := hSn
    clear hSn
    refine tS 15 189 ?_
    refine tS 16 190 ?_
    refine tD ?_ _
    clear hSw0
    go_wp2
    go_roundg (gk - 1)
    case measure => omega
    case rel => exact ⟨j + 1, by omega, by go_num, HM3.out.sub (.cons _ (.cons _ (List.Sublist.refl _))) (List.nil_sublist _) (fun f hf => by simp only [List.mem_cons, List.mem_append]; exact .inr (.inr (.inr (.inr (by simpa using hf)))))⟩
  as_aux_lemma =>
   obtain rfl : j = 3 := by omega
   clear hlt hj
   go_wp2_with fail
   refine (awake14_any _).mono ?_
   rintro en w9 ⟨rfl, hO⟩
   have HO := hH (HD.out.only.trans' hO)
   clear hO HD
   go_wp2_with fail
   refine bodyPost_ret (v := .bool true) (by kernel_rfl) rfl ⟨rfl, HO.out⟩
end Go.Proofs.YtgcfdjcpcclcjaaGreat.chainPlays
namespace Go.Proofs.YtgcfdjcpcclcjaaGreat
open Go.ChangeShapes Go.WideShapes Go.ChangeAt Go.RowKit Go.Kn Go.Deep
variable {H : Type} {enc : TypeId × Value → H}
theorem okWide_array {P : Program} {w : World} {r : Reach} {b0 : Nat} {t e : TypeId} {n : Nat} {v : Value} (ht : P.underlying t = some (.array n e)) (h : Value.okWide P w r b0 t v) : ∃ cs, v = .agg cs ∧ cs.size = P.cellsOf t := by
 simp only [Value.okWide, ht] at h
 obtain ⟨cs, h1, h2, _⟩ := h
 exact ⟨cs, h1, h2⟩
theorem open_pos {w : World} {base : Nat} {spare : Nat → Bool} {held : Bool} {v : Value} {d : DataW H} {p : List MemPlace} (hok : ∃ cs, v = .agg cs ∧ cs.size = Tryz.prog.cellsOf 32)
  (h : DataW.Trod enc Tryz.prog w base spare held 32 v d p) : ∃ z0 z1 z2 z3 z4 : Int, v = .agg #[.int .i64 z0, .int .i64 z1, .int .i64 z2, .int .i64 z3, .int .i64 z4] ∧ (Lit.int .i64 z0).wf = true ∧ (Lit.int .i64 z1).wf = true ∧ (Lit.int .i64 z2).wf = true ∧ (Lit.int .i64 z3).wf = true ∧ (Lit.int .i64 z4).wf = true := by
 obtain ⟨cs, rfl, hs⟩ := hok
 have hC : Tryz.prog.cellsOf 32 = 5 := by kernel_rfl
 rw [hC] at hs
 obtain ⟨c0, c1, c2, c3, c4, rfl⟩ : ∃ c0 c1 c2 c3 c4, cs = #[c0, c1, c2, c3, c4] := by
  match cs, hs with
  | ⟨[c0, c1, c2, c3, c4]⟩, _ => exact ⟨c0, c1, c2, c3, c4, rfl⟩
 obtain ⟨fuel, hf⟩ := h
 have hf' : DataW.trod enc Tryz.prog w base spare held fuel 32 [c0, c1, c2, c3, c4] = some (d, p) := hf
 obtain ⟨xs2, n2, _, _, _, hl2, hfs2⟩ := DataW.trod_struct Tryz.underlying32 hf'
 have hm2 : xs2.length = 5 := hl2
 obtain ⟨y2_0, y2_1, y2_2, y2_3, y2_4, rfl⟩ : ∃ y2_0 y2_1 y2_2 y2_3 y2_4, xs2 = [y2_0, y2_1, y2_2, y2_3, y2_4] := by
  match xs2, hm2 with
  | [y2_0, y2_1, y2_2, y2_3, y2_4], _ => exact ⟨y2_0, y2_1, y2_2, y2_3, y2_4, rfl⟩
 have e2_0 : DataW.trod enc Tryz.prog w base spare held n2 3 (([c0, c1, c2, c3, c4].drop 0).take (Tryz.prog.cellsOf 3)) = some y2_0 := hfs2 0 _ rfl
 rw [show Tryz.prog.cellsOf 3 = 1 from by kernel_rfl] at e2_0
 simp only [List.drop_zero, List.drop_succ_cons, List.take_succ_cons, List.take_zero] at e2_0
 have e2_1 : DataW.trod enc Tryz.prog w base spare held n2 3 (([c0, c1, c2, c3, c4].drop 1).take (Tryz.prog.cellsOf 3)) = some y2_1 := hfs2 1 _ rfl
 rw [show Tryz.prog.cellsOf 3 = 1 from by kernel_rfl] at e2_1
 simp only [List.drop_zero, List.drop_succ_cons, List.take_succ_cons, List.take_zero] at e2_1
 have e2_2 : DataW.trod enc Tryz.prog w base spare held n2 3 (([c0, c1, c2, c3, c4].drop 2).take (Tryz.prog.cellsOf 3)) = some y2_2 := hfs2 2 _ rfl
 rw [show Tryz.prog.cellsOf 3 = 1 from by kernel_rfl] at e2_2
 simp only [List.drop_zero, List.drop_succ_cons, List.take_succ_cons, List.take_zero] at e2_2
 have e2_3 : DataW.trod enc Tryz.prog w base spare held n2 3 (([c0, c1, c2, c3, c4].drop 3).take (Tryz.prog.cellsOf 3)) = some y2_3 := hfs2 3 _ rfl
 rw [show Tryz.prog.cellsOf 3 = 1 from by kernel_rfl] at e2_3
 simp only [List.drop_zero, List.drop_succ_cons, List.take_succ_cons, List.take_zero] at e2_3
 have e2_4 : DataW.trod enc Tryz.prog w base spare held n2 3 (([c0, c1, c2, c3, c4].drop 4).take (Tryz.prog.cellsOf 3)) = some y2_4 := hfs2 4 _ rfl
 rw [show Tryz.prog.cellsOf 3 = 1 from by kernel_rfl] at e2_4
 simp only [List.drop_zero, List.drop_succ_cons, List.take_succ_cons, List.take_zero] at e2_4
 obtain ⟨z_c0, rfl, w_c0⟩ := open_int1 (k := .i64) Tryz.underlying3 e2_0
 obtain ⟨z_c1, rfl, w_c1⟩ := open_int1 (k := .i64) Tryz.underlying3 e2_1
 obtain ⟨z_c2, rfl, w_c2⟩ := open_int1 (k := .i64) Tryz.underlying3 e2_2
 obtain ⟨z_c3, rfl, w_c3⟩ := open_int1 (k := .i64) Tryz.underlying3 e2_3
 obtain ⟨z_c4, rfl, w_c4⟩ := open_int1 (k := .i64) Tryz.underlying3 e2_4
 exact ⟨z_c0, z_c1, z_c2, z_c3, z_c4, rfl, w_c0, w_c1, w_c2, w_c3, w_c4⟩
end Go.Proofs.YtgcfdjcpcclcjaaGreat
namespace Go.Proofs.YtgcfdjcpcclcjaaGreat
open Go.ChangeShapes Go.WideShapes Go.ChangeAt Go.RowKit Go.Kn Go.Deep
variable {H : Type} {enc : TypeId × Value → H}
theorem open_arr3 {w : World} {base : Nat} {spare : Nat → Bool} {held : Bool} {v : Value} {d : DataW H} {p : List MemPlace} (hok : ∃ cs, v = .agg cs ∧ cs.size = Tryz.prog.cellsOf 71)
  (h : DataW.Trod enc Tryz.prog w base spare held 71 v d p) : ∃ z0 z1 z2 : Int, v = .agg #[.int .i64 z0, .int .i64 z1, .int .i64 z2] ∧ (Lit.int .i64 z0).wf = true ∧ (Lit.int .i64 z1).wf = true ∧ (Lit.int .i64 z2).wf = true := by
 obtain ⟨cs, rfl, hs⟩ := hok
 have hC : Tryz.prog.cellsOf 71 = 3 := by kernel_rfl
 rw [hC] at hs
 obtain ⟨c0, c1, c2, rfl⟩ : ∃ c0 c1 c2, cs = #[c0, c1, c2] := by
  match cs, hs with
  | ⟨[c0, c1, c2]⟩, _ => exact ⟨c0, c1, c2, rfl⟩
 obtain ⟨fuel, hf⟩ := h
 have hf' : DataW.trod enc Tryz.prog w base spare held fuel 71 [c0, c1, c2] = some (d, p) := hf
 obtain ⟨y0, y1, y2, n', _, t0, t1, t2⟩ := trod_array3 Tryz.underlying71 (by kernel_rfl) hf'
 obtain ⟨z_c0, rfl, w_c0⟩ := open_int1 (k := .i64) Tryz.underlying3 t0
 obtain ⟨z_c1, rfl, w_c1⟩ := open_int1 (k := .i64) Tryz.underlying3 t1
 obtain ⟨z_c2, rfl, w_c2⟩ := open_int1 (k := .i64) Tryz.underlying3 t2
 exact ⟨z_c0, z_c1, z_c2, rfl, w_c0, w_c1, w_c2⟩
end Go.Proofs.YtgcfdjcpcclcjaaGreat
namespace Go.Kn
open Go Go.RowKit
/-- the numbers of a part of a log fit their kinds -/
structure WfP (x : PR) : Prop where
 rs : ∀ e ∈ x.recs, WfK e
 n : (Lit.int .i64 x.next).wf = true
theorem Prts.nil (w : World) : Prts w none 0 0 [] [] := ⟨rfl, rfl, Nat.le_refl _, Nat.zero_le _, fun h => absurd h (by omega), fun i h => by simp at h⟩
end Go.Kn
namespace Go.Proofs.YtgcfdjcpcclcjaaGreat
open Go.ChangeShapes Go.WideShapes Go.ChangeAt Go.RowKit Go.Kn Go.Deep
variable {H : Type} {enc : TypeId × Value → H}
theorem open_krs1 {w : World} {base : Nat} {held : Bool} {fuel : Nat} {v : Value} {x : DataW H × List MemPlace}
  (h : DataW.trod enc Tryz.prog w base (fun _ => true) held fuel 39 [v] = some x) : ∃ a len cap l ss, v = .slice a len cap ∧ Krs w a len cap l ss ∧ ∀ e ∈ l, WfK e := by
 have h0 := h
 rcases open_slice_fields Tryz.underlying39 Tryz.underlying38 (by kernel_rfl) (by kernel_rfl) h with ⟨hcs, _⟩ | ⟨b, l, c, m, hcs, _⟩
 ·simp at hcs
  subst hcs
  obtain ⟨l, ss, h1, h2⟩ := open_krs h0
  exact ⟨_, _, _, l, ss, rfl, h1, h2⟩
 simp at hcs
 subst hcs
 obtain ⟨l, ss, h1, h2⟩ := open_krs h0
 exact ⟨_, _, _, l, ss, rfl, h1, h2⟩
theorem open_bool1 {w : World} {base : Nat} {held : Bool} {spare : MemPlace → Bool} {fuel : Nat} {v : Value} {y : DataW H × List MemPlace} (h : DataW.trod enc Tryz.prog w base (fun _ => true) held fuel 4 [v] = some y) : ∃ b, v = .bool b := by
 obtain ⟨b, e0, _⟩ := DataW.trod_bool Tryz.underlying4 h
 simp at e0
 exact ⟨b, e0⟩
theorem open_prts {w : World} {base : Nat} {held : Bool} {fuel : Nat} {a : Option Addr} {len cap : Nat} {x : DataW H × List MemPlace}
  (h : DataW.trod enc Tryz.prog w base (fun _ => true) held fuel 122 [.slice a len cap] = some x) : ∃ l ss, Prts w a len cap l ss ∧ ∀ e ∈ l, WfP e := by
 rcases open_slice_fields Tryz.underlying122 Tryz.underlying203 (by kernel_rfl) (by kernel_rfl) h with ⟨hcs, _⟩ | ⟨b, l, c, m, hcs, hl, hm, hmm, hf⟩
 ·simp at hcs
  obtain ⟨rfl, rfl, rfl⟩ := hcs
  exact ⟨[], [], Prts.nil _, by simp⟩
 simp at hcs
 obtain ⟨rfl, rfl, rfl⟩ := hcs
 have hx : ∀ i, i < len → ∃ p : PR × ((Option Addr × Nat × Nat) × List (Option Addr × Nat × Nat)), (w.cell? (b.add (i * 3)) = some (slv p.2.1) ∧ w.cell? (b.add (i * 3 + 1)) = some (.int .i64 p.1.next) ∧ w.cell? (b.add (i * 3 + 2)) = some (.bool p.1.lost)) ∧
   Krs w p.2.1.1 p.2.1.2.1 p.2.1.2.2 p.1.recs p.2.2 ∧ WfP p.1 := by
  intro i hi
  obtain ⟨ys, n, hy, hj⟩ := hf i (by omega)
  obtain ⟨v0, y0, h0, t0⟩ := hj 0 _ rfl
  obtain ⟨v1, y1, h1, t1⟩ := hj 1 _ rfl
  obtain ⟨v2, y2, h2, t2⟩ := hj 2 _ rfl
  obtain ⟨B, m, d, ks, ss, rfl, w4, w5⟩ := open_krs1 t0
  obtain ⟨z1, rfl, w1⟩ := open_int1 (k := .i64) (by kernel_rfl) t1
  obtain ⟨b2, rfl⟩ := open_bool1 (spare := fun _ => true) t2
  exact ⟨(⟨ks, z1, b2⟩, ((B, m, d), ss)), ⟨h0, h1, h2⟩, w4, w5, w1⟩
 obtain ⟨L, hL, hp⟩ := list_of hx
 refine ⟨L.map (·.1), L.map (·.2), ⟨by simpa using hL, by simpa using hL, hl, hm, fun hn => ?_, fun i h1 h2 => ?_⟩, fun e he => ?_⟩
 ·have h00 := (hp 0 (by omega)).1.1
  have hz : ∃ u, w.cell? (b.add 0) = some u := ⟨_, by simpa using h00⟩
  have hb := add_none (i := 0) (by simpa using h00) hz
  have hb' : b = ⟨b.block, b.off, none⟩ := by
   have := hb
   unfold Addr.add at this
   simpa using this
  refine ⟨b.block, b.off, by rw [← hb'], fun i hi hi2 => ?_⟩
  obtain ⟨⟨p0, p1, p2⟩, _⟩ := hp i (by simpa using hi)
  rw [add_none p0 hz] at p0
  rw [add_none p1 hz] at p1
  rw [add_none p2 hz] at p2
  simp only [List.getElem_map]
  exact ⟨p0, p1, p2⟩
 ·simpa using (hp i (by simpa using h1)).2.1
 obtain ⟨p, hpm, rfl⟩ := List.mem_map.1 he
 obtain ⟨i, hi, rfl⟩ := List.getElem_of_mem hpm
 exact (hp i hi).2.2
end Go.Proofs.YtgcfdjcpcclcjaaGreat
