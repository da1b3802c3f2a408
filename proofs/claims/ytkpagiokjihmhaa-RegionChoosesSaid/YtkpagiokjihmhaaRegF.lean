
/- Contract of region.Encode. Printed by mkregenc2.py. -/
import Derived.Test.YtkpagiokjihmhaaRegE
set_option linter.unusedVariables false
set_option linter.unusedSimpArgs false
namespace Go.Kn
open Go Go.RowKit
theorem rgNums_eq (r : Rg) : rgNums r = [(1, 75), (1, 67), (4, r.g), (4, r.v), (1, r.m), (4, r.e), (4, r.s), (4, r.d), (1, r.ps), (1, r.po), (4, r.pl), (4, r.pp), (4, r.pm)] ++ [(bitsN r.base : Int), (bitsN r.over : Int)].map fun z => (1, z) := rfl
theorem encRg_no {b s l : Int} {r : Rg} (h : rgMay b s l r = false) : encRg b s l r = none := by unfold encRg; rw [if_neg (by rw [h]; simp)]
theorem encRg_yes {b s l : Int} {r : Rg} (h : rgMay b s l r = true) : encRg b s l r = some (rgBytes s r) := by unfold encRg; rw [if_pos h]
theorem rgBytes_length {b s l : Int} {r : Rg} (hc : CfOk b s l) (h : rgMay b s l r = true) : (rgBytes s r).length = 64 * rlN s := by
  obtain ⟨_, h2, _, h4⟩ := rlN_eq hc
  have h5 := (rgMay_parts h).2.2.2.2.1
  have hw : wid (rgNums r ++ usNums r.segs) = 39 + 5 * r.segs.length := by rw [wid_append, usNums_wid]; rfl
  have hl : (lay (List.replicate (rgT s) (0 : UInt8)) 0 (cat (rgNums r ++ usNums r.segs))).length = 64 * rlN s := by
    rw [lay_length _ _ _ (by rw [cat_length, hw, List.length_replicate]; unfold rgT; omega), List.length_replicate]
    rfl
  unfold rgBytes
  rw [lay_length _ _ _ (by rw [hl, le_length]; unfold rgT; omega), hl]
theorem us_laid {a : List (Nat × Int)} {us : List (Int × Int)} {j : Nat} (h : j < us.length) : ((a ++ usNums (us.take j)) ++ ([us[j].1].map fun z => (1, z))) ++ ([us[j].2].map fun z => (4, z)) = a ++ usNums (us.take (j + 1)) := by
  rw [List.take_succ_eq_append_getElem h, usNums_snoc]
  simp [List.append_assoc]
end Go.Kn
namespace Go.Proofs.Ytkpagiokjihmhaa
open Go Go.RowKit Go.Kn

set_option maxRecDepth 100000 in
set_option maxHeartbeats 16000000 in
theorem region_enc_own (p : Nat) (b s l : Int) (g v m e sq d ps po pl pp pm : Int) (bA : Option Addr) (bn bc : Nat) (base : List Int) (oA : Option Addr) (on oc : Nat) (over : List Int) (sA : Option Addr) (sn sc : Nat) (segs : List (Int × Int)) (w : World)
    (hg : GeoAt w p b s l) (hc : CfOk b s l) (hr : RgAt w ⟨g, v, m, e, sq, d, ps, po, pl, pp, pm, base, over, segs⟩ (bA, bn, bc) (oA, on, oc) (sA, sn, sc)) :
    Calls Try.prog 19 #[.pointer (some ⟨p, 0, none⟩), .agg #[.int .i64 g, .int .i64 v, .int .i64 m, .int .i64 e, .int .i64 sq, .int .i64 d, .int .i64 ps, .int .i64 po, .int .i64 pl, .int .i64 pp, .int .i64 pm, .slice bA bn bc, .slice oA on oc, .slice sA sn sc]] w (EncOwn w (encRg b s l ⟨g, v, m, e, sq, d, ps, po, pl, pp, pm, base, over, segs⟩)) := by
  have hsl := hr.segs.len
  have hscm := hr.segs.cm
  have hscl := hr.segs.le
  dsimp only at hsl hscm hscl
  unfold maxLen at hscm
  have HSL := Lib.hid hsl
  have HR := Lib.hid hr
  have HG := Lib.hid hg
  have HC := Lib.hid hc
  obtain ⟨q, hq⟩ : ∃ x, rgMay b s l ⟨g, v, m, e, sq, d, ps, po, pl, pp, pm, base, over, segs⟩ = x := ⟨_, rfl⟩
  have HKM : Hid (∀ W : World, Only [] w W → Calls Try.prog 66 #[.pointer (some ⟨p, 0, none⟩), .agg #[.int .i64 g, .int .i64 v, .int .i64 m, .int .i64 e, .int .i64 sq, .int .i64 d, .int .i64 ps, .int .i64 po, .int .i64 pl, .int .i64 pp, .int .i64 pm, .slice bA bn bc, .slice oA on oc, .slice sA sn sc]] W fun en w' => en = .returned (.bool q) ∧ Only [] W w') := Lib.hid fun W hW => by
    have h := region_may_any p b s l g v m e sq d ps po pl pp pm bA bn bc base oA on oc over sA sn sc segs W (hg.keep0 hW) hc (hr.keep0 hW)
    rw [hq] at h
    exact h
  have HQ := Lib.hid hq
  clear hr hg hsl hq hc
  have hW0 := (Only.refl [] w).alloc (.cells #[.int .i64 g, .int .i64 v, .int .i64 m, .int .i64 e, .int .i64 sq, .int .i64 d, .int .i64 ps, .int .i64 po, .int .i64 pl, .int .i64 pp, .int .i64 pm, .slice bA bn bc, .slice oA on oc, .slice sA sn sc] 52)
  have hB0 := Own.new w #[.int .i64 g, .int .i64 v, .int .i64 m, .int .i64 e, .int .i64 sq, .int .i64 d, .int .i64 ps, .int .i64 po, .int .i64 pl, .int .i64 pp, .int .i64 pm, .slice bA bn bc, .slice oA on oc, .slice sA sn sc] 52
  cases q
  · go_enter Try.func19, Try.ntmps19
    go_wp2_with fail
    refine (HKM.out _ hW0).mono ?_
    rintro en w1 ⟨rfl, hO1⟩
    have HO1 := Lib.hid (hW0.trans' hO1)
    clear hW0 hB0 hO1
    go_wp2
    go_ret2
    exact EncOwn.no (encRg_no HQ.out) HO1.out
  · obtain ⟨p1, p2, p3, p4, p5, p6⟩ := rgMay_parts HQ.out
    obtain ⟨n1, n2, n3, n4, n5, n6⟩ := numOk_parts p1
    obtain ⟨o1, o2, o3, o4, o5⟩ := posMay_parts p2
    obtain ⟨s1, s2⟩ := slotsOk_parts p3
    obtain ⟨s3, s4⟩ := slotsOk_parts p4
    dsimp only at n1 n2 n3 n4 n5 n6 o1 o2 o3 o4 o5 s1 s2 s3 s4 p5 p6
    have hpg := pgs_bounds HC.out
    have hcf := HC.out
    unfold CfOk at hcf
    have hbn : bn = base.length := by have := HR.out.base.len; rw [ivs_length] at this; exact this.symm
    have hon : on = over.length := by have := HR.out.over.len; rw [ivs_length] at this; exact this.symm
    have hbb := bitsN_lt base s2
    have hbo := bitsN_lt over s4
    have hb5 : 2 ^ base.length ≤ 2 ^ 5 := Nat.pow_le_pow_right (by omega) (by omega)
    have ho5 : 2 ^ over.length ≤ 2 ^ 5 := Nat.pow_le_pow_right (by omega) (by omega)
    have HKB : Hid (∀ W : World, Only [] w W → Calls Try.prog 68 #[.slice bA bn bc] W fun en w' => en = .returned (.int .i64 (bitsN base : Nat)) ∧ w' = W) := Lib.hid fun W hW => region_bits_any bA bn bc base W (HR.out.base.keep0 hW) (by omega) s2
    have HKO : Hid (∀ W : World, Only [] w W → Calls Try.prog 68 #[.slice oA on oc] W fun en w' => en = .returned (.int .i64 (bitsN over : Nat)) ∧ w' = W) := Lib.hid fun W hW => region_bits_any oA on oc over W (HR.out.over.keep0 hW) (by omega) s4
    obtain ⟨r1, r2, r3, r4⟩ := rlN_eq HC.out
    have hsn : (sn : Int) = s := by have h1 := HSL.out; omega
    have HENC : Hid (encRg b s l ⟨g, v, m, e, sq, d, ps, po, pl, pp, pm, base, over, segs⟩ = some (rgBytes s ⟨g, v, m, e, sq, d, ps, po, pl, pp, pm, base, over, segs⟩)) := Lib.hid (encRg_yes HQ.out)
    have HEL := Lib.hid (rgBytes_length HC.out HQ.out)
    have hbytes : rgBytes s ⟨g, v, m, e, sq, d, ps, po, pl, pp, pm, base, over, segs⟩ = lay (lay (List.replicate (64 * rlN s) 0) 0 (cat (rgNums ⟨g, v, m, e, sq, d, ps, po, pl, pp, pm, base, over, segs⟩ ++ usNums segs))) (64 * rlN s - 4) (le 4 (csum ((lay (List.replicate (64 * rlN s) 0) 0 (cat (rgNums ⟨g, v, m, e, sq, d, ps, po, pl, pp, pm, base, over, segs⟩ ++ usNums segs))).take (64 * rlN s - 4)))) := rfl
    obtain ⟨L, hL⟩ : ∃ L, rlN s = L := ⟨_, rfl⟩
    rw [hL] at r1 r2 r3 r4 HEL hbytes
    have HBY := Lib.hid hbytes
    have HKL : Hid (∀ W : World, Only [] w W → Calls Try.prog 67 #[.pointer (some ⟨p, 0, none⟩)] W fun en w' => en = .returned (.int .i64 (L : Int)) ∧ w' = W) := Lib.hid fun W hW => by
      have h := geom_rlen_any p b s l W (HG.out.keep0 hW) HC.out
      rw [r1] at h
      exact h.mono fun en w' h => ⟨h.1, h.2.symm⟩
    have HSO := Lib.hid p6
    have hroom : 39 + 5 * sn + 4 ≤ 64 * L := by omega
    have hwl := IntWalk.i64_in (64 * (L : Int)) (by omega)
    have HF0 : Hid (Fit 1 [75, 67]) := Lib.hid (by decide)
    have HF1 : Hid (Fit 4 [g, v]) := Lib.hid (by simp only [fit_cons, fit_nil, Int.reducePow, and_true]; omega)
    have HF2 : Hid (Fit 1 [m]) := Lib.hid (by simp only [fit_cons, fit_nil, Int.reducePow, and_true]; omega)
    have HF3 : Hid (Fit 4 [e, sq, d]) := Lib.hid (by simp only [fit_cons, fit_nil, Int.reducePow, and_true]; omega)
    have HF4 : Hid (Fit 1 [ps, po]) := Lib.hid (by simp only [fit_cons, fit_nil, Int.reducePow, and_true]; omega)
    have HF5 : Hid (Fit 4 [pl, pp, pm]) := Lib.hid (by simp only [fit_cons, fit_nil, Int.reducePow, and_true]; omega)
    have HF6 : Hid (Fit 1 [(bitsN base : Int), (bitsN over : Int)]) := Lib.hid (by simp only [fit_cons, fit_nil, Int.reducePow, and_true]; omega)
    clear p1 p2 p3 p4 p6 n1 n2 n3 n4 n5 n6 o1 o2 o3 o4 o5 s1 s2 s3 s4 p5 hpg hcf hbn hon hbb hbo hb5 ho5 r1 r4 hL hbytes hsn
    go_enter Try.func19, Try.ntmps19
    go_wp2_with fail
    refine (HKM.out _ hW0).mono ?_
    rintro en w1 ⟨rfl, hO1⟩
    have HO1 := Lib.hid (hW0.trans' hO1)
    have HB1 := Lib.hid (hB0.keep0 hO1)
    clear hW0 hB0 hO1
    go_wp2_with fail
    refine (HKL.out _ HO1.out).mono ?_
    rintro en w1' ⟨rfl, rfl⟩
    go_wp2_with fail
    refine (new_any (64 * (L : Int)) _ (by omega) (by omega)).mono ?_
    rintro en w2 ⟨pr, gr, rfl, hp, hgr, hr1, hO1⟩
    have hzr : List.replicate (64 * (L : Int)).toNat (0 : UInt8) = List.replicate (64 * L) 0 := by congr 1 <;> omega
    rw [hzr] at hr1
    have hsz := HO1.out.size
    have hfl := HB1.out.lt
    have hfp : ¬ (w.heap.size = pr) := by omega
    have hfg : ¬ (w.heap.size = gr) := by omega
    have HD0 : Hid (Laid w w2 pr gr (64 * L) []) := Lib.hid (Laid.start (by omega) (by omega) hr1 (HO1.out.trans' hO1))
    have HX0 := Lib.hid (HB1.out.keep0 hO1)
    clear hO1 hr1 hzr hsz hfl HO1 HB1
    have hbx := HX0.out.lt
    go_wp2_with fail
    refine (put_any pr gr _ _ 1 _ 2 2 [75, 67] _ (by exact HD0.out.row.alloc _) (by exact ins_built _ [75, 67] _ 2 rfl (by omega)) (by exact ne_built HD0.out.row) (by decide) (by rw [HD0.out.len]; simp only [wid, List.map_cons, List.map_nil, List.nil_append, List.cons_append, List.sum_cons, List.sum_nil]; omega) HF0.out).mono ?_
    rintro en v0 ⟨rfl, hr, hO⟩
    have HD1 := Lib.hid ((HD0.out.alloc _).put hr hO rfl (by simp only [wid, List.map_cons, List.map_nil, List.nil_append, List.cons_append, List.sum_cons, List.sum_nil]; omega))
    have HX1 := Lib.hid ((HX0.out.alloc (.cells #[.int .i64 75, .int .i64 67] 3)).keep hO (by simp [hfp, hfg]))
    clear hr hO HD0 HX0 hbx 
    have x0 := HX1.out.cell 0 (by simp)
    have x1 := HX1.out.cell 1 (by simp)
    simp only [List.getElem_cons_zero, List.getElem_cons_succ] at x0 x1
    have hbx := HX1.out.lt
    go_wp2_with fail
    refine (put_any pr gr _ _ 4 _ 2 2 [g, v] _ (by exact HD1.out.row.alloc _) (by exact ins_built _ [g, v] _ 2 rfl (by omega)) (by exact ne_built HD1.out.row) (by decide) (by rw [HD1.out.len]; simp only [wid, List.map_cons, List.map_nil, List.nil_append, List.cons_append, List.sum_cons, List.sum_nil]; omega) HF1.out).mono ?_
    rintro en v1 ⟨rfl, hr, hO⟩
    have HD2 := Lib.hid ((HD1.out.alloc _).put hr hO rfl (by simp only [wid, List.map_cons, List.map_nil, List.nil_append, List.cons_append, List.sum_cons, List.sum_nil]; omega))
    have HX2 := Lib.hid ((HX1.out.alloc (.cells #[.int .i64 g, .int .i64 v] 3)).keep hO (by simp [hfp, hfg]))
    clear hr hO HD1 HX1 hbx x0 x1
    have x2 := HX2.out.cell 2 (by simp)
    simp only [List.getElem_cons_zero, List.getElem_cons_succ] at x2
    have hbx := HX2.out.lt
    go_wp2_with fail
    refine (put_any pr gr _ _ 1 _ 1 1 [m] _ (by exact HD2.out.row.alloc _) (by exact ins_built _ [m] _ 1 rfl (by omega)) (by exact ne_built HD2.out.row) (by decide) (by rw [HD2.out.len]; simp only [wid, List.map_cons, List.map_nil, List.nil_append, List.cons_append, List.sum_cons, List.sum_nil]; omega) HF2.out).mono ?_
    rintro en v2 ⟨rfl, hr, hO⟩
    have HD3 := Lib.hid ((HD2.out.alloc _).put hr hO rfl (by simp only [wid, List.map_cons, List.map_nil, List.nil_append, List.cons_append, List.sum_cons, List.sum_nil]; omega))
    have HX3 := Lib.hid ((HX2.out.alloc (.cells #[.int .i64 m] 3)).keep hO (by simp [hfp, hfg]))
    clear hr hO HD2 HX2 hbx x2
    have x3 := HX3.out.cell 3 (by simp)
    have x4 := HX3.out.cell 4 (by simp)
    have x5 := HX3.out.cell 5 (by simp)
    simp only [List.getElem_cons_zero, List.getElem_cons_succ] at x3 x4 x5
    have hbx := HX3.out.lt
    go_wp2_with fail
    refine (put_any pr gr _ _ 4 _ 3 3 [e, sq, d] _ (by exact HD3.out.row.alloc _) (by exact ins_built _ [e, sq, d] _ 3 rfl (by omega)) (by exact ne_built HD3.out.row) (by decide) (by rw [HD3.out.len]; simp only [wid, List.map_cons, List.map_nil, List.nil_append, List.cons_append, List.sum_cons, List.sum_nil]; omega) HF3.out).mono ?_
    rintro en v3 ⟨rfl, hr, hO⟩
    have HD4 := Lib.hid ((HD3.out.alloc _).put hr hO rfl (by simp only [wid, List.map_cons, List.map_nil, List.nil_append, List.cons_append, List.sum_cons, List.sum_nil]; omega))
    have HX4 := Lib.hid ((HX3.out.alloc (.cells #[.int .i64 e, .int .i64 sq, .int .i64 d] 3)).keep hO (by simp [hfp, hfg]))
    clear hr hO HD3 HX3 hbx x3 x4 x5
    have x6 := HX4.out.cell 6 (by simp)
    have x7 := HX4.out.cell 7 (by simp)
    simp only [List.getElem_cons_zero, List.getElem_cons_succ] at x6 x7
    have hbx := HX4.out.lt
    go_wp2_with fail
    refine (put_any pr gr _ _ 1 _ 2 2 [ps, po] _ (by exact HD4.out.row.alloc _) (by exact ins_built _ [ps, po] _ 2 rfl (by omega)) (by exact ne_built HD4.out.row) (by decide) (by rw [HD4.out.len]; simp only [wid, List.map_cons, List.map_nil, List.nil_append, List.cons_append, List.sum_cons, List.sum_nil]; omega) HF4.out).mono ?_
    rintro en v4 ⟨rfl, hr, hO⟩
    have HD5 := Lib.hid ((HD4.out.alloc _).put hr hO rfl (by simp only [wid, List.map_cons, List.map_nil, List.nil_append, List.cons_append, List.sum_cons, List.sum_nil]; omega))
    have HX5 := Lib.hid ((HX4.out.alloc (.cells #[.int .i64 ps, .int .i64 po] 3)).keep hO (by simp [hfp, hfg]))
    clear hr hO HD4 HX4 hbx x6 x7
    have x8 := HX5.out.cell 8 (by simp)
    have x9 := HX5.out.cell 9 (by simp)
    have x10 := HX5.out.cell 10 (by simp)
    simp only [List.getElem_cons_zero, List.getElem_cons_succ] at x8 x9 x10
    have hbx := HX5.out.lt
    go_wp2_with fail
    refine (put_any pr gr _ _ 4 _ 3 3 [pl, pp, pm] _ (by exact HD5.out.row.alloc _) (by exact ins_built _ [pl, pp, pm] _ 3 rfl (by omega)) (by exact ne_built HD5.out.row) (by decide) (by rw [HD5.out.len]; simp only [wid, List.map_cons, List.map_nil, List.nil_append, List.cons_append, List.sum_cons, List.sum_nil]; omega) HF5.out).mono ?_
    rintro en v5 ⟨rfl, hr, hO⟩
    have HD6 := Lib.hid ((HD5.out.alloc _).put hr hO rfl (by simp only [wid, List.map_cons, List.map_nil, List.nil_append, List.cons_append, List.sum_cons, List.sum_nil]; omega))
    have HX6 := Lib.hid ((HX5.out.alloc (.cells #[.int .i64 pl, .int .i64 pp, .int .i64 pm] 3)).keep hO (by simp [hfp, hfg]))
    clear hr hO HD5 HX5 hbx x8 x9 x10
    have HDD := Lib.hid HD6.out.drew
    have HXD := Lib.hid HX6.out.drew
    have y11 := HXD.out.cell 11 (by simp)
    have y12 := HXD.out.cell 12 (by simp)
    simp only [List.getElem_cons_zero, List.getElem_cons_succ] at y11 y12
    go_wp2_with fail
    refine wp_region_held_drew (S := (fun w' => w'.cell? ⟨w.heap.size, 11, none⟩ = some (.slice bA bn bc) ∧ w'.cell? ⟨w.heap.size, 12, none⟩ = some (.slice oA on oc))) (by kernel_rfl) ⟨y11, y12⟩ (fun hSw0 => ?_)
    refine wpAnyH_take (i := 0) (oi := ⟨some 62, _, _, _, _, _⟩) (v := ?_) rfl (by kernel_rfl) (by kernel_rfl) (by kernel_rfl) (fun _ _ _ h => h) (Or.inl ⟨by rfl, ?_⟩) (by assumption) ?_
    rotate_left
    · intro w hSw
      (try dsimp only at hSw)
      go_simp
      all_goals (try with_reducible rfl)
    (try simp only [Act.put, List.setIfInBounds_toArray, List.set_cons_zero, List.set_cons_succ])
    refine wpAnyH_take (i := 1) (oi := ⟨some 63, _, _, _, _, _⟩) (v := ?_) rfl (by kernel_rfl) (by kernel_rfl) (by kernel_rfl) (fun _ _ _ h => h) (Or.inl ⟨by rfl, ?_⟩) (by assumption) ?_
    rotate_left
    · intro w hSw
      (try dsimp only at hSw)
      go_simp
      all_goals (try with_reducible rfl)
    (try simp only [Act.put, List.setIfInBounds_toArray, List.set_cons_zero, List.set_cons_succ])
    refine wpAnyH_take (i := 2) (oi := ⟨some 64, _, _, _, _, _⟩) (v := ?_) rfl (by kernel_rfl) (by kernel_rfl) (by kernel_rfl) (fun _ _ _ h => h) (Or.inl ⟨by rfl, ?_⟩) (by assumption) ?_
    rotate_left
    · intro w hSw
      (try dsimp only at hSw)
      go_simp
      all_goals (try with_reducible rfl)
    (try simp only [Act.put, List.setIfInBounds_toArray, List.set_cons_zero, List.set_cons_succ])
    refine wpAnyH_take (i := 4) (oi := ⟨some 66, _, _, _, _, _⟩) (v := ?_) rfl (by kernel_rfl) (by kernel_rfl) (by kernel_rfl) (fun _ _ _ h => h) (Or.inl ⟨by rfl, ?_⟩) (by assumption) ?_
    rotate_left
    · intro w hSw
      (try dsimp only at hSw)
      go_simp
      all_goals (try with_reducible rfl)
    (try simp only [Act.put, List.setIfInBounds_toArray, List.set_cons_zero, List.set_cons_succ])
    refine wpAnyH_take (i := 5) (oi := ⟨some 67, _, _, _, _, _⟩) (v := ?_) rfl (by kernel_rfl) (by kernel_rfl) (by kernel_rfl) (fun _ _ _ h => h) (Or.inl ⟨by rfl, ?_⟩) (by assumption) ?_
    rotate_left
    · intro w hSw
      (try dsimp only at hSw)
      go_simp
      all_goals (try with_reducible rfl)
    (try simp only [Act.put, List.setIfInBounds_toArray, List.set_cons_zero, List.set_cons_succ])
    refine wpAnyH_ready (rs := [3]) (by kernel_rfl) (by simp) ?_
    refine AllReadyH.cons (o := ⟨some 65, _, _, _, _, _⟩) rfl (fun K hK => ?_) AllReadyH.nil
    go_simp
    refine (HKB.out _ HDD.out.only).mono ?_
    rintro en w' ⟨rfl, rfl⟩
    refine hK.out _ _ ⟨y11, y12⟩ (fun hSn => ?_)
    clear hK K hSw0
    have hSw0 := hSn
    clear hSn
    (try simp only [Act.put, List.setIfInBounds_toArray, List.set_cons_zero, List.set_cons_succ])
    refine wpAnyH_ready (rs := [6]) (by kernel_rfl) (by simp) ?_
    refine AllReadyH.cons (o := ⟨some 68, _, _, _, _, _⟩) rfl (fun K hK => ?_) AllReadyH.nil
    go_simp
    refine (HKO.out _ HDD.out.only).mono ?_
    rintro en w' ⟨rfl, rfl⟩
    refine hK.out _ _ ⟨y11, y12⟩ (fun hSn => ?_)
    clear hK K hSw0
    have hSw0 := hSn
    clear hSn
    (try simp only [Act.put, List.setIfInBounds_toArray, List.set_cons_zero, List.set_cons_succ])
    refine wpAnyH_ready (rs := [7]) (by kernel_rfl) (by simp) ?_
    refine AllReadyH.cons (o := ⟨some 69, _, _, _, _, _⟩) rfl (fun K hK => ?_) AllReadyH.nil
    go_simp
    have HDE := Lib.hid ((HD6.out.alloc (.cells #[.int .i64 (bitsN base : Nat), .int .i64 (bitsN over : Nat)] 3)).drew)
    have HXE := Lib.hid ((HX6.out.alloc (.cells #[.int .i64 (bitsN base : Nat), .int .i64 (bitsN over : Nat)] 3)).drew)
    refine hK.out _ _ ⟨HXE.out.cell 11 (by simp), HXE.out.cell 12 (by simp)⟩ (fun hSn => ?_)
    clear hK K hSw0
    have hSw0 := hSn
    clear hSn
    (try simp only [Act.put, List.setIfInBounds_toArray, List.set_cons_zero, List.set_cons_succ])
    refine wpAnyH_ready (rs := [8]) (by kernel_rfl) (by simp) ?_
    refine AllReadyH.cons (o := ⟨some 70, _, _, _, _, _⟩) rfl (fun K hK => ?_) AllReadyH.nil
    go_simp
    refine (put_any pr gr _ _ 1 _ 2 2 [(bitsN base : Int), (bitsN over : Int)] _ (by exact HDE.out.row) (by exact (ins_built _ [(bitsN base : Int), (bitsN over : Int)] _ 2 rfl (by omega)).drew) (by exact ne_built HD6.out.row) (by decide) (by rw [HDE.out.len]; simp only [wid, List.map_cons, List.map_nil, List.nil_append, List.cons_append, List.sum_cons, List.sum_nil]; omega) HF6.out).mono ?_
    rintro en w9 ⟨rfl, hr, hO⟩
    have HD7 := Lib.hid (HDE.out.put hr hO rfl (by simp only [wid, List.map_cons, List.map_nil, List.nil_append, List.cons_append, List.sum_cons, List.sum_nil]; omega))
    have HX7 := Lib.hid (HXE.out.keep hO (by simp [hfp, hfg]))
    clear hr hO HDD HXD HDE HXE HD6 HX6
    refine hK.out _ _ ⟨HX7.out.cell 11 (by simp), HX7.out.cell 12 (by simp)⟩ (fun hSn => ?_)
    clear hK K hSw0 y11 y12
    have hSw0 := hSn
    clear hSn
    (try simp only [Act.put, List.setIfInBounds_toArray, List.set_cons_zero, List.set_cons_succ])
    refine wpAnyH_done (by kernel_rfl) ?_ _
    clear hSw0
    have HDL : Hid (Laid w w9 pr gr (64 * L) (rgNums ⟨g, v, m, e, sq, d, ps, po, pl, pp, pm, base, over, segs⟩ ++ usNums (segs.take 0))) := Lib.hid (by have h := HD7.out; simpa [rgNums, usNums] using h)
    have x13 := HX7.out.cell 13 (by simp)
    simp only [List.getElem_cons_zero, List.getElem_cons_succ] at x13
    have hbx := HX7.out.lt
    have HRS := Lib.hid HR.out.segs
    dsimp only at HRS
    obtain ⟨Q, hQ⟩ : ∃ Q, rgNums ⟨g, v, m, e, sq, d, ps, po, pl, pp, pm, base, over, segs⟩ = Q := ⟨_, rfl⟩
    have hQw : wid Q = 39 := by rw [← hQ]; rfl
    rw [hQ] at HDL HBY
    clear hQ HD7
    go_wp2_with fail
    go_loopg [74] sn (fun r i wr => ∃ j : Nat, j + r = sn ∧ i = .int .i64 j ∧ Laid w wr pr gr (64 * L) (Q ++ usNums (segs.take j)))
    case atStart => exact ⟨0, by omega, rfl, HDL.out⟩
    obtain ⟨j, hj, rfl, hd⟩ := hrel
    have HD := Lib.hid hd
    have hlp := hd.row.lp
    have hlg := hd.row.lg
    clear hd x13 hbx HDL HX7
    by_cases hlt : j < sn
    · have hjz : j < segs.length := by rw [HSL.out]; exact hlt
      obtain ⟨a, o, rfl, hcc⟩ := HRS.out.at_ (by omega)
      obtain ⟨u0, u1⟩ := hcc j hjz
      have c0 := HD.out.only.cell u0 (by simp)
      have c1 := HD.out.only.cell u1 (by simp)
      obtain ⟨s1, s2⟩ := segsOk_at HSO.out j hjz
      have HFA : Hid (Fit 1 [segs[j].1]) := Lib.hid (by simp only [fit_cons, fit_nil, Int.reducePow, and_true]; omega)
      have HFB : Hid (Fit 4 [segs[j].2]) := Lib.hid (by simp only [fit_cons, fit_nil, Int.reducePow, and_true]; omega)
      have HUL := Lib.hid (us_laid (a := Q) hjz)
      have hwj : wid (Q ++ usNums (segs.take j)) = 39 + 5 * j := by rw [wid_append, hQw, usNums_wid, List.length_take]; omega
      have HWJ := Lib.hid hwj
      clear hcc u0 u1 s1 s2 hwj
      generalize segs[j].1 = st at *
      generalize segs[j].2 = sp at *
      generalize Q ++ usNums (segs.take j) = SN at *
      generalize hSM : Q ++ usNums (segs.take (j + 1)) = SM at *
      have HSM := Lib.hid hSM
      clear hSM
      have hO7 : Only [] wr (wr.alloc (.cells #[.int .i64 st, .int .i64 sp] 120)) := (Only.refl _ _).alloc _
      have hb7 := Own.new wr #[.int .i64 st, .int .i64 sp] 120
      have HD' := Lib.hid (HD.out.keep hO7)
      go_upto_region 14 with (fail)
      generalize hfe : wr.heap.size = f at *
      generalize hwq : wr.alloc (.cells #[.int .i64 st, .int .i64 sp] 120) = wq at *
      have HB := Lib.hid hb7
      have hfp2 : ¬ (f = pr) := by omega
      have hfg2 : ¬ (f = gr) := by omega
      have hfw : f < wq.heap.size := hb7.lt
      clear hb7 hO7 HD c0 c1 hfe hwq hlp hlg
      have x0 := HB.out.cell 0 (by simp)
      simp only [List.getElem_cons_zero, List.getElem_cons_succ] at x0
      go_wp2_with fail
      refine (put_any pr gr _ _ 1 _ 1 1 [st] _ (by exact HD'.out.row.alloc _) (by exact ins_built _ [st] _ 1 rfl (by omega)) (by exact ne_built HD'.out.row) (by decide) (by rw [HD'.out.len, HWJ.out]; omega) HFA.out).mono ?_
      rintro en w4 ⟨rfl, hr, hO⟩
      have HD3 := Lib.hid ((HD'.out.alloc _).put hr hO rfl (by rw [HWJ.out]; omega))
      have HB3 := Lib.hid ((HB.out.alloc (.cells #[.int .i64 st] 3)).keep hO (by simp [hfp2, hfg2]))
      clear hr hO HD' HB x0
      have x1 := HB3.out.cell 1 (by simp)
      simp only [List.getElem_cons_zero, List.getElem_cons_succ] at x1
      have hfw2 := HB3.out.lt
      go_wp2_with fail
      refine (put_any pr gr _ _ 4 _ 1 1 [sp] _ (by exact HD3.out.row.alloc _) (by exact ins_built _ [sp] _ 1 rfl (by omega)) (by exact ne_built HD3.out.row) (by decide) (by rw [HD3.out.len, wid1, HWJ.out]; simp only [List.length_cons, List.length_nil]; omega) HFB.out).mono ?_
      rintro en w5 ⟨rfl, hr, hO⟩
      have hd5 := (HD3.out.alloc _).put hr hO rfl (by rw [wid1, HWJ.out]; simp only [List.length_cons, List.length_nil]; omega)
      rw [HUL.out] at hd5
      have HD5 := Lib.hid hd5
      clear hr hO HD3 HB3 x1 hd5 hfw2
      go_wp2
      go_roundg (gk - 1)
      case measure => omega
      case rel => exact ⟨j + 1, by omega, by go_num, by rw [HSM.out]; exact HD5.out⟩
    · obtain rfl : j = sn := by omega
      have hfull : segs.take j = segs := List.take_of_length_le (by rw [HSL.out]; omega)
      have hd := HD.out
      rw [hfull] at hd
      obtain ⟨M, hM⟩ : ∃ M, 64 * L = M + 4 := ⟨64 * L - 4, by omega⟩
      have hby := HBY.out
      have hml : 64 * L - 4 = M := by omega
      rw [hml] at hby
      rw [hM] at hby hd
      have hel := HEL.out
      rw [hM] at hel
      have HEL2 := Lib.hid hel
      have HLR := Lib.hid hd.len
      have hww : wid (Q ++ usNums segs) = 39 + 5 * j := by rw [wid_append, hQw, usNums_wid, HSL.out]
      have hrow := hd.row
      rw [hww] at hrow
      have HRW := Lib.hid hrow
      have HON := Lib.hid hd.only
      obtain ⟨Y, hY⟩ : ∃ Y, rgBytes s ⟨g, v, m, e, sq, d, ps, po, pl, pp, pm, base, over, segs⟩ = Y := ⟨_, rfl⟩
      have henc := HENC.out
      rw [hY] at hby hel henc HEL2
      have HSE := Lib.hid hby.symm
      have HEE := Lib.hid henc
      generalize lay (List.replicate (M + 4) (0 : UInt8)) 0 (cat (Q ++ usNums segs)) = X at *
      clear hd hrow hfull HD hby hel hY henc hww hml HBY HENC HEL hlp hlg
      go_wp2_with fail
      refine (bytes_any pr gr (39 + 5 * j) X _ (by exact HRW.out)).mono ?_
      rintro en w8 ⟨A4, c4, rfl, hc4, hm4, hpos4, hO4⟩
      obtain ⟨g4, rfl, hg4, ho4⟩ := hpos4 (by rw [HLR.out]; omega)
      rw [HLR.out] at hc4 ⊢
      have HO4 := Lib.hid (HON.out.trans' hO4)
      have HW4 := Lib.hid ho4
      have hgw : w.heap.size ≤ g4 := Nat.le_trans HON.out.size hg4
      clear hpos4 hO4 ho4
      go_wp2_with fail
      refine (crc_seal_any g4 c4 X M _ HLR.out hc4 hm4 (by exact HW4.out)).mono ?_
      rintro en w9' ⟨rfl, ho5, hO5⟩
      rw [HSE.out] at ho5
      have HO5 := Lib.hid (HO4.out.trans hO5 (by simpa using hgw) : Only [] w w9')
      have HW5 := Lib.hid ho5
      clear ho5 hO5
      go_wp2
      go_ret2
      exact EncOwn.yes HEE.out HEL2.out hc4 hm4 hgw HW5.out HO5.out
end Go.Proofs.Ytkpagiokjihmhaa
