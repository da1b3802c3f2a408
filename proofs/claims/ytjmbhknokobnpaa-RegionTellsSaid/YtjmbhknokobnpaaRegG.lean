/- Contract of the reference's RegionBytes. Printed by mkregenc3.py. -/
import Derived.Test.YtjmbhknokobnpaaRegF
import Derived.Deep.RegionWith
set_option linter.unusedVariables false
set_option linter.unusedSimpArgs false
namespace Go.Proofs.Ytjmbhknokobnpaa
open Go Go.RowKit Go.Kn

set_option maxRecDepth 100000 in
set_option maxHeartbeats 16000000 in
theorem ref_region_enc_own (b s l : Int) (g v m e sq d ps po pl pp pm : Int) (bA : Option Addr) (bn bc : Nat) (base : List Int) (oA : Option Addr) (on oc : Nat) (over : List Int) (sA : Option Addr) (sn sc : Nat) (segs : List (Int × Int)) (w : World)
    (hc : CfOk b s l) (hr : RgAt w ⟨g, v, m, e, sq, d, ps, po, pl, pp, pm, base, over, segs⟩ (bA, bn, bc) (oA, on, oc) (sA, sn, sc)) :
    Calls Try.prog 59 #[.agg #[.int .i64 b, .int .i64 s, .int .i64 l], .agg #[.int .i64 g, .int .i64 v, .int .i64 m, .int .i64 e, .int .i64 sq, .int .i64 d, .int .i64 ps, .int .i64 po, .int .i64 pl, .int .i64 pp, .int .i64 pm, .slice bA bn bc, .slice oA on oc, .slice sA sn sc]] w (EncOwn w (encRg b s l ⟨g, v, m, e, sq, d, ps, po, pl, pp, pm, base, over, segs⟩)) := by
  have hsl := hr.segs.len
  have hscm := hr.segs.cm
  have hscl := hr.segs.le
  dsimp only at hsl hscm hscl
  unfold maxLen at hscm
  have HSL := Lib.hid hsl
  have HR := Lib.hid hr
  have HC := Lib.hid hc
  obtain ⟨q, hq⟩ : ∃ x, rgMay b s l ⟨g, v, m, e, sq, d, ps, po, pl, pp, pm, base, over, segs⟩ = x := ⟨_, rfl⟩
  have HKM : Hid (∀ W : World, Only [] w W → Calls Try.prog 61 #[.agg #[.int .i64 b, .int .i64 s, .int .i64 l], .agg #[.int .i64 g, .int .i64 v, .int .i64 m, .int .i64 e, .int .i64 sq, .int .i64 d, .int .i64 ps, .int .i64 po, .int .i64 pl, .int .i64 pp, .int .i64 pm, .slice bA bn bc, .slice oA on oc, .slice sA sn sc]] W fun en w' => en = .returned (.bool q) ∧ Only [] W w') := Lib.hid fun W hW => by
    have h := ref_region_may_any b s l g v m e sq d ps po pl pp pm bA bn bc base oA on oc over sA sn sc segs W hc (hr.keep0 hW)
    rw [hq] at h
    exact h
  have HQ := Lib.hid hq
  clear hr hsl hq
  have hW0 := ((Only.refl [] w).alloc (.cells #[.int .i64 b, .int .i64 s, .int .i64 l] 29)).alloc (.cells #[.int .i64 g, .int .i64 v, .int .i64 m, .int .i64 e, .int .i64 sq, .int .i64 d, .int .i64 ps, .int .i64 po, .int .i64 pl, .int .i64 pp, .int .i64 pm, .slice bA bn bc, .slice oA on oc, .slice sA sn sc] 90)
  have hB0 := Own.new (w.alloc (.cells #[.int .i64 b, .int .i64 s, .int .i64 l] 29)) #[.int .i64 g, .int .i64 v, .int .i64 m, .int .i64 e, .int .i64 sq, .int .i64 d, .int .i64 ps, .int .i64 po, .int .i64 pl, .int .i64 pp, .int .i64 pm, .slice bA bn bc, .slice oA on oc, .slice sA sn sc] 90
  have hs1 : (w.alloc (.cells #[.int .i64 b, .int .i64 s, .int .i64 l] 29)).heap.size = w.heap.size + 1 := by simp
  rw [hs1] at hB0
  have hC0 := (Own.new w #[.int .i64 b, .int .i64 s, .int .i64 l] 29).alloc (.cells #[.int .i64 g, .int .i64 v, .int .i64 m, .int .i64 e, .int .i64 sq, .int .i64 d, .int .i64 ps, .int .i64 po, .int .i64 pl, .int .i64 pp, .int .i64 pm, .slice bA bn bc, .slice oA on oc, .slice sA sn sc] 90)
  clear hs1
  cases q
  · go_enter Try.func59, Try.ntmps59
    go_wp2_with fail
    refine (HKM.out _ hW0).mono ?_
    rintro en w1 ⟨rfl, hO1⟩
    have HO1 := Lib.hid (hW0.trans' hO1)
    clear hW0 hB0 hC0 hO1
    go_wp2
    go_ret2
    exact EncOwn.no (encRg_no HQ.out) HO1.out
  · obtain ⟨p1, p2, p3, p4, p5, p6⟩ := rgMay_parts HQ.out
    obtain ⟨n1, n2, n3, n4, n5, n6⟩ := numOk_parts p1
    obtain ⟨o1, o2, o3, o4, o5⟩ := posMay_parts p2
    obtain ⟨s1, s2⟩ := slotsOk_parts p3
    obtain ⟨s3, s4⟩ := slotsOk_parts p4
    dsimp only at n1 n2 n3 n4 n5 n6 o1 o2 o3 o4 o5 s1 s2 s3 s4 p5 p6
    have hpg := pgs_bounds HC.out
    have hcf := HC.out
    unfold CfOk at hcf
    have hbn : bn = base.length := by have := HR.out.base.len; rw [ivs_length] at this; exact this.symm
    have hon : on = over.length := by have := HR.out.over.len; rw [ivs_length] at this; exact this.symm
    have hbb := bitsN_lt base s2
    have hbo := bitsN_lt over s4
    have hb5 : 2 ^ base.length ≤ 2 ^ 5 := Nat.pow_le_pow_right (by omega) (by omega)
    have ho5 : 2 ^ over.length ≤ 2 ^ 5 := Nat.pow_le_pow_right (by omega) (by omega)
    have HKB : Hid (∀ W : World, Only [] w W → Calls Try.prog 119 #[.slice bA bn bc] W fun en w' => en = .returned (.int .i64 (bitsN base : Nat)) ∧ w' = W) := Lib.hid fun W hW => ref_bits_any bA bn bc base W (HR.out.base.keep0 hW) (by omega) s2
    have HKO : Hid (∀ W : World, Only [] w W → Calls Try.prog 119 #[.slice oA on oc] W fun en w' => en = .returned (.int .i64 (bitsN over : Nat)) ∧ w' = W) := Lib.hid fun W hW => ref_bits_any oA on oc over W (HR.out.over.keep0 hW) (by omega) s4
    obtain ⟨r1, r2, r3, r4⟩ := rlN_eq HC.out
    have hsn : (sn : Int) = s := by have h1 := HSL.out; omega
    have HENC : Hid (encRg b s l ⟨g, v, m, e, sq, d, ps, po, pl, pp, pm, base, over, segs⟩ = some (rgBytes s ⟨g, v, m, e, sq, d, ps, po, pl, pp, pm, base, over, segs⟩)) := Lib.hid (encRg_yes HQ.out)
    have HEL := Lib.hid (rgBytes_length HC.out HQ.out)
    have hbytes : rgBytes s ⟨g, v, m, e, sq, d, ps, po, pl, pp, pm, base, over, segs⟩ = lay (lay (List.replicate (64 * rlN s) 0) 0 (cat (rgNums ⟨g, v, m, e, sq, d, ps, po, pl, pp, pm, base, over, segs⟩ ++ usNums segs))) (64 * rlN s - 4) (le 4 (csum ((lay (List.replicate (64 * rlN s) 0) 0 (cat (rgNums ⟨g, v, m, e, sq, d, ps, po, pl, pp, pm, base, over, segs⟩ ++ usNums segs))).take (64 * rlN s - 4)))) := rfl
    obtain ⟨L, hL⟩ : ∃ L, rlN s = L := ⟨_, rfl⟩
    rw [hL] at r1 r2 r3 r4 HEL hbytes
    have HBY := Lib.hid hbytes
    have HKL : Hid (∀ W : World, Calls Try.prog 118 #[.agg #[.int .i64 b, .int .i64 s, .int .i64 l]] W fun en w' => en = .returned (.int .i64 (L : Int)) ∧ Only [] W w') := Lib.hid fun W => by
      have h := ref_rlen_any b s l W HC.out
      rw [r1] at h
      exact h
    have HSO := Lib.hid p6
    have hroom : 39 + 5 * sn + 4 ≤ 64 * L := by omega
    have hwl := IntWalk.i64_in ((L : Int) * 64) (by omega)
    have HF0 : Hid (Fit 1 [75, 67]) := Lib.hid (by decide)
    have HF1 : Hid (Fit 4 [g, v]) := Lib.hid (by simp only [fit_cons, fit_nil, Int.reducePow, and_true]; omega)
    have e1 : (256 : Int) ^ 1 = 256 := rfl
    have HF2 : Hid (0 ≤ m ∧ m < 256 ^ 1) := Lib.hid (by omega)
    clear e1
    have HF3 : Hid (Fit 4 [e, sq, d]) := Lib.hid (by simp only [fit_cons, fit_nil, Int.reducePow, and_true]; omega)
    have HF4 : Hid (Fit 1 [ps, po]) := Lib.hid (by simp only [fit_cons, fit_nil, Int.reducePow, and_true]; omega)
    have HF5 : Hid (Fit 4 [pl, pp, pm]) := Lib.hid (by simp only [fit_cons, fit_nil, Int.reducePow, and_true]; omega)
    have HF6 : Hid (Fit 1 [(bitsN base : Int), (bitsN over : Int)]) := Lib.hid (by simp only [fit_cons, fit_nil, Int.reducePow, and_true]; omega)
    clear p1 p2 p3 p4 p6 n1 n2 n3 n4 n5 n6 o1 o2 o3 o4 o5 s1 s2 s3 s4 p5 hpg hcf hbn hon hbb hbo hb5 ho5 r1 r4 hL hbytes hsn
    go_enter Try.func59, Try.ntmps59
    go_wp2_with fail
    refine (HKM.out _ hW0).mono ?_
    rintro en w1 ⟨rfl, hO1⟩
    have HO1 := Lib.hid (hW0.trans' hO1)
    have HB1 := Lib.hid (hB0.keep0 hO1)
    have HC1 := Lib.hid (hC0.keep0 hO1)
    have z0 := HC1.out.cell 0 (by simp)
    have z1 := HC1.out.cell 1 (by simp)
    have z2 := HC1.out.cell 2 (by simp)
    simp only [List.getElem_cons_zero, List.getElem_cons_succ] at z0 z1 z2
    have hlz := HC1.out.lt
    generalize hfw : w.heap.size + 1 = fb at *
    clear hW0 hB0 hC0 hO1
    go_wp2_with fail
    refine (HKL.out _).mono ?_
    rintro en w1' ⟨rfl, hO1⟩
    have HO1' := Lib.hid (HO1.out.trans' hO1)
    have HB1' := Lib.hid (HB1.out.keep0 hO1)
    clear hO1 HO1 HB1 HC1 z0 z1 z2 hlz
    go_wp2_with fail
    refine (ref_begun_any ((L : Int) * 64) 75 67 75 67 _ rfl rfl (by omega) (by omega)).mono ?_
    rintro en w2 ⟨pr, gr, rfl, hp, hgr, hr1, hO1⟩
    have hzr : List.replicate ((L : Int) * 64).toNat (0 : UInt8) = List.replicate (64 * L) 0 := by congr 1 <;> omega
    rw [hzr] at hr1
    have e75 : ([75, 67] : List UInt8) = les 1 [75, 67] := rfl
    rw [e75] at hr1
    have hsz := HO1'.out.size
    have hfl := HB1'.out.lt
    have hfp : ¬ (fb = pr) := by omega
    have hfg : ¬ (fb = gr) := by omega
    have HD0 : Hid (Laid w w2 pr gr (64 * L) ([] ++ [75, 67].map fun z => (1, z))) := Lib.hid (by
      have e : lay (List.replicate (64 * L) 0) 0 (les 1 [75, 67]) = lay (List.replicate (64 * L) 0) 0 (cat ([] ++ [75, 67].map fun z => (1, z))) := by rw [les_cat]; rfl
      rw [e] at hr1
      exact ⟨hr1, HO1'.out.trans' hO1, by omega, by omega, by simp only [wid, List.map_cons, List.map_nil, List.nil_append, List.cons_append, List.sum_cons, List.sum_nil]; omega⟩)
    have HX0 := Lib.hid (HB1'.out.keep0 hO1)
    clear hO1 hr1 hzr hsz hfl HO1' HB1' e75
    have x0 := HX0.out.cell 0 (by simp)
    have x1 := HX0.out.cell 1 (by simp)
    simp only [List.getElem_cons_zero, List.getElem_cons_succ] at x0 x1
    have hbx := HX0.out.lt
    go_wp2_with fail
    refine (ref_put_any pr gr _ _ 4 _ 2 2 [g, v] _ (by exact HD0.out.row.alloc _) (by exact ins_built _ [g, v] _ 2 rfl (by omega)) (by exact ne_built HD0.out.row) (by decide) (by rw [HD0.out.len]; simp only [wid, List.map_cons, List.map_nil, List.nil_append, List.cons_append, List.sum_cons, List.sum_nil]; omega) HF1.out).mono ?_
    rintro en v0 ⟨rfl, hr, hO⟩
    have HD1 := Lib.hid ((HD0.out.alloc _).put hr hO rfl (by simp only [wid, List.map_cons, List.map_nil, List.nil_append, List.cons_append, List.sum_cons, List.sum_nil]; omega))
    have HX1 := Lib.hid ((HX0.out.alloc (.cells #[.int .i64 g, .int .i64 v] 3)).keep hO (by simp [hfp, hfg]))
    clear hr hO HD0 HX0 hbx x0 x1
    have x2 := HX1.out.cell 2 (by simp)
    simp only [List.getElem_cons_zero, List.getElem_cons_succ] at x2
    have hbx := HX1.out.lt
    go_wp2_with fail
    refine (ref_one_any pr gr _ _ 1 m _ (by exact HD1.out.row) (by decide) (by rw [HD1.out.len]; simp only [wid, List.map_cons, List.map_nil, List.nil_append, List.cons_append, List.sum_cons, List.sum_nil]; omega) HF2.out).mono ?_
    rintro en v1 ⟨rfl, hr, hO⟩
    have HD2 := Lib.hid (HD1.out.one hr hO (by simp only [wid, List.map_cons, List.map_nil, List.nil_append, List.cons_append, List.sum_cons, List.sum_nil]; omega))
    have HX2 := Lib.hid (HX1.out.keep hO (by simp [hfp, hfg]))
    clear hr hO HD1 HX1 hbx x2
    have x3 := HX2.out.cell 3 (by simp)
    have x4 := HX2.out.cell 4 (by simp)
    have x5 := HX2.out.cell 5 (by simp)
    simp only [List.getElem_cons_zero, List.getElem_cons_succ] at x3 x4 x5
    have hbx := HX2.out.lt
    go_wp2_with fail
    refine (ref_put_any pr gr _ _ 4 _ 3 3 [e, sq, d] _ (by exact HD2.out.row.alloc _) (by exact ins_built _ [e, sq, d] _ 3 rfl (by omega)) (by exact ne_built HD2.out.row) (by decide) (by rw [HD2.out.len]; simp only [wid, List.map_cons, List.map_nil, List.nil_append, List.cons_append, List.sum_cons, List.sum_nil]; omega) HF3.out).mono ?_
    rintro en v2 ⟨rfl, hr, hO⟩
    have HD3 := Lib.hid ((HD2.out.alloc _).put hr hO rfl (by simp only [wid, List.map_cons, List.map_nil, List.nil_append, List.cons_append, List.sum_cons, List.sum_nil]; omega))
    have HX3 := Lib.hid ((HX2.out.alloc (.cells #[.int .i64 e, .int .i64 sq, .int .i64 d] 3)).keep hO (by simp [hfp, hfg]))
    clear hr hO HD2 HX2 hbx x3 x4 x5
    have x6 := HX3.out.cell 6 (by simp)
    have x7 := HX3.out.cell 7 (by simp)
    simp only [List.getElem_cons_zero, List.getElem_cons_succ] at x6 x7
    have hbx := HX3.out.lt
    go_wp2_with fail
    refine (ref_put_any pr gr _ _ 1 _ 2 2 [ps, po] _ (by exact HD3.out.row.alloc _) (by exact ins_built _ [ps, po] _ 2 rfl (by omega)) (by exact ne_built HD3.out.row) (by decide) (by rw [HD3.out.len]; simp only [wid, List.map_cons, List.map_nil, List.nil_append, List.cons_append, List.sum_cons, List.sum_nil]; omega) HF4.out).mono ?_
    rintro en v3 ⟨rfl, hr, hO⟩
    have HD4 := Lib.hid ((HD3.out.alloc _).put hr hO rfl (by simp only [wid, List.map_cons, List.map_nil, List.nil_append, List.cons_append, List.sum_cons, List.sum_nil]; omega))
    have HX4 := Lib.hid ((HX3.out.alloc (.cells #[.int .i64 ps, .int .i64 po] 3)).keep hO (by simp [hfp, hfg]))
    clear hr hO HD3 HX3 hbx x6 x7
    have x8 := HX4.out.cell 8 (by simp)
    have x9 := HX4.out.cell 9 (by simp)
    have x10 := HX4.out.cell 10 (by simp)
    simp only [List.getElem_cons_zero, List.getElem_cons_succ] at x8 x9 x10
    have hbx := HX4.out.lt
    go_wp2_with fail
    refine (ref_put_any pr gr _ _ 4 _ 3 3 [pl, pp, pm] _ (by exact HD4.out.row.alloc _) (by exact ins_built _ [pl, pp, pm] _ 3 rfl (by omega)) (by exact ne_built HD4.out.row) (by decide) (by rw [HD4.out.len]; simp only [wid, List.map_cons, List.map_nil, List.nil_append, List.cons_append, List.sum_cons, List.sum_nil]; omega) HF5.out).mono ?_
    rintro en v4 ⟨rfl, hr, hO⟩
    have HD5 := Lib.hid ((HD4.out.alloc _).put hr hO rfl (by simp only [wid, List.map_cons, List.map_nil, List.nil_append, List.cons_append, List.sum_cons, List.sum_nil]; omega))
    have HX5 := Lib.hid ((HX4.out.alloc (.cells #[.int .i64 pl, .int .i64 pp, .int .i64 pm] 3)).keep hO (by simp [hfp, hfg]))
    clear hr hO HD4 HX4 hbx x8 x9 x10
    have HDD := Lib.hid HD5.out.drew
    have HXD := Lib.hid HX5.out.drew
    have y11 := HXD.out.cell 11 (by simp)
    have y12 := HXD.out.cell 12 (by simp)
    simp only [List.getElem_cons_zero, List.getElem_cons_succ] at y11 y12
    go_wp2_with fail
    refine wp_region_held_drew (S := (fun w' => w'.cell? ⟨fb, 11, none⟩ = some (.slice bA bn bc) ∧ w'.cell? ⟨fb, 12, none⟩ = some (.slice oA on oc))) (by kernel_rfl) ⟨y11, y12⟩ (fun hSw0 => ?_)
    refine wpAnyH_take (i := 0) (oi := ⟨some 57, _, _, _, _, _⟩) (v := ?_) rfl (by kernel_rfl) (by kernel_rfl) (by kernel_rfl) (fun _ _ _ h => h) (Or.inl ⟨by rfl, ?_⟩) (by assumption) ?_
    rotate_left
    · intro w hSw
      (try dsimp only at hSw)
      go_simp
      all_goals (try with_reducible rfl)
    (try simp only [Act.put, List.setIfInBounds_toArray, List.set_cons_zero, List.set_cons_succ])
    refine wpAnyH_take (i := 1) (oi := ⟨some 58, _, _, _, _, _⟩) (v := ?_) rfl (by kernel_rfl) (by kernel_rfl) (by kernel_rfl) (fun _ _ _ h => h) (Or.inl ⟨by rfl, ?_⟩) (by assumption) ?_
    rotate_left
    · intro w hSw
      (try dsimp only at hSw)
      go_simp
      all_goals (try with_reducible rfl)
    (try simp only [Act.put, List.setIfInBounds_toArray, List.set_cons_zero, List.set_cons_succ])
    refine wpAnyH_take (i := 2) (oi := ⟨some 59, _, _, _, _, _⟩) (v := ?_) rfl (by kernel_rfl) (by kernel_rfl) (by kernel_rfl) (fun _ _ _ h => h) (Or.inl ⟨by rfl, ?_⟩) (by assumption) ?_
    rotate_left
    · intro w hSw
      (try dsimp only at hSw)
      go_simp
      all_goals (try with_reducible rfl)
    (try simp only [Act.put, List.setIfInBounds_toArray, List.set_cons_zero, List.set_cons_succ])
    refine wpAnyH_take (i := 4) (oi := ⟨some 61, _, _, _, _, _⟩) (v := ?_) rfl (by kernel_rfl) (by kernel_rfl) (by kernel_rfl) (fun _ _ _ h => h) (Or.inl ⟨by rfl, ?_⟩) (by assumption) ?_
    rotate_left
    · intro w hSw
      (try dsimp only at hSw)
      go_simp
      all_goals (try with_reducible rfl)
    (try simp only [Act.put, List.setIfInBounds_toArray, List.set_cons_zero, List.set_cons_succ])
    refine wpAnyH_take (i := 5) (oi := ⟨some 62, _, _, _, _, _⟩) (v := ?_) rfl (by kernel_rfl) (by kernel_rfl) (by kernel_rfl) (fun _ _ _ h => h) (Or.inl ⟨by rfl, ?_⟩) (by assumption) ?_
    rotate_left
    · intro w hSw
      (try dsimp only at hSw)
      go_simp
      all_goals (try with_reducible rfl)
    (try simp only [Act.put, List.setIfInBounds_toArray, List.set_cons_zero, List.set_cons_succ])
    refine wpAnyH_ready (rs := [3]) (by kernel_rfl) (by simp) ?_
    refine AllReadyH.cons (o := ⟨some 60, _, _, _, _, _⟩) rfl (fun K hK => ?_) AllReadyH.nil
    go_simp
    refine (HKB.out _ HDD.out.only).mono ?_
    rintro en w' ⟨rfl, rfl⟩
    refine hK.out _ _ ⟨y11, y12⟩ (fun hSn => ?_)
    clear hK K hSw0
    have hSw0 := hSn
    clear hSn
    (try simp only [Act.put, List.setIfInBounds_toArray, List.set_cons_zero, List.set_cons_succ])
    refine wpAnyH_ready (rs := [6]) (by kernel_rfl) (by simp) ?_
    refine AllReadyH.cons (o := ⟨some 63, _, _, _, _, _⟩) rfl (fun K hK => ?_) AllReadyH.nil
    go_simp
    refine (HKO.out _ HDD.out.only).mono ?_
    rintro en w' ⟨rfl, rfl⟩
    refine hK.out _ _ ⟨y11, y12⟩ (fun hSn => ?_)
    clear hK K hSw0
    have hSw0 := hSn
    clear hSn
    (try simp only [Act.put, List.setIfInBounds_toArray, List.set_cons_zero, List.set_cons_succ])
    refine wpAnyH_ready (rs := [7]) (by kernel_rfl) (by simp) ?_
    refine AllReadyH.cons (o := ⟨some 64, _, _, _, _, _⟩) rfl (fun K hK => ?_) AllReadyH.nil
    go_simp
    have HDE := Lib.hid ((HD5.out.alloc (.cells #[.int .i64 (bitsN base : Nat), .int .i64 (bitsN over : Nat)] 3)).drew)
    have HXE := Lib.hid ((HX5.out.alloc (.cells #[.int .i64 (bitsN base : Nat), .int .i64 (bitsN over : Nat)] 3)).drew)
    refine hK.out _ _ ⟨HXE.out.cell 11 (by simp), HXE.out.cell 12 (by simp)⟩ (fun hSn => ?_)
    clear hK K hSw0
    have hSw0 := hSn
    clear hSn
    (try simp only [Act.put, List.setIfInBounds_toArray, List.set_cons_zero, List.set_cons_succ])
    refine wpAnyH_ready (rs := [8]) (by kernel_rfl) (by simp) ?_
    refine AllReadyH.cons (o := ⟨some 65, _, _, _, _, _⟩) rfl (fun K hK => ?_) AllReadyH.nil
    go_simp
    refine (ref_put_any pr gr _ _ 1 _ 2 2 [(bitsN base : Int), (bitsN over : Int)] _ (by exact HDE.out.row) (by exact (ins_built _ [(bitsN base : Int), (bitsN over : Int)] _ 2 rfl (by omega)).drew) (by exact ne_built HD5.out.row) (by decide) (by rw [HDE.out.len]; simp only [wid, List.map_cons, List.map_nil, List.nil_append, List.cons_append, List.sum_cons, List.sum_nil]; omega) HF6.out).mono ?_
    rintro en w9 ⟨rfl, hr, hO⟩
    have HD6 := Lib.hid (HDE.out.put hr hO rfl (by simp only [wid, List.map_cons, List.map_nil, List.nil_append, List.cons_append, List.sum_cons, List.sum_nil]; omega))
    have HX6 := Lib.hid (HXE.out.keep hO (by simp [hfp, hfg]))
    clear hr hO HDD HXD HDE HXE HD5 HX5
    refine hK.out _ _ ⟨HX6.out.cell 11 (by simp), HX6.out.cell 12 (by simp)⟩ (fun hSn => ?_)
    clear hK K hSw0 y11 y12
    have hSw0 := hSn
    clear hSn
    (try simp only [Act.put, List.setIfInBounds_toArray, List.set_cons_zero, List.set_cons_succ])
    refine wpAnyH_done (by kernel_rfl) ?_ _
    clear hSw0
    have HDL : Hid (Laid w w9 pr gr (64 * L) (rgNums ⟨g, v, m, e, sq, d, ps, po, pl, pp, pm, base, over, segs⟩ ++ usNums (segs.take 0))) := Lib.hid (by have h := HD6.out; simpa [rgNums, usNums] using h)
    have HXL := HX6
    have hfbw : w.heap.size ≤ fb := by omega
    have HRS := Lib.hid HR.out.segs
    dsimp only at HRS
    obtain ⟨Q, hQ⟩ : ∃ Q, rgNums ⟨g, v, m, e, sq, d, ps, po, pl, pp, pm, base, over, segs⟩ = Q := ⟨_, rfl⟩
    have hQw : wid Q = 39 := by rw [← hQ]; rfl
    rw [hQ] at HDL HBY
    clear hQ HD6 HX6
    go_wp2_with fail
    go_loopg [7] sn (fun r i wr => ∃ j : Nat, j + r = sn ∧ i = .int .i64 j ∧ Laid w wr pr gr (64 * L) (Q ++ usNums (segs.take j)) ∧ Own wr fb [.int .i64 g, .int .i64 v, .int .i64 m, .int .i64 e, .int .i64 sq, .int .i64 d, .int .i64 ps, .int .i64 po, .int .i64 pl, .int .i64 pp, .int .i64 pm, .slice bA bn bc, .slice oA on oc, .slice sA sn sc])
    case atStart => exact ⟨0, by omega, rfl, HDL.out, HXL.out⟩
    obtain ⟨j, hj, rfl, hd, hX⟩ := hrel
    have HD := Lib.hid hd
    have HX := Lib.hid hX
    have x13 := hX.cell 13 (by simp)
    simp only [List.getElem_cons_zero, List.getElem_cons_succ] at x13
    have hbx := hX.lt
    clear hd hX HDL HXL
    by_cases hlt : j < sn
    · have hjz : j < segs.length := by rw [HSL.out]; exact hlt
      obtain ⟨a, o, rfl, hcc⟩ := HRS.out.at_ (by omega)
      obtain ⟨u0, u1⟩ := hcc j hjz
      have c0 := HD.out.only.cell u0 (by simp)
      obtain ⟨s1, s2⟩ := segsOk_at HSO.out j hjz
      have e1 : (256 : Int) ^ 1 = 256 := rfl
      have e4 : (256 : Int) ^ 4 = 4294967296 := rfl
      have HFA : Hid (0 ≤ segs[j].1 ∧ segs[j].1 < 256 ^ 1) := Lib.hid (by omega)
      have HFB : Hid (0 ≤ segs[j].2 ∧ segs[j].2 < 256 ^ 4) := Lib.hid (by omega)
      have HUL := Lib.hid (us_laid (a := Q) hjz)
      have hwj : wid (Q ++ usNums (segs.take j)) = 39 + 5 * j := by rw [wid_append, hQw, usNums_wid, List.length_take]; omega
      have HWJ := Lib.hid hwj
      have HU1 := Lib.hid u1
      clear hcc u0 u1 s1 s2 hwj e1 e4
      generalize segs[j].1 = st at *
      generalize segs[j].2 = sp at *
      generalize Q ++ usNums (segs.take j) = SN at *
      generalize hSM : Q ++ usNums (segs.take (j + 1)) = SM at *
      have HSM := Lib.hid hSM
      clear hSM
      go_wp2_with fail
      refine (ref_one_any pr gr _ _ 1 st _ (by exact HD.out.row) (by decide) (by rw [HD.out.len, HWJ.out]; omega) HFA.out).mono ?_
      rintro en w4 ⟨rfl, hr, hO⟩
      have HD3 := Lib.hid (HD.out.one hr hO (by rw [HWJ.out]; omega))
      have hX3 := HX.out.keep hO (by simp [hfp, hfg])
      have HX3 := Lib.hid hX3
      clear hr hO HD HX c0 x13 hbx hX3
      have c1 := HD3.out.only.cell HU1.out (by simp)
      have x13 := HX3.out.cell 13 (by simp)
      simp only [List.getElem_cons_zero, List.getElem_cons_succ] at x13
      have hbx := HX3.out.lt
      go_wp2_with fail
      refine (ref_one_any pr gr _ _ 4 sp _ (by exact HD3.out.row) (by decide) (by rw [HD3.out.len, wid_append, HWJ.out]; simp only [wid, List.map_cons, List.map_nil, List.sum_cons, List.sum_nil]; omega) HFB.out).mono ?_
      rintro en w5 ⟨rfl, hr, hO⟩
      have hd5 := HD3.out.one hr hO (by rw [wid_append, HWJ.out]; simp only [wid, List.map_cons, List.map_nil, List.sum_cons, List.sum_nil]; omega)
      have hul := HUL.out
      simp only [List.map_cons, List.map_nil] at hul
      rw [hul] at hd5
      have HD5 := Lib.hid hd5
      have HX5 := Lib.hid (HX3.out.keep hO (by simp [hfp, hfg]))
      clear hr hO HD3 HX3 c1 x13 hbx hd5 hul
      go_wp2
      go_roundg (gk - 1)
      case measure => omega
      case rel => exact ⟨j + 1, by omega, by go_num, by rw [HSM.out]; exact HD5.out, HX5.out⟩
    · obtain rfl : j = sn := by omega
      have hfull : segs.take j = segs := List.take_of_length_le (by rw [HSL.out]; omega)
      have hd := HD.out
      rw [hfull] at hd
      obtain ⟨M, hM⟩ : ∃ M, 64 * L = M + 4 := ⟨64 * L - 4, by omega⟩
      have hby := HBY.out
      have hml : 64 * L - 4 = M := by omega
      rw [hml] at hby
      rw [hM] at hby hd
      have hel := HEL.out
      rw [hM] at hel
      have HLR := Lib.hid hd.len
      have hww : wid (Q ++ usNums segs) = 39 + 5 * j := by rw [wid_append, hQw, usNums_wid, HSL.out]
      have hrow := hd.row
      rw [hww] at hrow
      obtain ⟨Y, hY⟩ : ∃ Y, rgBytes s ⟨g, v, m, e, sq, d, ps, po, pl, pp, pm, base, over, segs⟩ = Y := ⟨_, rfl⟩
      have henc := HENC.out
      rw [hY] at hby hel henc
      have HBL := Lib.hid hel
      have HSE := Lib.hid hby.symm
      have HEE := Lib.hid henc
      have hgw := hd.hg
      have hpw := hd.hp
      have honly := hd.only
      generalize lay (List.replicate (M + 4) (0 : UInt8)) 0 (cat (Q ++ usNums segs)) = X at *
      obtain ⟨Ab, cb, hf0, hfb, hfA⟩ := row_bys hrow
      have hA := hfA (by rw [HLR.out]; omega)
      subst hA
      rw [HLR.out] at hf0
      have hpk := hrow.fk
      have hpz := hrow.pz 1
      have hcz := hrow.lp
      have HRW := Lib.hid (hrow.place M (by rw [HLR.out]; omega))
      have HON := Lib.hid (honly.set (.inr hpw) (.int .i64 ((M : Nat) : Int)) (p := ⟨pr, 1, none⟩))
      clear hd hrow hfull HD hby hel hY henc hww hml HBY HENC HEL hfb hfA honly HX
      go_upto_region 16 with (fail)
      generalize wr.setCell ⟨pr, 1, none⟩ (.int .i64 (M : Int)) = wq at *
      clear hpk hpz hcz hf0 x13 hbx
      obtain ⟨Ab, cb, hf0, hfb, hfA⟩ := row_bys HRW.out
      have hA := hfA (by rw [HLR.out]; omega)
      subst hA
      have hcb := hfb.cm
      have hcl := hfb.le
      rw [HLR.out] at hf0 hfb hcl
      have hlpr := HRW.out.lp
      have HFB : Hid (Bys wq (some ⟨gr, 0, none⟩) M cb (X.take M)) := Lib.hid (by
        have h1 := (HRW.out.own (by rw [HLR.out]; omega)).take M
        rw [show (bvs X).take M = bvs (X.take M) from by simp [bvs, List.map_take]] at h1
        exact Row1.of_Own h1 (by simp [HLR.out]) (by omega) hcb)
      have hcs := csum_lt (X.take M)
      obtain ⟨cs, hcse⟩ : ∃ x, csum (X.take M) = x := ⟨_, rfl⟩
      rw [hcse] at hcs
      have HCS := Lib.hid hcse
      unfold maxLen at hcb
      have hs0 : 0 ≤ (M : Int) := by omega
      have hs1 : (M : Int) ≤ (cb : Int) := by omega
      have hs2 : ((M : Int)).toNat = M := by omega
      have hs3 : M ≤ cb := by omega
      clear hfb hfA hcse
      have hwm := IntWalk.i64_in (M : Int) (by omega)
      have hm4 : (M : Int) + 4 - 4 = (M : Int) := by omega
      go_region_with (first
        | (go_at_call 98; refine (ref_sum_any (some ⟨gr, 0, none⟩) M cb (X.take M) _ (by exact HFB.out.drew)).mono ?_
           rintro en w8 ⟨rfl, hO8⟩
           rw [HCS.out]
           have hO8' := ((Only.refl [] wq).drew).trans' hO8
           have g0 := hO8'.cell hf0 (by simp)
           have HS8 := Lib.hid (HRW.out.keep0 hO8')
           have HN8 := Lib.hid (HON.out.trans' hO8')
           clear hO8 hO8')
        | (go_at_call 96; refine (ref_one_any pr gr M X 4 (cs : Int) _ (by exact HS8.out) (by decide) (by rw [HLR.out]; omega) ⟨by omega, by have e : (256 : Int) ^ 4 = 4294967296 := rfl; omega⟩).mono ?_
           rintro en w9' ⟨rfl, hr, hO⟩
           have HN9 : Hid (Only [] w w9') := Lib.hid (HN8.out.trans hO (by simp [hpw, hgw]))
           have HS9 := Lib.hid hr
           obtain ⟨A9, c9, hf9, hb9, hA9⟩ := row_bys hr
           have g2 := hf9
           clear hr hO hf9))
      all_goals
        have e3 : ((cs : Nat) : Int).toNat = cs := by omega
        rw [e3, ← HCS.out, HSE.out] at HS9 g2 hb9 hA9
        rw [HBL.out] at g2 hb9 hA9
        have hA := hA9 (by omega)
        subst hA
        have HROW := Lib.hid (And.intro (HS9.out.own (by rw [HBL.out]; omega)) (And.intro hb9.le hb9.cm))
        clear hb9 hA9
        go_wp2
        go_ret2
        obtain ⟨r3, r4, r5⟩ := HROW.out
        exact EncOwn.yes HEE.out HBL.out r4 r5 hgw r3 HN9.out
end Go.Proofs.Ytjmbhknokobnpaa
