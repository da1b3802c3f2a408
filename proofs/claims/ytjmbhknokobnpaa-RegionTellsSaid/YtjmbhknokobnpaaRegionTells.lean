/- Claim RegionTells. Printed by mklaws9.py. -/
import Derived.Test.YtjmbhknokobnpaaFrame9
import Derived.Test.YtjmbhknokobnpaaLaw9
import Derived.Deep.RegionHeld3
import Derived.Deep.RegionLaw
set_option linter.unusedVariables false
set_option linter.unusedSimpArgs false
namespace Go.Proofs.Ytjmbhknokobnpaa.regionTells
open Go Go.RowKit Go.Kn Go.ChangeShapes Go.WideShapes Go.ChangeAt

set_option maxRecDepth 100000 in
set_option maxHeartbeats 16000000 in
theorem tells (z0 z1 z2 : Int) (rg rv rm re rq rd rs ro rl rp rt : Int) (rbase rover : List Int) (rsegs : List (Int × Int)) (rA : Option Addr) (rn rc : Nat) (rB : Option Addr) (rk rh : Nat) (rC : Option Addr) (rj ri : Nat) (w : World) (h0 : (Lit.int .i64 z0).wf = true) (h1 : (Lit.int .i64 z1).wf = true) (h2 : (Lit.int .i64 z2).wf = true)
    (hr : RgAt w ⟨rg, rv, rm, re, rq, rd, rs, ro, rl, rp, rt, rbase, rover, rsegs⟩ (rA, rn, rc) (rB, rk, rh) (rC, rj, ri)) :
    Calls Try.prog 14 #[.agg #[.int .i64 z0, .int .i64 z1, .int .i64 z2], .agg #[.int .i64 rg, .int .i64 rv, .int .i64 rm, .int .i64 re, .int .i64 rq, .int .i64 rd, .int .i64 rs, .int .i64 ro, .int .i64 rl, .int .i64 rp, .int .i64 rt, .slice rA rn rc, .slice rB rk rh, .slice rC rj ri]] w fun en w' => en = .returned (.bool true) ∧ Only [] w w' := by
  obtain ⟨b, hb⟩ : ∃ b, 1 + z0 % 64 = b := ⟨_, rfl⟩
  obtain ⟨s, hs⟩ : ∃ b, 8 + z1 % 25 = b := ⟨_, rfl⟩
  obtain ⟨l, hl⟩ : ∃ b, 24 + z2 % 41 = b := ⟨_, rfl⟩
  have hcf := cf_ok z0 z1 z2
  rw [hb, hs, hl] at hcf
  have HC := Lib.hid hcf
  have HK : Hid (∀ W : World, Calls Try.prog 57 #[.agg #[.int .i64 z0, .int .i64 z1, .int .i64 z2]] W fun e w' => ∃ p, e = .returned (.tuple #[.agg #[.int .i64 b, .int .i64 s, .int .i64 l], .pointer (some ⟨p, 0, none⟩), .bool true]) ∧ GeoAt w' p b s l ∧ W.heap.size ≤ p ∧ Only [] W w') := Lib.hid fun W => by
    have h := kept9_any z0 z1 z2 W h0 h1 h2
    rw [hb, hs, hl] at h
    exact h
  clear hb hs hl h0 h1 h2 hcf
  have hB1 := hr.base.le
  have hB2 := hr.base.cm
  have hO1 := hr.over.le
  have hO2 := hr.over.cm
  have hS1 := hr.segs.le
  have hS2 := hr.segs.cm
  dsimp only at hB1 hB2 hO1 hO2 hS1 hS2
  unfold maxLen at hB2 hO2 hS2
  have HR := Lib.hid hr
  clear hr
  have HOA := Lib.hid (((Only.refl [] w).alloc (.cells #[.int .i64 z0, .int .i64 z1, .int .i64 z2] 22)).alloc (.cells #[.int .i64 rg, .int .i64 rv, .int .i64 rm, .int .i64 re, .int .i64 rq, .int .i64 rd, .int .i64 rs, .int .i64 ro, .int .i64 rl, .int .i64 rp, .int .i64 rt, .slice rA rn rc, .slice rB rk rh, .slice rC rj ri] 90))
  by_cases hsm : rn ≤ 50 ∧ rk ≤ 50 ∧ rj ≤ 100
  · obtain ⟨hs1, hs2, hs3⟩ := hsm
    have hd1 : decide (50 < (rn : Int)) = false := by simp; omega
    have hd2 : decide (50 < (rk : Int)) = false := by simp; omega
    have hd3 : decide (100 < (rj : Int)) = false := by simp; omega
    have HD0 : Hid (Wd w w [] [] []) := Lib.hid (Wd.start w)
    have HD1 : Hid (Wd w w [] [] [(fun W => RgAt W ⟨rg, rv, rm, re, rq, rd, rs, ro, rl, rp, rt, rbase, rover, rsegs⟩ (rA, rn, rc) (rB, rk, rh) (rC, rj, ri))]) := Lib.hid (HD0.out.fact0 (HR.out.fx (by simp) (by simp) (by simp)))
    clear HD0
    have HD2 : Hid (Wd w (World.alloc w (.cells #[.int .i64 z0, .int .i64 z1, .int .i64 z2] 22)) [] [] [(fun W => RgAt W ⟨rg, rv, rm, re, rq, rd, rs, ro, rl, rp, rt, rbase, rover, rsegs⟩ (rA, rn, rc) (rB, rk, rh) (rC, rj, ri))]) := Lib.hid (HD1.out.alloc (.cells #[.int .i64 z0, .int .i64 z1, .int .i64 z2] 22))
    clear HD1
    have HD3 : Hid (Wd w (World.alloc (World.alloc w (.cells #[.int .i64 z0, .int .i64 z1, .int .i64 z2] 22)) (.cells #[.int .i64 rg, .int .i64 rv, .int .i64 rm, .int .i64 re, .int .i64 rq, .int .i64 rd, .int .i64 rs, .int .i64 ro, .int .i64 rl, .int .i64 rp, .int .i64 rt, .slice rA rn rc, .slice rB rk rh, .slice rC rj ri] 90)) [] [] [(fun W => Own W (w.heap.size + 1) [.int .i64 rg, .int .i64 rv, .int .i64 rm, .int .i64 re, .int .i64 rq, .int .i64 rd, .int .i64 rs, .int .i64 ro, .int .i64 rl, .int .i64 rp, .int .i64 rt, .slice rA rn rc, .slice rB rk rh, .slice rC rj ri]), (fun W => RgAt W ⟨rg, rv, rm, re, rq, rd, rs, ro, rl, rp, rt, rbase, rover, rsegs⟩ (rA, rn, rc) (rB, rk, rh) (rC, rj, ri))]) := Lib.hid (HD2.out.newF #[.int .i64 rg, .int .i64 rv, .int .i64 rm, .int .i64 re, .int .i64 rq, .int .i64 rd, .int .i64 rs, .int .i64 ro, .int .i64 rl, .int .i64 rp, .int .i64 rt, .slice rA rn rc, .slice rB rk rh, .slice rC rj ri] 90 (by simp))
    clear HD2
    go_enter Try.func14, Try.ntmps14
    go_wp2_with fail
    generalize hwa : (w.alloc (.cells #[.int .i64 z0, .int .i64 z1, .int .i64 z2] 22)).alloc (.cells #[.int .i64 rg, .int .i64 rv, .int .i64 rm, .int .i64 re, .int .i64 rq, .int .i64 rd, .int .i64 rs, .int .i64 ro, .int .i64 rl, .int .i64 rp, .int .i64 rt, .slice rA rn rc, .slice rB rk rh, .slice rC rj ri] 90) = w0 at *
    clear hwa
    generalize w.heap.size + 1 = rb at *
    refine (HK.out _).mono ?_
    rintro en w1 ⟨p, rfl, hg, hpf, hO⟩
    have HD4 : Hid (Wd w w1 [] [] [(fun W => GeoAt W p b s l), (fun W => Own W rb [.int .i64 rg, .int .i64 rv, .int .i64 rm, .int .i64 re, .int .i64 rq, .int .i64 rd, .int .i64 rs, .int .i64 ro, .int .i64 rl, .int .i64 rp, .int .i64 rt, .slice rA rn rc, .slice rB rk rh, .slice rC rj ri]), (fun W => RgAt W ⟨rg, rv, rm, re, rq, rd, rs, ro, rl, rp, rt, rbase, rover, rsegs⟩ (rA, rn, rc) (rB, rk, rh) (rC, rj, ri))]) := Lib.hid ((HD3.out.keep0 hO).fact0 (hg.fx (by simp)))
    clear HD3
    clear hg hpf hO
    have HD5 : Hid (Wd w (World.alloc w1 (.cells #[.int .i64 b, .int .i64 s, .int .i64 l] 29)) [] [] [(fun W => Own W w1.heap.size [.int .i64 b, .int .i64 s, .int .i64 l]), (fun W => GeoAt W p b s l), (fun W => Own W rb [.int .i64 rg, .int .i64 rv, .int .i64 rm, .int .i64 re, .int .i64 rq, .int .i64 rd, .int .i64 rs, .int .i64 ro, .int .i64 rl, .int .i64 rp, .int .i64 rt, .slice rA rn rc, .slice rB rk rh, .slice rC rj ri]), (fun W => RgAt W ⟨rg, rv, rm, re, rq, rd, rs, ro, rl, rp, rt, rbase, rover, rsegs⟩ (rA, rn, rc) (rB, rk, rh) (rC, rj, ri))]) := Lib.hid (HD4.out.newF #[.int .i64 b, .int .i64 s, .int .i64 l] 29 rfl)
    clear HD4
    go_upto_region 6 with (fail)
    generalize hwa : w1.alloc (.cells #[.int .i64 b, .int .i64 s, .int .i64 l] 29) = w2 at *
    clear hwa
    generalize w1.heap.size = cb at *
    obtain ⟨x0, x1, x2, x3, x4, x5, x6, x7, x8, x9, x10, x11, x12, x13, q0, q1, q2⟩ := cells17 (show Own w2 rb _ from (HD5.out.fi 2 rfl)) (show Own w2 cb _ from (HD5.out.fi 0 rfl))
    go_wp2_with fail
    obtain ⟨o, ho⟩ : ∃ o, encRg b s l ⟨rg, rv, rm, re, rq, rd, rs, ro, rl, rp, rt, rbase, rover, rsegs⟩ = o := ⟨_, rfl⟩
    have HOO := Lib.hid ho
    have hen := region_enc_own p b s l rg rv rm re rq rd rs ro rl rp rt rA rn rc rbase rB rk rh rover rC rj ri rsegs w2 (by exact (HD5.out.fi 1 rfl)) HC.out (by exact (HD5.out.fi 3 rfl))
    rw [ho] at hen
    clear ho
    refine hen.mono ?_
    clear hen
    intro en w3 he
    obtain ⟨A1, k1, rfl, hb1, hf1, hO⟩ := he.says
    clear he
    generalize hys : o.getD [] = ys at *
    generalize her : (if o.isSome = true then (0 : Int) else 1) = er at *
    have HYS := Lib.hid hys
    have HER := Lib.hid her
    clear hys her
    have HD6 : Hid (Wd w w3 [] [] [(fun W => Bys W A1 ys.length k1 ys), (fun W => Own W cb [.int .i64 b, .int .i64 s, .int .i64 l]), (fun W => GeoAt W p b s l), (fun W => Own W rb [.int .i64 rg, .int .i64 rv, .int .i64 rm, .int .i64 re, .int .i64 rq, .int .i64 rd, .int .i64 rs, .int .i64 ro, .int .i64 rl, .int .i64 rp, .int .i64 rt, .slice rA rn rc, .slice rB rk rh, .slice rC rj ri]), (fun W => RgAt W ⟨rg, rv, rm, re, rq, rd, rs, ro, rl, rp, rt, rbase, rover, rsegs⟩ (rA, rn, rc) (rB, rk, rh) (rC, rj, ri))]) := Lib.hid ((HD5.out.keep0 hO).fact0 (hb1.fx (by simp)))
    clear HD5
    clear hb1 hf1 hO x0 x1 x2 x3 x4 x5 x6 x7 x8 x9 x10 x11 x12 x13 q0 q1 q2
    obtain ⟨x0, x1, x2, x3, x4, x5, x6, x7, x8, x9, x10, x11, x12, x13, q0, q1, q2⟩ := cells17 (show Own w3 rb _ from (HD6.out.fi 3 rfl)) (show Own w3 cb _ from (HD6.out.fi 1 rfl))
    go_wp2_with fail
    have hen := ref_region_enc_own b s l rg rv rm re rq rd rs ro rl rp rt rA rn rc rbase rB rk rh rover rC rj ri rsegs w3 HC.out (by exact (HD6.out.fi 4 rfl))
    rw [HOO.out] at hen
    refine hen.mono ?_
    clear hen
    intro en w4 he
    obtain ⟨A2, k2, rfl, hb2, hf2, hO⟩ := he.says
    clear he
    rw [HYS.out] at hb2
    rw [HYS.out, HER.out]
    have HD7 : Hid (Wd w w4 [] [] [(fun W => Bys W A2 ys.length k2 ys), (fun W => Bys W A1 ys.length k1 ys), (fun W => Own W cb [.int .i64 b, .int .i64 s, .int .i64 l]), (fun W => GeoAt W p b s l), (fun W => Own W rb [.int .i64 rg, .int .i64 rv, .int .i64 rm, .int .i64 re, .int .i64 rq, .int .i64 rd, .int .i64 rs, .int .i64 ro, .int .i64 rl, .int .i64 rp, .int .i64 rt, .slice rA rn rc, .slice rB rk rh, .slice rC rj ri]), (fun W => RgAt W ⟨rg, rv, rm, re, rq, rd, rs, ro, rl, rp, rt, rbase, rover, rsegs⟩ (rA, rn, rc) (rB, rk, rh) (rC, rj, ri))]) := Lib.hid ((HD6.out.keep0 hO).fact0 (hb2.fx (by simp)))
    clear HD6
    clear hb2 hf2 hO x0 x1 x2 x3 x4 x5 x6 x7 x8 x9 x10 x11 x12 x13 q0 q1 q2
    obtain ⟨mm, hmm⟩ : ∃ mm, rgMay b s l ⟨rg, rv, rm, re, rq, rd, rs, ro, rl, rp, rt, rbase, rover, rsegs⟩ = mm := ⟨_, rfl⟩
    have HM := Lib.hid hmm
    have hn1 : (mm == mm) = true := by simp
    have hn3 : (er == er) = true := by simp
    clear hmm
    go_upto_region 8 with (fail)
    have HD7d : Hid (Wd w w4.drew [] [] [(fun W => Bys W A2 ys.length k2 ys), (fun W => Bys W A1 ys.length k1 ys), (fun W => Own W cb [.int .i64 b, .int .i64 s, .int .i64 l]), (fun W => GeoAt W p b s l), (fun W => Own W rb [.int .i64 rg, .int .i64 rv, .int .i64 rm, .int .i64 re, .int .i64 rq, .int .i64 rd, .int .i64 rs, .int .i64 ro, .int .i64 rl, .int .i64 rp, .int .i64 rt, .slice rA rn rc, .slice rB rk rh, .slice rC rj ri]), (fun W => RgAt W ⟨rg, rv, rm, re, rq, rd, rs, ro, rl, rp, rt, rbase, rover, rsegs⟩ (rA, rn, rc) (rB, rk, rh) (rC, rj, ri))]) := Lib.hid (HD7.out.drew)
    clear HD7
    refine wp_region_held_drew (S := (fun w' => w'.cell? ⟨rb, 0, none⟩ = some (.int .i64 rg) ∧ w'.cell? ⟨rb, 1, none⟩ = some (.int .i64 rv) ∧ w'.cell? ⟨rb, 2, none⟩ = some (.int .i64 rm) ∧ w'.cell? ⟨rb, 3, none⟩ = some (.int .i64 re) ∧ w'.cell? ⟨rb, 4, none⟩ = some (.int .i64 rq) ∧ w'.cell? ⟨rb, 5, none⟩ = some (.int .i64 rd) ∧ w'.cell? ⟨rb, 6, none⟩ = some (.int .i64 rs) ∧ w'.cell? ⟨rb, 7, none⟩ = some (.int .i64 ro) ∧ w'.cell? ⟨rb, 8, none⟩ = some (.int .i64 rl) ∧ w'.cell? ⟨rb, 9, none⟩ = some (.int .i64 rp) ∧ w'.cell? ⟨rb, 10, none⟩ = some (.int .i64 rt) ∧ w'.cell? ⟨rb, 11, none⟩ = some (.slice rA rn rc) ∧ w'.cell? ⟨rb, 12, none⟩ = some (.slice rB rk rh) ∧ w'.cell? ⟨rb, 13, none⟩ = some (.slice rC rj ri) ∧ w'.cell? ⟨cb, 0, none⟩ = some (.int .i64 b) ∧ w'.cell? ⟨cb, 1, none⟩ = some (.int .i64 s) ∧ w'.cell? ⟨cb, 2, none⟩ = some (.int .i64 l))) (by kernel_rfl) (cells17 (show Own w4.drew rb _ from (HD7d.out.fi 4 rfl)) (show Own w4.drew cb _ from (HD7d.out.fi 2 rfl))) (fun hSw0 => ?_)
    refine wpAnyH_take (i := 0) (oi := ⟨some 49, _, _, _, _, _⟩) (v := ?_) rfl (by kernel_rfl) (by kernel_rfl) (by kernel_rfl) (fun _ _ _ h => h) (Or.inl ⟨by rfl, ?_⟩) (by assumption) ?_
    rotate_left
    · intro w hSw
      obtain ⟨hS0, hS1, hS2, hS3, hS4, hS5, hS6, hS7, hS8, hS9, hS10, hS11, hS12, hS13, hS14, hS15, hS16⟩ := hSw
      go_simp
      all_goals (try with_reducible rfl)
    (try simp only [Act.put, List.setIfInBounds_toArray, List.set_cons_zero, List.set_cons_succ])
    refine wpAnyH_take (i := 1) (oi := ⟨some 50, _, _, _, _, _⟩) (v := ?_) rfl (by kernel_rfl) (by kernel_rfl) (by kernel_rfl) (fun _ _ _ h => h) (Or.inl ⟨by rfl, ?_⟩) (by assumption) ?_
    rotate_left
    · intro w hSw
      obtain ⟨hS0, hS1, hS2, hS3, hS4, hS5, hS6, hS7, hS8, hS9, hS10, hS11, hS12, hS13, hS14, hS15, hS16⟩ := hSw
      go_simp
      all_goals (try with_reducible rfl)
    (try simp only [Act.put, List.setIfInBounds_toArray, List.set_cons_zero, List.set_cons_succ])
    refine wpAnyH_take (i := 3) (oi := ⟨some 52, _, _, _, _, _⟩) (v := ?_) rfl (by kernel_rfl) (by kernel_rfl) (by kernel_rfl) (fun _ _ _ h => h) (Or.inl ⟨by rfl, ?_⟩) (by assumption) ?_
    rotate_left
    · intro w hSw
      obtain ⟨hS0, hS1, hS2, hS3, hS4, hS5, hS6, hS7, hS8, hS9, hS10, hS11, hS12, hS13, hS14, hS15, hS16⟩ := hSw
      go_simp
      all_goals (try with_reducible rfl)
    (try simp only [Act.put, List.setIfInBounds_toArray, List.set_cons_zero, List.set_cons_succ])
    refine wpAnyH_take (i := 4) (oi := ⟨some 53, _, _, _, _, _⟩) (v := ?_) rfl (by kernel_rfl) (by kernel_rfl) (by kernel_rfl) (fun _ _ _ h => h) (Or.inl ⟨by rfl, ?_⟩) (by assumption) ?_
    rotate_left
    · intro w hSw
      obtain ⟨hS0, hS1, hS2, hS3, hS4, hS5, hS6, hS7, hS8, hS9, hS10, hS11, hS12, hS13, hS14, hS15, hS16⟩ := hSw
      go_simp
      all_goals (try with_reducible rfl)
    (try simp only [Act.put, List.setIfInBounds_toArray, List.set_cons_zero, List.set_cons_succ])
    refine wpAnyH_ready (rs := [2]) (by kernel_rfl) (by simp) ?_
    refine AllReadyH.cons (o := ⟨some 51, _, _, _, _, _⟩) rfl (fun K hK => ?_) AllReadyH.nil
    go_simp
    refine (region_may_any p b s l rg rv rm re rq rd rs ro rl rp rt rA rn rc rbase rB rk rh rover rC rj ri rsegs _ (by exact (HD7d.out.fi 3 rfl)) HC.out (by exact (HD7d.out.fi 5 rfl))).mono ?_
    rintro en w5 ⟨rfl, hO⟩
    rw [HM.out]
    have HD8 : Hid (Wd w w5 [] [] [(fun W => Bys W A2 ys.length k2 ys), (fun W => Bys W A1 ys.length k1 ys), (fun W => Own W cb [.int .i64 b, .int .i64 s, .int .i64 l]), (fun W => GeoAt W p b s l), (fun W => Own W rb [.int .i64 rg, .int .i64 rv, .int .i64 rm, .int .i64 re, .int .i64 rq, .int .i64 rd, .int .i64 rs, .int .i64 ro, .int .i64 rl, .int .i64 rp, .int .i64 rt, .slice rA rn rc, .slice rB rk rh, .slice rC rj ri]), (fun W => RgAt W ⟨rg, rv, rm, re, rq, rd, rs, ro, rl, rp, rt, rbase, rover, rsegs⟩ (rA, rn, rc) (rB, rk, rh) (rC, rj, ri))]) := Lib.hid (HD7d.out.keep0 hO)
    clear HD7d
    clear hO
    refine hK.out _ _ (cells17 (show Own w5 rb _ from (HD8.out.fi 4 rfl)) (show Own w5 cb _ from (HD8.out.fi 2 rfl))) (fun hSn => ?_)
    clear hK K hSw0
    have hSw0 := hSn
    clear hSn
    (try simp only [Act.put, List.setIfInBounds_toArray, List.set_cons_zero, List.set_cons_succ])
    refine wpAnyH_ready (rs := [5]) (by kernel_rfl) (by simp) ?_
    refine AllReadyH.cons (o := ⟨some 54, _, _, _, _, _⟩) rfl (fun K hK => ?_) AllReadyH.nil
    go_simp
    refine (ref_region_may_any b s l rg rv rm re rq rd rs ro rl rp rt rA rn rc rbase rB rk rh rover rC rj ri rsegs _ HC.out (by exact (HD8.out.fi 5 rfl))).mono ?_
    rintro en w6 ⟨rfl, hO⟩
    rw [HM.out]
    have HD9 : Hid (Wd w w6 [] [] [(fun W => Bys W A2 ys.length k2 ys), (fun W => Bys W A1 ys.length k1 ys), (fun W => Own W cb [.int .i64 b, .int .i64 s, .int .i64 l]), (fun W => GeoAt W p b s l), (fun W => Own W rb [.int .i64 rg, .int .i64 rv, .int .i64 rm, .int .i64 re, .int .i64 rq, .int .i64 rd, .int .i64 rs, .int .i64 ro, .int .i64 rl, .int .i64 rp, .int .i64 rt, .slice rA rn rc, .slice rB rk rh, .slice rC rj ri]), (fun W => RgAt W ⟨rg, rv, rm, re, rq, rd, rs, ro, rl, rp, rt, rbase, rover, rsegs⟩ (rA, rn, rc) (rB, rk, rh) (rC, rj, ri))]) := Lib.hid (HD8.out.keep0 hO)
    clear HD8
    clear hO
    refine hK.out _ _ (cells17 (show Own w6 rb _ from (HD9.out.fi 4 rfl)) (show Own w6 cb _ from (HD9.out.fi 2 rfl))) (fun hSn => ?_)
    clear hK K hSw0
    have hSw0 := hSn
    clear hSn
    (try simp only [Act.put, List.setIfInBounds_toArray, List.set_cons_zero, List.set_cons_succ])
    refine wpAnyH_take (i := 6) (oi := ⟨some 55, _, _, _, _, _⟩) (v := ?_) rfl (by kernel_rfl) (by kernel_rfl) (by kernel_rfl) (fun _ _ _ h => h) (Or.inl ⟨by rfl, ?_⟩) (by assumption) ?_
    rotate_left
    · intro w hSw
      obtain ⟨hS0, hS1, hS2, hS3, hS4, hS5, hS6, hS7, hS8, hS9, hS10, hS11, hS12, hS13, hS14, hS15, hS16⟩ := hSw
      go_simp
      all_goals (try with_reducible rfl)
    (try simp only [Act.put, List.setIfInBounds_toArray, List.set_cons_zero, List.set_cons_succ])
    refine wpAnyH_take (i := 7) (oi := ⟨some 56, _, _, _, _, _⟩) (v := ?_) rfl (by kernel_rfl) (by kernel_rfl) (by kernel_rfl) (fun _ _ _ h => h) (Or.inl ⟨by rfl, ?_⟩) (by assumption) ?_
    rotate_left
    · intro w hSw
      obtain ⟨hS0, hS1, hS2, hS3, hS4, hS5, hS6, hS7, hS8, hS9, hS10, hS11, hS12, hS13, hS14, hS15, hS16⟩ := hSw
      go_simp
      all_goals (try with_reducible rfl)
    (try simp only [Act.put, List.setIfInBounds_toArray, List.set_cons_zero, List.set_cons_succ])
    refine wpAnyH_take (i := 8) (oi := ⟨some 57, _, _, _, _, _⟩) (v := ?_) rfl (by kernel_rfl) (by kernel_rfl) (by kernel_rfl) (fun _ _ _ h => h) (Or.inl ⟨by rfl, ?_⟩) (by assumption) ?_
    rotate_left
    · intro w hSw
      obtain ⟨hS0, hS1, hS2, hS3, hS4, hS5, hS6, hS7, hS8, hS9, hS10, hS11, hS12, hS13, hS14, hS15, hS16⟩ := hSw
      go_simp
      all_goals (try with_reducible rfl)
    (try simp only [Act.put, List.setIfInBounds_toArray, List.set_cons_zero, List.set_cons_succ])
    refine wpAnyH_take (i := 9) (oi := ⟨some 58, _, _, _, _, _⟩) (v := ?_) rfl (by kernel_rfl) (by kernel_rfl) (by kernel_rfl) (fun _ _ _ h => h) (Or.inl ⟨by rfl, ?_⟩) (by assumption) ?_
    rotate_left
    · intro w hSw
      obtain ⟨hS0, hS1, hS2, hS3, hS4, hS5, hS6, hS7, hS8, hS9, hS10, hS11, hS12, hS13, hS14, hS15, hS16⟩ := hSw
      go_simp
      all_goals (try with_reducible rfl)
    (try simp only [Act.put, List.setIfInBounds_toArray, List.set_cons_zero, List.set_cons_succ])
    refine wpAnyH_take (i := 10) (oi := ⟨some 59, _, _, _, _, _⟩) (v := ?_) rfl (by kernel_rfl) (by kernel_rfl) (by kernel_rfl) (fun _ _ _ h => h) (Or.inl ⟨by rfl, ?_⟩) (by assumption) ?_
    rotate_left
    · intro w hSw
      obtain ⟨hS0, hS1, hS2, hS3, hS4, hS5, hS6, hS7, hS8, hS9, hS10, hS11, hS12, hS13, hS14, hS15, hS16⟩ := hSw
      go_simp
      all_goals (try with_reducible rfl)
    (try simp only [Act.put, List.setIfInBounds_toArray, List.set_cons_zero, List.set_cons_succ])
    refine wpAnyH_take (i := 11) (oi := ⟨some 60, _, _, _, _, _⟩) (v := ?_) rfl (by kernel_rfl) (by kernel_rfl) (by kernel_rfl) (fun _ _ _ h => h) (Or.inl ⟨by rfl, ?_⟩) (by assumption) ?_
    rotate_left
    · intro w hSw
      obtain ⟨hS0, hS1, hS2, hS3, hS4, hS5, hS6, hS7, hS8, hS9, hS10, hS11, hS12, hS13, hS14, hS15, hS16⟩ := hSw
      go_simp
      all_goals (try with_reducible rfl)
    (try simp only [Act.put, List.setIfInBounds_toArray, List.set_cons_zero, List.set_cons_succ])
    refine wpAnyH_take (i := 12) (oi := ⟨some 61, _, _, _, _, _⟩) (v := ?_) rfl (by kernel_rfl) (by kernel_rfl) (by kernel_rfl) (fun _ _ _ h => h) (Or.inl ⟨by rfl, ?_⟩) (by assumption) ?_
    rotate_left
    · intro w hSw
      obtain ⟨hS0, hS1, hS2, hS3, hS4, hS5, hS6, hS7, hS8, hS9, hS10, hS11, hS12, hS13, hS14, hS15, hS16⟩ := hSw
      go_simp
      all_goals (try with_reducible rfl)
    (try simp only [Act.put, List.setIfInBounds_toArray, List.set_cons_zero, List.set_cons_succ])
    refine wpAnyH_take (i := 13) (oi := ⟨some 62, _, _, _, _, _⟩) (v := ?_) rfl (by kernel_rfl) (by kernel_rfl) (by kernel_rfl) (fun _ _ _ h => h) (Or.inl ⟨by rfl, ?_⟩) (by assumption) ?_
    rotate_left
    · intro w hSw
      obtain ⟨hS0, hS1, hS2, hS3, hS4, hS5, hS6, hS7, hS8, hS9, hS10, hS11, hS12, hS13, hS14, hS15, hS16⟩ := hSw
      go_simp
      all_goals (try with_reducible rfl)
    (try simp only [Act.put, List.setIfInBounds_toArray, List.set_cons_zero, List.set_cons_succ])
    refine wpAnyH_take (i := 14) (oi := ⟨some 63, _, _, _, _, _⟩) (v := ?_) rfl (by kernel_rfl) (by kernel_rfl) (by kernel_rfl) (fun _ _ _ h => h) (Or.inl ⟨by rfl, ?_⟩) (by assumption) ?_
    rotate_left
    · intro w hSw
      obtain ⟨hS0, hS1, hS2, hS3, hS4, hS5, hS6, hS7, hS8, hS9, hS10, hS11, hS12, hS13, hS14, hS15, hS16⟩ := hSw
      go_simp
      all_goals (try with_reducible rfl)
    (try simp only [Act.put, List.setIfInBounds_toArray, List.set_cons_zero, List.set_cons_succ])
    refine wpAnyH_ready (rs := [15]) (by kernel_rfl) (by simp) ?_
    refine AllReadyH.cons (o := ⟨some 64, _, _, _, _, _⟩) rfl (fun K hK => ?_) AllReadyH.nil
    go_simp
    refine (alike_bytes_any A1 ys.length k1 ys A2 ys.length k2 ys _ (by exact (HD9.out.fi 1 rfl)) (by exact (HD9.out.fi 0 rfl))).mono ?_
    rintro en w7 ⟨rfl, k7, rfl⟩
    have hdd : decide (ys = ys) = true := by simp
    rw [hdd]
    clear hdd
    have HDa : Hid (Wd w (w6.drewN k7) [] [] [(fun W => Bys W A2 ys.length k2 ys), (fun W => Bys W A1 ys.length k1 ys), (fun W => Own W cb [.int .i64 b, .int .i64 s, .int .i64 l]), (fun W => GeoAt W p b s l), (fun W => Own W rb [.int .i64 rg, .int .i64 rv, .int .i64 rm, .int .i64 re, .int .i64 rq, .int .i64 rd, .int .i64 rs, .int .i64 ro, .int .i64 rl, .int .i64 rp, .int .i64 rt, .slice rA rn rc, .slice rB rk rh, .slice rC rj ri]), (fun W => RgAt W ⟨rg, rv, rm, re, rq, rd, rs, ro, rl, rp, rt, rbase, rover, rsegs⟩ (rA, rn, rc) (rB, rk, rh) (rC, rj, ri))]) := Lib.hid (HD9.out.drewN k7)
    clear HD9
    refine hK.out _ _ (cells17 (show Own (w6.drewN k7) rb _ from (HDa.out.fi 4 rfl)) (show Own (w6.drewN k7) cb _ from (HDa.out.fi 2 rfl))) (fun hSn => ?_)
    clear hK K hSw0
    have hSw0 := hSn
    clear hSn
    (try simp only [Act.put, List.setIfInBounds_toArray, List.set_cons_zero, List.set_cons_succ])
    refine wpAnyH_take (i := 16) (oi := ⟨some 65, _, _, _, _, _⟩) (v := ?_) rfl (by kernel_rfl) (by kernel_rfl) (by kernel_rfl) (fun _ _ _ h => h) (Or.inl ⟨by rfl, ?_⟩) (by assumption) ?_
    rotate_left
    · intro w hSw
      obtain ⟨hS0, hS1, hS2, hS3, hS4, hS5, hS6, hS7, hS8, hS9, hS10, hS11, hS12, hS13, hS14, hS15, hS16⟩ := hSw
      go_simp
      all_goals (try with_reducible rfl)
    (try simp only [Act.put, List.setIfInBounds_toArray, List.set_cons_zero, List.set_cons_succ])
    refine wpAnyH_take (i := 17) (oi := ⟨some 66, _, _, _, _, _⟩) (v := ?_) rfl (by kernel_rfl) (by kernel_rfl) (by kernel_rfl) (fun _ _ _ h => h) (Or.inl ⟨by rfl, ?_⟩) (by assumption) ?_
    rotate_left
    · intro w hSw
      obtain ⟨hS0, hS1, hS2, hS3, hS4, hS5, hS6, hS7, hS8, hS9, hS10, hS11, hS12, hS13, hS14, hS15, hS16⟩ := hSw
      go_simp
      all_goals (try with_reducible rfl)
    (try simp only [Act.put, List.setIfInBounds_toArray, List.set_cons_zero, List.set_cons_succ])
    refine wpAnyH_take (i := 18) (oi := ⟨some 67, _, _, _, _, _⟩) (v := ?_) rfl (by kernel_rfl) (by kernel_rfl) (by kernel_rfl) (fun _ _ _ h => h) (Or.inl ⟨by rfl, ?_⟩) (by assumption) ?_
    rotate_left
    · intro w hSw
      obtain ⟨hS0, hS1, hS2, hS3, hS4, hS5, hS6, hS7, hS8, hS9, hS10, hS11, hS12, hS13, hS14, hS15, hS16⟩ := hSw
      go_simp
      all_goals (try with_reducible rfl)
    (try simp only [Act.put, List.setIfInBounds_toArray, List.set_cons_zero, List.set_cons_succ])
    refine wpAnyH_ready (rs := [19]) (by kernel_rfl) (by simp) ?_
    refine AllReadyH.cons (o := ⟨some 68, _, _, _, _, _⟩) rfl (fun K hK => ?_) AllReadyH.nil
    go_simp
    refine (region_may_nil rg rv rm re rq rd rs ro rl rp rt rA rn rc rB rk rh rC rj ri _).mono ?_
    rintro en w8 ⟨rfl, hO⟩
    have HDb : Hid (Wd w w8 [] [] [(fun W => Bys W A2 ys.length k2 ys), (fun W => Bys W A1 ys.length k1 ys), (fun W => Own W cb [.int .i64 b, .int .i64 s, .int .i64 l]), (fun W => GeoAt W p b s l), (fun W => Own W rb [.int .i64 rg, .int .i64 rv, .int .i64 rm, .int .i64 re, .int .i64 rq, .int .i64 rd, .int .i64 rs, .int .i64 ro, .int .i64 rl, .int .i64 rp, .int .i64 rt, .slice rA rn rc, .slice rB rk rh, .slice rC rj ri]), (fun W => RgAt W ⟨rg, rv, rm, re, rq, rd, rs, ro, rl, rp, rt, rbase, rover, rsegs⟩ (rA, rn, rc) (rB, rk, rh) (rC, rj, ri))]) := Lib.hid (HDa.out.keep0 hO)
    clear HDa
    clear hO
    refine hK.out _ _ (cells17 (show Own w8 rb _ from (HDb.out.fi 4 rfl)) (show Own w8 cb _ from (HDb.out.fi 2 rfl))) (fun hSn => ?_)
    clear hK K hSw0
    have hSw0 := hSn
    clear hSn
    (try simp only [Act.put, List.setIfInBounds_toArray, List.set_cons_zero, List.set_cons_succ])
    refine wpAnyH_take (i := 20) (oi := ⟨some 69, _, _, _, _, _⟩) (v := ?_) rfl (by kernel_rfl) (by kernel_rfl) (by kernel_rfl) (fun _ _ _ h => h) (Or.inl ⟨by rfl, ?_⟩) (by assumption) ?_
    rotate_left
    · intro w hSw
      obtain ⟨hS0, hS1, hS2, hS3, hS4, hS5, hS6, hS7, hS8, hS9, hS10, hS11, hS12, hS13, hS14, hS15, hS16⟩ := hSw
      go_simp
      all_goals (try with_reducible rfl)
    (try simp only [Act.put, List.setIfInBounds_toArray, List.set_cons_zero, List.set_cons_succ])
    refine wpAnyH_take (i := 21) (oi := ⟨some 70, _, _, _, _, _⟩) (v := ?_) rfl (by kernel_rfl) (by kernel_rfl) (by kernel_rfl) (fun _ _ _ h => h) (Or.inl ⟨by rfl, ?_⟩) (by assumption) ?_
    rotate_left
    · intro w hSw
      obtain ⟨hS0, hS1, hS2, hS3, hS4, hS5, hS6, hS7, hS8, hS9, hS10, hS11, hS12, hS13, hS14, hS15, hS16⟩ := hSw
      go_simp
      all_goals (try with_reducible rfl)
    (try simp only [Act.put, List.setIfInBounds_toArray, List.set_cons_zero, List.set_cons_succ])
    refine wpAnyH_take (i := 22) (oi := ⟨some 71, _, _, _, _, _⟩) (v := ?_) rfl (by kernel_rfl) (by kernel_rfl) (by kernel_rfl) (fun _ _ _ h => h) (Or.inl ⟨by rfl, ?_⟩) (by assumption) ?_
    rotate_left
    · intro w hSw
      obtain ⟨hS0, hS1, hS2, hS3, hS4, hS5, hS6, hS7, hS8, hS9, hS10, hS11, hS12, hS13, hS14, hS15, hS16⟩ := hSw
      go_simp
      all_goals (try with_reducible rfl)
    (try simp only [Act.put, List.setIfInBounds_toArray, List.set_cons_zero, List.set_cons_succ])
    refine wpAnyH_ready (rs := [23]) (by kernel_rfl) (by simp) ?_
    refine AllReadyH.cons (o := ⟨some 72, _, _, _, _, _⟩) rfl (fun K hK => ?_) AllReadyH.nil
    go_simp
    refine (awake9 _).mono ?_
    rintro en w9 ⟨rfl, hO⟩
    have HDc : Hid (Wd w w9 [] [] [(fun W => Bys W A2 ys.length k2 ys), (fun W => Bys W A1 ys.length k1 ys), (fun W => Own W cb [.int .i64 b, .int .i64 s, .int .i64 l]), (fun W => GeoAt W p b s l), (fun W => Own W rb [.int .i64 rg, .int .i64 rv, .int .i64 rm, .int .i64 re, .int .i64 rq, .int .i64 rd, .int .i64 rs, .int .i64 ro, .int .i64 rl, .int .i64 rp, .int .i64 rt, .slice rA rn rc, .slice rB rk rh, .slice rC rj ri]), (fun W => RgAt W ⟨rg, rv, rm, re, rq, rd, rs, ro, rl, rp, rt, rbase, rover, rsegs⟩ (rA, rn, rc) (rB, rk, rh) (rC, rj, ri))]) := Lib.hid (HDb.out.keep0 hO)
    clear HDb
    clear hO
    refine hK.out _ _ (cells17 (show Own w9 rb _ from (HDc.out.fi 4 rfl)) (show Own w9 cb _ from (HDc.out.fi 2 rfl))) (fun hSn => ?_)
    clear hK K hSw0
    have hSw0 := hSn
    clear hSn
    (try simp only [Act.put, List.setIfInBounds_toArray, List.set_cons_zero, List.set_cons_succ])
    refine wpAnyH_take (i := 24) (oi := ⟨some 73, _, _, _, _, _⟩) (v := ?_) rfl (by kernel_rfl) (by kernel_rfl) (by kernel_rfl) (fun _ _ _ h => h) (Or.inl ⟨by rfl, ?_⟩) (by assumption) ?_
    rotate_left
    · intro w hSw
      obtain ⟨hS0, hS1, hS2, hS3, hS4, hS5, hS6, hS7, hS8, hS9, hS10, hS11, hS12, hS13, hS14, hS15, hS16⟩ := hSw
      go_simp
      all_goals (try with_reducible rfl)
    (try simp only [Act.put, List.setIfInBounds_toArray, List.set_cons_zero, List.set_cons_succ])
    refine wpAnyH_take (i := 25) (oi := ⟨some 4, _, _, _, _, _⟩) (v := ?_) rfl (by kernel_rfl) (by kernel_rfl) (by kernel_rfl) (fun _ _ _ h => h) (Or.inl ⟨by rfl, ?_⟩) (by assumption) ?_
    rotate_left
    · intro w hSw
      obtain ⟨hS0, hS1, hS2, hS3, hS4, hS5, hS6, hS7, hS8, hS9, hS10, hS11, hS12, hS13, hS14, hS15, hS16⟩ := hSw
      go_simp
      all_goals (try with_reducible rfl)
    (try simp only [Act.put, List.setIfInBounds_toArray, List.set_cons_zero, List.set_cons_succ])
    refine wpAnyH_done (by kernel_rfl) ?_ _
    clear hSw0
    go_wp2
    go_ret
    exact ⟨rfl, HDc.out.only⟩
  · by_cases g1 : rn ≤ 50
    · by_cases g2 : rk ≤ 50
      · have g3 : ¬ rj ≤ 100 := fun h => hsm ⟨g1, g2, h⟩
        have hd1 : decide (50 < (rn : Int)) = false := by simp; omega
        have hd2 : decide (50 < (rk : Int)) = false := by simp; omega
        have hd3 : decide (100 < (rj : Int)) = true := by simp; omega
        go_enter Try.func14, Try.ntmps14
        go_wp2_with fail
        refine (awake9 _).mono ?_
        rintro en w7 ⟨rfl, hO⟩
        have HO7 := Lib.hid (HOA.out.trans' hO)
        go_wp2
        go_ret
        exact ⟨rfl, HO7.out⟩
      · have hd1 : decide (50 < (rn : Int)) = false := by simp; omega
        have hd2 : decide (50 < (rk : Int)) = true := by simp; omega
        go_enter Try.func14, Try.ntmps14
        go_wp2_with fail
        refine (awake9 _).mono ?_
        rintro en w7 ⟨rfl, hO⟩
        have HO7 := Lib.hid (HOA.out.trans' hO)
        go_wp2
        go_ret
        exact ⟨rfl, HO7.out⟩
    · have hd1 : decide (50 < (rn : Int)) = true := by simp; omega
      skip
      go_enter Try.func14, Try.ntmps14
      go_wp2_with fail
      refine (awake9 _).mono ?_
      rintro en w7 ⟨rfl, hO⟩
      have HO7 := Lib.hid (HOA.out.trans' hO)
      go_wp2
      go_ret
      exact ⟨rfl, HO7.out⟩
theorem walk (a0_0 a0_1 a0_2 : Int) (a1_0 a1_1 a1_2 a1_3 a1_4 a1_5 a1_6 a1_7 a1_8 a1_9 a1_10 : Int) (a1x11 : Option Addr) (len1x11 cap1x11 : Nat) (z1x11 : List Int) (a1x12 : Option Addr) (len1x12 cap1x12 : Nat) (z1x12 : List Int) (a1x13 : Option Addr) (len1x13 cap1x13 : Nat) (z1x13 : List (Int × Int)) (w : World) (w0_0 : (Lit.int .i64 a0_0).wf = true) (w0_1 : (Lit.int .i64 a0_1).wf = true) (w0_2 : (Lit.int .i64 a0_2).wf = true) (w1_0 : (Lit.int .i64 a1_0).wf = true) (w1_1 : (Lit.int .i64 a1_1).wf = true) (w1_2 : (Lit.int .i64 a1_2).wf = true) (w1_3 : (Lit.int .i64 a1_3).wf = true) (w1_4 : (Lit.int .i64 a1_4).wf = true) (w1_5 : (Lit.int .i64 a1_5).wf = true) (w1_6 : (Lit.int .i64 a1_6).wf = true) (w1_7 : (Lit.int .i64 a1_7).wf = true) (w1_8 : (Lit.int .i64 a1_8).wf = true) (w1_9 : (Lit.int .i64 a1_9).wf = true) (w1_10 : (Lit.int .i64 a1_10).wf = true) (w1_11 : IsRow .i64 w a1x11 len1x11 cap1x11 z1x11) (w1_12 : IsRow .i64 w a1x12 len1x12 cap1x12 z1x12) (w1_13 : Uss w a1x13 len1x13 cap1x13 z1x13) : Calls Try.prog 14 #[.agg #[.int .i64 a0_0, .int .i64 a0_1, .int .i64 a0_2], .agg #[.int .i64 a1_0, .int .i64 a1_1, .int .i64 a1_2, .int .i64 a1_3, .int .i64 a1_4, .int .i64 a1_5, .int .i64 a1_6, .int .i64 a1_7, .int .i64 a1_8, .int .i64 a1_9, .int .i64 a1_10, .slice a1x11 len1x11 cap1x11, .slice a1x12 len1x12 cap1x12, .slice a1x13 len1x13 cap1x13]] w fun e w' => e = .returned (.bool true) ∧ Below w.heap.size w w' := by
  have hr : RgAt w ⟨a1_0, a1_1, a1_2, a1_3, a1_4, a1_5, a1_6, a1_7, a1_8, a1_9, a1_10, z1x11.take len1x11, z1x12.take len1x12, z1x13⟩ (a1x11, len1x11, cap1x11) (a1x12, len1x12, cap1x12) (a1x13, len1x13, cap1x13) := ⟨w1_11.ins, w1_12.ins, w1_13⟩
  refine (tells a0_0 a0_1 a0_2 _ _ _ _ _ _ _ _ _ _ _ _ _ _ _ _ _ _ _ _ _ _ _ w w0_0 w0_1 w0_2 hr).mono ?_
  rintro e w' ⟨rfl, hO⟩
  exact ⟨rfl, hO.below0⟩

set_option maxRecDepth 100000 in
theorem lifted (os : Os) (started : os.Started) (H : Type) (enc : TypeId × Value → H) :
    ReturnsInHanded {} Try.checked os 14 .any (Rows.regionTellsSpec.pre6 enc Try.prog Try.f14 Rows.regionTellsRow.domain false) (Rows.regionTellsSpec.post enc Try.prog Try.f14 false true false false) := by
  refine returnsInHanded_of_change (C := Try.checked) own started (by kernel_rfl) Try.func14
    (ChangeSpec.witness6 (enc := enc) (C := Try.checked) false ⟨#[], #[.agg #[.int .i64 0, .int .i64 0, .int .i64 0], .agg #[.int .i64 0, .int .i64 0, .int .i64 0, .int .i64 0, .int .i64 0, .int .i64 0, .int .i64 0, .int .i64 0, .int .i64 0, .int .i64 0, .int .i64 0, .slice none 0 0, .slice none 0 0, .slice none 0 0]], []⟩ 8 (by kernel_rfl) (by kernel_rfl) (by kernel_rfl) (by kernel_rfl)) ?_
  intro W base args ds gs before hval0 hW hcnd _
  have hval : ∀ (j : Nat) t v, Try.f14.params[j]? = some t → args[j]? = some v → Value.okWide Try.prog W .any base t v := hval0
  have hW' := hW
  obtain ⟨p, q, hA0, hV, rfl, hfz, hnd⟩ := hW
  have hA : DataW.TrodAll enc Try.prog W 0 (fun _ => true) true Try.f14.params.toList args.toList ds p := hA0
  rw [Try.params14] at hA hval
  obtain ⟨v0, vs0, d0, ds0, p0, q0, hargs, rfl, rfl, h0, r0⟩ := trodAll_cons hA
  obtain ⟨v1, vs1, d1, ds1, p1, q1, rfl, rfl, rfl, h1, r1⟩ := trodAll_cons r0
  obtain ⟨rfl, rfl, rfl⟩ := trodAll_nil r1
  obtain rfl : args = #[v0, v1] := by cases args; simp_all
  obtain ⟨rfl, rfl⟩ := trodVars_none hV
  have k0 := h0
  have lt0 : ∀ x ∈ p0, x.block < W.heap.size := by obtain ⟨m, hm⟩ := k0; exact DataW.trod_lt m _ _ _ hm
  obtain ⟨a0_0, a0_1, a0_2, rfl, w0_0, w0_1, w0_2⟩ := open_arr3 (okWide_array Try.underlying22 (hval 0 22 v0 rfl rfl)) h0
  have k1 := h1
  have lt1 : ∀ x ∈ p1, x.block < W.heap.size := by obtain ⟨m, hm⟩ := k1; exact DataW.trod_lt m _ _ _ hm
  obtain ⟨a1_0, a1_1, a1_2, a1_3, a1_4, a1_5, a1_6, a1_7, a1_8, a1_9, a1_10, a1x11, len1x11, cap1x11, z1x11, a1x12, len1x12, cap1x12, z1x12, a1x13, len1x13, cap1x13, z1x13, rfl, w1_0, w1_1, w1_2, w1_3, w1_4, w1_5, w1_6, w1_7, w1_8, w1_9, w1_10, w1_11, w1_12, w1_13⟩ := open_region (okWide_struct Try.underlying90 (hval 1 90 v1 rfl rfl)) h1
  clear hA0 hval0
  refine (walk a0_0 a0_1 a0_2 a1_0 a1_1 a1_2 a1_3 a1_4 a1_5 a1_6 a1_7 a1_8 a1_9 a1_10 a1x11 len1x11 cap1x11 z1x11 a1x12 len1x12 cap1x12 z1x12 a1x13 len1x13 cap1x13 z1x13 W w0_0 w0_1 w0_2 w1_0 w1_1 w1_2 w1_3 w1_4 w1_5 w1_6 w1_7 w1_8 w1_9 w1_10 w1_11 w1_12 w1_13).mono fun e W' ⟨he, bel⟩ => ?_
  subst he
  exact ⟨_, rfl, _, _, _, [], _, [], hW', trodAll_mk1 (shut_bool Try.underlying4 _), (trodAll_cons_mk (Below.trod laidOut (by kernel_rfl) (of_decide_eq_true (by kernel_rfl)) k0 bel lt0) (trodAll_cons_mk (Below.trod laidOut (by kernel_rfl) (of_decide_eq_true (by kernel_rfl)) k1 bel lt1) trodAll_mk0)), rfl, bel.frame _, fun h => by cases h⟩

set_option maxRecDepth 100000 in
theorem closed : joinedFacts Try.pinned.checked.prog 14 Try.f14 Rows.regionTellsSpec Rows.regionTellsRow = true := by
  show joinedFacts Try.prog 14 Try.f14 Rows.regionTellsSpec Rows.regionTellsRow = true
  unfold joinedFacts
  simp only [enter_may, enter_lifts, enter_make]
  kernel_rfl

theorem over : Rows.regionTellsRow.holds Try.pinned (OpenSpec.ofChange Rows.regionTellsSpec) :=
  OpenClaim.holds_of_wide 14 Try.f14 rfl rfl rfl rfl rfl rfl rfl ⟨rfl, rfl, rfl, rfl, rfl⟩ rfl rfl rfl rfl rfl (by kernel_rfl) Try.func14 closed
    (of_decide_eq_true (by kernel_rfl)) (by unfold Func.isWrapper; first | (rw [if_pos (by decide +kernel)]; kernel_rfl) | (rw [if_neg (by decide +kernel)]; exact ⟨rfl, rfl⟩))
    (fun os started H enc _ => lifted os started H enc)

theorem proved : Rows.RegionTellsSaid := over

end Go.Proofs.Ytjmbhknokobnpaa.regionTells
