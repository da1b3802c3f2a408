/- Claim RegionReads. Printed by mklaws9.py. -/
import Derived.Test.YtjmbhknokobnpaaFrame9
import Derived.Test.YtjmbhknokobnpaaLaw9
import Derived.Deep.RegionHeld3
set_option linter.unusedVariables false
set_option linter.unusedSimpArgs false
namespace Go.Proofs.Ytjmbhknokobnpaa.regionReads
open Go Go.RowKit Go.Kn Go.ChangeShapes Go.WideShapes Go.ChangeAt

set_option maxRecDepth 100000 in
set_option maxHeartbeats 16000000 in
theorem reads (z0 z1 z2 : Int) (A : Option Addr) (n c : Nat) (bs : List UInt8) (B : Option Addr) (m d : Nat) (cs : List UInt8) (w : World) (h0 : (Lit.int .i64 z0).wf = true) (h1 : (Lit.int .i64 z1).wf = true) (h2 : (Lit.int .i64 z2).wf = true) (hi : Bys w A n c bs) (hj : Bys w B m d cs) :
    Calls Try.prog 15 #[.agg #[.int .i64 z0, .int .i64 z1, .int .i64 z2], .slice A n c, .slice B m d] w fun en w' => en = .returned (.bool true) ∧ Only [] w w' := by
  obtain ⟨b, hb⟩ : ∃ b, 1 + z0 % 64 = b := ⟨_, rfl⟩
  obtain ⟨s, hs⟩ : ∃ b, 8 + z1 % 25 = b := ⟨_, rfl⟩
  obtain ⟨l, hl⟩ : ∃ b, 24 + z2 % 41 = b := ⟨_, rfl⟩
  have hcf := cf_ok z0 z1 z2
  rw [hb, hs, hl] at hcf
  have HC := Lib.hid hcf
  have HK : Hid (∀ W : World, Calls Try.prog 57 #[.agg #[.int .i64 z0, .int .i64 z1, .int .i64 z2]] W fun e w' => ∃ p, e = .returned (.tuple #[.agg #[.int .i64 b, .int .i64 s, .int .i64 l], .pointer (some ⟨p, 0, none⟩), .bool true]) ∧ GeoAt w' p b s l ∧ W.heap.size ≤ p ∧ Only [] W w') := Lib.hid fun W => by
    have h := kept9_any z0 z1 z2 W h0 h1 h2
    rw [hb, hs, hl] at h
    exact h
  clear hb hs hl h0 h1 h2 hcf
  have hA1 := hi.le
  have hA2 := hi.cm
  have hB1 := hj.le
  have hB2 := hj.cm
  unfold maxLen at hA2 hB2
  have HI := Lib.hid hi
  have HJ := Lib.hid hj
  clear hi hj
  have HOA := Lib.hid ((Only.refl [] w).alloc (.cells #[.int .i64 z0, .int .i64 z1, .int .i64 z2] 22))
  by_cases hsm : n ≤ 400 ∧ m ≤ 400
  · obtain ⟨hs1, hs2⟩ := hsm
    have hd1 : decide (400 < (n : Int)) = false := by simp; omega
    have hd2 : decide (400 < (m : Int)) = false := by simp; omega
    have HD0 : Hid (Wd w w [] [] []) := Lib.hid (Wd.start w)
    have HD1 : Hid (Wd w w [] [] [(fun W => Bys W A n c bs)]) := Lib.hid (HD0.out.fact0 (HI.out.fx (by simp)))
    clear HD0
    have HD2 : Hid (Wd w w [] [] [(fun W => Bys W B m d cs), (fun W => Bys W A n c bs)]) := Lib.hid (HD1.out.fact0 (HJ.out.fx (by simp)))
    clear HD1
    have HD3 : Hid (Wd w (World.alloc w (.cells #[.int .i64 z0, .int .i64 z1, .int .i64 z2] 22)) [] [] [(fun W => Bys W B m d cs), (fun W => Bys W A n c bs)]) := Lib.hid (HD2.out.alloc (.cells #[.int .i64 z0, .int .i64 z1, .int .i64 z2] 22))
    clear HD2
    go_enter Try.func15, Try.ntmps15
    go_wp2_with fail
    generalize hwa : w.alloc (.cells #[.int .i64 z0, .int .i64 z1, .int .i64 z2] 22) = w0 at *
    clear hwa
    refine (HK.out _).mono ?_
    rintro en w1 ⟨p, rfl, hg, hpf, hO⟩
    have HD4 : Hid (Wd w w1 [] [] [(fun W => GeoAt W p b s l), (fun W => Bys W B m d cs), (fun W => Bys W A n c bs)]) := Lib.hid ((HD3.out.keep0 hO).fact0 (hg.fx (by simp)))
    clear HD3
    clear hg hpf hO
    have HD5 : Hid (Wd w (World.alloc w1 (.cells #[.int .i64 b, .int .i64 s, .int .i64 l] 29)) [] [] [(fun W => Own W w1.heap.size [.int .i64 b, .int .i64 s, .int .i64 l]), (fun W => GeoAt W p b s l), (fun W => Bys W B m d cs), (fun W => Bys W A n c bs)]) := Lib.hid (HD4.out.newF #[.int .i64 b, .int .i64 s, .int .i64 l] 29 rfl)
    clear HD4
    go_upto_region 6 with (fail)
    generalize hwa : w1.alloc (.cells #[.int .i64 b, .int .i64 s, .int .i64 l] 29) = w2 at *
    clear hwa
    generalize w1.heap.size = cb at *
    go_wp2_with fail
    obtain ⟨o1, ho1⟩ : ∃ o, decRg b s l bs = o := ⟨_, rfl⟩
    have HO1 := Lib.hid ho1
    have hen := region_dec_any p b s l A n c bs w2 (by exact (HD5.out.fi 1 rfl)) HC.out (by exact (HD5.out.fi 3 rfl)) (by omega)
    rw [ho1] at hen
    clear ho1
    refine hen.mono ?_
    clear hen
    rintro en w3 ⟨⟨xA, xn, xc⟩, ⟨xB, xk, xh⟩, ⟨xC, xj, xi⟩, rfl, hr, hf, hO⟩
    obtain ⟨⟨rg, rv, rm, re, rq, rd, rs, ro, rl, rp, rt, rbase, rover, rsegs⟩, hre⟩ : ∃ r, o1.getD rgZero = r := ⟨_, rfl⟩
    have HRE := Lib.hid hre
    rw [hre] at hr ⊢
    generalize he1 : (if o1.isSome = true then (0 : Int) else 2) = e1 at *
    have HE1 := Lib.hid he1
    clear hre he1
    simp only [Rg.cells] at hr ⊢
    have HD6 : Hid (Wd w w3 [] [] [(fun W => RgAt W ⟨rg, rv, rm, re, rq, rd, rs, ro, rl, rp, rt, rbase, rover, rsegs⟩ (xA, xn, xc) (xB, xk, xh) (xC, xj, xi)), (fun W => Own W cb [.int .i64 b, .int .i64 s, .int .i64 l]), (fun W => GeoAt W p b s l), (fun W => Bys W B m d cs), (fun W => Bys W A n c bs)]) := Lib.hid ((HD5.out.keep0 hO).fact0 (hr.fx (by simp) (by simp) (by simp)))
    clear HD5
    clear hr hf hO
    have HD7 : Hid (Wd w (World.alloc w3 (.cells #[.int .i64 rg, .int .i64 rv, .int .i64 rm, .int .i64 re, .int .i64 rq, .int .i64 rd, .int .i64 rs, .int .i64 ro, .int .i64 rl, .int .i64 rp, .int .i64 rt, .slice xA xn xc, .slice xB xk xh, .slice xC xj xi] 90)) [] [] [(fun W => Own W w3.heap.size [.int .i64 rg, .int .i64 rv, .int .i64 rm, .int .i64 re, .int .i64 rq, .int .i64 rd, .int .i64 rs, .int .i64 ro, .int .i64 rl, .int .i64 rp, .int .i64 rt, .slice xA xn xc, .slice xB xk xh, .slice xC xj xi]), (fun W => RgAt W ⟨rg, rv, rm, re, rq, rd, rs, ro, rl, rp, rt, rbase, rover, rsegs⟩ (xA, xn, xc) (xB, xk, xh) (xC, xj, xi)), (fun W => Own W cb [.int .i64 b, .int .i64 s, .int .i64 l]), (fun W => GeoAt W p b s l), (fun W => Bys W B m d cs), (fun W => Bys W A n c bs)]) := Lib.hid (HD6.out.newF #[.int .i64 rg, .int .i64 rv, .int .i64 rm, .int .i64 re, .int .i64 rq, .int .i64 rd, .int .i64 rs, .int .i64 ro, .int .i64 rl, .int .i64 rp, .int .i64 rt, .slice xA xn xc, .slice xB xk xh, .slice xC xj xi] 90 rfl)
    clear HD6
    go_upto_region 7 with (fail)
    generalize hwa : w3.alloc (.cells #[.int .i64 rg, .int .i64 rv, .int .i64 rm, .int .i64 re, .int .i64 rq, .int .i64 rd, .int .i64 rs, .int .i64 ro, .int .i64 rl, .int .i64 rp, .int .i64 rt, .slice xA xn xc, .slice xB xk xh, .slice xC xj xi] 90) = w4 at *
    clear hwa
    generalize w3.heap.size = xb at *
    have q0 := Own.cell (HD7.out.fi 2 rfl) 0 (by simp)
    have q1 := Own.cell (HD7.out.fi 2 rfl) 1 (by simp)
    have q2 := Own.cell (HD7.out.fi 2 rfl) 2 (by simp)
    simp only [List.getElem_cons_zero, List.getElem_cons_succ] at q0 q1 q2
    go_wp2_with fail
    have hen := ref_region_dec_any b s l A n c bs w4 HC.out (by exact (HD7.out.fi 5 rfl))
    rw [HO1.out] at hen
    refine hen.mono ?_
    clear hen
    rintro en w5 ⟨⟨yA, yn, yc⟩, ⟨yB, yk, yh⟩, ⟨yC, yj, yi⟩, rfl, hr, hf, hO⟩
    rw [HRE.out] at hr ⊢
    rw [HE1.out]
    simp only [Rg.cells] at hr ⊢
    have HD8 : Hid (Wd w w5 [] [] [(fun W => RgAt W ⟨rg, rv, rm, re, rq, rd, rs, ro, rl, rp, rt, rbase, rover, rsegs⟩ (yA, yn, yc) (yB, yk, yh) (yC, yj, yi)), (fun W => Own W xb [.int .i64 rg, .int .i64 rv, .int .i64 rm, .int .i64 re, .int .i64 rq, .int .i64 rd, .int .i64 rs, .int .i64 ro, .int .i64 rl, .int .i64 rp, .int .i64 rt, .slice xA xn xc, .slice xB xk xh, .slice xC xj xi]), (fun W => RgAt W ⟨rg, rv, rm, re, rq, rd, rs, ro, rl, rp, rt, rbase, rover, rsegs⟩ (xA, xn, xc) (xB, xk, xh) (xC, xj, xi)), (fun W => Own W cb [.int .i64 b, .int .i64 s, .int .i64 l]), (fun W => GeoAt W p b s l), (fun W => Bys W B m d cs), (fun W => Bys W A n c bs)]) := Lib.hid ((HD7.out.keep0 hO).fact0 (hr.fx (by simp) (by simp) (by simp)))
    clear HD7
    clear hr hf hO q0 q1 q2
    have HD9 : Hid (Wd w (World.alloc w5 (.cells #[.int .i64 rg, .int .i64 rv, .int .i64 rm, .int .i64 re, .int .i64 rq, .int .i64 rd, .int .i64 rs, .int .i64 ro, .int .i64 rl, .int .i64 rp, .int .i64 rt, .slice yA yn yc, .slice yB yk yh, .slice yC yj yi] 90)) [] [] [(fun W => Own W w5.heap.size [.int .i64 rg, .int .i64 rv, .int .i64 rm, .int .i64 re, .int .i64 rq, .int .i64 rd, .int .i64 rs, .int .i64 ro, .int .i64 rl, .int .i64 rp, .int .i64 rt, .slice yA yn yc, .slice yB yk yh, .slice yC yj yi]), (fun W => RgAt W ⟨rg, rv, rm, re, rq, rd, rs, ro, rl, rp, rt, rbase, rover, rsegs⟩ (yA, yn, yc) (yB, yk, yh) (yC, yj, yi)), (fun W => Own W xb [.int .i64 rg, .int .i64 rv, .int .i64 rm, .int .i64 re, .int .i64 rq, .int .i64 rd, .int .i64 rs, .int .i64 ro, .int .i64 rl, .int .i64 rp, .int .i64 rt, .slice xA xn xc, .slice xB xk xh, .slice xC xj xi]), (fun W => RgAt W ⟨rg, rv, rm, re, rq, rd, rs, ro, rl, rp, rt, rbase, rover, rsegs⟩ (xA, xn, xc) (xB, xk, xh) (xC, xj, xi)), (fun W => Own W cb [.int .i64 b, .int .i64 s, .int .i64 l]), (fun W => GeoAt W p b s l), (fun W => Bys W B m d cs), (fun W => Bys W A n c bs)]) := Lib.hid (HD8.out.newF #[.int .i64 rg, .int .i64 rv, .int .i64 rm, .int .i64 re, .int .i64 rq, .int .i64 rd, .int .i64 rs, .int .i64 ro, .int .i64 rl, .int .i64 rp, .int .i64 rt, .slice yA yn yc, .slice yB yk yh, .slice yC yj yi] 90 rfl)
    clear HD8
    go_upto_region 8 with (fail)
    generalize hwa : w5.alloc (.cells #[.int .i64 rg, .int .i64 rv, .int .i64 rm, .int .i64 re, .int .i64 rq, .int .i64 rd, .int .i64 rs, .int .i64 ro, .int .i64 rl, .int .i64 rp, .int .i64 rt, .slice yA yn yc, .slice yB yk yh, .slice yC yj yi] 90) = w6 at *
    clear hwa
    generalize w5.heap.size = yb at *
    go_wp2_with fail
    obtain ⟨pk, hpk⟩ : ∃ o, rgPick (decRg b s l bs) (decRg b s l cs) = o := ⟨_, rfl⟩
    have HPK := Lib.hid hpk
    have hen := region_choose_any p b s l A n c bs B m d cs w6 (by exact (HD9.out.fi 5 rfl)) HC.out (by exact (HD9.out.fi 7 rfl)) (by omega) (by exact (HD9.out.fi 6 rfl)) (by omega)
    rw [hpk] at hen
    clear hpk
    refine hen.mono ?_
    clear hen
    rintro en w7 ⟨⟨uA, un, uc⟩, ⟨uB, uk, uh⟩, ⟨uC, uj, ui⟩, rfl, hr, hO⟩
    obtain ⟨⟨ttg, ttv, ttm, tte, ttq, ttd, tts, tto, ttl, ttp, ttt, ttbase, ttover, ttsegs⟩, hre⟩ : ∃ r, pk.1.getD rgZero = r := ⟨_, rfl⟩
    have HTE := Lib.hid hre
    rw [hre] at hr ⊢
    generalize he2 : (if pk.1.isSome = true then (0 : Int) else 2) = e2 at *
    have HE2 := Lib.hid he2
    obtain ⟨i2, hi2⟩ : ∃ i, pk.2 = i := ⟨_, rfl⟩
    have HI2 := Lib.hid hi2
    rw [hi2]
    clear hre he2 hi2
    simp only [Rg.cells] at hr ⊢
    have HDa : Hid (Wd w w7 [] [] [(fun W => RgAt W ⟨ttg, ttv, ttm, tte, ttq, ttd, tts, tto, ttl, ttp, ttt, ttbase, ttover, ttsegs⟩ (uA, un, uc) (uB, uk, uh) (uC, uj, ui)), (fun W => Own W yb [.int .i64 rg, .int .i64 rv, .int .i64 rm, .int .i64 re, .int .i64 rq, .int .i64 rd, .int .i64 rs, .int .i64 ro, .int .i64 rl, .int .i64 rp, .int .i64 rt, .slice yA yn yc, .slice yB yk yh, .slice yC yj yi]), (fun W => RgAt W ⟨rg, rv, rm, re, rq, rd, rs, ro, rl, rp, rt, rbase, rover, rsegs⟩ (yA, yn, yc) (yB, yk, yh) (yC, yj, yi)), (fun W => Own W xb [.int .i64 rg, .int .i64 rv, .int .i64 rm, .int .i64 re, .int .i64 rq, .int .i64 rd, .int .i64 rs, .int .i64 ro, .int .i64 rl, .int .i64 rp, .int .i64 rt, .slice xA xn xc, .slice xB xk xh, .slice xC xj xi]), (fun W => RgAt W ⟨rg, rv, rm, re, rq, rd, rs, ro, rl, rp, rt, rbase, rover, rsegs⟩ (xA, xn, xc) (xB, xk, xh) (xC, xj, xi)), (fun W => Own W cb [.int .i64 b, .int .i64 s, .int .i64 l]), (fun W => GeoAt W p b s l), (fun W => Bys W B m d cs), (fun W => Bys W A n c bs)]) := Lib.hid ((HD9.out.keep0 hO).fact0 (hr.fx (by simp) (by simp) (by simp)))
    clear HD9
    clear hr hO
    have HDb : Hid (Wd w (World.alloc w7 (.cells #[.int .i64 ttg, .int .i64 ttv, .int .i64 ttm, .int .i64 tte, .int .i64 ttq, .int .i64 ttd, .int .i64 tts, .int .i64 tto, .int .i64 ttl, .int .i64 ttp, .int .i64 ttt, .slice uA un uc, .slice uB uk uh, .slice uC uj ui] 90)) [] [] [(fun W => Own W w7.heap.size [.int .i64 ttg, .int .i64 ttv, .int .i64 ttm, .int .i64 tte, .int .i64 ttq, .int .i64 ttd, .int .i64 tts, .int .i64 tto, .int .i64 ttl, .int .i64 ttp, .int .i64 ttt, .slice uA un uc, .slice uB uk uh, .slice uC uj ui]), (fun W => RgAt W ⟨ttg, ttv, ttm, tte, ttq, ttd, tts, tto, ttl, ttp, ttt, ttbase, ttover, ttsegs⟩ (uA, un, uc) (uB, uk, uh) (uC, uj, ui)), (fun W => Own W yb [.int .i64 rg, .int .i64 rv, .int .i64 rm, .int .i64 re, .int .i64 rq, .int .i64 rd, .int .i64 rs, .int .i64 ro, .int .i64 rl, .int .i64 rp, .int .i64 rt, .slice yA yn yc, .slice yB yk yh, .slice yC yj yi]), (fun W => RgAt W ⟨rg, rv, rm, re, rq, rd, rs, ro, rl, rp, rt, rbase, rover, rsegs⟩ (yA, yn, yc) (yB, yk, yh) (yC, yj, yi)), (fun W => Own W xb [.int .i64 rg, .int .i64 rv, .int .i64 rm, .int .i64 re, .int .i64 rq, .int .i64 rd, .int .i64 rs, .int .i64 ro, .int .i64 rl, .int .i64 rp, .int .i64 rt, .slice xA xn xc, .slice xB xk xh, .slice xC xj xi]), (fun W => RgAt W ⟨rg, rv, rm, re, rq, rd, rs, ro, rl, rp, rt, rbase, rover, rsegs⟩ (xA, xn, xc) (xB, xk, xh) (xC, xj, xi)), (fun W => Own W cb [.int .i64 b, .int .i64 s, .int .i64 l]), (fun W => GeoAt W p b s l), (fun W => Bys W B m d cs), (fun W => Bys W A n c bs)]) := Lib.hid (HDa.out.newF #[.int .i64 ttg, .int .i64 ttv, .int .i64 ttm, .int .i64 tte, .int .i64 ttq, .int .i64 ttd, .int .i64 tts, .int .i64 tto, .int .i64 ttl, .int .i64 ttp, .int .i64 ttt, .slice uA un uc, .slice uB uk uh, .slice uC uj ui] 90 rfl)
    clear HDa
    go_upto_region 9 with (fail)
    generalize hwa : w7.alloc (.cells #[.int .i64 ttg, .int .i64 ttv, .int .i64 ttm, .int .i64 tte, .int .i64 ttq, .int .i64 ttd, .int .i64 tts, .int .i64 tto, .int .i64 ttl, .int .i64 ttp, .int .i64 ttt, .slice uA un uc, .slice uB uk uh, .slice uC uj ui] 90) = w8 at *
    clear hwa
    generalize w7.heap.size = ub at *
    have q0 := Own.cell (HDb.out.fi 6 rfl) 0 (by simp)
    have q1 := Own.cell (HDb.out.fi 6 rfl) 1 (by simp)
    have q2 := Own.cell (HDb.out.fi 6 rfl) 2 (by simp)
    simp only [List.getElem_cons_zero, List.getElem_cons_succ] at q0 q1 q2
    go_wp2_with fail
    have hen := ref_region_choose_any b s l A n c bs B m d cs w8 HC.out (by exact (HDb.out.fi 9 rfl)) (by exact (HDb.out.fi 8 rfl))
    rw [HPK.out] at hen
    refine hen.mono ?_
    clear hen
    rintro en w9 ⟨⟨vA, vn, vc⟩, ⟨vB, vk, vh⟩, ⟨vC, vj, vi⟩, rfl, hr, hO⟩
    rw [HTE.out] at hr ⊢
    rw [HE2.out, HI2.out]
    simp only [Rg.cells] at hr ⊢
    have HDc : Hid (Wd w w9 [] [] [(fun W => RgAt W ⟨ttg, ttv, ttm, tte, ttq, ttd, tts, tto, ttl, ttp, ttt, ttbase, ttover, ttsegs⟩ (vA, vn, vc) (vB, vk, vh) (vC, vj, vi)), (fun W => Own W ub [.int .i64 ttg, .int .i64 ttv, .int .i64 ttm, .int .i64 tte, .int .i64 ttq, .int .i64 ttd, .int .i64 tts, .int .i64 tto, .int .i64 ttl, .int .i64 ttp, .int .i64 ttt, .slice uA un uc, .slice uB uk uh, .slice uC uj ui]), (fun W => RgAt W ⟨ttg, ttv, ttm, tte, ttq, ttd, tts, tto, ttl, ttp, ttt, ttbase, ttover, ttsegs⟩ (uA, un, uc) (uB, uk, uh) (uC, uj, ui)), (fun W => Own W yb [.int .i64 rg, .int .i64 rv, .int .i64 rm, .int .i64 re, .int .i64 rq, .int .i64 rd, .int .i64 rs, .int .i64 ro, .int .i64 rl, .int .i64 rp, .int .i64 rt, .slice yA yn yc, .slice yB yk yh, .slice yC yj yi]), (fun W => RgAt W ⟨rg, rv, rm, re, rq, rd, rs, ro, rl, rp, rt, rbase, rover, rsegs⟩ (yA, yn, yc) (yB, yk, yh) (yC, yj, yi)), (fun W => Own W xb [.int .i64 rg, .int .i64 rv, .int .i64 rm, .int .i64 re, .int .i64 rq, .int .i64 rd, .int .i64 rs, .int .i64 ro, .int .i64 rl, .int .i64 rp, .int .i64 rt, .slice xA xn xc, .slice xB xk xh, .slice xC xj xi]), (fun W => RgAt W ⟨rg, rv, rm, re, rq, rd, rs, ro, rl, rp, rt, rbase, rover, rsegs⟩ (xA, xn, xc) (xB, xk, xh) (xC, xj, xi)), (fun W => Own W cb [.int .i64 b, .int .i64 s, .int .i64 l]), (fun W => GeoAt W p b s l), (fun W => Bys W B m d cs), (fun W => Bys W A n c bs)]) := Lib.hid ((HDb.out.keep0 hO).fact0 (hr.fx (by simp) (by simp) (by simp)))
    clear HDb
    clear hr hO q0 q1 q2
    have HDd : Hid (Wd w (World.alloc w9 (.cells #[.int .i64 ttg, .int .i64 ttv, .int .i64 ttm, .int .i64 tte, .int .i64 ttq, .int .i64 ttd, .int .i64 tts, .int .i64 tto, .int .i64 ttl, .int .i64 ttp, .int .i64 ttt, .slice vA vn vc, .slice vB vk vh, .slice vC vj vi] 90)) [] [] [(fun W => Own W w9.heap.size [.int .i64 ttg, .int .i64 ttv, .int .i64 ttm, .int .i64 tte, .int .i64 ttq, .int .i64 ttd, .int .i64 tts, .int .i64 tto, .int .i64 ttl, .int .i64 ttp, .int .i64 ttt, .slice vA vn vc, .slice vB vk vh, .slice vC vj vi]), (fun W => RgAt W ⟨ttg, ttv, ttm, tte, ttq, ttd, tts, tto, ttl, ttp, ttt, ttbase, ttover, ttsegs⟩ (vA, vn, vc) (vB, vk, vh) (vC, vj, vi)), (fun W => Own W ub [.int .i64 ttg, .int .i64 ttv, .int .i64 ttm, .int .i64 tte, .int .i64 ttq, .int .i64 ttd, .int .i64 tts, .int .i64 tto, .int .i64 ttl, .int .i64 ttp, .int .i64 ttt, .slice uA un uc, .slice uB uk uh, .slice uC uj ui]), (fun W => RgAt W ⟨ttg, ttv, ttm, tte, ttq, ttd, tts, tto, ttl, ttp, ttt, ttbase, ttover, ttsegs⟩ (uA, un, uc) (uB, uk, uh) (uC, uj, ui)), (fun W => Own W yb [.int .i64 rg, .int .i64 rv, .int .i64 rm, .int .i64 re, .int .i64 rq, .int .i64 rd, .int .i64 rs, .int .i64 ro, .int .i64 rl, .int .i64 rp, .int .i64 rt, .slice yA yn yc, .slice yB yk yh, .slice yC yj yi]), (fun W => RgAt W ⟨rg, rv, rm, re, rq, rd, rs, ro, rl, rp, rt, rbase, rover, rsegs⟩ (yA, yn, yc) (yB, yk, yh) (yC, yj, yi)), (fun W => Own W xb [.int .i64 rg, .int .i64 rv, .int .i64 rm, .int .i64 re, .int .i64 rq, .int .i64 rd, .int .i64 rs, .int .i64 ro, .int .i64 rl, .int .i64 rp, .int .i64 rt, .slice xA xn xc, .slice xB xk xh, .slice xC xj xi]), (fun W => RgAt W ⟨rg, rv, rm, re, rq, rd, rs, ro, rl, rp, rt, rbase, rover, rsegs⟩ (xA, xn, xc) (xB, xk, xh) (xC, xj, xi)), (fun W => Own W cb [.int .i64 b, .int .i64 s, .int .i64 l]), (fun W => GeoAt W p b s l), (fun W => Bys W B m d cs), (fun W => Bys W A n c bs)]) := Lib.hid (HDc.out.newF #[.int .i64 ttg, .int .i64 ttv, .int .i64 ttm, .int .i64 tte, .int .i64 ttq, .int .i64 ttd, .int .i64 tts, .int .i64 tto, .int .i64 ttl, .int .i64 ttp, .int .i64 ttt, .slice vA vn vc, .slice vB vk vh, .slice vC vj vi] 90 rfl)
    clear HDc
    go_upto_region 10 with (fail)
    generalize hwa : w9.alloc (.cells #[.int .i64 ttg, .int .i64 ttv, .int .i64 ttm, .int .i64 tte, .int .i64 ttq, .int .i64 ttd, .int .i64 tts, .int .i64 tto, .int .i64 ttl, .int .i64 ttp, .int .i64 ttt, .slice vA vn vc, .slice vB vk vh, .slice vC vj vi] 90) = wa at *
    clear hwa
    generalize w9.heap.size = vb at *
    have hn1 : (e1 == e1) = true := by simp
    have hn2 : (e2 == e2) = true := by simp
    have hn3 : (i2 == i2) = true := by simp
    obtain ⟨x0, x1, x2, x3, x4, x5, x6, x7, x8, x9, x10, x11, x12, x13⟩ := cells14 (show Own wa xb _ from (HDd.out.fi 6 rfl))
    obtain ⟨y0, y1, y2, y3, y4, y5, y6, y7, y8, y9, y10, y11, y12, y13⟩ := cells14 (show Own wa yb _ from (HDd.out.fi 4 rfl))
    go_wp2_with fail
    refine (alike_region_same rg rv rm re rq rd rs ro rl rp rt rbase rover rsegs xA xn xc xB xk xh xC xj xi yA yn yc yB yk yh yC yj yi _ (by exact (HDd.out.fi 7 rfl)) (by exact (HDd.out.fi 5 rfl))).mono ?_
    rintro en wb ⟨rfl, hO⟩
    have HDe : Hid (Wd w wb [] [] [(fun W => Own W vb [.int .i64 ttg, .int .i64 ttv, .int .i64 ttm, .int .i64 tte, .int .i64 ttq, .int .i64 ttd, .int .i64 tts, .int .i64 tto, .int .i64 ttl, .int .i64 ttp, .int .i64 ttt, .slice vA vn vc, .slice vB vk vh, .slice vC vj vi]), (fun W => RgAt W ⟨ttg, ttv, ttm, tte, ttq, ttd, tts, tto, ttl, ttp, ttt, ttbase, ttover, ttsegs⟩ (vA, vn, vc) (vB, vk, vh) (vC, vj, vi)), (fun W => Own W ub [.int .i64 ttg, .int .i64 ttv, .int .i64 ttm, .int .i64 tte, .int .i64 ttq, .int .i64 ttd, .int .i64 tts, .int .i64 tto, .int .i64 ttl, .int .i64 ttp, .int .i64 ttt, .slice uA un uc, .slice uB uk uh, .slice uC uj ui]), (fun W => RgAt W ⟨ttg, ttv, ttm, tte, ttq, ttd, tts, tto, ttl, ttp, ttt, ttbase, ttover, ttsegs⟩ (uA, un, uc) (uB, uk, uh) (uC, uj, ui)), (fun W => Own W yb [.int .i64 rg, .int .i64 rv, .int .i64 rm, .int .i64 re, .int .i64 rq, .int .i64 rd, .int .i64 rs, .int .i64 ro, .int .i64 rl, .int .i64 rp, .int .i64 rt, .slice yA yn yc, .slice yB yk yh, .slice yC yj yi]), (fun W => RgAt W ⟨rg, rv, rm, re, rq, rd, rs, ro, rl, rp, rt, rbase, rover, rsegs⟩ (yA, yn, yc) (yB, yk, yh) (yC, yj, yi)), (fun W => Own W xb [.int .i64 rg, .int .i64 rv, .int .i64 rm, .int .i64 re, .int .i64 rq, .int .i64 rd, .int .i64 rs, .int .i64 ro, .int .i64 rl, .int .i64 rp, .int .i64 rt, .slice xA xn xc, .slice xB xk xh, .slice xC xj xi]), (fun W => RgAt W ⟨rg, rv, rm, re, rq, rd, rs, ro, rl, rp, rt, rbase, rover, rsegs⟩ (xA, xn, xc) (xB, xk, xh) (xC, xj, xi)), (fun W => Own W cb [.int .i64 b, .int .i64 s, .int .i64 l]), (fun W => GeoAt W p b s l), (fun W => Bys W B m d cs), (fun W => Bys W A n c bs)]) := Lib.hid (HDd.out.keep0 hO)
    clear HDd
    clear hO x0 x1 x2 x3 x4 x5 x6 x7 x8 x9 x10 x11 x12 x13 y0 y1 y2 y3 y4 y5 y6 y7 y8 y9 y10 y11 y12 y13
    obtain ⟨x0, x1, x2, x3, x4, x5, x6, x7, x8, x9, x10, x11, x12, x13⟩ := cells14 (show Own wb ub _ from (HDe.out.fi 2 rfl))
    obtain ⟨y0, y1, y2, y3, y4, y5, y6, y7, y8, y9, y10, y11, y12, y13⟩ := cells14 (show Own wb vb _ from (HDe.out.fi 0 rfl))
    go_wp2_with fail
    refine (alike_region_same ttg ttv ttm tte ttq ttd tts tto ttl ttp ttt ttbase ttover ttsegs uA un uc uB uk uh uC uj ui vA vn vc vB vk vh vC vj vi _ (by exact (HDe.out.fi 3 rfl)) (by exact (HDe.out.fi 1 rfl))).mono ?_
    rintro en wc ⟨rfl, hO⟩
    have HDf : Hid (Wd w wc [] [] [(fun W => Own W vb [.int .i64 ttg, .int .i64 ttv, .int .i64 ttm, .int .i64 tte, .int .i64 ttq, .int .i64 ttd, .int .i64 tts, .int .i64 tto, .int .i64 ttl, .int .i64 ttp, .int .i64 ttt, .slice vA vn vc, .slice vB vk vh, .slice vC vj vi]), (fun W => RgAt W ⟨ttg, ttv, ttm, tte, ttq, ttd, tts, tto, ttl, ttp, ttt, ttbase, ttover, ttsegs⟩ (vA, vn, vc) (vB, vk, vh) (vC, vj, vi)), (fun W => Own W ub [.int .i64 ttg, .int .i64 ttv, .int .i64 ttm, .int .i64 tte, .int .i64 ttq, .int .i64 ttd, .int .i64 tts, .int .i64 tto, .int .i64 ttl, .int .i64 ttp, .int .i64 ttt, .slice uA un uc, .slice uB uk uh, .slice uC uj ui]), (fun W => RgAt W ⟨ttg, ttv, ttm, tte, ttq, ttd, tts, tto, ttl, ttp, ttt, ttbase, ttover, ttsegs⟩ (uA, un, uc) (uB, uk, uh) (uC, uj, ui)), (fun W => Own W yb [.int .i64 rg, .int .i64 rv, .int .i64 rm, .int .i64 re, .int .i64 rq, .int .i64 rd, .int .i64 rs, .int .i64 ro, .int .i64 rl, .int .i64 rp, .int .i64 rt, .slice yA yn yc, .slice yB yk yh, .slice yC yj yi]), (fun W => RgAt W ⟨rg, rv, rm, re, rq, rd, rs, ro, rl, rp, rt, rbase, rover, rsegs⟩ (yA, yn, yc) (yB, yk, yh) (yC, yj, yi)), (fun W => Own W xb [.int .i64 rg, .int .i64 rv, .int .i64 rm, .int .i64 re, .int .i64 rq, .int .i64 rd, .int .i64 rs, .int .i64 ro, .int .i64 rl, .int .i64 rp, .int .i64 rt, .slice xA xn xc, .slice xB xk xh, .slice xC xj xi]), (fun W => RgAt W ⟨rg, rv, rm, re, rq, rd, rs, ro, rl, rp, rt, rbase, rover, rsegs⟩ (xA, xn, xc) (xB, xk, xh) (xC, xj, xi)), (fun W => Own W cb [.int .i64 b, .int .i64 s, .int .i64 l]), (fun W => GeoAt W p b s l), (fun W => Bys W B m d cs), (fun W => Bys W A n c bs)]) := Lib.hid (HDe.out.keep0 hO)
    clear HDe
    clear hO x0 x1 x2 x3 x4 x5 x6 x7 x8 x9 x10 x11 x12 x13 y0 y1 y2 y3 y4 y5 y6 y7 y8 y9 y10 y11 y12 y13
    go_wp2_with fail
    refine (awake9 _).mono ?_
    rintro en wd ⟨rfl, hO⟩
    have HDg : Hid (Wd w wd [] [] [(fun W => Own W vb [.int .i64 ttg, .int .i64 ttv, .int .i64 ttm, .int .i64 tte, .int .i64 ttq, .int .i64 ttd, .int .i64 tts, .int .i64 tto, .int .i64 ttl, .int .i64 ttp, .int .i64 ttt, .slice vA vn vc, .slice vB vk vh, .slice vC vj vi]), (fun W => RgAt W ⟨ttg, ttv, ttm, tte, ttq, ttd, tts, tto, ttl, ttp, ttt, ttbase, ttover, ttsegs⟩ (vA, vn, vc) (vB, vk, vh) (vC, vj, vi)), (fun W => Own W ub [.int .i64 ttg, .int .i64 ttv, .int .i64 ttm, .int .i64 tte, .int .i64 ttq, .int .i64 ttd, .int .i64 tts, .int .i64 tto, .int .i64 ttl, .int .i64 ttp, .int .i64 ttt, .slice uA un uc, .slice uB uk uh, .slice uC uj ui]), (fun W => RgAt W ⟨ttg, ttv, ttm, tte, ttq, ttd, tts, tto, ttl, ttp, ttt, ttbase, ttover, ttsegs⟩ (uA, un, uc) (uB, uk, uh) (uC, uj, ui)), (fun W => Own W yb [.int .i64 rg, .int .i64 rv, .int .i64 rm, .int .i64 re, .int .i64 rq, .int .i64 rd, .int .i64 rs, .int .i64 ro, .int .i64 rl, .int .i64 rp, .int .i64 rt, .slice yA yn yc, .slice yB yk yh, .slice yC yj yi]), (fun W => RgAt W ⟨rg, rv, rm, re, rq, rd, rs, ro, rl, rp, rt, rbase, rover, rsegs⟩ (yA, yn, yc) (yB, yk, yh) (yC, yj, yi)), (fun W => Own W xb [.int .i64 rg, .int .i64 rv, .int .i64 rm, .int .i64 re, .int .i64 rq, .int .i64 rd, .int .i64 rs, .int .i64 ro, .int .i64 rl, .int .i64 rp, .int .i64 rt, .slice xA xn xc, .slice xB xk xh, .slice xC xj xi]), (fun W => RgAt W ⟨rg, rv, rm, re, rq, rd, rs, ro, rl, rp, rt, rbase, rover, rsegs⟩ (xA, xn, xc) (xB, xk, xh) (xC, xj, xi)), (fun W => Own W cb [.int .i64 b, .int .i64 s, .int .i64 l]), (fun W => GeoAt W p b s l), (fun W => Bys W B m d cs), (fun W => Bys W A n c bs)]) := Lib.hid (HDf.out.keep0 hO)
    clear HDf
    go_wp2
    go_ret
    exact ⟨rfl, HDg.out.only⟩
  · by_cases hs1 : n ≤ 400
    · have hs2 : ¬ m ≤ 400 := fun h => hsm ⟨hs1, h⟩
      have hd1 : decide (400 < (n : Int)) = false := by simp; omega
      have hd2 : decide (400 < (m : Int)) = true := by simp; omega
      go_enter Try.func15, Try.ntmps15
      go_wp2_with fail
      refine (awake9 _).mono ?_
      rintro en w7 ⟨rfl, hO⟩
      have HO7 := Lib.hid (HOA.out.trans' hO)
      go_wp2
      go_ret
      exact ⟨rfl, HO7.out⟩
    · have hd1 : decide (400 < (n : Int)) = true := by simp; omega
      go_enter Try.func15, Try.ntmps15
      go_wp2_with fail
      refine (awake9 _).mono ?_
      rintro en w7 ⟨rfl, hO⟩
      have HO7 := Lib.hid (HOA.out.trans' hO)
      go_wp2
      go_ret
      exact ⟨rfl, HO7.out⟩
theorem walk (a0_0 a0_1 a0_2 : Int) (a1 : Option Addr) (len1 cap1 : Nat) (z1 : List Int) (a2 : Option Addr) (len2 cap2 : Nat) (z2 : List Int) (w : World) (w0_0 : (Lit.int .i64 a0_0).wf = true) (w0_1 : (Lit.int .i64 a0_1).wf = true) (w0_2 : (Lit.int .i64 a0_2).wf = true) (w1 : IsRow .u8 w a1 len1 cap1 z1) (w2 : IsRow .u8 w a2 len2 cap2 z2) : Calls Try.prog 15 #[.agg #[.int .i64 a0_0, .int .i64 a0_1, .int .i64 a0_2], .slice a1 len1 cap1, .slice a2 len2 cap2] w fun e w' => e = .returned (.bool true) ∧ Below w.heap.size w w' := by
  obtain ⟨bs, hb⟩ := w1.bys
  obtain ⟨cs, hc⟩ := w2.bys
  refine (reads a0_0 a0_1 a0_2 a1 len1 cap1 bs a2 len2 cap2 cs w w0_0 w0_1 w0_2 hb hc).mono ?_
  rintro e w' ⟨rfl, hO⟩
  exact ⟨rfl, hO.below0⟩

set_option maxRecDepth 100000 in
theorem lifted (os : Os) (started : os.Started) (H : Type) (enc : TypeId × Value → H) :
    ReturnsInHanded {} Try.checked os 15 .any (Rows.regionReadsSpec.pre6 enc Try.prog Try.f15 Rows.regionReadsRow.domain false) (Rows.regionReadsSpec.post enc Try.prog Try.f15 false true false false) := by
  refine returnsInHanded_of_change (C := Try.checked) own started (by kernel_rfl) Try.func15
    (ChangeSpec.witness6 (enc := enc) (C := Try.checked) false ⟨#[], #[.agg #[.int .i64 0, .int .i64 0, .int .i64 0], .slice none 0 0, .slice none 0 0], []⟩ 8 (by kernel_rfl) (by kernel_rfl) (by kernel_rfl) (by kernel_rfl)) ?_
  intro W base args ds gs before hval0 hW hcnd _
  have hval : ∀ (j : Nat) t v, Try.f15.params[j]? = some t → args[j]? = some v → Value.okWide Try.prog W .any base t v := hval0
  have hW' := hW
  obtain ⟨p, q, hA0, hV, rfl, hfz, hnd⟩ := hW
  have hA : DataW.TrodAll enc Try.prog W 0 (fun _ => true) true Try.f15.params.toList args.toList ds p := hA0
  rw [Try.params15] at hA hval
  obtain ⟨v0, vs0, d0, ds0, p0, q0, hargs, rfl, rfl, h0, r0⟩ := trodAll_cons hA
  obtain ⟨v1, vs1, d1, ds1, p1, q1, rfl, rfl, rfl, h1, r1⟩ := trodAll_cons r0
  obtain ⟨v2, vs2, d2, ds2, p2, q2, rfl, rfl, rfl, h2, r2⟩ := trodAll_cons r1
  obtain ⟨rfl, rfl, rfl⟩ := trodAll_nil r2
  obtain rfl : args = #[v0, v1, v2] := by cases args; simp_all
  obtain ⟨rfl, rfl⟩ := trodVars_none hV
  have k0 := h0
  have lt0 : ∀ x ∈ p0, x.block < W.heap.size := by obtain ⟨m, hm⟩ := k0; exact DataW.trod_lt m _ _ _ hm
  obtain ⟨a0_0, a0_1, a0_2, rfl, w0_0, w0_1, w0_2⟩ := open_arr3 (okWide_array Try.underlying22 (hval 0 22 v0 rfl rfl)) h0
  obtain ⟨a1, len1, cap1, rfl⟩ := okWide_slice Try.underlying24 (hval 1 24 v1 rfl rfl)
  have k1 := h1
  have lt1 : ∀ x ∈ p1, x.block < W.heap.size := by obtain ⟨m, hm⟩ := k1; exact DataW.trod_lt m _ _ _ hm
  obtain ⟨z1, w1⟩ : ∃ zs, IsRow .u8 W a1 len1 cap1 zs := by
    obtain ⟨fuel, hf⟩ := h1
    rcases open_ints Try.underlying24 Try.underlying5 (by kernel_rfl) hf with ⟨hcs, _⟩ | ⟨x, l, c, zs, hcs, _, hl, hm, hz, _, hcell, hwz⟩
    · simp [Value.cells] at hcs
      obtain ⟨rfl, rfl, rfl⟩ := hcs
      exact ⟨[], .inl ⟨rfl, rfl, rfl, rfl⟩⟩
    · simp [Value.cells] at hcs
      obtain ⟨rfl, rfl, rfl⟩ := hcs
      exact ⟨zs, .inr ⟨_, rfl, hl, hm, by simpa using hz, hcell, hwz⟩⟩
  obtain ⟨a2, len2, cap2, rfl⟩ := okWide_slice Try.underlying24 (hval 2 24 v2 rfl rfl)
  have k2 := h2
  have lt2 : ∀ x ∈ p2, x.block < W.heap.size := by obtain ⟨m, hm⟩ := k2; exact DataW.trod_lt m _ _ _ hm
  obtain ⟨z2, w2⟩ : ∃ zs, IsRow .u8 W a2 len2 cap2 zs := by
    obtain ⟨fuel, hf⟩ := h2
    rcases open_ints Try.underlying24 Try.underlying5 (by kernel_rfl) hf with ⟨hcs, _⟩ | ⟨x, l, c, zs, hcs, _, hl, hm, hz, _, hcell, hwz⟩
    · simp [Value.cells] at hcs
      obtain ⟨rfl, rfl, rfl⟩ := hcs
      exact ⟨[], .inl ⟨rfl, rfl, rfl, rfl⟩⟩
    · simp [Value.cells] at hcs
      obtain ⟨rfl, rfl, rfl⟩ := hcs
      exact ⟨zs, .inr ⟨_, rfl, hl, hm, by simpa using hz, hcell, hwz⟩⟩
  clear hA0 hval0
  refine (walk a0_0 a0_1 a0_2 a1 len1 cap1 z1 a2 len2 cap2 z2 W w0_0 w0_1 w0_2 w1 w2).mono fun e W' ⟨he, bel⟩ => ?_
  subst he
  exact ⟨_, rfl, _, _, _, [], _, [], hW', trodAll_mk1 (shut_bool Try.underlying4 _), (trodAll_cons_mk (Below.trod laidOut (by kernel_rfl) (of_decide_eq_true (by kernel_rfl)) k0 bel lt0) (trodAll_cons_mk (Below.trod laidOut (by kernel_rfl) (of_decide_eq_true (by kernel_rfl)) k1 bel lt1) (trodAll_cons_mk (Below.trod laidOut (by kernel_rfl) (of_decide_eq_true (by kernel_rfl)) k2 bel lt2) trodAll_mk0))), rfl, bel.frame _, fun h => by cases h⟩

set_option maxRecDepth 100000 in
theorem closed : joinedFacts Try.pinned.checked.prog 15 Try.f15 Rows.regionReadsSpec Rows.regionReadsRow = true := by
  show joinedFacts Try.prog 15 Try.f15 Rows.regionReadsSpec Rows.regionReadsRow = true
  unfold joinedFacts
  simp only [enter_may, enter_lifts, enter_make]
  kernel_rfl

theorem over : Rows.regionReadsRow.holds Try.pinned (OpenSpec.ofChange Rows.regionReadsSpec) :=
  OpenClaim.holds_of_wide 15 Try.f15 rfl rfl rfl rfl rfl rfl rfl ⟨rfl, rfl, rfl, rfl, rfl⟩ rfl rfl rfl rfl rfl (by kernel_rfl) Try.func15 closed
    (of_decide_eq_true (by kernel_rfl)) (by unfold Func.isWrapper; first | (rw [if_pos (by decide +kernel)]; kernel_rfl) | (rw [if_neg (by decide +kernel)]; exact ⟨rfl, rfl⟩))
    (fun os started H enc _ => lifted os started H enc)

theorem proved : Rows.RegionReadsSaid := over

end Go.Proofs.Ytjmbhknokobnpaa.regionReads
