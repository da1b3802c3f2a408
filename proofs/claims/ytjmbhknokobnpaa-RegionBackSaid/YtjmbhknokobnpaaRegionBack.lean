/- Claim RegionBack. Printed by mklaws9.py. -/
import Derived.Test.YtjmbhknokobnpaaFrame9
import Derived.Test.YtjmbhknokobnpaaLaw9
import Derived.Deep.RegionHeld3
set_option linter.unusedVariables false
set_option linter.unusedSimpArgs false
namespace Go.Proofs.Ytjmbhknokobnpaa.regionBack
open Go Go.RowKit Go.Kn Go.ChangeShapes Go.WideShapes Go.ChangeAt

set_option maxRecDepth 100000 in
set_option maxHeartbeats 16000000 in
theorem back (z0 z1 z2 op at_ : Int) (pat : Nat) (A : Option Addr) (n c : Nat) (zs : List Int) (w : World) (h0 : (Lit.int .i64 z0).wf = true) (h1 : (Lit.int .i64 z1).wf = true) (h2 : (Lit.int .i64 z2).wf = true) (hop : (Lit.int .i64 op).wf = true) (ha : (Lit.int .i64 at_).wf = true) (hp : pat < 4294967296) (hi : Ins w A n c zs) (hw : ∀ z ∈ zs, (Lit.int .i64 z).wf = true) :
    Calls Try.prog 16 #[.agg #[.int .i64 z0, .int .i64 z1, .int .i64 z2], .slice A n c, .int .i64 op, .int .i64 at_, .int .u32 pat] w fun en w' => en = .returned (.bool true) ∧ Only [] w w' := by
  obtain ⟨b, hb⟩ : ∃ b, 1 + z0 % 64 = b := ⟨_, rfl⟩
  obtain ⟨s, hs⟩ : ∃ b, 8 + z1 % 25 = b := ⟨_, rfl⟩
  obtain ⟨l, hl⟩ : ∃ b, 24 + z2 % 41 = b := ⟨_, rfl⟩
  have hcf := cf_ok z0 z1 z2
  rw [hb, hs, hl] at hcf
  have HC := Lib.hid hcf
  have HK : Hid (∀ W : World, Calls Try.prog 57 #[.agg #[.int .i64 z0, .int .i64 z1, .int .i64 z2]] W fun e w' => ∃ p, e = .returned (.tuple #[.agg #[.int .i64 b, .int .i64 s, .int .i64 l], .pointer (some ⟨p, 0, none⟩), .bool true]) ∧ GeoAt w' p b s l ∧ W.heap.size ≤ p ∧ Only [] W w') := Lib.hid fun W => by
    have h := kept9_any z0 z1 z2 W h0 h1 h2
    rw [hb, hs, hl] at h
    exact h
  obtain ⟨rr, hrr⟩ : ∃ r, madeRg b s l zs op = r := ⟨_, rfl⟩
  have hmay : rgMay b s l rr = true := by rw [← hrr]; exact madeRg_may hcf zs op
  have HMD : Hid (∀ W : World, Only [] w W → Calls Try.prog 67 #[.agg #[.int .i64 z0, .int .i64 z1, .int .i64 z2], .slice A n c, .int .i64 op] W (Made9 W rr)) := Lib.hid fun W hW => by
    have h := made9_any z0 z1 z2 op A n c zs W h0 h1 h2 hop (hi.keep0 hW) hw
    rw [hb, hs, hl, hrr] at h
    exact h
  obtain ⟨hE, hDc⟩ := rg_back hcf hmay
  have hN := encRg_len hcf hE
  have hcl := encRg_closed hcf hE
  obtain ⟨bs, hbs⟩ : ∃ x, rgBytes s rr = x := ⟨_, rfl⟩
  rw [hbs] at hE hDc hN hcl
  obtain ⟨hk1, hk2, hk3, _⟩ := rlN_eq hcf
  obtain ⟨K, hK⟩ : ∃ x, rlN s = x := ⟨_, rfl⟩
  rw [hK] at hk1 hk2 hk3
  rw [show rgT s = 64 * K by unfold rgT; rw [hK]] at hN
  obtain ⟨N, hNe⟩ : ∃ x, 64 * K = x := ⟨_, rfl⟩
  obtain ⟨B, hBe⟩ : ∃ x, N - 4 = x := ⟨_, rfl⟩
  rw [hNe] at hN
  rw [hN, hBe] at hcl
  obtain ⟨rg, rv, rm, re, rq, rd, rs, ro, rl, rp, rt, rbase, rover, rsegs, rfl⟩ : ∃ (a0 a1 a2 a3 a4 a5 a6 a7 a8 a9 a10 : Int) (b0 b1 : List Int) (b2 : List (Int × Int)), rr = ⟨a0, a1, a2, a3, a4, a5, a6, a7, a8, a9, a10, b0, b1, b2⟩ := ⟨_, _, _, _, _, _, _, _, _, _, _, _, _, _, rfl⟩
  have hf : at_ % ((8 * B : Nat) : Int) = ((at_ % ((8 * B : Nat) : Int)).toNat : Int) := by
    have h0 : 0 ≤ at_ % ((8 * B : Nat) : Int) := Int.emod_nonneg _ (by omega)
    omega
  generalize hfi : (at_ % ((8 * B : Nat) : Int)).toNat = first at *
  have HF := Lib.hid hf
  have HA := Lib.hid ha
  have HE := Lib.hid hE
  have HDC := Lib.hid hDc
  have HN := Lib.hid hN
  have HCL := Lib.hid hcl
  have HM := Lib.hid hmay
  have HRL := Lib.hid hk1
  have HKN : Hid ((N : Int) = 64 * (K : Int)) := Lib.hid (by omega)
  have HBN : Hid ((N : Int) - 4 = (B : Int)) := Lib.hid (by omega)
  have HN4 : Hid (bs.length - 4 = B ∧ 4 ≤ bs.length) := Lib.hid (by omega)
  have hN1 : 128 ≤ N := by omega
  have hN2 : N ≤ 256 := by omega
  have hBl : B ≤ N := by omega
  have hB1 : 1 ≤ B := by omega
  clear hb hs hl hrr h0 h1 h2 hop hi hw hE hDc hN hcl hbs hK hk1 hNe hBe hf hfi ha hmay
  have hcf2 := HC.out
  clear hcf2 hcf
  have HD0 : Hid (Wd w w [] [] []) := Lib.hid (Wd.start w)
  have HD1 : Hid (Wd w (World.alloc w (.cells #[.int .i64 z0, .int .i64 z1, .int .i64 z2] 22)) [] [] [(fun W => Own W w.heap.size [.int .i64 z0, .int .i64 z1, .int .i64 z2])]) := Lib.hid (HD0.out.newF #[.int .i64 z0, .int .i64 z1, .int .i64 z2] 22 rfl)
  clear HD0
  go_enter Try.func16, Try.ntmps16
  go_wp2_with fail
  generalize hwa : w.alloc (.cells #[.int .i64 z0, .int .i64 z1, .int .i64 z2] 22) = w0 at *
  clear hwa
  refine (HK.out _).mono ?_
  rintro en w1 ⟨p, rfl, hg, hpf, hO⟩
  have HD2 : Hid (Wd w w1 [] [] [(fun W => GeoAt W p b s l), (fun W => Own W w.heap.size [.int .i64 z0, .int .i64 z1, .int .i64 z2])]) := Lib.hid ((HD1.out.keep0 hO).fact0 (hg.fx (by simp)))
  clear HD1
  clear hg hpf hO
  have HD3 : Hid (Wd w (World.alloc w1 (.cells #[.int .i64 b, .int .i64 s, .int .i64 l] 29)) [] [] [(fun W => Own W w1.heap.size [.int .i64 b, .int .i64 s, .int .i64 l]), (fun W => GeoAt W p b s l), (fun W => Own W w.heap.size [.int .i64 z0, .int .i64 z1, .int .i64 z2])]) := Lib.hid (HD2.out.newF #[.int .i64 b, .int .i64 s, .int .i64 l] 29 rfl)
  clear HD2
  go_upto_region 4 with (fail)
  generalize hwa : w1.alloc (.cells #[.int .i64 b, .int .i64 s, .int .i64 l] 29) = w2 at *
  clear hwa
  generalize w1.heap.size = cb at *
  have q0 := Own.cell (HD3.out.fi 2 rfl) 0 (by simp)
  have q1 := Own.cell (HD3.out.fi 2 rfl) 1 (by simp)
  have q2 := Own.cell (HD3.out.fi 2 rfl) 2 (by simp)
  simp only [List.getElem_cons_zero, List.getElem_cons_succ] at q0 q1 q2
  go_wp2_with fail
  refine (HMD.out _ HD3.out.only).mono ?_
  rintro en w3 ⟨⟨rA, rn, rc⟩, ⟨rB, rk, rh⟩, ⟨rC, rj, ri⟩, rfl, hr, hf, hO⟩
  simp only [Rg.cells] at hr ⊢
  have HD4 : Hid (Wd w w3 [] [] [(fun W => RgAt W ⟨rg, rv, rm, re, rq, rd, rs, ro, rl, rp, rt, rbase, rover, rsegs⟩ (rA, rn, rc) (rB, rk, rh) (rC, rj, ri)), (fun W => Own W cb [.int .i64 b, .int .i64 s, .int .i64 l]), (fun W => GeoAt W p b s l), (fun W => Own W w.heap.size [.int .i64 z0, .int .i64 z1, .int .i64 z2])]) := Lib.hid ((HD3.out.keep0 hO).fact0 (hr.fx (by simp) (by simp) (by simp)))
  clear HD3
  clear hr hf hO q0 q1 q2
  have HD5 : Hid (Wd w (World.alloc w3 (.cells #[.int .i64 rg, .int .i64 rv, .int .i64 rm, .int .i64 re, .int .i64 rq, .int .i64 rd, .int .i64 rs, .int .i64 ro, .int .i64 rl, .int .i64 rp, .int .i64 rt, .slice rA rn rc, .slice rB rk rh, .slice rC rj ri] 90)) [] [] [(fun W => Own W w3.heap.size [.int .i64 rg, .int .i64 rv, .int .i64 rm, .int .i64 re, .int .i64 rq, .int .i64 rd, .int .i64 rs, .int .i64 ro, .int .i64 rl, .int .i64 rp, .int .i64 rt, .slice rA rn rc, .slice rB rk rh, .slice rC rj ri]), (fun W => RgAt W ⟨rg, rv, rm, re, rq, rd, rs, ro, rl, rp, rt, rbase, rover, rsegs⟩ (rA, rn, rc) (rB, rk, rh) (rC, rj, ri)), (fun W => Own W cb [.int .i64 b, .int .i64 s, .int .i64 l]), (fun W => GeoAt W p b s l), (fun W => Own W w.heap.size [.int .i64 z0, .int .i64 z1, .int .i64 z2])]) := Lib.hid (HD4.out.newF #[.int .i64 rg, .int .i64 rv, .int .i64 rm, .int .i64 re, .int .i64 rq, .int .i64 rd, .int .i64 rs, .int .i64 ro, .int .i64 rl, .int .i64 rp, .int .i64 rt, .slice rA rn rc, .slice rB rk rh, .slice rC rj ri] 90 rfl)
  clear HD4
  go_upto_region 5 with (fail)
  generalize hwa : w3.alloc (.cells #[.int .i64 rg, .int .i64 rv, .int .i64 rm, .int .i64 re, .int .i64 rq, .int .i64 rd, .int .i64 rs, .int .i64 ro, .int .i64 rl, .int .i64 rp, .int .i64 rt, .slice rA rn rc, .slice rB rk rh, .slice rC rj ri] 90) = w4 at *
  clear hwa
  generalize w3.heap.size = rb at *
  obtain ⟨x0, x1, x2, x3, x4, x5, x6, x7, x8, x9, x10, x11, x12, x13⟩ := cells14 (show Own w4 rb _ from (HD5.out.fi 0 rfl))
  go_wp2_with fail
  refine (region_enc_own p b s l rg rv rm re rq rd rs ro rl rp rt rA rn rc rbase rB rk rh rover rC rj ri rsegs _ (by exact (HD5.out.fi 3 rfl)) HC.out (by exact (HD5.out.fi 1 rfl))).mono ?_
  intro en w5 he
  rw [HE.out] at he
  obtain ⟨g, cg, rfl, hc, hm, hg, ho, hO⟩ := he.of_some
  rw [HN.out] at hc ⊢
  have HD6 : Hid (Wd w w5 [] [] [(fun W => Own W g (bvs bs)), (fun W => Own W rb [.int .i64 rg, .int .i64 rv, .int .i64 rm, .int .i64 re, .int .i64 rq, .int .i64 rd, .int .i64 rs, .int .i64 ro, .int .i64 rl, .int .i64 rp, .int .i64 rt, .slice rA rn rc, .slice rB rk rh, .slice rC rj ri]), (fun W => RgAt W ⟨rg, rv, rm, re, rq, rd, rs, ro, rl, rp, rt, rbase, rover, rsegs⟩ (rA, rn, rc) (rB, rk, rh) (rC, rj, ri)), (fun W => Own W cb [.int .i64 b, .int .i64 s, .int .i64 l]), (fun W => GeoAt W p b s l), (fun W => Own W w.heap.size [.int .i64 z0, .int .i64 z1, .int .i64 z2])]) := Lib.hid ((HD5.out.keep0 hO).fact0 (ho.fx (by simp)))
  clear HD5
  clear he ho hO hg x0 x1 x2 x3 x4 x5 x6 x7 x8 x9 x10 x11 x12 x13
  have hd1 : decide ((N : Int) < 64) = false := by simp; omega
  go_wp2_with fail
  refine (geom_rlen_any p b s l _ (by exact (HD6.out.fi 4 rfl)) HC.out).mono ?_
  rintro en w6 ⟨rfl, rfl⟩
  rw [HRL.out]
  have hw1 := IntWalk.i64_in (64 * (K : Int)) (by omega)
  have hkn := HKN.out
  have hne : ((N : Int) == 64 * (K : Int)) = true := by simp [hkn]
  go_upto_region 8 with (fail)
  clear hne hkn hw1
  go_wp2_with fail
  refine (region_dec_any p b s l (some ⟨g, 0, none⟩) N cg bs _ (by exact (HD6.out.fi 4 rfl)) HC.out (Row1.of_Own (by exact (HD6.out.fi 0 rfl)) (by rw [bvs_length]; exact HN.out) hc hm) (by omega)).mono ?_
  rintro en w7 ⟨⟨xA, xn, xc⟩, ⟨xB, xk, xh⟩, ⟨xC, xj, xi⟩, rfl, hr, hf, hO⟩
  rw [HDC.out] at hr ⊢
  simp only [Option.getD_some, Option.isSome_some, if_true, Rg.cells] at hr ⊢
  have HD7 : Hid (Wd w w7 [] [] [(fun W => RgAt W ⟨rg, rv, rm, re, rq, rd, rs, ro, rl, rp, rt, rbase, rover, rsegs⟩ (xA, xn, xc) (xB, xk, xh) (xC, xj, xi)), (fun W => Own W g (bvs bs)), (fun W => Own W rb [.int .i64 rg, .int .i64 rv, .int .i64 rm, .int .i64 re, .int .i64 rq, .int .i64 rd, .int .i64 rs, .int .i64 ro, .int .i64 rl, .int .i64 rp, .int .i64 rt, .slice rA rn rc, .slice rB rk rh, .slice rC rj ri]), (fun W => RgAt W ⟨rg, rv, rm, re, rq, rd, rs, ro, rl, rp, rt, rbase, rover, rsegs⟩ (rA, rn, rc) (rB, rk, rh) (rC, rj, ri)), (fun W => Own W cb [.int .i64 b, .int .i64 s, .int .i64 l]), (fun W => GeoAt W p b s l), (fun W => Own W w.heap.size [.int .i64 z0, .int .i64 z1, .int .i64 z2])]) := Lib.hid ((HD6.out.keep0 hO).fact0 (hr.fx (by simp) (by simp) (by simp)))
  clear HD6
  clear hr hf hO
  have HD8 : Hid (Wd w (World.alloc w7 (.cells #[.int .i64 rg, .int .i64 rv, .int .i64 rm, .int .i64 re, .int .i64 rq, .int .i64 rd, .int .i64 rs, .int .i64 ro, .int .i64 rl, .int .i64 rp, .int .i64 rt, .slice xA xn xc, .slice xB xk xh, .slice xC xj xi] 90)) [] [] [(fun W => Own W w7.heap.size [.int .i64 rg, .int .i64 rv, .int .i64 rm, .int .i64 re, .int .i64 rq, .int .i64 rd, .int .i64 rs, .int .i64 ro, .int .i64 rl, .int .i64 rp, .int .i64 rt, .slice xA xn xc, .slice xB xk xh, .slice xC xj xi]), (fun W => RgAt W ⟨rg, rv, rm, re, rq, rd, rs, ro, rl, rp, rt, rbase, rover, rsegs⟩ (xA, xn, xc) (xB, xk, xh) (xC, xj, xi)), (fun W => Own W g (bvs bs)), (fun W => Own W rb [.int .i64 rg, .int .i64 rv, .int .i64 rm, .int .i64 re, .int .i64 rq, .int .i64 rd, .int .i64 rs, .int .i64 ro, .int .i64 rl, .int .i64 rp, .int .i64 rt, .slice rA rn rc, .slice rB rk rh, .slice rC rj ri]), (fun W => RgAt W ⟨rg, rv, rm, re, rq, rd, rs, ro, rl, rp, rt, rbase, rover, rsegs⟩ (rA, rn, rc) (rB, rk, rh) (rC, rj, ri)), (fun W => Own W cb [.int .i64 b, .int .i64 s, .int .i64 l]), (fun W => GeoAt W p b s l), (fun W => Own W w.heap.size [.int .i64 z0, .int .i64 z1, .int .i64 z2])]) := Lib.hid (HD7.out.newF #[.int .i64 rg, .int .i64 rv, .int .i64 rm, .int .i64 re, .int .i64 rq, .int .i64 rd, .int .i64 rs, .int .i64 ro, .int .i64 rl, .int .i64 rp, .int .i64 rt, .slice xA xn xc, .slice xB xk xh, .slice xC xj xi] 90 rfl)
  clear HD7
  go_upto_region 9 with (fail)
  generalize hwa : w7.alloc (.cells #[.int .i64 rg, .int .i64 rv, .int .i64 rm, .int .i64 re, .int .i64 rq, .int .i64 rd, .int .i64 rs, .int .i64 ro, .int .i64 rl, .int .i64 rp, .int .i64 rt, .slice xA xn xc, .slice xB xk xh, .slice xC xj xi] 90) = w8 at *
  clear hwa
  generalize w7.heap.size = xb at *
  have hw1 := IntWalk.i64_in ((N : Int) - 4) (by omega)
  go_wp2_with fail
  rw [HBN.out]
  clear hw1
  refine (turned_any (some ⟨g, 0, none⟩) N cg bs B at_ first pat _ (Row1.of_Own (by exact (HD8.out.fi 2 rfl)) (by rw [bvs_length]; exact HN.out) hc hm) hB1 hBl (by omega) HA.out HF.out hp).mono ?_
  rintro en w9 ⟨g4, rfl, hg4, ho4, hO⟩
  have HD9 : Hid (Wd w w9 [] [] [(fun W => Own W g4 (bvs (turnB bs first (8 * B) pat 32))), (fun W => Own W xb [.int .i64 rg, .int .i64 rv, .int .i64 rm, .int .i64 re, .int .i64 rq, .int .i64 rd, .int .i64 rs, .int .i64 ro, .int .i64 rl, .int .i64 rp, .int .i64 rt, .slice xA xn xc, .slice xB xk xh, .slice xC xj xi]), (fun W => RgAt W ⟨rg, rv, rm, re, rq, rd, rs, ro, rl, rp, rt, rbase, rover, rsegs⟩ (xA, xn, xc) (xB, xk, xh) (xC, xj, xi)), (fun W => Own W g (bvs bs)), (fun W => Own W rb [.int .i64 rg, .int .i64 rv, .int .i64 rm, .int .i64 re, .int .i64 rq, .int .i64 rd, .int .i64 rs, .int .i64 ro, .int .i64 rl, .int .i64 rp, .int .i64 rt, .slice rA rn rc, .slice rB rk rh, .slice rC rj ri]), (fun W => RgAt W ⟨rg, rv, rm, re, rq, rd, rs, ro, rl, rp, rt, rbase, rover, rsegs⟩ (rA, rn, rc) (rB, rk, rh) (rC, rj, ri)), (fun W => Own W cb [.int .i64 b, .int .i64 s, .int .i64 l]), (fun W => GeoAt W p b s l), (fun W => Own W w.heap.size [.int .i64 z0, .int .i64 z1, .int .i64 z2])]) := Lib.hid ((HD8.out.keep0 hO).fact0 (ho4.fx (by simp)))
  clear HD8
  clear ho4 hO hg4
  cases hany : turnA first (8 * B) pat 32
  · have hY := turnB_none bs first (8 * B) pat 32 hany
    have HYD : Hid (decRg b s l (turnB bs first (8 * B) pat 32) = some ⟨rg, rv, rm, re, rq, rd, rs, ro, rl, rp, rt, rbase, rover, rsegs⟩) := Lib.hid (by rw [hY]; exact HDC.out)
    have HY : Hid (Bys w9 (some ⟨g4, 0, none⟩) N N (turnB bs first (8 * B) pat 32)) := Lib.hid (Row1.of_Own (by exact HD9.out.fi 0 rfl) (by rw [bvs_length, turnB_length]; exact HN.out) (Nat.le_refl _) (by unfold maxLen; omega))
    clear hY
    generalize turnB bs first (8 * B) pat 32 = Y at *
    go_wp2_with fail
    refine (region_dec_any p b s l (some ⟨g4, 0, none⟩) N N Y _ (by exact (HD9.out.fi 7 rfl)) HC.out HY.out (by omega)).mono ?_
    rintro en wa ⟨⟨yA, yn, yc⟩, ⟨yB, yk, yh⟩, ⟨yC, yj, yi⟩, rfl, hr, hf, hO⟩
    rw [HYD.out] at hr ⊢
    simp only [Option.getD_some, Option.isSome_some, if_true, Rg.cells] at hr ⊢
    have HDa : Hid (Wd w wa [] [] [(fun W => Own W g4 (bvs Y)), (fun W => Own W xb [.int .i64 rg, .int .i64 rv, .int .i64 rm, .int .i64 re, .int .i64 rq, .int .i64 rd, .int .i64 rs, .int .i64 ro, .int .i64 rl, .int .i64 rp, .int .i64 rt, .slice xA xn xc, .slice xB xk xh, .slice xC xj xi]), (fun W => RgAt W ⟨rg, rv, rm, re, rq, rd, rs, ro, rl, rp, rt, rbase, rover, rsegs⟩ (xA, xn, xc) (xB, xk, xh) (xC, xj, xi)), (fun W => Own W g (bvs bs)), (fun W => Own W rb [.int .i64 rg, .int .i64 rv, .int .i64 rm, .int .i64 re, .int .i64 rq, .int .i64 rd, .int .i64 rs, .int .i64 ro, .int .i64 rl, .int .i64 rp, .int .i64 rt, .slice rA rn rc, .slice rB rk rh, .slice rC rj ri]), (fun W => RgAt W ⟨rg, rv, rm, re, rq, rd, rs, ro, rl, rp, rt, rbase, rover, rsegs⟩ (rA, rn, rc) (rB, rk, rh) (rC, rj, ri)), (fun W => Own W cb [.int .i64 b, .int .i64 s, .int .i64 l]), (fun W => GeoAt W p b s l), (fun W => Own W w.heap.size [.int .i64 z0, .int .i64 z1, .int .i64 z2])]) := Lib.hid (HD9.out.keep0 hO)
    clear HD9
    clear hr hf hO
    have HDb : Hid (Wd w (World.alloc wa (.cells #[.int .i64 rg, .int .i64 rv, .int .i64 rm, .int .i64 re, .int .i64 rq, .int .i64 rd, .int .i64 rs, .int .i64 ro, .int .i64 rl, .int .i64 rp, .int .i64 rt, .slice yA yn yc, .slice yB yk yh, .slice yC yj yi] 90)) [] [] [(fun W => Own W wa.heap.size [.int .i64 rg, .int .i64 rv, .int .i64 rm, .int .i64 re, .int .i64 rq, .int .i64 rd, .int .i64 rs, .int .i64 ro, .int .i64 rl, .int .i64 rp, .int .i64 rt, .slice yA yn yc, .slice yB yk yh, .slice yC yj yi]), (fun W => Own W g4 (bvs Y)), (fun W => Own W xb [.int .i64 rg, .int .i64 rv, .int .i64 rm, .int .i64 re, .int .i64 rq, .int .i64 rd, .int .i64 rs, .int .i64 ro, .int .i64 rl, .int .i64 rp, .int .i64 rt, .slice xA xn xc, .slice xB xk xh, .slice xC xj xi]), (fun W => RgAt W ⟨rg, rv, rm, re, rq, rd, rs, ro, rl, rp, rt, rbase, rover, rsegs⟩ (xA, xn, xc) (xB, xk, xh) (xC, xj, xi)), (fun W => Own W g (bvs bs)), (fun W => Own W rb [.int .i64 rg, .int .i64 rv, .int .i64 rm, .int .i64 re, .int .i64 rq, .int .i64 rd, .int .i64 rs, .int .i64 ro, .int .i64 rl, .int .i64 rp, .int .i64 rt, .slice rA rn rc, .slice rB rk rh, .slice rC rj ri]), (fun W => RgAt W ⟨rg, rv, rm, re, rq, rd, rs, ro, rl, rp, rt, rbase, rover, rsegs⟩ (rA, rn, rc) (rB, rk, rh) (rC, rj, ri)), (fun W => Own W cb [.int .i64 b, .int .i64 s, .int .i64 l]), (fun W => GeoAt W p b s l), (fun W => Own W w.heap.size [.int .i64 z0, .int .i64 z1, .int .i64 z2])]) := Lib.hid (HDa.out.newF #[.int .i64 rg, .int .i64 rv, .int .i64 rm, .int .i64 re, .int .i64 rq, .int .i64 rd, .int .i64 rs, .int .i64 ro, .int .i64 rl, .int .i64 rp, .int .i64 rt, .slice yA yn yc, .slice yB yk yh, .slice yC yj yi] 90 rfl)
    clear HDa
    go_upto_region 11 with (fail)
    generalize hwa : wa.alloc (.cells #[.int .i64 rg, .int .i64 rv, .int .i64 rm, .int .i64 re, .int .i64 rq, .int .i64 rd, .int .i64 rs, .int .i64 ro, .int .i64 rl, .int .i64 rp, .int .i64 rt, .slice yA yn yc, .slice yB yk yh, .slice yC yj yi] 90) = wb at *
    clear hwa
    generalize wa.heap.size = yb at *
    obtain ⟨x0, x1, x2, x3, x4, x5, x6, x7, x8, x9, x10, x11, x12, x13⟩ := cells14 (show Own wb rb _ from (HDb.out.fi 5 rfl))
    go_wp2_with fail
    refine (region_may_any p b s l rg rv rm re rq rd rs ro rl rp rt rA rn rc rbase rB rk rh rover rC rj ri rsegs _ (by exact (HDb.out.fi 8 rfl)) HC.out (by exact (HDb.out.fi 6 rfl))).mono ?_
    rintro en wc ⟨rfl, hO⟩
    rw [HM.out]
    have HDc : Hid (Wd w wc [] [] [(fun W => Own W yb [.int .i64 rg, .int .i64 rv, .int .i64 rm, .int .i64 re, .int .i64 rq, .int .i64 rd, .int .i64 rs, .int .i64 ro, .int .i64 rl, .int .i64 rp, .int .i64 rt, .slice yA yn yc, .slice yB yk yh, .slice yC yj yi]), (fun W => Own W g4 (bvs Y)), (fun W => Own W xb [.int .i64 rg, .int .i64 rv, .int .i64 rm, .int .i64 re, .int .i64 rq, .int .i64 rd, .int .i64 rs, .int .i64 ro, .int .i64 rl, .int .i64 rp, .int .i64 rt, .slice xA xn xc, .slice xB xk xh, .slice xC xj xi]), (fun W => RgAt W ⟨rg, rv, rm, re, rq, rd, rs, ro, rl, rp, rt, rbase, rover, rsegs⟩ (xA, xn, xc) (xB, xk, xh) (xC, xj, xi)), (fun W => Own W g (bvs bs)), (fun W => Own W rb [.int .i64 rg, .int .i64 rv, .int .i64 rm, .int .i64 re, .int .i64 rq, .int .i64 rd, .int .i64 rs, .int .i64 ro, .int .i64 rl, .int .i64 rp, .int .i64 rt, .slice rA rn rc, .slice rB rk rh, .slice rC rj ri]), (fun W => RgAt W ⟨rg, rv, rm, re, rq, rd, rs, ro, rl, rp, rt, rbase, rover, rsegs⟩ (rA, rn, rc) (rB, rk, rh) (rC, rj, ri)), (fun W => Own W cb [.int .i64 b, .int .i64 s, .int .i64 l]), (fun W => GeoAt W p b s l), (fun W => Own W w.heap.size [.int .i64 z0, .int .i64 z1, .int .i64 z2])]) := Lib.hid (HDb.out.keep0 hO)
    clear HDb
    clear hO x0 x1 x2 x3 x4 x5 x6 x7 x8 x9 x10 x11 x12 x13
    obtain ⟨x0, x1, x2, x3, x4, x5, x6, x7, x8, x9, x10, x11, x12, x13⟩ := cells14 (show Own wc xb _ from (HDc.out.fi 2 rfl))
    obtain ⟨y0, y1, y2, y3, y4, y5, y6, y7, y8, y9, y10, y11, y12, y13⟩ := cells14 (show Own wc rb _ from (HDc.out.fi 5 rfl))
    go_wp2_with fail
    refine (alike_region_same rg rv rm re rq rd rs ro rl rp rt rbase rover rsegs xA xn xc xB xk xh xC xj xi rA rn rc rB rk rh rC rj ri _ (by exact (HDc.out.fi 3 rfl)) (by exact (HDc.out.fi 6 rfl))).mono ?_
    rintro en wd ⟨rfl, hO⟩
    have HDd : Hid (Wd w wd [] [] [(fun W => Own W yb [.int .i64 rg, .int .i64 rv, .int .i64 rm, .int .i64 re, .int .i64 rq, .int .i64 rd, .int .i64 rs, .int .i64 ro, .int .i64 rl, .int .i64 rp, .int .i64 rt, .slice yA yn yc, .slice yB yk yh, .slice yC yj yi]), (fun W => Own W g4 (bvs Y)), (fun W => Own W xb [.int .i64 rg, .int .i64 rv, .int .i64 rm, .int .i64 re, .int .i64 rq, .int .i64 rd, .int .i64 rs, .int .i64 ro, .int .i64 rl, .int .i64 rp, .int .i64 rt, .slice xA xn xc, .slice xB xk xh, .slice xC xj xi]), (fun W => RgAt W ⟨rg, rv, rm, re, rq, rd, rs, ro, rl, rp, rt, rbase, rover, rsegs⟩ (xA, xn, xc) (xB, xk, xh) (xC, xj, xi)), (fun W => Own W g (bvs bs)), (fun W => Own W rb [.int .i64 rg, .int .i64 rv, .int .i64 rm, .int .i64 re, .int .i64 rq, .int .i64 rd, .int .i64 rs, .int .i64 ro, .int .i64 rl, .int .i64 rp, .int .i64 rt, .slice rA rn rc, .slice rB rk rh, .slice rC rj ri]), (fun W => RgAt W ⟨rg, rv, rm, re, rq, rd, rs, ro, rl, rp, rt, rbase, rover, rsegs⟩ (rA, rn, rc) (rB, rk, rh) (rC, rj, ri)), (fun W => Own W cb [.int .i64 b, .int .i64 s, .int .i64 l]), (fun W => GeoAt W p b s l), (fun W => Own W w.heap.size [.int .i64 z0, .int .i64 z1, .int .i64 z2])]) := Lib.hid (HDc.out.keep0 hO)
    clear HDc
    clear hO x0 x1 x2 x3 x4 x5 x6 x7 x8 x9 x10 x11 x12 x13 y0 y1 y2 y3 y4 y5 y6 y7 y8 y9 y10 y11 y12 y13
    go_wp2_with fail
    refine (awake9 _).mono ?_
    rintro en we ⟨rfl, hO⟩
    have HDe : Hid (Wd w we [] [] [(fun W => Own W yb [.int .i64 rg, .int .i64 rv, .int .i64 rm, .int .i64 re, .int .i64 rq, .int .i64 rd, .int .i64 rs, .int .i64 ro, .int .i64 rl, .int .i64 rp, .int .i64 rt, .slice yA yn yc, .slice yB yk yh, .slice yC yj yi]), (fun W => Own W g4 (bvs Y)), (fun W => Own W xb [.int .i64 rg, .int .i64 rv, .int .i64 rm, .int .i64 re, .int .i64 rq, .int .i64 rd, .int .i64 rs, .int .i64 ro, .int .i64 rl, .int .i64 rp, .int .i64 rt, .slice xA xn xc, .slice xB xk xh, .slice xC xj xi]), (fun W => RgAt W ⟨rg, rv, rm, re, rq, rd, rs, ro, rl, rp, rt, rbase, rover, rsegs⟩ (xA, xn, xc) (xB, xk, xh) (xC, xj, xi)), (fun W => Own W g (bvs bs)), (fun W => Own W rb [.int .i64 rg, .int .i64 rv, .int .i64 rm, .int .i64 re, .int .i64 rq, .int .i64 rd, .int .i64 rs, .int .i64 ro, .int .i64 rl, .int .i64 rp, .int .i64 rt, .slice rA rn rc, .slice rB rk rh, .slice rC rj ri]), (fun W => RgAt W ⟨rg, rv, rm, re, rq, rd, rs, ro, rl, rp, rt, rbase, rover, rsegs⟩ (rA, rn, rc) (rB, rk, rh) (rC, rj, ri)), (fun W => Own W cb [.int .i64 b, .int .i64 s, .int .i64 l]), (fun W => GeoAt W p b s l), (fun W => Own W w.heap.size [.int .i64 z0, .int .i64 z1, .int .i64 z2])]) := Lib.hid (HDd.out.keep0 hO)
    clear HDd
    go_wp2
    go_ret
    exact ⟨rfl, HDe.out.only⟩
  · have HYD : Hid (decRg b s l (turnB bs first (8 * B) pat 32) = none) := Lib.hid (by
      have h9 := rg_turned (first := first) (pat := pat) HC.out HN4.out.2 (by rw [HN4.out.1]; exact HCL.out) (by rw [HN4.out.1]; exact hany)
      rwa [HN4.out.1] at h9)
    have HY : Hid (Bys w9 (some ⟨g4, 0, none⟩) N N (turnB bs first (8 * B) pat 32)) := Lib.hid (Row1.of_Own (by exact HD9.out.fi 0 rfl) (by rw [bvs_length, turnB_length]; exact HN.out) (Nat.le_refl _) (by unfold maxLen; omega))
    generalize turnB bs first (8 * B) pat 32 = Y at *
    go_wp2_with fail
    refine (region_dec_any p b s l (some ⟨g4, 0, none⟩) N N Y _ (by exact (HD9.out.fi 7 rfl)) HC.out HY.out (by omega)).mono ?_
    rintro en wa ⟨⟨yA, yn, yc⟩, ⟨yB, yk, yh⟩, ⟨yC, yj, yi⟩, rfl, hr, hf, hO⟩
    rw [HYD.out] at hr ⊢
    simp only [Option.getD_none, Option.isSome_none, rgZero, Rg.cells] at hr ⊢
    have HDa : Hid (Wd w wa [] [] [(fun W => Own W g4 (bvs Y)), (fun W => Own W xb [.int .i64 rg, .int .i64 rv, .int .i64 rm, .int .i64 re, .int .i64 rq, .int .i64 rd, .int .i64 rs, .int .i64 ro, .int .i64 rl, .int .i64 rp, .int .i64 rt, .slice xA xn xc, .slice xB xk xh, .slice xC xj xi]), (fun W => RgAt W ⟨rg, rv, rm, re, rq, rd, rs, ro, rl, rp, rt, rbase, rover, rsegs⟩ (xA, xn, xc) (xB, xk, xh) (xC, xj, xi)), (fun W => Own W g (bvs bs)), (fun W => Own W rb [.int .i64 rg, .int .i64 rv, .int .i64 rm, .int .i64 re, .int .i64 rq, .int .i64 rd, .int .i64 rs, .int .i64 ro, .int .i64 rl, .int .i64 rp, .int .i64 rt, .slice rA rn rc, .slice rB rk rh, .slice rC rj ri]), (fun W => RgAt W ⟨rg, rv, rm, re, rq, rd, rs, ro, rl, rp, rt, rbase, rover, rsegs⟩ (rA, rn, rc) (rB, rk, rh) (rC, rj, ri)), (fun W => Own W cb [.int .i64 b, .int .i64 s, .int .i64 l]), (fun W => GeoAt W p b s l), (fun W => Own W w.heap.size [.int .i64 z0, .int .i64 z1, .int .i64 z2])]) := Lib.hid (HD9.out.keep0 hO)
    clear HD9
    clear hr hf hO
    have HDb : Hid (Wd w (World.alloc wa (.cells #[.int .i64 0, .int .i64 0, .int .i64 0, .int .i64 0, .int .i64 0, .int .i64 0, .int .i64 0, .int .i64 0, .int .i64 0, .int .i64 0, .int .i64 0, .slice yA yn yc, .slice yB yk yh, .slice yC yj yi] 90)) [] [] [(fun W => Own W wa.heap.size [.int .i64 0, .int .i64 0, .int .i64 0, .int .i64 0, .int .i64 0, .int .i64 0, .int .i64 0, .int .i64 0, .int .i64 0, .int .i64 0, .int .i64 0, .slice yA yn yc, .slice yB yk yh, .slice yC yj yi]), (fun W => Own W g4 (bvs Y)), (fun W => Own W xb [.int .i64 rg, .int .i64 rv, .int .i64 rm, .int .i64 re, .int .i64 rq, .int .i64 rd, .int .i64 rs, .int .i64 ro, .int .i64 rl, .int .i64 rp, .int .i64 rt, .slice xA xn xc, .slice xB xk xh, .slice xC xj xi]), (fun W => RgAt W ⟨rg, rv, rm, re, rq, rd, rs, ro, rl, rp, rt, rbase, rover, rsegs⟩ (xA, xn, xc) (xB, xk, xh) (xC, xj, xi)), (fun W => Own W g (bvs bs)), (fun W => Own W rb [.int .i64 rg, .int .i64 rv, .int .i64 rm, .int .i64 re, .int .i64 rq, .int .i64 rd, .int .i64 rs, .int .i64 ro, .int .i64 rl, .int .i64 rp, .int .i64 rt, .slice rA rn rc, .slice rB rk rh, .slice rC rj ri]), (fun W => RgAt W ⟨rg, rv, rm, re, rq, rd, rs, ro, rl, rp, rt, rbase, rover, rsegs⟩ (rA, rn, rc) (rB, rk, rh) (rC, rj, ri)), (fun W => Own W cb [.int .i64 b, .int .i64 s, .int .i64 l]), (fun W => GeoAt W p b s l), (fun W => Own W w.heap.size [.int .i64 z0, .int .i64 z1, .int .i64 z2])]) := Lib.hid (HDa.out.newF #[.int .i64 0, .int .i64 0, .int .i64 0, .int .i64 0, .int .i64 0, .int .i64 0, .int .i64 0, .int .i64 0, .int .i64 0, .int .i64 0, .int .i64 0, .slice yA yn yc, .slice yB yk yh, .slice yC yj yi] 90 rfl)
    clear HDa
    go_upto_region 11 with (fail)
    generalize hwa : wa.alloc (.cells #[.int .i64 0, .int .i64 0, .int .i64 0, .int .i64 0, .int .i64 0, .int .i64 0, .int .i64 0, .int .i64 0, .int .i64 0, .int .i64 0, .int .i64 0, .slice yA yn yc, .slice yB yk yh, .slice yC yj yi] 90) = wb at *
    clear hwa
    generalize wa.heap.size = yb at *
    obtain ⟨x0, x1, x2, x3, x4, x5, x6, x7, x8, x9, x10, x11, x12, x13⟩ := cells14 (show Own wb rb _ from (HDb.out.fi 5 rfl))
    go_wp2_with fail
    refine (region_may_any p b s l rg rv rm re rq rd rs ro rl rp rt rA rn rc rbase rB rk rh rover rC rj ri rsegs _ (by exact (HDb.out.fi 8 rfl)) HC.out (by exact (HDb.out.fi 6 rfl))).mono ?_
    rintro en wc ⟨rfl, hO⟩
    rw [HM.out]
    have HDc : Hid (Wd w wc [] [] [(fun W => Own W yb [.int .i64 0, .int .i64 0, .int .i64 0, .int .i64 0, .int .i64 0, .int .i64 0, .int .i64 0, .int .i64 0, .int .i64 0, .int .i64 0, .int .i64 0, .slice yA yn yc, .slice yB yk yh, .slice yC yj yi]), (fun W => Own W g4 (bvs Y)), (fun W => Own W xb [.int .i64 rg, .int .i64 rv, .int .i64 rm, .int .i64 re, .int .i64 rq, .int .i64 rd, .int .i64 rs, .int .i64 ro, .int .i64 rl, .int .i64 rp, .int .i64 rt, .slice xA xn xc, .slice xB xk xh, .slice xC xj xi]), (fun W => RgAt W ⟨rg, rv, rm, re, rq, rd, rs, ro, rl, rp, rt, rbase, rover, rsegs⟩ (xA, xn, xc) (xB, xk, xh) (xC, xj, xi)), (fun W => Own W g (bvs bs)), (fun W => Own W rb [.int .i64 rg, .int .i64 rv, .int .i64 rm, .int .i64 re, .int .i64 rq, .int .i64 rd, .int .i64 rs, .int .i64 ro, .int .i64 rl, .int .i64 rp, .int .i64 rt, .slice rA rn rc, .slice rB rk rh, .slice rC rj ri]), (fun W => RgAt W ⟨rg, rv, rm, re, rq, rd, rs, ro, rl, rp, rt, rbase, rover, rsegs⟩ (rA, rn, rc) (rB, rk, rh) (rC, rj, ri)), (fun W => Own W cb [.int .i64 b, .int .i64 s, .int .i64 l]), (fun W => GeoAt W p b s l), (fun W => Own W w.heap.size [.int .i64 z0, .int .i64 z1, .int .i64 z2])]) := Lib.hid (HDb.out.keep0 hO)
    clear HDb
    clear hO x0 x1 x2 x3 x4 x5 x6 x7 x8 x9 x10 x11 x12 x13
    obtain ⟨x0, x1, x2, x3, x4, x5, x6, x7, x8, x9, x10, x11, x12, x13⟩ := cells14 (show Own wc xb _ from (HDc.out.fi 2 rfl))
    obtain ⟨y0, y1, y2, y3, y4, y5, y6, y7, y8, y9, y10, y11, y12, y13⟩ := cells14 (show Own wc rb _ from (HDc.out.fi 5 rfl))
    go_wp2_with fail
    refine (alike_region_same rg rv rm re rq rd rs ro rl rp rt rbase rover rsegs xA xn xc xB xk xh xC xj xi rA rn rc rB rk rh rC rj ri _ (by exact (HDc.out.fi 3 rfl)) (by exact (HDc.out.fi 6 rfl))).mono ?_
    rintro en wd ⟨rfl, hO⟩
    have HDd : Hid (Wd w wd [] [] [(fun W => Own W yb [.int .i64 0, .int .i64 0, .int .i64 0, .int .i64 0, .int .i64 0, .int .i64 0, .int .i64 0, .int .i64 0, .int .i64 0, .int .i64 0, .int .i64 0, .slice yA yn yc, .slice yB yk yh, .slice yC yj yi]), (fun W => Own W g4 (bvs Y)), (fun W => Own W xb [.int .i64 rg, .int .i64 rv, .int .i64 rm, .int .i64 re, .int .i64 rq, .int .i64 rd, .int .i64 rs, .int .i64 ro, .int .i64 rl, .int .i64 rp, .int .i64 rt, .slice xA xn xc, .slice xB xk xh, .slice xC xj xi]), (fun W => RgAt W ⟨rg, rv, rm, re, rq, rd, rs, ro, rl, rp, rt, rbase, rover, rsegs⟩ (xA, xn, xc) (xB, xk, xh) (xC, xj, xi)), (fun W => Own W g (bvs bs)), (fun W => Own W rb [.int .i64 rg, .int .i64 rv, .int .i64 rm, .int .i64 re, .int .i64 rq, .int .i64 rd, .int .i64 rs, .int .i64 ro, .int .i64 rl, .int .i64 rp, .int .i64 rt, .slice rA rn rc, .slice rB rk rh, .slice rC rj ri]), (fun W => RgAt W ⟨rg, rv, rm, re, rq, rd, rs, ro, rl, rp, rt, rbase, rover, rsegs⟩ (rA, rn, rc) (rB, rk, rh) (rC, rj, ri)), (fun W => Own W cb [.int .i64 b, .int .i64 s, .int .i64 l]), (fun W => GeoAt W p b s l), (fun W => Own W w.heap.size [.int .i64 z0, .int .i64 z1, .int .i64 z2])]) := Lib.hid (HDc.out.keep0 hO)
    clear HDc
    clear hO x0 x1 x2 x3 x4 x5 x6 x7 x8 x9 x10 x11 x12 x13 y0 y1 y2 y3 y4 y5 y6 y7 y8 y9 y10 y11 y12 y13
    go_wp2_with fail
    refine (awake9 _).mono ?_
    rintro en we ⟨rfl, hO⟩
    have HDe : Hid (Wd w we [] [] [(fun W => Own W yb [.int .i64 0, .int .i64 0, .int .i64 0, .int .i64 0, .int .i64 0, .int .i64 0, .int .i64 0, .int .i64 0, .int .i64 0, .int .i64 0, .int .i64 0, .slice yA yn yc, .slice yB yk yh, .slice yC yj yi]), (fun W => Own W g4 (bvs Y)), (fun W => Own W xb [.int .i64 rg, .int .i64 rv, .int .i64 rm, .int .i64 re, .int .i64 rq, .int .i64 rd, .int .i64 rs, .int .i64 ro, .int .i64 rl, .int .i64 rp, .int .i64 rt, .slice xA xn xc, .slice xB xk xh, .slice xC xj xi]), (fun W => RgAt W ⟨rg, rv, rm, re, rq, rd, rs, ro, rl, rp, rt, rbase, rover, rsegs⟩ (xA, xn, xc) (xB, xk, xh) (xC, xj, xi)), (fun W => Own W g (bvs bs)), (fun W => Own W rb [.int .i64 rg, .int .i64 rv, .int .i64 rm, .int .i64 re, .int .i64 rq, .int .i64 rd, .int .i64 rs, .int .i64 ro, .int .i64 rl, .int .i64 rp, .int .i64 rt, .slice rA rn rc, .slice rB rk rh, .slice rC rj ri]), (fun W => RgAt W ⟨rg, rv, rm, re, rq, rd, rs, ro, rl, rp, rt, rbase, rover, rsegs⟩ (rA, rn, rc) (rB, rk, rh) (rC, rj, ri)), (fun W => Own W cb [.int .i64 b, .int .i64 s, .int .i64 l]), (fun W => GeoAt W p b s l), (fun W => Own W w.heap.size [.int .i64 z0, .int .i64 z1, .int .i64 z2])]) := Lib.hid (HDd.out.keep0 hO)
    clear HDd
    go_wp2
    go_ret
    exact ⟨rfl, HDe.out.only⟩
theorem walk (a0_0 a0_1 a0_2 : Int) (a1 : Option Addr) (len1 cap1 : Nat) (z1 : List Int) (a2 : Int) (a3 : Int) (a4 : Int) (w : World) (w0_0 : (Lit.int .i64 a0_0).wf = true) (w0_1 : (Lit.int .i64 a0_1).wf = true) (w0_2 : (Lit.int .i64 a0_2).wf = true) (w1 : IsRow .i64 w a1 len1 cap1 z1) (w2 : (Lit.int .i64 a2).wf = true) (w3 : (Lit.int .i64 a3).wf = true) (w4 : (Lit.int .u32 a4).wf = true) : Calls Try.prog 16 #[.agg #[.int .i64 a0_0, .int .i64 a0_1, .int .i64 a0_2], .slice a1 len1 cap1, .int .i64 a2, .int .i64 a3, .int .u32 a4] w fun e w' => e = .returned (.bool true) ∧ Below w.heap.size w w' := by
  have hx : 0 ≤ a4 ∧ a4 ≤ 4294967295 := by simpa [Lit.wf, IntKind.min, IntKind.max, IntKind.signed, IntKind.bits] using w4
  obtain ⟨pt, rfl⟩ : ∃ pt : Nat, a4 = pt := ⟨a4.toNat, by omega⟩
  refine (back a0_0 a0_1 a0_2 a2 a3 pt a1 len1 cap1 _ w w0_0 w0_1 w0_2 w2 w3 (by omega) w1.ins w1.wf).mono ?_
  rintro e w' ⟨rfl, hO⟩
  exact ⟨rfl, hO.below0⟩

set_option maxRecDepth 100000 in
theorem lifted (os : Os) (started : os.Started) (H : Type) (enc : TypeId × Value → H) :
    ReturnsInHanded {} Try.checked os 16 .any (Rows.regionBackSpec.pre6 enc Try.prog Try.f16 Rows.regionBackRow.domain false) (Rows.regionBackSpec.post enc Try.prog Try.f16 false true false false) := by
  refine returnsInHanded_of_change (C := Try.checked) own started (by kernel_rfl) Try.func16
    (ChangeSpec.witness6 (enc := enc) (C := Try.checked) false ⟨#[], #[.agg #[.int .i64 0, .int .i64 0, .int .i64 0], .slice none 0 0, .int .i64 0, .int .i64 0, .int .u32 0], []⟩ 8 (by kernel_rfl) (by kernel_rfl) (by kernel_rfl) (by kernel_rfl)) ?_
  intro W base args ds gs before hval0 hW hcnd _
  have hval : ∀ (j : Nat) t v, Try.f16.params[j]? = some t → args[j]? = some v → Value.okWide Try.prog W .any base t v := hval0
  have hW' := hW
  obtain ⟨p, q, hA0, hV, rfl, hfz, hnd⟩ := hW
  have hA : DataW.TrodAll enc Try.prog W 0 (fun _ => true) true Try.f16.params.toList args.toList ds p := hA0
  rw [Try.params16] at hA hval
  obtain ⟨v0, vs0, d0, ds0, p0, q0, hargs, rfl, rfl, h0, r0⟩ := trodAll_cons hA
  obtain ⟨v1, vs1, d1, ds1, p1, q1, rfl, rfl, rfl, h1, r1⟩ := trodAll_cons r0
  obtain ⟨v2, vs2, d2, ds2, p2, q2, rfl, rfl, rfl, h2, r2⟩ := trodAll_cons r1
  obtain ⟨v3, vs3, d3, ds3, p3, q3, rfl, rfl, rfl, h3, r3⟩ := trodAll_cons r2
  obtain ⟨v4, vs4, d4, ds4, p4, q4, rfl, rfl, rfl, h4, r4⟩ := trodAll_cons r3
  obtain ⟨rfl, rfl, rfl⟩ := trodAll_nil r4
  obtain rfl : args = #[v0, v1, v2, v3, v4] := by cases args; simp_all
  obtain ⟨rfl, rfl⟩ := trodVars_none hV
  have k0 := h0
  have lt0 : ∀ x ∈ p0, x.block < W.heap.size := by obtain ⟨m, hm⟩ := k0; exact DataW.trod_lt m _ _ _ hm
  obtain ⟨a0_0, a0_1, a0_2, rfl, w0_0, w0_1, w0_2⟩ := open_arr3 (okWide_array Try.underlying22 (hval 0 22 v0 rfl rfl)) h0
  obtain ⟨a1, len1, cap1, rfl⟩ := okWide_slice Try.underlying52 (hval 1 52 v1 rfl rfl)
  have k1 := h1
  have lt1 : ∀ x ∈ p1, x.block < W.heap.size := by obtain ⟨m, hm⟩ := k1; exact DataW.trod_lt m _ _ _ hm
  obtain ⟨z1, w1⟩ : ∃ zs, IsRow .i64 W a1 len1 cap1 zs := by
    obtain ⟨fuel, hf⟩ := h1
    rcases open_ints Try.underlying52 Try.underlying3 (by kernel_rfl) hf with ⟨hcs, _⟩ | ⟨x, l, c, zs, hcs, _, hl, hm, hz, _, hcell, hwz⟩
    · simp [Value.cells] at hcs
      obtain ⟨rfl, rfl, rfl⟩ := hcs
      exact ⟨[], .inl ⟨rfl, rfl, rfl, rfl⟩⟩
    · simp [Value.cells] at hcs
      obtain ⟨rfl, rfl, rfl⟩ := hcs
      exact ⟨zs, .inr ⟨_, rfl, hl, hm, by simpa using hz, hcell, hwz⟩⟩
  obtain ⟨a2, rfl, rfl, rfl, w2⟩ := open_int Try.underlying3 (hval 2 3 v2 rfl rfl) h2
  obtain ⟨a3, rfl, rfl, rfl, w3⟩ := open_int Try.underlying3 (hval 3 3 v3 rfl rfl) h3
  obtain ⟨a4, rfl, rfl, rfl, w4⟩ := open_int Try.underlying23 (hval 4 23 v4 rfl rfl) h4
  clear hA0 hval0
  refine (walk a0_0 a0_1 a0_2 a1 len1 cap1 z1 a2 a3 a4 W w0_0 w0_1 w0_2 w1 w2 w3 w4).mono fun e W' ⟨he, bel⟩ => ?_
  subst he
  exact ⟨_, rfl, _, _, _, [], _, [], hW', trodAll_mk1 (shut_bool Try.underlying4 _), (trodAll_cons_mk (Below.trod laidOut (by kernel_rfl) (of_decide_eq_true (by kernel_rfl)) k0 bel lt0) (trodAll_cons_mk (Below.trod laidOut (by kernel_rfl) (of_decide_eq_true (by kernel_rfl)) k1 bel lt1) (trodAll_cons_mk (shut_int Try.underlying3 w2) (trodAll_cons_mk (shut_int Try.underlying3 w3) (trodAll_cons_mk (shut_int Try.underlying23 w4) trodAll_mk0))))), rfl, bel.frame _, fun h => by cases h⟩

set_option maxRecDepth 100000 in
theorem closed : joinedFacts Try.pinned.checked.prog 16 Try.f16 Rows.regionBackSpec Rows.regionBackRow = true := by
  show joinedFacts Try.prog 16 Try.f16 Rows.regionBackSpec Rows.regionBackRow = true
  unfold joinedFacts
  simp only [enter_may, enter_lifts, enter_make]
  kernel_rfl

theorem over : Rows.regionBackRow.holds Try.pinned (OpenSpec.ofChange Rows.regionBackSpec) :=
  OpenClaim.holds_of_wide 16 Try.f16 rfl rfl rfl rfl rfl rfl rfl ⟨rfl, rfl, rfl, rfl, rfl⟩ rfl rfl rfl rfl rfl (by kernel_rfl) Try.func16 closed
    (of_decide_eq_true (by kernel_rfl)) (by unfold Func.isWrapper; first | (rw [if_pos (by decide +kernel)]; kernel_rfl) | (rw [if_neg (by decide +kernel)]; exact ⟨rfl, rfl⟩))
    (fun os started H enc _ => lifted os started H enc)

theorem proved : Rows.RegionBackSaid := over

end Go.Proofs.Ytjmbhknokobnpaa.regionBack
