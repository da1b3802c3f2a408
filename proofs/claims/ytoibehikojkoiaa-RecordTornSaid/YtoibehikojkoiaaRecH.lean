/- Contract of the reference's RecordOf. Printed by mkrech.py. -/
import Derived.Test.YtoibehikojkoiaaRecG
import Derived.Test.YtoibehikojkoiaaRecE
import Derived.Test.YtoibehikojkoiaaItemE
set_option linter.unusedVariables false
set_option linter.unusedSimpArgs false
namespace Go.Kn
open Go Go.RowKit
theorem rcFit_ref {b : List UInt8} (h : 64 ≤ b.length) : rcFit b = decide (64 * sizeRc (b.take 64) = b.length) := by
  have e1 : (b.take 64).take 2 = b.take 2 := by rw [List.take_take]; rfl
  have e2 : ((b.take 64).drop 14).take 1 = (b.drop 14).take 1 := by rw [List.drop_take, List.take_take]; rfl
  have e3 : ((b.take 64).drop 15).take 1 = (b.drop 15).take 1 := by rw [List.drop_take, List.take_take]; rfl
  have h1 : rcHd (b.take 64) = rcHd b := by unfold rcHd rcN rcK; rw [e1, e2, e3]
  have h2 : rcK (b.take 64) = rcK b := by unfold rcK; rw [e3]
  have h3 : (b.take 64).length = 64 := by rw [List.length_take]; omega
  unfold rcFit sizeRc
  rw [h1, h2, h3]
  cases hd : rcHd b with
  | false =>
    rw [if_neg (by simp), Bool.false_and]
    symm
    simp
    omega
  | true =>
    rw [if_pos ⟨rfl, rfl⟩, Bool.true_and]
    congr 1
    simp only [eq_iff_iff]
    omega
theorem rc_short {b : List UInt8} (h : b.length < 64) : rcFit b = false := by
  cases hf : rcFit b with
  | false => rfl
  | true =>
    obtain ⟨_, hl⟩ := rcFit_iff.1 hf
    omega
theorem addr_add0 (a : Addr) : a.add 0 = a := by rcases a with ⟨b, o, p⟩; cases p <;> rfl
theorem run_slice1_hi {P : Program} (w : World) (t e : TypeId) (ht : P.underlying t = some (.slice e)) (hs : (P.info? e).map (·.size) = some 1) (A : Option Addr) (len cap : Nat) (hi : Int) (h : Nat) (kh : IntKind)
    (e2 : hi = h) (hh : h ≤ cap) :
    (Instr.slice t (.slice A len cap) none (some (.int kh hi)) none).run P w = .ok (.slice A h cap) w := by
  subst e2
  cases hq : P.info? e with
  | none => simp [hq] at hs
  | some i =>
    simp [hq] at hs
    simp [Instr.slice, Instr.sliceBounds, Instr.sliceBound, run_underlying ht, sizeOf, typeInfo, hq, asIntOf, hh, hs, addr_add0]
/-- two boxes and a row that is read -/
structure Dr2 (w0 w : World) (p g k f fr : Nat) (bs : List UInt8) (vs us : List Value) : Prop where
  d : Decs w0 w p g k f bs vs
  r : Kn.Own w fr us
  rp : fr ≠ p
  rf : fr ≠ f
  hr : w0.heap.size ≤ fr
section
variable {w0 w w' : World} {p g k k' f fr : Nat} {bs : List UInt8} {vs us : List Value}
theorem Dr2.keep (h : Dr2 w0 w p g k f fr bs vs us) (hO : Only [] w w') : Dr2 w0 w' p g k f fr bs vs us := ⟨h.d.keep hO, h.r.keep0 hO, h.rp, h.rf, h.hr⟩
theorem Dr2.got (h : Dr2 w0 w p g k f fr bs vs us) (hr : RowAt w' p g bs k') (hO : Only [p] w w') : Dr2 w0 w' p g k' f fr bs vs us := ⟨h.d.got hr hO, h.r.keep hO (by simpa using h.rp), h.rp, h.rf, h.hr⟩
theorem Dr2.place (h : Dr2 w0 w p g k f fr bs vs us) (hk : k' ≤ bs.length) : Dr2 w0 (w.setCell ⟨p, 1, none⟩ (.int .i64 (k' : Int))) p g k' f fr bs vs us := ⟨h.d.place hk, h.r.far (Ne.symm h.rp) _, h.rp, h.rf, h.hr⟩
theorem Dr2.put (h : Dr2 w0 w p g k f fr bs vs us) (i : Nat) (u : Value) : Dr2 w0 (w.setCell ⟨f, i, none⟩ u) p g k f fr bs (vs.set i u) us := ⟨h.d.put i u, h.r.far (Ne.symm h.rf) _, h.rp, h.rf, h.hr⟩
end
theorem Wc.mk2 {w0 w : World} {f fr : Nat} {cs us : List Value} (hO : Only [] w0 w) (ho : Kn.Own w f cs) (hf : w0.heap.size ≤ f) (ho2 : Kn.Own w fr us) (hf2 : w0.heap.size ≤ fr) (hne : fr ≠ f) : Wc w0 w [(f, cs), (fr, us)] [] [] :=
  ⟨hO, by intro x hx; simp at hx; rcases hx with rfl | rfl <;> assumption, by intro x hx; simp at hx; rcases hx with rfl | rfl <;> assumption, by simp; exact fun e => hne e.symm, by simp, by simp, by simp, by simp⟩
end Go.Kn
namespace Go.Proofs.Ytoibehikojkoiaa
open Go Go.RowKit Go.Kn

set_option maxRecDepth 100000 in
set_option maxHeartbeats 16000000 in
theorem ref_rec_dec_any (A : Option Addr) (n c : Nat) (bs : List UInt8) (w : World) (hi : Bys w A n c bs) (hn : n ≤ 60000) :
    Calls Try.prog 26 #[.slice A n c] w (RcSays w (decRc bs) 2) := by
  have hres : Try.f26.results = #[.cell 2 47, .tmp 3, .tmp 4] := by kernel_rfl
  have HRES := Lib.hid hres
  obtain ⟨i0, hi0, hz0, hz1, hz2⟩ := info_parts Try.infoBys
  have hlen := hi.len
  have hnc := hi.le
  have hcm := hi.cm
  rw [bvs_length] at hlen
  have HI := Lib.hid hi
  have HL := Lib.hid hlen
  unfold maxLen at hcm
  have hB0 := (Own.new w #[.int .i64 0, .int .i64 0, .int .i64 0, .slice none 0 0, .slice none 0 0] 47).alloc (.cells #[.int .i64 0, .int .i64 0, .int .i64 0, .slice none 0 0, .slice none 0 0] 47)
  have hB1 := Own.new (w.alloc (.cells #[.int .i64 0, .int .i64 0, .int .i64 0, .slice none 0 0, .slice none 0 0] 47)) #[.int .i64 0, .int .i64 0, .int .i64 0, .slice none 0 0, .slice none 0 0] 47
  have hO0 := ((Only.refl [] w).alloc (.cells #[.int .i64 0, .int .i64 0, .int .i64 0, .slice none 0 0, .slice none 0 0] 47)).alloc (.cells #[.int .i64 0, .int .i64 0, .int .i64 0, .slice none 0 0, .slice none 0 0] 47)
  have hi0' := (HI.out.alloc (.cells #[.int .i64 0, .int .i64 0, .int .i64 0, .slice none 0 0, .slice none 0 0] 47)).alloc (.cells #[.int .i64 0, .int .i64 0, .int .i64 0, .slice none 0 0, .slice none 0 0] 47)
  have hsz : (w.alloc (.cells #[.int .i64 0, .int .i64 0, .int .i64 0, .slice none 0 0, .slice none 0 0] 47)).heap.size = w.heap.size + 1 := by simp
  rw [hsz] at hB1
  have hfl := hB1.lt
  have hrl := hB0.lt
  clear hi hlen hres hsz
  go_enter Try.func26, Try.ntmps26
  go_upto_region 2 with fail
  generalize (w.alloc (.cells #[.int .i64 0, .int .i64 0, .int .i64 0, .slice none 0 0, .slice none 0 0] 47)).alloc (.cells #[.int .i64 0, .int .i64 0, .int .i64 0, .slice none 0 0, .slice none 0 0] 47) = w0 at *
  obtain ⟨f, hf⟩ : ∃ f, f = w.heap.size + 1 := ⟨_, rfl⟩
  obtain ⟨fr, hfr⟩ : ∃ f, f = w.heap.size := ⟨_, rfl⟩
  rw [← hf] at hB1 hfl ⊢
  rw [← hfr] at hB0 hrl ⊢
  have hrf : fr ≠ f := by omega
  have hfw : w.heap.size ≤ f := by omega
  have hrw : w.heap.size ≤ fr := by omega
  clear hf hfr
  have HB0 := Lib.hid hB0
  have HB1 := Lib.hid hB1
  have HO0 := Lib.hid hO0
  have HI0 := Lib.hid hi0'
  have hx0 := hB1.cell 0 (by simp)
  have hx1 := hB1.cell 1 (by simp)
  have hx2 := hB1.cell 2 (by simp)
  have hx3 := hB1.cell 3 (by simp)
  have hx4 := hB1.cell 4 (by simp)
  simp only [List.getElem_cons_zero, List.getElem_cons_succ] at hx0 hx1 hx2 hx3 hx4
  have hy0 := hB0.cell 0 (by simp)
  have hy1 := hB0.cell 1 (by simp)
  have hy2 := hB0.cell 2 (by simp)
  have hy3 := hB0.cell 3 (by simp)
  have hy4 := hB0.cell 4 (by simp)
  simp only [List.getElem_cons_zero, List.getElem_cons_succ] at hy0 hy1 hy2 hy3 hy4
  have hz0 := hB0.frozen 0
  have hz1 := hB0.frozen 1
  have hz2 := hB0.frozen 2
  have hz3 := hB0.frozen 3
  have hz4 := hB0.frozen 4
  have hzl := hB0.lt
  clear hB0 hB1 hO0 hi0'
  by_cases h64 : n < 64
  · have HNO : Hid (decRc bs = none) := Lib.hid (rc_not_fit (rc_short (by rw [HL.out]; exact h64)))
    have hd : decide ((n : Int) < 64) = true := by simp; omega
    go_wp2
    (try simp only [Exit.inBlock, Exit.then])
    refine bodyPost_ret (v := (.tuple #[.agg #[.int .i64 0, .int .i64 0, .int .i64 0, .slice none 0 0, .slice none 0 0], .int .i64 0, .int .i64 2])) ?_ rfl (RcSays.no HNO.out ?_)
    · simp only [results, HRES.out]
      go_simp
    · (repeat' first | (with_reducible refine Only.set ?_ (.inr hrw) _) | (with_reducible exact HO0.out))
  have hd64 : decide ((n : Int) < 64) = false := by simp; omega
  have hs60 : ∀ w, (Instr.slice 35 (.slice A n c) none (some (.int .i64 64)) none).run Try.prog w = .ok (.slice A 64 c) w := fun w => by
    have h := run_slice1_hi (P := Try.prog) w 35 5 Try.underlying35 (by kernel_rfl) A n c 64 64 .i64 rfl (by omega)
    exact h
  have HC1 : Hid (∀ V, Bys V A n c bs → Bys V A 64 c (bs.take 64)) := Lib.hid (fun V h => by
    have h2 := h.cut (l := 0) (m := 64) (by omega)
    rw [bvs_cut, List.drop_zero, Nat.sub_zero] at h2
    have e : cutA A c 0 = A := by
      rw [cutA, if_neg (by omega)]
      simp [addr_add0]
    rwa [e] at h2)
  have hsz6 : sizeRc (bs.take 64) ≤ 256 := by
    unfold sizeRc rcK
    have := num_lt (((bs.take 64).drop 15).take 1)
    have h2 : (((bs.take 64).drop 15).take 1).length ≤ 1 := by simp <;> omega
    have h3 : (256 : Nat) ^ (((bs.take 64).drop 15).take 1).length ≤ 256 ^ 1 := Nat.pow_le_pow_right (by decide) h2
    split <;> omega
  have hfe := rcFit_ref (b := bs) (by rw [HL.out]; omega)
  rw [HL.out] at hfe
  obtain ⟨sq, hsq⟩ : ∃ x, sizeRc (bs.take 64) = x := ⟨_, rfl⟩
  rw [hsq] at hsz6 hfe
  have HSQ := Lib.hid hsq
  have HFE := Lib.hid hfe
  have hw1 : IntKind.i64.wrap ((sq : Int) * 64) = (sq : Int) * 64 := IntWalk.i64_in _ (by omega)
  clear hsq hfe
  go_wp2_with fail
  refine (ref_rec_size_any A 64 c (bs.take 64) _ (HC1.out _ HI0.out)).mono ?_
  rintro en w1 ⟨rfl, hO1⟩
  rw [HSQ.out]
  have HB0n := Lib.hid (HB0.out.keep0 hO1)
  have HB1n := Lib.hid (HB1.out.keep0 hO1)
  have HO1 := Lib.hid (HO0.out.trans' hO1)
  have HI1 := Lib.hid (HI0.out.keep0 hO1)
  clear hO1 HB0 HB1 HO0 HI0 hs60 hx0 hx1 hx2 hx3 hx4 hy0 hy1 hy2 hy3 hy4 hz0 hz1 hz2 hz3 hz4 hzl hfl hrl
  have hx0 := HB1n.out.cell 0 (by simp)
  have hx1 := HB1n.out.cell 1 (by simp)
  have hx2 := HB1n.out.cell 2 (by simp)
  have hx3 := HB1n.out.cell 3 (by simp)
  have hx4 := HB1n.out.cell 4 (by simp)
  simp only [List.getElem_cons_zero, List.getElem_cons_succ] at hx0 hx1 hx2 hx3 hx4
  have hy0 := HB0n.out.cell 0 (by simp)
  have hy1 := HB0n.out.cell 1 (by simp)
  have hy2 := HB0n.out.cell 2 (by simp)
  have hy3 := HB0n.out.cell 3 (by simp)
  have hy4 := HB0n.out.cell 4 (by simp)
  simp only [List.getElem_cons_zero, List.getElem_cons_succ] at hy0 hy1 hy2 hy3 hy4
  have hz0 := HB0n.out.frozen 0
  have hz1 := HB0n.out.frozen 1
  have hz2 := HB0n.out.frozen 2
  have hz3 := HB0n.out.frozen 3
  have hz4 := HB0n.out.frozen 4
  have hzl := HB0n.out.lt
  by_cases hfit : ¬ (64 * sq = n)
  · have HNO : Hid (decRc bs = none) := Lib.hid (rc_not_fit (by rw [HFE.out]; exact decide_eq_false hfit))
    have hd : ((sq : Int) * 64 != (n : Int)) = true := by simp; omega
    clear hfit
    go_wp2
    (try simp only [Exit.inBlock, Exit.then])
    refine bodyPost_ret (v := (.tuple #[.agg #[.int .i64 0, .int .i64 0, .int .i64 0, .slice none 0 0, .slice none 0 0], .int .i64 0, .int .i64 2])) ?_ rfl (RcSays.no HNO.out ?_)
    · simp only [results, HRES.out]
      go_simp
    · (repeat' first | (with_reducible refine Only.set ?_ (.inr hrw) _) | (with_reducible exact HO1.out))
  have hsn : 64 * sq = n := Classical.not_not.1 hfit
  have hd : ((sq : Int) * 64 != (n : Int)) = false := by simp; omega
  have hft : rcFit bs = true := by rw [HFE.out]; exact decide_eq_true hsn
  have HFT := Lib.hid hft
  obtain ⟨⟨-, ⟨h1N, hN6⟩, hKN⟩, hlk⟩ := rcFit_iff.1 hft
  rw [HL.out] at hlk
  obtain ⟨Nv, hNv⟩ : ∃ x, rcN bs = x := ⟨_, rfl⟩
  obtain ⟨kb, hkb⟩ : ∃ x, rcK bs = x := ⟨_, rfl⟩
  have HNR := Lib.hid hNv
  have HKR := Lib.hid hkb
  rw [hNv] at h1N hN6 hKN
  rw [hkb] at hKN hlk
  have HNK := Lib.hid hlk
  have hn7 : n ≤ 448 := by omega
  have hnb : 64 ≤ n := by omega
  clear hft hNv hkb hlk hfit HFE hsn
  go_wp2_with fail
  refine (ref_from_any A n c bs _ (by exact HI1.out) (by omega)).mono ?_
  rintro en w2 ⟨p, g, rfl, hp, hg, hr, hO⟩
  have hd2 : Dr2 w w2 p g 0 f fr bs [.int .i64 0, .int .i64 0, .int .i64 0, .slice none 0 0, .slice none 0 0] [.int .i64 0, .int .i64 0, .int .i64 0, .slice none 0 0, .slice none 0 0] := ⟨Decs.start HB1n.out hfw HO1.out hp hg hr hO, HB0n.out.keep0 hO, by omega, hrf, hrw⟩
  have HS := Lib.hid hd2
  clear hp hg hr hO hd2 HB0n HB1n HI1 HO1 hd hd64 hw1 hx0 hx1 hx2 hx3 hx4 hy0 hy1 hy2 hy3 hy4 hz0 hz1 hz2 hz3 hz4 hzl
  have hq0 := HS.out.d.row.fk
  have hq1 := HS.out.d.row.pz 1
  have hq2 := HS.out.d.row.lp
  go_upto_region 6 with fail
  have HSn := Lib.hid (HS.out.place (k' := 2) (by rw [HL.out]; omega))
  rw [show ((2 : Nat) : Int) = 2 from rfl] at HSn
  clear HS hq0 hq1 hq2
  have HS := HSn
  clear HSn
  generalize World.setCell w2 ⟨p, 1, none⟩ (.int .i64 2) = w3 at *
  have HRM : Hid (((num ((bs.drop 2).take 4) : Nat) : Int) = rd bs 2 4) := Lib.hid rfl
  have HRN : Hid (((num ((bs.drop 6).take 4) : Nat) : Int) = rd bs 6 4) := Lib.hid rfl
  have HRP : Hid (((num ((bs.drop 10).take 4) : Nat) : Int) = rd bs 10 4) := Lib.hid rfl
  have HRO : Hid (rcOf bs = ⟨rd bs 2 4, rd bs 6 4, rd bs 10 4, (rcOf bs).its, rcBl bs kb⟩) := Lib.hid (by rw [← HKR.out]; rfl)
  generalize rd bs 2 4 = rm at *
  generalize rd bs 6 4 = rn at *
  generalize rd bs 10 4 = rp at *
  go_wp2_with fail
  refine (ref_num_any p g 2 bs 4 _ HS.out.d.row (by decide) (by rw [HL.out]; omega)).mono ?_
  rintro en w4 ⟨rfl, hr, hO⟩
  rw [HRM.out]
  have HSg := Lib.hid (HS.out.got hr hO)
  clear hr hO HS
  have hq0 := HSg.out.d.box.cell 0 (by simp)
  simp only [List.getElem_cons_zero, List.getElem_cons_succ] at hq0
  have hq1 := HSg.out.d.box.frozen 0
  have hq2 := HSg.out.d.box.lt
  have hp5 := HSg.out.put 0 (.int .i64 rm)
  simp only [List.set_cons_zero, List.set_cons_succ] at hp5
  have HS := Lib.hid hp5
  clear hp5 HSg
  go_upto_region 7 with fail
  generalize hw5 : World.setCell w4 ⟨f, 0, none⟩ (.int .i64 rm) = w5 at *
  clear hw5 hq0 hq1 hq2
  go_wp2_with fail
  refine (ref_num_any p g 6 bs 4 _ HS.out.d.row (by decide) (by rw [HL.out]; omega)).mono ?_
  rintro en w6 ⟨rfl, hr, hO⟩
  rw [HRN.out]
  have HSg := Lib.hid (HS.out.got hr hO)
  clear hr hO HS
  have hq0 := HSg.out.d.box.cell 1 (by simp)
  simp only [List.getElem_cons_zero, List.getElem_cons_succ] at hq0
  have hq1 := HSg.out.d.box.frozen 1
  have hq2 := HSg.out.d.box.lt
  have hp5 := HSg.out.put 1 (.int .i64 rn)
  simp only [List.set_cons_zero, List.set_cons_succ] at hp5
  have HS := Lib.hid hp5
  clear hp5 HSg
  go_upto_region 8 with fail
  generalize hw5 : World.setCell w6 ⟨f, 1, none⟩ (.int .i64 rn) = w7 at *
  clear hw5 hq0 hq1 hq2
  go_wp2_with fail
  refine (ref_num_any p g 10 bs 4 _ HS.out.d.row (by decide) (by rw [HL.out]; omega)).mono ?_
  rintro en w8 ⟨rfl, hr, hO⟩
  rw [HRP.out]
  have HSg := Lib.hid (HS.out.got hr hO)
  clear hr hO HS
  have hq0 := HSg.out.d.box.cell 2 (by simp)
  simp only [List.getElem_cons_zero, List.getElem_cons_succ] at hq0
  have hq1 := HSg.out.d.box.frozen 2
  have hq2 := HSg.out.d.box.lt
  have hp5 := HSg.out.put 2 (.int .i64 rp)
  simp only [List.set_cons_zero, List.set_cons_succ] at hp5
  have HS := Lib.hid hp5
  clear hp5 HSg
  go_upto_region 9 with fail
  generalize hw5 : World.setCell w8 ⟨f, 2, none⟩ (.int .i64 rp) = w9 at *
  clear hw5 hq0 hq1 hq2
  have HNM : Hid (num ((bs.drop 14).take 1) = Nv) := HNR
  have HKM : Hid (num ((bs.drop 15).take 1) = kb) := HKR
  go_wp2_with fail
  refine (ref_num_any p g 14 bs 1 _ HS.out.d.row (by decide) (by rw [HL.out]; omega)).mono ?_
  rintro en wa ⟨rfl, hr, hO⟩
  rw [HNM.out]
  have HSg := Lib.hid (HS.out.got hr hO)
  clear hr hO HS
  go_wp2_with fail
  refine (ref_num_any p g 15 bs 1 _ HSg.out.d.row (by decide) (by rw [HL.out]; omega)).mono ?_
  rintro en wb ⟨rfl, hr, hO⟩
  rw [HKM.out]
  have HS := Lib.hid (HSg.out.got hr hO)
  clear hr hO HSg
  have hw3 : IntKind.i64.wrap (7 * (Nv : Int)) = 7 * (Nv : Int) := IntWalk.i64_in _ (by omega)
  go_wp2_with fail
  rw [show (7 : Int) * (Nv : Int) = ((7 * Nv : Nat) : Int) from by omega]
  refine (ref_take_any p g 16 bs (7 * Nv) _ HS.out.d.row (by rw [HL.out]; omega)).mono ?_
  rintro en wc ⟨A3, c3, rfl, hc3, hm3, hpos3, hr3, hO3⟩
  obtain ⟨g3, rfl, hg3, ho3⟩ := hpos3 (by omega)
  have HB3 : Hid (Bys wc (some ⟨g3, 0, none⟩) (7 * Nv) c3 ((bs.drop 16).take (7 * Nv))) := Lib.hid (Row1.of_Own ho3 (by rw [bvs_length, ← HNR.out]; exact rc_its_len HFT.out) hc3 hm3)
  have HS4 := Lib.hid (HS.out.got hr3 hO3)
  clear hw3 hpos3 hr3 hO3 ho3 HS
  obtain ⟨L7, hL7⟩ : ∃ x, x = 7 * Nv := ⟨_, rfl⟩
  rw [← hL7] at HB3 hc3 ⊢
  have hL42 : L7 ≤ 42 := by omega
  have HL7 := Lib.hid hL7
  clear hL7
  go_wp2_with fail
  refine (ref_item_of_any (some ⟨g3, 0, none⟩) L7 c3 _ _ (by exact HB3.out)).mono ?_
  rintro en wd ⟨A4, c4, rfl, hits, hfr, hO4⟩
  have HS5 := Lib.hid (HS4.out.keep hO4)
  have hw3s := HS4.out.d.only.size
  have hf3 := HS4.out.d.box.lt
  have hf4 := HS4.out.r.lt
  have hx0 := HS5.out.d.box.cell 0 (by simp)
  have hx1 := HS5.out.d.box.cell 1 (by simp)
  have hx2 := HS5.out.d.box.cell 2 (by simp)
  have hx3 := HS5.out.d.box.cell 3 (by simp)
  have hx4 := HS5.out.d.box.cell 4 (by simp)
  simp only [List.getElem_cons_zero, List.getElem_cons_succ] at hx0 hx1 hx2 hx3 hx4
  have hv0 := HS5.out.d.box.frozen 0
  have hv1 := HS5.out.d.box.frozen 1
  have hv2 := HS5.out.d.box.frozen 2
  have hv3 := HS5.out.d.box.frozen 3
  have hv4 := HS5.out.d.box.frozen 4
  have hvl := HS5.out.d.box.lt
  have hy0 := HS5.out.r.cell 0 (by simp)
  have hy1 := HS5.out.r.cell 1 (by simp)
  have hy2 := HS5.out.r.cell 2 (by simp)
  have hy3 := HS5.out.r.cell 3 (by simp)
  have hy4 := HS5.out.r.cell 4 (by simp)
  simp only [List.getElem_cons_zero, List.getElem_cons_succ] at hy0 hy1 hy2 hy3 hy4
  have hz0 := HS5.out.r.frozen 0
  have hz1 := HS5.out.r.frozen 1
  have hz2 := HS5.out.r.frozen 2
  have hz3 := HS5.out.r.frozen 3
  have hz4 := HS5.out.r.frozen 4
  have hzl := HS5.out.r.lt
  clear hO4 HS4 HB3
  rw [HL7.out, ← HNR.out] at hits hfr ⊢
  cases hdi : decItems ((bs.drop 16).take (7 * rcN bs)) with
  | none =>
    have hno : decRc bs = none := rc_no_items HFT.out hdi
    have HNO := Lib.hid hno
    simp only [Option.getD_none, Option.isSome_none, List.length_nil, Bool.false_eq_true, if_false]
    clear hits hfr hno
    go_wp2
    (try simp only [Exit.inBlock, Exit.then])
    refine bodyPost_ret (v := (.tuple #[.agg #[.int .i64 0, .int .i64 0, .int .i64 0, .slice none 0 0, .slice none 0 0], .int .i64 0, .int .i64 2])) ?_ rfl (RcSays.no HNO.out ?_)
    · simp only [results, HRES.out]
      go_simp
    · (repeat' first | (with_reducible refine Only.set ?_ (.inr hrw) _) | (with_reducible exact HS5.out.d.only))
  | some its =>
    have hie := rc_some_items HFT.out hdi
    have hil : its.length = Nv := by rw [hie, ← HNR.out]; exact parse_length _ _
    rw [hdi] at hits hfr
    simp only [Option.getD_some] at hits hfr
    rw [hil] at hits hfr
    simp only [Option.getD_some, Option.isSome_some, if_true]
    rw [hil]
    rw [← hie] at HRO
    have HFR : Hid (0 < Nv → ∀ a, A4 = some a → a.block ≠ f ∧ a.block ≠ fr ∧ w.heap.size ≤ a.block) := Lib.hid (fun h0 a ha => by have := hfr h0 a ha; omega)
    have hits5 := hits.keepS ((Only.refl [f] wd).set (p := ⟨f, 3, none⟩) (by simp) (.slice A4 Nv c4)) (fun h0 a ha => by simpa using (HFR.out h0 a ha).1)
    have hp5 := HS5.out.put 3 (.slice A4 Nv c4)
    simp only [List.set_cons_zero, List.set_cons_succ] at hp5
    have HP5 := Lib.hid hp5
    have HIT := Lib.hid hits5
    clear hdi hie hil hits hfr hp5 hits5
    go_upto_region 16 with fail
    generalize World.setCell wd ⟨f, 3, none⟩ (.slice A4 Nv c4) = we at *
    clear HS5 hx0 hx1 hx2 hx3 hx4 hy0 hy1 hy2 hy3 hy4 hz0 hz1 hz2 hz3 hz4 hzl hv0 hv1 hv2 hv3 hv4 hvl
    have hw1 := ((Wc.mk2 HP5.out.d.only HP5.out.d.box HP5.out.d.hf HP5.out.r HP5.out.hr HP5.out.rf).gnew 35 1)
    have hw2 := (((hw1.addF (fun W => Its W A4 Nv c4 its) (HIT.out.fc (fun h0 a ha hm => by
      have := HFR.out h0 a ha
      simp [Mut, Value.ownBlock] at hm
      omega))).old (f := fun W => Bys W A n c bs) (Row1.fc HI.out (fun _ _ _ h => h))).addF (fun W => Bls W [] []) (fun W _ => Bls.nil W))
    have HWL := Lib.hid hw2
    clear hw1 hw2 HP5 HIT
    go_wp2_with fail
    go_loopg [13] kb (fun r i wr => ∃ (j : Nat) (A5 : Option Addr) (c5 : Nat) (sl : List (Option Addr × Nat × Nat)), j + r = kb ∧ i = .int .i64 ((j + 1 : Nat) : Int) ∧ Wc w wr [(f, [.int .i64 rm, .int .i64 rn, .int .i64 rp, .slice A4 Nv c4, .slice A5 j c5]), (fr, [.int .i64 0, .int .i64 0, .int .i64 0, .slice none 0 0, .slice none 0 0])] [⟨35, 1, .slice A5 j c5, j, sl.map slv⟩] [(fun W => Bls W sl (rcBl bs j)), (fun W => Bys W A n c bs), (fun W => Its W A4 Nv c4 its)] ∧ (∀ s ∈ sl, ∀ a, s.1 = some a → w.heap.size ≤ a.block))
    case atStart => exact ⟨0, none, 0, [], by omega, rfl, HWL.out, by simp⟩
    obtain ⟨j, A5, c5, sl, hj, rfl, hw, hfr⟩ := hrel
    have HWR := Lib.hid hw
    have HFRR := Lib.hid hfr
    clear hw hfr HWL
    obtain ⟨q, hq⟩ : ∃ q, q = j + 1 := ⟨_, rfl⟩
    rw [← hq]
    have HQQ := Lib.hid hq
    have hjk : j ≤ 6 := by omega
    by_cases hlt : j < kb
    · have hqk : (q : Int) ≤ (kb : Int) := by omega
      have hq1 : 1 ≤ q := by omega
      have hq2 : q ≤ 6 := by omega
      have hm1 : IntKind.i64.wrap ((q : Int) * 64) = (q : Int) * 64 := IntWalk.i64_in _ (by omega)
      have hm2 : IntKind.i64.wrap ((q : Int) + 1) = (q : Int) + 1 := IntWalk.i64_in _ (by omega)
      have hm3 : IntKind.i64.wrap (((q : Int) + 1) * 64) = ((q : Int) + 1) * 64 := IntWalk.i64_in _ (by omega)
      have HCK : Hid ((bs.drop (64 * q)).take 64 = chunkB bs j) := Lib.hid (by rw [hq]; rfl)
      have HCL : Hid ((chunkB bs j).length = 64) := Lib.hid (by
        have := HNK.out
        have := HL.out
        unfold chunkB
        rw [List.length_take, List.length_drop]
        omega)
      have hroom : 64 * q + 64 ≤ n := by have := HNK.out; omega
      clear hq
      go_wp2_with fail
      have HDs := Lib.hid HWR.out.drew
      clear HWR
      refine wp_region_held_drew (S := fun w' => w'.cell? ⟨f, 0, none⟩ = some (.int .i64 rm)) (by kernel_rfl) ((HDs.out.boxi 0 rfl).cell 0 (by simp)) (fun hSw0 => ?_)
      generalize World.drew wr = ws at *
      refine wpAnyH_take (i := 0) (oi := ⟨some 70, _, _, _, _, _⟩) (v := ?_) rfl (by kernel_rfl) (by kernel_rfl) (by kernel_rfl) (fun _ _ _ h => h) (Or.inl ⟨by rfl, ?_⟩) (by assumption) ?_
      rotate_left
      · intro w hSw
        (try dsimp only at hSw)
        go_simp
        all_goals (try with_reducible rfl)
      (try simp only [Act.put, List.setIfInBounds_toArray, List.set_cons_zero, List.set_cons_succ])
      refine wpAnyH_take (i := 2) (oi := ⟨some 72, _, _, _, _, _⟩) (v := ?_) rfl (by kernel_rfl) (by kernel_rfl) (by kernel_rfl) (fun _ _ _ h => h) (Or.inl ⟨by rfl, ?_⟩) (by assumption) ?_
      rotate_left
      · intro w hSw
        (try dsimp only at hSw)
        go_simp
        all_goals (try with_reducible rfl)
      (try simp only [Act.put, List.setIfInBounds_toArray, List.set_cons_zero, List.set_cons_succ])
      refine wpAnyH_take (i := 3) (oi := ⟨some 73, _, _, _, _, _⟩) (v := ?_) rfl (by kernel_rfl) (by kernel_rfl) (by kernel_rfl) (fun _ _ _ h => h) (Or.inl ⟨by rfl, ?_⟩) (by assumption) ?_
      rotate_left
      · intro w hSw
        (try dsimp only at hSw)
        go_simp
        all_goals (try with_reducible rfl)
      (try simp only [Act.put, List.setIfInBounds_toArray, List.set_cons_zero, List.set_cons_succ])
      refine wpAnyH_take (i := 4) (oi := ⟨some 74, _, _, _, _, _⟩) (v := ?_) rfl (by kernel_rfl) (by kernel_rfl) (by kernel_rfl) (fun _ _ _ h => h) (Or.inl ⟨by rfl, ?_⟩) (by assumption) ?_
      rotate_left
      · intro w hSw
        (try dsimp only at hSw)
        go_simp
        all_goals (try with_reducible rfl)
      (try simp only [Act.put, List.setIfInBounds_toArray, List.set_cons_zero, List.set_cons_succ])
      refine wpAnyH_take (i := 5) (oi := ⟨some 75, _, _, _, _, _⟩) (v := ?_) rfl (by kernel_rfl) (by kernel_rfl) (by kernel_rfl) (fun _ _ _ h => h) (Or.inl ⟨by rfl, ?_⟩) (by assumption) ?_
      rotate_left
      · intro w hSw
        (try dsimp only at hSw)
        go_simp
        all_goals (try with_reducible rfl)
      (try simp only [Act.put, List.setIfInBounds_toArray, List.set_cons_zero, List.set_cons_succ])
      refine wpAnyH_take (i := 6) (oi := ⟨some 76, _, _, _, _, _⟩) (v := ?_) rfl (by kernel_rfl) (by kernel_rfl) (by kernel_rfl) (fun _ _ _ h => h) (Or.inl ⟨by rfl, ?_⟩) (by assumption) ?_
      rotate_left
      · intro w hSw
        (try dsimp only at hSw)
        go_simp
        all_goals (try with_reducible rfl)
      (try simp only [Act.put, List.setIfInBounds_toArray, List.set_cons_zero, List.set_cons_succ])
      refine wpAnyH_take (i := 7) (oi := ⟨some 77, _, _, _, _, _⟩) (v := ?_) rfl (by kernel_rfl) (by kernel_rfl) (by kernel_rfl) (fun _ _ _ h => h) (Or.inl ⟨by rfl, ?_⟩) (by assumption) ?_
      rotate_left
      · intro w hSw
        (try dsimp only at hSw)
        go_simp
        all_goals (try with_reducible rfl)
      (try simp only [Act.put, List.setIfInBounds_toArray, List.set_cons_zero, List.set_cons_succ])
      refine wpAnyH_ready (rs := [1, 8]) (by kernel_rfl) (by simp) ?_
      refine AllReadyH.cons (o := ⟨some 71, _, _, _, _, _⟩) rfl (fun K hK => ?_) ?_
      · have yq := (HDs.out.boxi 0 rfl).cell 4 (by simp)
        simp only [List.getElem_cons_zero, List.getElem_cons_succ] at yq
        have lq := (HDs.out.boxi 0 rfl).lt
        go_simp
        clear yq lq
        refine hK.out _ _ ((HDs.out.boxi 0 rfl).cell 0 (by simp)) (fun hSn => ?_)
        clear hK K hSw0
        have hSw0 := hSn
        clear hSn
        (try simp only [Act.put, List.setIfInBounds_toArray, List.set_cons_zero, List.set_cons_succ])
        refine wpAnyH_ready (rs := [8]) (by kernel_rfl) (by simp) ?_
        refine AllReadyH.cons (o := ⟨some 78, _, _, _, _, _⟩) rfl (fun K hK => ?_) AllReadyH.nil
        go_simp
        rw [show (q : Int) * 64 = ((64 * q : Nat) : Int) from by omega]
        refine (part_any A n c bs (64 * q) 64 _ _ (HDs.out.fi 1 rfl) hroom (by omega) (by omega)).mono ?_
        rintro en va ⟨rfl, ho7, hO⟩
        rw [HCK.out] at ho7
        have hbw := HDs.out.only.size
        have hgw : w.heap.size ≤ ws.heap.size := hbw
        generalize hg7 : ws.heap.size = g7 at *
        have HDa := Lib.hid (HDs.out.addFc hO (f := fun V => Bys V (some ⟨g7, 0, none⟩) 64 64 (chunkB bs j)) (Row1.fc (Row1.of_Own ho7 (by rw [bvs_length, HCL.out]) (Nat.le_refl _) (by simp [maxLen])) (fun _ a ha => by injection ha with ha; subst ha; simp; omega)))
        clear hO ho7 hg7 hbw
        refine hK.out _ _ ((HDa.out.boxi 0 rfl).cell 0 (by simp)) (fun hSn => ?_)
        clear hK K hSw0
        have hSw0 := hSn
        clear hSn
        (try simp only [Act.put, List.setIfInBounds_toArray, List.set_cons_zero, List.set_cons_succ])
        refine wpAnyH_ready (rs := [9]) (by kernel_rfl) (by simp) ?_
        refine AllReadyH.cons (o := ⟨some 79, _, _, _, _, _⟩) rfl (fun K hK => ?_) AllReadyH.nil
        go_simp
        have HDb := Lib.hid (HDa.out.alloc (.cells #[.slice (some ⟨g7, 0, none⟩) 64 64] 35))
        have hnr : Row1 (va.alloc (.cells #[.slice (some ⟨g7, 0, none⟩) 64 64] 35)) (some ⟨va.heap.size, 0, none⟩) 1 1 ([(some ⟨g7, 0, none⟩, 64, 64)].map slv) := Row1.of_Own (Own.new va #[.slice (some ⟨g7, 0, none⟩) 64 64] 35) rfl (Nat.le_refl _) (by simp [maxLen])
        have HNR2 := Lib.hid hnr
        clear hnr
        have hbw := HDb.out.only.size
        generalize hvz : va.heap.size = vz at *
        generalize hvb : va.alloc (.cells #[.slice (some ⟨g7, 0, none⟩) 64 64] 35) = vb at *
        clear hvb hvz
        refine hK.out _ _ ((HDb.out.boxi 0 rfl).cell 0 (by simp)) (fun hSn => ?_)
        clear hK K hSw0
        have hSw0 := hSn
        clear hSn
        (try simp only [Act.put, List.setIfInBounds_toArray, List.set_cons_zero, List.set_cons_succ])
        refine wpAnyH_ready (rs := [10]) (by kernel_rfl) (by simp) ?_
        refine AllReadyH.cons (o := ⟨some 80, _, _, _, _, _⟩) rfl (fun K hK => ?_) AllReadyH.nil
        refine step_append_row1 rfl (.tmp 71) (.tmp 79) 45 rfl w.heap.size 35 i0 _ 24 Try.underlying45 hi0 hz0 hz1 hz2 rfl (.slice A5 j c5) j (sl.map slv) rfl (HDb.out.gi 0 rfl) (some ⟨vz, 0, none⟩) 1 1 ([(some ⟨g7, 0, none⟩, 64, 64)].map slv) rfl HNR2.out (slv_one _) (by unfold maxLen; omega) (by omega) hbw ?_
        intro v' vd hown hgrow hat
        rw [← List.map_append] at hown
        have hdd := HDb.out.gapp 0 rfl hown hgrow hat
        obtain ⟨A6, c6, rfl⟩ := hdd.gform 0 rfl
        have HDd := Lib.hid hdd
        clear hdd hown hgrow hat
        refine hK.out _ _ ((HDd.out.boxi 0 rfl).cell 0 (by simp)) (fun hSn => ?_)
        clear hK K hSw0
        have hSw0 := hSn
        clear hSn
        (try simp only [Act.put, List.setIfInBounds_toArray, List.set_cons_zero, List.set_cons_succ])
        refine wpAnyH_take (i := 11) (oi := ⟨some 81, _, _, _, _, _⟩) (v := ?_) rfl (by kernel_rfl) (by kernel_rfl) (by kernel_rfl) (fun _ _ _ h => h) (Or.inl ⟨by rfl, ?_⟩) (by assumption) ?_
        rotate_left
        · intro w hSw
          (try dsimp only at hSw)
          go_simp
          all_goals (try with_reducible rfl)
        (try simp only [Act.put, List.setIfInBounds_toArray, List.set_cons_zero, List.set_cons_succ])
        refine wpAnyH_ready (rs := [12]) (by kernel_rfl) (by simp) ?_
        refine AllReadyH.cons (o := ⟨none, _, _, _, _, _⟩) rfl (fun K hK => ?_) AllReadyH.nil
        have yq := (HDd.out.boxi 0 rfl).cell 4 (by simp)
        simp only [List.getElem_cons_zero, List.getElem_cons_succ] at yq
        have lq := (HDd.out.boxi 0 rfl).lt
        have fq := (HDd.out.boxi 0 rfl).frozen 4
        go_simp
        have HDz := Lib.hid (HDd.out.put 0 rfl 4 (.slice A6 (j + 1) c6))
        clear yq lq fq
        refine hK.out _ _ ((HDz.out.boxi 0 rfl).cell 0 (by simp)) (fun hSn => ?_)
        clear hK K hSw0
        have hSw0 := hSn
        clear hSn
        (try simp only [Act.put, List.setIfInBounds_toArray, List.set_cons_zero, List.set_cons_succ])
        refine wpAnyH_done (by kernel_rfl) ?_ _
        clear hSw0
        go_wp2
        go_roundg (gk - 1)
        case measure => omega
        case rel =>
          have hrb : rcBl bs (j + 1) = rcBl bs j ++ [chunkB bs j] := rcBl_succ bs j
          refine ⟨j + 1, A6, c6, sl ++ [(some ⟨g7, 0, none⟩, 64, 64)], by omega, by rw [HQQ.out]; go_num, ?_, ?_⟩
          · rw [hrb]
            refine (HDz.out.fuse (f1 := fun V => Bys V (some ⟨g7, 0, none⟩) 64 64 (chunkB bs j)) (f2 := fun V => Bls V sl (rcBl bs j)) (f := fun V => Bls V (sl ++ [(some ⟨g7, 0, none⟩, 64, 64)]) (rcBl bs j ++ [chunkB bs j])) (List.mem_cons_self ..) (List.mem_cons_of_mem _ (List.mem_cons_self ..)) (fun V h1 h2 => h2.snoc h1)).sub (List.Sublist.refl _) ?_
            intro f1 hf1
            simp only [List.mem_cons, List.not_mem_nil, or_false] at hf1 ⊢
            rcases hf1 with rfl | rfl | rfl <;> simp
          · intro s hs a ha
            rcases List.mem_append.1 hs with hs | hs
            · exact HFRR.out s hs a ha
            · simp at hs
              subst hs
              injection ha with ha
              subst ha
              exact hgw
      refine AllReadyH.cons (o := ⟨some 78, _, _, _, _, _⟩) rfl (fun K hK => ?_) ?_
      · go_simp
        rw [show (q : Int) * 64 = ((64 * q : Nat) : Int) from by omega]
        refine (part_any A n c bs (64 * q) 64 _ _ (HDs.out.fi 1 rfl) hroom (by omega) (by omega)).mono ?_
        rintro en va ⟨rfl, ho7, hO⟩
        rw [HCK.out] at ho7
        have hbw := HDs.out.only.size
        have hgw : w.heap.size ≤ ws.heap.size := hbw
        generalize hg7 : ws.heap.size = g7 at *
        have HDa := Lib.hid (HDs.out.addFc hO (f := fun V => Bys V (some ⟨g7, 0, none⟩) 64 64 (chunkB bs j)) (Row1.fc (Row1.of_Own ho7 (by rw [bvs_length, HCL.out]) (Nat.le_refl _) (by simp [maxLen])) (fun _ a ha => by injection ha with ha; subst ha; simp; omega)))
        clear hO ho7 hg7 hbw
        refine hK.out _ _ ((HDa.out.boxi 0 rfl).cell 0 (by simp)) (fun hSn => ?_)
        clear hK K hSw0
        have hSw0 := hSn
        clear hSn
        (try simp only [Act.put, List.setIfInBounds_toArray, List.set_cons_zero, List.set_cons_succ])
        refine wpAnyH_ready (rs := [1, 9]) (by kernel_rfl) (by simp) ?_
        refine AllReadyH.cons (o := ⟨some 71, _, _, _, _, _⟩) rfl (fun K hK => ?_) ?_
        · have yq := (HDa.out.boxi 0 rfl).cell 4 (by simp)
          simp only [List.getElem_cons_zero, List.getElem_cons_succ] at yq
          have lq := (HDa.out.boxi 0 rfl).lt
          go_simp
          clear yq lq
          refine hK.out _ _ ((HDa.out.boxi 0 rfl).cell 0 (by simp)) (fun hSn => ?_)
          clear hK K hSw0
          have hSw0 := hSn
          clear hSn
          (try simp only [Act.put, List.setIfInBounds_toArray, List.set_cons_zero, List.set_cons_succ])
          refine wpAnyH_ready (rs := [9]) (by kernel_rfl) (by simp) ?_
          refine AllReadyH.cons (o := ⟨some 79, _, _, _, _, _⟩) rfl (fun K hK => ?_) AllReadyH.nil
          go_simp
          have HDb := Lib.hid (HDa.out.alloc (.cells #[.slice (some ⟨g7, 0, none⟩) 64 64] 35))
          have hnr : Row1 (va.alloc (.cells #[.slice (some ⟨g7, 0, none⟩) 64 64] 35)) (some ⟨va.heap.size, 0, none⟩) 1 1 ([(some ⟨g7, 0, none⟩, 64, 64)].map slv) := Row1.of_Own (Own.new va #[.slice (some ⟨g7, 0, none⟩) 64 64] 35) rfl (Nat.le_refl _) (by simp [maxLen])
          have HNR2 := Lib.hid hnr
          clear hnr
          have hbw := HDb.out.only.size
          generalize hvz : va.heap.size = vz at *
          generalize hvb : va.alloc (.cells #[.slice (some ⟨g7, 0, none⟩) 64 64] 35) = vb at *
          clear hvb hvz
          refine hK.out _ _ ((HDb.out.boxi 0 rfl).cell 0 (by simp)) (fun hSn => ?_)
          clear hK K hSw0
          have hSw0 := hSn
          clear hSn
          (try simp only [Act.put, List.setIfInBounds_toArray, List.set_cons_zero, List.set_cons_succ])
          refine wpAnyH_ready (rs := [10]) (by kernel_rfl) (by simp) ?_
          refine AllReadyH.cons (o := ⟨some 80, _, _, _, _, _⟩) rfl (fun K hK => ?_) AllReadyH.nil
          refine step_append_row1 rfl (.tmp 71) (.tmp 79) 45 rfl w.heap.size 35 i0 _ 24 Try.underlying45 hi0 hz0 hz1 hz2 rfl (.slice A5 j c5) j (sl.map slv) rfl (HDb.out.gi 0 rfl) (some ⟨vz, 0, none⟩) 1 1 ([(some ⟨g7, 0, none⟩, 64, 64)].map slv) rfl HNR2.out (slv_one _) (by unfold maxLen; omega) (by omega) hbw ?_
          intro v' vd hown hgrow hat
          rw [← List.map_append] at hown
          have hdd := HDb.out.gapp 0 rfl hown hgrow hat
          obtain ⟨A6, c6, rfl⟩ := hdd.gform 0 rfl
          have HDd := Lib.hid hdd
          clear hdd hown hgrow hat
          refine hK.out _ _ ((HDd.out.boxi 0 rfl).cell 0 (by simp)) (fun hSn => ?_)
          clear hK K hSw0
          have hSw0 := hSn
          clear hSn
          (try simp only [Act.put, List.setIfInBounds_toArray, List.set_cons_zero, List.set_cons_succ])
          refine wpAnyH_take (i := 11) (oi := ⟨some 81, _, _, _, _, _⟩) (v := ?_) rfl (by kernel_rfl) (by kernel_rfl) (by kernel_rfl) (fun _ _ _ h => h) (Or.inl ⟨by rfl, ?_⟩) (by assumption) ?_
          rotate_left
          · intro w hSw
            (try dsimp only at hSw)
            go_simp
            all_goals (try with_reducible rfl)
          (try simp only [Act.put, List.setIfInBounds_toArray, List.set_cons_zero, List.set_cons_succ])
          refine wpAnyH_ready (rs := [12]) (by kernel_rfl) (by simp) ?_
          refine AllReadyH.cons (o := ⟨none, _, _, _, _, _⟩) rfl (fun K hK => ?_) AllReadyH.nil
          have yq := (HDd.out.boxi 0 rfl).cell 4 (by simp)
          simp only [List.getElem_cons_zero, List.getElem_cons_succ] at yq
          have lq := (HDd.out.boxi 0 rfl).lt
          have fq := (HDd.out.boxi 0 rfl).frozen 4
          go_simp
          have HDz := Lib.hid (HDd.out.put 0 rfl 4 (.slice A6 (j + 1) c6))
          clear yq lq fq
          refine hK.out _ _ ((HDz.out.boxi 0 rfl).cell 0 (by simp)) (fun hSn => ?_)
          clear hK K hSw0
          have hSw0 := hSn
          clear hSn
          (try simp only [Act.put, List.setIfInBounds_toArray, List.set_cons_zero, List.set_cons_succ])
          refine wpAnyH_done (by kernel_rfl) ?_ _
          clear hSw0
          go_wp2
          go_roundg (gk - 1)
          case measure => omega
          case rel =>
            have hrb : rcBl bs (j + 1) = rcBl bs j ++ [chunkB bs j] := rcBl_succ bs j
            refine ⟨j + 1, A6, c6, sl ++ [(some ⟨g7, 0, none⟩, 64, 64)], by omega, by rw [HQQ.out]; go_num, ?_, ?_⟩
            · rw [hrb]
              refine (HDz.out.fuse (f1 := fun V => Bys V (some ⟨g7, 0, none⟩) 64 64 (chunkB bs j)) (f2 := fun V => Bls V sl (rcBl bs j)) (f := fun V => Bls V (sl ++ [(some ⟨g7, 0, none⟩, 64, 64)]) (rcBl bs j ++ [chunkB bs j])) (List.mem_cons_self ..) (List.mem_cons_of_mem _ (List.mem_cons_self ..)) (fun V h1 h2 => h2.snoc h1)).sub (List.Sublist.refl _) ?_
              intro f1 hf1
              simp only [List.mem_cons, List.not_mem_nil, or_false] at hf1 ⊢
              rcases hf1 with rfl | rfl | rfl <;> simp
            · intro s hs a ha
              rcases List.mem_append.1 hs with hs | hs
              · exact HFRR.out s hs a ha
              · simp at hs
                subst hs
                injection ha with ha
                subst ha
                exact hgw
        refine AllReadyH.cons (o := ⟨some 79, _, _, _, _, _⟩) rfl (fun K hK => ?_) ?_
        · go_simp
          have HDb := Lib.hid (HDa.out.alloc (.cells #[.slice (some ⟨g7, 0, none⟩) 64 64] 35))
          have hnr : Row1 (va.alloc (.cells #[.slice (some ⟨g7, 0, none⟩) 64 64] 35)) (some ⟨va.heap.size, 0, none⟩) 1 1 ([(some ⟨g7, 0, none⟩, 64, 64)].map slv) := Row1.of_Own (Own.new va #[.slice (some ⟨g7, 0, none⟩) 64 64] 35) rfl (Nat.le_refl _) (by simp [maxLen])
          have HNR2 := Lib.hid hnr
          clear hnr
          have hbw := HDb.out.only.size
          generalize hvz : va.heap.size = vz at *
          generalize hvb : va.alloc (.cells #[.slice (some ⟨g7, 0, none⟩) 64 64] 35) = vb at *
          clear hvb hvz
          refine hK.out _ _ ((HDb.out.boxi 0 rfl).cell 0 (by simp)) (fun hSn => ?_)
          clear hK K hSw0
          have hSw0 := hSn
          clear hSn
          (try simp only [Act.put, List.setIfInBounds_toArray, List.set_cons_zero, List.set_cons_succ])
          refine wpAnyH_ready (rs := [1]) (by kernel_rfl) (by simp) ?_
          refine AllReadyH.cons (o := ⟨some 71, _, _, _, _, _⟩) rfl (fun K hK => ?_) AllReadyH.nil
          have yq := (HDb.out.boxi 0 rfl).cell 4 (by simp)
          simp only [List.getElem_cons_zero, List.getElem_cons_succ] at yq
          have lq := (HDb.out.boxi 0 rfl).lt
          go_simp
          clear yq lq
          refine hK.out _ _ ((HDb.out.boxi 0 rfl).cell 0 (by simp)) (fun hSn => ?_)
          clear hK K hSw0
          have hSw0 := hSn
          clear hSn
          (try simp only [Act.put, List.setIfInBounds_toArray, List.set_cons_zero, List.set_cons_succ])
          refine wpAnyH_ready (rs := [10]) (by kernel_rfl) (by simp) ?_
          refine AllReadyH.cons (o := ⟨some 80, _, _, _, _, _⟩) rfl (fun K hK => ?_) AllReadyH.nil
          refine step_append_row1 rfl (.tmp 71) (.tmp 79) 45 rfl w.heap.size 35 i0 _ 24 Try.underlying45 hi0 hz0 hz1 hz2 rfl (.slice A5 j c5) j (sl.map slv) rfl (HDb.out.gi 0 rfl) (some ⟨vz, 0, none⟩) 1 1 ([(some ⟨g7, 0, none⟩, 64, 64)].map slv) rfl HNR2.out (slv_one _) (by unfold maxLen; omega) (by omega) hbw ?_
          intro v' vd hown hgrow hat
          rw [← List.map_append] at hown
          have hdd := HDb.out.gapp 0 rfl hown hgrow hat
          obtain ⟨A6, c6, rfl⟩ := hdd.gform 0 rfl
          have HDd := Lib.hid hdd
          clear hdd hown hgrow hat
          refine hK.out _ _ ((HDd.out.boxi 0 rfl).cell 0 (by simp)) (fun hSn => ?_)
          clear hK K hSw0
          have hSw0 := hSn
          clear hSn
          (try simp only [Act.put, List.setIfInBounds_toArray, List.set_cons_zero, List.set_cons_succ])
          refine wpAnyH_take (i := 11) (oi := ⟨some 81, _, _, _, _, _⟩) (v := ?_) rfl (by kernel_rfl) (by kernel_rfl) (by kernel_rfl) (fun _ _ _ h => h) (Or.inl ⟨by rfl, ?_⟩) (by assumption) ?_
          rotate_left
          · intro w hSw
            (try dsimp only at hSw)
            go_simp
            all_goals (try with_reducible rfl)
          (try simp only [Act.put, List.setIfInBounds_toArray, List.set_cons_zero, List.set_cons_succ])
          refine wpAnyH_ready (rs := [12]) (by kernel_rfl) (by simp) ?_
          refine AllReadyH.cons (o := ⟨none, _, _, _, _, _⟩) rfl (fun K hK => ?_) AllReadyH.nil
          have yq := (HDd.out.boxi 0 rfl).cell 4 (by simp)
          simp only [List.getElem_cons_zero, List.getElem_cons_succ] at yq
          have lq := (HDd.out.boxi 0 rfl).lt
          have fq := (HDd.out.boxi 0 rfl).frozen 4
          go_simp
          have HDz := Lib.hid (HDd.out.put 0 rfl 4 (.slice A6 (j + 1) c6))
          clear yq lq fq
          refine hK.out _ _ ((HDz.out.boxi 0 rfl).cell 0 (by simp)) (fun hSn => ?_)
          clear hK K hSw0
          have hSw0 := hSn
          clear hSn
          (try simp only [Act.put, List.setIfInBounds_toArray, List.set_cons_zero, List.set_cons_succ])
          refine wpAnyH_done (by kernel_rfl) ?_ _
          clear hSw0
          go_wp2
          go_roundg (gk - 1)
          case measure => omega
          case rel =>
            have hrb : rcBl bs (j + 1) = rcBl bs j ++ [chunkB bs j] := rcBl_succ bs j
            refine ⟨j + 1, A6, c6, sl ++ [(some ⟨g7, 0, none⟩, 64, 64)], by omega, by rw [HQQ.out]; go_num, ?_, ?_⟩
            · rw [hrb]
              refine (HDz.out.fuse (f1 := fun V => Bys V (some ⟨g7, 0, none⟩) 64 64 (chunkB bs j)) (f2 := fun V => Bls V sl (rcBl bs j)) (f := fun V => Bls V (sl ++ [(some ⟨g7, 0, none⟩, 64, 64)]) (rcBl bs j ++ [chunkB bs j])) (List.mem_cons_self ..) (List.mem_cons_of_mem _ (List.mem_cons_self ..)) (fun V h1 h2 => h2.snoc h1)).sub (List.Sublist.refl _) ?_
              intro f1 hf1
              simp only [List.mem_cons, List.not_mem_nil, or_false] at hf1 ⊢
              rcases hf1 with rfl | rfl | rfl <;> simp
            · intro s hs a ha
              rcases List.mem_append.1 hs with hs | hs
              · exact HFRR.out s hs a ha
              · simp at hs
                subst hs
                injection ha with ha
                subst ha
                exact hgw
        exact AllReadyH.nil
      exact AllReadyH.nil
    · obtain rfl : j = kb := by omega
      have hqk : ¬ (q : Int) ≤ (j : Int) := by omega
      have HDO := Lib.hid (rc_dec_of HFT.out)
      have HGB : Hid (Blks wr A5 j c5 (rcBl bs j)) := Lib.hid ⟨sl, (Row1.of_owns (HWR.out.gi 0 rfl)).1, HWR.out.fi 0 rfl⟩
      clear hq hlt
      have x0 := (HWR.out.boxi 0 rfl).cell 0 (by simp)
      have x1 := (HWR.out.boxi 0 rfl).cell 1 (by simp)
      have x2 := (HWR.out.boxi 0 rfl).cell 2 (by simp)
      have x3 := (HWR.out.boxi 0 rfl).cell 3 (by simp)
      have x4 := (HWR.out.boxi 0 rfl).cell 4 (by simp)
      simp only [List.getElem_cons_zero, List.getElem_cons_succ] at x0 x1 x2 x3 x4
      go_wp2_with fail
      refine (ref_rec_enc_any rm rn rp A4 Nv c4 its A5 j c5 (rcBl bs j) _ (by exact HWR.out.fi 2 rfl) (by exact HGB.out)).mono ?_
      intro en wy he
      rw [← HRO.out] at he
      have hdo := HDO.out
      cases hen : encRc (rcOf bs) with
      | none =>
        rw [hen] at he hdo
        obtain ⟨rfl, hO⟩ := he.of_none
        have HY := Lib.hid (HWR.out.keep0 hO)
        have HNO : Hid (decRc bs = none) := Lib.hid hdo
        clear hen hO he hdo x0 x1 x2 x3 x4
        have hx0 := (HY.out.boxi 0 rfl).cell 0 (by simp)
        have hx1 := (HY.out.boxi 0 rfl).cell 1 (by simp)
        have hx2 := (HY.out.boxi 0 rfl).cell 2 (by simp)
        have hx3 := (HY.out.boxi 0 rfl).cell 3 (by simp)
        have hx4 := (HY.out.boxi 0 rfl).cell 4 (by simp)
        simp only [List.getElem_cons_zero, List.getElem_cons_succ] at hx0 hx1 hx2 hx3 hx4
        have hy0 := (HY.out.boxi 1 rfl).cell 0 (by simp)
        have hy1 := (HY.out.boxi 1 rfl).cell 1 (by simp)
        have hy2 := (HY.out.boxi 1 rfl).cell 2 (by simp)
        have hy3 := (HY.out.boxi 1 rfl).cell 3 (by simp)
        have hy4 := (HY.out.boxi 1 rfl).cell 4 (by simp)
        simp only [List.getElem_cons_zero, List.getElem_cons_succ] at hy0 hy1 hy2 hy3 hy4
        have hz0 := (HY.out.boxi 1 rfl).frozen 0
        have hz1 := (HY.out.boxi 1 rfl).frozen 1
        have hz2 := (HY.out.boxi 1 rfl).frozen 2
        have hz3 := (HY.out.boxi 1 rfl).frozen 3
        have hz4 := (HY.out.boxi 1 rfl).frozen 4
        have hzl := (HY.out.boxi 1 rfl).lt
        go_wp2
        (try simp only [Exit.inBlock, Exit.then])
        refine bodyPost_ret (v := (.tuple #[.agg #[.int .i64 0, .int .i64 0, .int .i64 0, .slice none 0 0, .slice none 0 0], .int .i64 0, .int .i64 2])) ?_ rfl (RcSays.no HNO.out ?_)
        · simp only [results, HRES.out]
          go_simp
        · (repeat' first | (with_reducible refine Only.set ?_ (.inr hrw) _) | (with_reducible exact HY.out.only))
      | some ys =>
        obtain ⟨y, s⟩ := ys
        rw [hen] at he hdo
        obtain ⟨g9, c9, rfl, hc9, hm9, hg9, ho9, hO⟩ := he.of_some
        have HY := Lib.hid (HWR.out.keep0 hO)
        have HB9 : Hid (Bys wy (some ⟨g9, 0, none⟩) y.length c9 y) := Lib.hid (Row1.of_Own ho9 (bvs_length _) hc9 hm9)
        have HDO2 : Hid (decRc bs = if y = bs then some (rcOf bs, s) else none) := Lib.hid hdo
        clear hen hO he hdo ho9 x0 x1 x2 x3 x4 HDO
        go_wp2_with fail
        refine (equal_any (some ⟨g9, 0, none⟩) y.length c9 y A n c bs _ (by exact HB9.out) (by exact HY.out.fi 1 rfl)).mono ?_
        rintro en w5 ⟨rfl, kz, rfl⟩
        have HYn := Lib.hid (HY.out.drewN kz)
        clear HY HB9
        have HY := HYn
        clear HYn
        have hx0 := (HY.out.boxi 0 rfl).cell 0 (by simp)
        have hx1 := (HY.out.boxi 0 rfl).cell 1 (by simp)
        have hx2 := (HY.out.boxi 0 rfl).cell 2 (by simp)
        have hx3 := (HY.out.boxi 0 rfl).cell 3 (by simp)
        have hx4 := (HY.out.boxi 0 rfl).cell 4 (by simp)
        simp only [List.getElem_cons_zero, List.getElem_cons_succ] at hx0 hx1 hx2 hx3 hx4
        have hy0 := (HY.out.boxi 1 rfl).cell 0 (by simp)
        have hy1 := (HY.out.boxi 1 rfl).cell 1 (by simp)
        have hy2 := (HY.out.boxi 1 rfl).cell 2 (by simp)
        have hy3 := (HY.out.boxi 1 rfl).cell 3 (by simp)
        have hy4 := (HY.out.boxi 1 rfl).cell 4 (by simp)
        simp only [List.getElem_cons_zero, List.getElem_cons_succ] at hy0 hy1 hy2 hy3 hy4
        have hz0 := (HY.out.boxi 1 rfl).frozen 0
        have hz1 := (HY.out.boxi 1 rfl).frozen 1
        have hz2 := (HY.out.boxi 1 rfl).frozen 2
        have hz3 := (HY.out.boxi 1 rfl).frozen 3
        have hz4 := (HY.out.boxi 1 rfl).frozen 4
        have hzl := (HY.out.boxi 1 rfl).lt
        generalize World.drewN wy kz = wz at *
        by_cases hyb : y = bs
        · have hd : decide (y = bs) = true := by simp [hyb]
          have HYES : Hid (decRc bs = some (rcOf bs, s)) := Lib.hid (by rw [HDO2.out, if_pos hyb])
          clear hyb
          go_wp2
          (try simp only [Exit.inBlock, Exit.then])
          have hfin := (((((HY.out.put 1 rfl 0 (.int .i64 rm)).put 1 rfl 1 (.int .i64 rn)).put 1 rfl 2 (.int .i64 rp)).put 1 rfl 3 (.slice A4 Nv c4)).put 1 rfl 4 (.slice A5 j c5))
          refine bodyPost_ret (v := .tuple #[.agg #[.int .i64 rm, .int .i64 rn, .int .i64 rp, .slice A4 Nv c4, .slice A5 j c5], .int .i64 (s : Nat), .int .i64 0]) ?_ rfl ?_
          · simp only [results, HRES.out]
            go_simp
          · rw [HYES.out]
            refine ⟨(A4, Nv, c4), (A5, j, c5), ?_, ?_, hfin.only⟩
            · simp only [Option.map_some, Option.getD_some, Option.isSome_some, if_true]
              rw [HRO.out]
              rfl
            · simp only [Option.map_some, Option.getD_some]
              rw [HRO.out]
              exact hfin.rcFc (List.mem_cons_self ..) (List.mem_cons_of_mem _ (List.mem_cons_of_mem _ (List.mem_cons_self ..))) (fun h0 a ha => (HFR.out h0 a ha).2.2) HFRR.out
        · have hd : decide (y = bs) = false := by simp [hyb]
          have HNO : Hid (decRc bs = none) := Lib.hid (by rw [HDO2.out, if_neg hyb])
          clear hyb
          go_wp2
          (try simp only [Exit.inBlock, Exit.then])
          refine bodyPost_ret (v := (.tuple #[.agg #[.int .i64 0, .int .i64 0, .int .i64 0, .slice none 0 0, .slice none 0 0], .int .i64 0, .int .i64 2])) ?_ rfl (RcSays.no HNO.out ?_)
          · simp only [results, HRES.out]
            go_simp
          · (repeat' first | (with_reducible refine Only.set ?_ (.inr hrw) _) | (with_reducible exact HY.out.only))
end Go.Proofs.Ytoibehikojkoiaa
