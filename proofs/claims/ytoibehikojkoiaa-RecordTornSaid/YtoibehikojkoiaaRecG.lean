/- Contract of the reference's RecordBytes. Printed by mkrecg.py. -/
import Derived.Test.YtoibehikojkoiaaRecF
import Derived.Test.YtoibehikojkoiaaRecC
import Derived.Test.YtoibehikojkoiaaCrcC
set_option linter.unusedVariables false
set_option linter.unusedSimpArgs false
namespace Go.Kn
open Go Go.RowKit
theorem csum_more (a b : List UInt8) : 4294967295 - cadd (4294967295 - csum a) b = csum (a ++ b) := by
  have h := cadd_lt (x := 4294967295) (by decide) a
  unfold csum
  rw [show 4294967295 - (4294967295 - cadd 4294967295 a) = cadd 4294967295 a from by omega, cadd_append]
/-- a row of so many sectors, a summary laid but for its sum -/
theorem rc_row_t {r : Rc} (h : r.its.length ≤ 6) (k : Nat) : lay (List.replicate (64 * (1 + k)) 0) 0 (cat (rcFs r) ++ itsB r.its) = rcHead r ++ List.replicate (4 + 64 * k) 0 := by
  unfold rcHead lay
  have hl : (cat (rcFs r) ++ itsB r.its).length = 16 + 7 * r.its.length := by rw [List.length_append, rcFs_len, itsB_length]
  rw [hl, List.take_zero, List.nil_append, List.drop_replicate, List.append_assoc, List.append_assoc, List.append_assoc, List.replicate_append_replicate]
  congr 3
  omega
theorem rc_blocks {h60 : List UInt8} (h : h60.length = 60) (bl : List (List UInt8)) (hf : full64 bl = true) : lay (h60 ++ List.replicate (4 + 64 * bl.length) 0) 64 bl.flatten = h60 ++ (List.replicate 4 0 ++ bl.flatten) := by
  have hl := flat64 hf
  unfold lay
  have e1 : (h60 ++ List.replicate (4 + 64 * bl.length) (0 : UInt8)).take 64 = h60 ++ List.replicate 4 0 := by
    rw [List.take_append, h, List.take_of_length_le (by omega), List.take_replicate]
    congr 2
    omega
  rw [e1, List.drop_of_length_le (by rw [List.length_append, h, List.length_replicate, hl]; omega), List.append_nil, List.append_assoc]
theorem rc_sum_t {r : Rc} (h : r.its.length ≤ 6) (s : Nat) (x : List UInt8) : lay (rcHead r ++ (List.replicate 4 0 ++ x)) 60 (le 4 s) = rcHead r ++ (le 4 s ++ x) := by
  have hl := rcHead_length h
  unfold lay
  have e : rcHead r ++ (List.replicate 4 0 ++ x) = (rcHead r ++ List.replicate 4 0) ++ x := by rw [List.append_assoc]
  rw [List.take_left' hl, le_length, e, List.drop_left' (by rw [List.length_append, hl, List.length_replicate])]
end Go.Kn
namespace Go.Proofs.Ytoibehikojkoiaa
open Go Go.RowKit Go.Kn

set_option maxRecDepth 100000 in
set_option maxHeartbeats 16000000 in
theorem ref_rec_enc_any (rm rn rp : Int) (A : Option Addr) (na ca : Nat) (its : List It) (B : Option Addr) (nb cb : Nat) (bl : List (List UInt8)) (w : World) (hi : Its w A na ca its) (hj : Blks w B nb cb bl) :
    Calls Try.prog 20 #[.agg #[.int .i64 rm, .int .i64 rn, .int .i64 rp, .slice A na ca, .slice B nb cb]] w (EncRc w (encRc ⟨rm, rn, rp, its, bl⟩) 1) := by
  have hlen := hi.len
  have hln := hj.len
  have hdl := hj.le
  have hdm := hj.cm
  have hcl := hi.le
  have hcm := hi.cm
  unfold maxLen at hcm hdm
  have HI := Lib.hid hi
  have HJ := Lib.hid hj
  have HL := Lib.hid hlen
  have HLB := Lib.hid hln
  have hO0 := (Only.refl [] w).alloc (.cells #[.int .i64 rm, .int .i64 rn, .int .i64 rp, .slice A na ca, .slice B nb cb] 47)
  have hbx := Own.new w #[.int .i64 rm, .int .i64 rn, .int .i64 rp, .slice A na ca, .slice B nb cb] 47
  have x0 := hbx.cell 0 (by simp)
  have x1 := hbx.cell 1 (by simp)
  have x2 := hbx.cell 2 (by simp)
  have x3 := hbx.cell 3 (by simp)
  have x4 := hbx.cell 4 (by simp)
  simp only [List.getElem_cons_zero, List.getElem_cons_succ] at x0 x1 x2 x3 x4
  clear hi hj hlen hln
  cases hm : rcMay ⟨rm, rn, rp, its, bl⟩
  · have HM := Lib.hid hm
    clear hm
    go_enter Try.func20, Try.ntmps20
    go_upto_region 1 with fail
    generalize w.alloc (.cells #[.int .i64 rm, .int .i64 rn, .int .i64 rp, .slice A na ca, .slice B nb cb] 47) = w0 at *
    have HO0 := Lib.hid hO0
    clear hO0 hbx
    go_wp2_with fail
    refine (ref_rec_may_any rm rn rp A na ca its B nb cb bl _ (by exact HI.out.keep0 HO0.out) (by exact HJ.out.keep0 HO0.out)).mono ?_
    rintro e w1 ⟨rfl, hO1⟩
    rw [HM.out]
    have HO1 := Lib.hid (HO0.out.trans' hO1)
    clear hO1 x0 x1 x2 x3 x4
    go_wp2
    go_ret3
    exact EncRc.no (by unfold encRc; rw [HM.out]; rfl) HO1.out
  · obtain ⟨⟨hm1, hm2, hm3, hm4, hm5⟩, hal, hbn, hbf⟩ := rcMay_iff.1 hm
    have hld := loads_le its
    have hna : na ≤ 6 := by rw [← HL.out]; exact hm5
    have hnb : nb ≤ 6 := by
      have h1 := HLB.out
      simp only at hbn hm5
      omega
    have HF1 : Hid (Fit 4 [rm, rn, rp]) := Lib.hid (by simp only [fit_cons, fit_nil, Int.reducePow, and_true] at *; omega)
    have HF2 : Hid (Fit 1 [(na : Int), (nb : Int)]) := Lib.hid (by simp only [fit_cons, fit_nil, Int.reducePow, and_true]; omega)
    have HE : Hid (encItems its = some (itsB its)) := Lib.hid (by unfold encItems; rw [if_pos ⟨hm5, hal⟩])
    have HM := Lib.hid hm
    have HM5 := Lib.hid hm5
    have HBF := Lib.hid hbf
    obtain ⟨L, hL⟩ : ∃ L, (itsB its).length = L := ⟨_, rfl⟩
    have hL7 : L = 7 * na := by rw [← hL, itsB_length, HL.out]
    have hL42 : L ≤ 42 := by omega
    have HLL := Lib.hid hL
    obtain ⟨T, hT⟩ : ∃ T, T = 64 * (1 + nb) := ⟨_, rfl⟩
    have HT := Lib.hid hT
    have hT1 : 64 ≤ T := by omega
    have hT2 : T ≤ 448 := by omega
    have hTi : (1 + (nb : Int)) * 64 = (T : Int) := by omega
    have hw0 : IntKind.i64.wrap (1 + (nb : Int)) = 1 + (nb : Int) := IntWalk.i64_in _ (by omega)
    have hw1 : IntKind.i64.wrap ((1 + (nb : Int)) * 64) = (T : Int) := by rw [hTi]; exact IntWalk.i64_in _ (by omega)
    have HTI := Lib.hid hTi
    clear hm hal hbn hbf hm1 hm2 hm3 hm4 hm5 hL hL7 hT hTi
    go_enter Try.func20, Try.ntmps20
    go_upto_region 1 with fail
    generalize hbb : w.heap.size = b at *
    have HSZ : Hid (w.heap.size ≤ b) := Lib.hid (by omega)
    have HBB := Lib.hid hbb
    generalize w.alloc (.cells #[.int .i64 rm, .int .i64 rn, .int .i64 rp, .slice A na ca, .slice B nb cb] 47) = w0 at *
    have HO0 := Lib.hid hO0
    clear hO0 hbb
    go_wp2_with fail
    refine (ref_rec_may_any rm rn rp A na ca its B nb cb bl _ (by exact HI.out.keep0 HO0.out) (by exact HJ.out.keep0 HO0.out)).mono ?_
    rintro e w1 ⟨rfl, hO1⟩
    rw [HM.out]
    have HB1 := Lib.hid (hbx.keep0 hO1)
    have HO1 := Lib.hid (HO0.out.trans' hO1)
    clear hO1 x0 x1 x2 x3 x4 hbx HO0
    have x4 := HB1.out.cell 4 (by simp)
    simp only [List.getElem_cons_zero, List.getElem_cons_succ] at x4
    go_wp2_with fail
    first | rw [HTI.out] | skip
    refine (ref_begun_any (T : Int) 75 82 75 82 _ rfl rfl (by omega) (by omega)).mono ?_
    rintro e w2 ⟨p, g, rfl, hp, hg, hr, hO⟩
    rw [Int.toNat_natCast] at hr
    have hz : (List.replicate T (0 : UInt8)).length = T := by rw [List.length_replicate]
    have HRW : Hid (lay (List.replicate T (0 : UInt8)) 0 (cat (rcFs ⟨rm, rn, rp, its, bl⟩) ++ itsB its) = rcHead ⟨rm, rn, rp, its, bl⟩ ++ List.replicate (4 + 64 * nb) 0) := Lib.hid (by rw [HT.out]; exact rc_row_t (r := ⟨rm, rn, rp, its, bl⟩) HM5.out nb)
    generalize List.replicate T (0 : UInt8) = zr at *
    have HZ := Lib.hid hz
    rw [show ([75, 82] : List UInt8) = cat [(1, 75), (1, 82)] from rfl] at hr
    have HS : Hid (Encs w w2 p g 2 b (lay zr 0 (cat [(1, 75), (1, 82)])) [.int .i64 rm, .int .i64 rn, .int .i64 rp, .slice A na ca, .slice B nb cb]) := Lib.hid (Encs.start HB1.out HO1.out hp hg hr hO)
    clear hr hO hp hg hz HB1 HO1 x4
    have HX : Hid ((lay zr 0 (cat [(1, 75), (1, 82)])).length = T) := Lib.hid (by rw [lay_length _ _ _ (by rw [cat_length, HZ.out]; show (2 : Nat) ≤ T; omega), HZ.out])
    have HLC := Lib.hid (lay_cat zr [(1, 75), (1, 82)] 2 4 [rm, rn, rp] rfl (by rw [HZ.out]; show (14 : Nat) ≤ T; omega))
    generalize lay zr 0 (cat [(1, 75), (1, 82)]) = X1 at *
    have x0 := HS.out.box.cell 0 (by simp)
    have x1 := HS.out.box.cell 1 (by simp)
    have x2 := HS.out.box.cell 2 (by simp)
    simp only [List.getElem_cons_zero, List.getElem_cons_succ] at x0 x1 x2
    go_wp2_with fail
    refine (ref_put_any p g 2 X1 4 _ 3 3 [rm, rn, rp] _ (by exact HS.out.row.alloc _) (by exact ins_built _ [rm, rn, rp] _ 3 rfl (by omega)) (by exact ne_built HS.out.row) (by decide) (by rw [HX.out]; omega) HF1.out).mono ?_
    rintro e w5 ⟨rfl, hr, hO⟩
    rw [HLC.out] at hr
    have HSn : Hid (Encs w w5 p g 14 b (lay zr 0 (cat ([(1, 75), (1, 82)] ++ [rm, rn, rp].map fun z => (4, z)))) [.int .i64 rm, .int .i64 rn, .int .i64 rp, .slice A na ca, .slice B nb cb]) := Lib.hid ((HS.out.alloc _).put hr hO)
    clear hr hO HS HX
    have HS := HSn
    clear HSn
    clear HLC x0 x1 x2
    have HX : Hid ((lay zr 0 (cat ([(1, 75), (1, 82)] ++ [rm, rn, rp].map fun z => (4, z)))).length = T) := Lib.hid (by rw [lay_length _ _ _ (by rw [cat_length, HZ.out]; show (14 : Nat) ≤ T; omega), HZ.out])
    have HLC := Lib.hid (lay_cat zr ([(1, 75), (1, 82)] ++ [rm, rn, rp].map fun z => (4, z)) 14 1 [(na : Int), (nb : Int)] rfl (by rw [HZ.out]; show (16 : Nat) ≤ T; omega))
    have HFS : Hid (([(1, 75), (1, 82)] ++ [rm, rn, rp].map fun z => (4, z)) ++ [(na : Int), (nb : Int)].map (fun z => (1, z)) = rcFs ⟨rm, rn, rp, its, bl⟩) := Lib.hid (by unfold rcFs; rw [HL.out, HLB.out]; rfl)
    generalize lay zr 0 (cat ([(1, 75), (1, 82)] ++ [rm, rn, rp].map fun z => (4, z))) = X2 at *
    have x3 := HS.out.box.cell 3 (by simp)
    have x4 := HS.out.box.cell 4 (by simp)
    simp only [List.getElem_cons_zero, List.getElem_cons_succ] at x3 x4
    go_wp2_with fail
    refine (ref_put_any p g 14 X2 1 _ 2 2 [(na : Int), (nb : Int)] _ (by exact HS.out.row.alloc _) (by exact ins_built _ [(na : Int), (nb : Int)] _ 2 rfl (by omega)) (by exact ne_built HS.out.row) (by decide) (by rw [HX.out]; omega) HF2.out).mono ?_
    rintro e w6 ⟨rfl, hr, hO⟩
    rw [HLC.out, HFS.out] at hr
    have HSn : Hid (Encs w w6 p g 16 b (lay zr 0 (cat (rcFs ⟨rm, rn, rp, its, bl⟩))) [.int .i64 rm, .int .i64 rn, .int .i64 rp, .slice A na ca, .slice B nb cb]) := Lib.hid ((HS.out.alloc _).put hr hO)
    clear hr hO HS HX
    have HS := HSn
    clear HSn
    clear HLC HFS x3 x4
    have hcl16 : (cat (rcFs ⟨rm, rn, rp, its, bl⟩)).length = 16 := rcFs_len _
    have HX : Hid ((lay zr 0 (cat (rcFs ⟨rm, rn, rp, its, bl⟩))).length = T) := Lib.hid (by rw [lay_length _ _ _ (by rw [hcl16, HZ.out]; omega), HZ.out])
    have HLI : Hid (lay (lay zr 0 (cat (rcFs ⟨rm, rn, rp, its, bl⟩))) 16 (itsB its) = rcHead ⟨rm, rn, rp, its, bl⟩ ++ List.replicate (4 + 64 * nb) 0) := Lib.hid (by
      have e := lay_lay zr 0 (cat (rcFs ⟨rm, rn, rp, its, bl⟩)) (itsB its) (by rw [hcl16, HLL.out, HZ.out]; omega)
      rw [hcl16, Nat.zero_add] at e
      rw [e]
      exact HRW.out)
    clear hcl16
    generalize lay zr 0 (cat (rcFs ⟨rm, rn, rp, its, bl⟩)) = X3 at *
    have x3 := HS.out.box.cell 3 (by simp)
    simp only [List.getElem_cons_zero, List.getElem_cons_succ] at x3
    go_wp2_with fail
    refine (ref_item_enc_any A na ca its _ (by exact HI.out.keep0 HS.out.only)).mono ?_
    rintro e w7 ⟨A2, c2, rfl, hb2, hn2, hO⟩
    rw [HE.out] at hb2 hn2 ⊢
    simp only [Option.getD_some, Option.isSome_some, if_true] at hb2 hn2 ⊢
    rw [HLL.out] at hb2 ⊢
    have HIB := Lib.hid hb2
    have HSn := Lib.hid (HS.out.keep hO)
    clear hb2 hn2 hO HS x3
    have HS := HSn
    clear HSn
    go_wp2_with fail
    refine (ref_lay_any p g 16 X3 A2 L c2 (itsB its) _ (by exact HS.out.row) (by exact HIB.out) (by rw [HX.out]; omega)).mono ?_
    rintro e w8 ⟨rfl, hr, hO⟩
    rw [HLI.out] at hr
    have hl60 := rcHead_length (r := ⟨rm, rn, rp, its, bl⟩) HM5.out
    have hX4 : (rcHead ⟨rm, rn, rp, its, bl⟩ ++ List.replicate (4 + 64 * nb) 0).length = T := by rw [List.length_append, hl60, List.length_replicate, HT.out]; omega
    have hbk : lay (rcHead ⟨rm, rn, rp, its, bl⟩ ++ List.replicate (4 + 64 * nb) 0) 64 bl.flatten = rcHead ⟨rm, rn, rp, its, bl⟩ ++ (List.replicate 4 0 ++ bl.flatten) := by
      have := rc_blocks hl60 bl HBF.out
      rw [HLB.out] at this
      exact this
    have HSn : Hid (Encs w w8 p g (16 + L) b (rcHead ⟨rm, rn, rp, its, bl⟩ ++ List.replicate (4 + 64 * nb) 0) [.int .i64 rm, .int .i64 rn, .int .i64 rp, .slice A na ca, .slice B nb cb]) := Lib.hid (HS.out.put hr hO)
    have HX4 := Lib.hid hX4
    have HL60 := Lib.hid hl60
    have HBK := Lib.hid hbk
    have hfl := flat64 HBF.out
    rw [HLB.out] at hfl
    have HFL := Lib.hid hfl
    clear hr hO HS HIB HX HLI hX4 hl60 hbk hfl
    have HS := HSn
    clear HSn
    generalize rcHead ⟨rm, rn, rp, its, bl⟩ ++ List.replicate (4 + 64 * nb) 0 = X4 at *
    have hy0 := HS.out.row.fk
    have hy1 := HS.out.row.pz 1
    have hlp := HS.out.row.lp
    go_upto_region 9 with fail
    have HSn : Hid (Encs w (w8.setCell ⟨p, 1, none⟩ (.int .i64 (64 : Nat))) p g 64 b X4 [.int .i64 rm, .int .i64 rn, .int .i64 rp, .slice A na ca, .slice B nb cb]) := Lib.hid (HS.out.put (HS.out.row.place 64 (by rw [HX4.out]; omega)) ((Only.refl [p, g] w8).set (by simp) _))
    rw [show ((64 : Nat) : Int) = 64 from rfl] at HSn
    clear HS hy0 hy1 hlp
    have HS := HSn
    clear HSn
    generalize w8.setCell ⟨p, 1, none⟩ (.int .i64 64) = w9 at *
    go_wp2_with fail
    go_loopg [8] nb (fun r i wr => ∃ t : Nat, t + r = nb ∧ i = .int .i64 t ∧ Encs w wr p g (64 + 64 * t) b (lay X4 64 (bl.take t).flatten) [.int .i64 rm, .int .i64 rn, .int .i64 rp, .slice A na ca, .slice B nb cb])
    case atStart => exact ⟨0, by omega, rfl, by simpa [lay_nil] using HS.out⟩
    obtain ⟨t, ht, rfl, hs⟩ := hrel
    have HR := Lib.hid hs
    clear hs HS
    by_cases hlt : t < nb
    · have hjz : t < bl.length := by rw [HLB.out]; exact hlt
      obtain ⟨ga, oa, B', m', d', rfl, q0, hb⟩ := HJ.out.at_ t hlt
      have c0 := HR.out.only.cell q0 (by simp)
      have hbl := hb.len
      rw [bvs_length, full64_get HBF.out t hjz] at hbl
      subst hbl
      have HB := Lib.hid (hb.keep0 HR.out.only)
      have hfe : (bl.take t).flatten.length = 64 * t := by
        have := flat64 (full64_take HBF.out t)
        rw [List.length_take, Nat.min_eq_left (by omega)] at this
        exact this
      have hnx : lay (lay X4 64 (bl.take t).flatten) (64 + 64 * t) bl[t] = lay X4 64 (bl.take (t + 1)).flatten := by
        have e := lay_lay X4 64 (bl.take t).flatten bl[t] (by rw [hfe, full64_get HBF.out t hjz, HX4.out, HT.out]; omega)
        rw [hfe] at e
        rw [e, ← flat_take hjz]
      have hxl : (lay X4 64 (bl.take t).flatten).length = T := by rw [lay_length _ _ _ (by rw [hfe, HX4.out, HT.out]; omega), HX4.out]
      have HNX := Lib.hid hnx
      have HXL := Lib.hid hxl
      have hlt2 : (t : Int) < (nb : Int) := by omega
      have hge : 0 ≤ (t : Int) := by omega
      have htn : ((t : Int)).toNat = t := by omega
      have hroom : 64 ≤ T - (64 + 64 * t) := by have := HT.out; omega
      have x4 := HR.out.box.cell 4 (by simp)
      simp only [List.getElem_cons_zero, List.getElem_cons_succ] at x4
      clear hb q0 hfe hnx hxl
      generalize bl[t] = bt at *
      generalize lay X4 64 (bl.take t).flatten = Xt at *
      generalize hXn : lay X4 64 (bl.take (t + 1)).flatten = Xn at *
      have HXn := Lib.hid hXn
      clear hXn
      go_wp2_with fail
      refine (ref_lay_any p g (64 + 64 * t) Xt B' 64 d' bt _ (by exact HR.out.row) (by exact HB.out) (by rw [HXL.out]; exact hroom)).mono ?_
      rintro e wq ⟨rfl, hr, hO⟩
      rw [HNX.out] at hr
      have HR2 : Hid (Encs w wq p g (64 + 64 * (t + 1)) b Xn [.int .i64 rm, .int .i64 rn, .int .i64 rp, .slice A na ca, .slice (some ⟨ga, oa, none⟩) nb cb]) := Lib.hid (by
        have := HR.out.put hr hO
        rwa [show 64 + 64 * t + 64 = 64 + 64 * (t + 1) from by omega] at this)
      clear hr hO HR x4 c0
      go_wp2
      go_roundg (gk - 1)
      case measure => omega
      case rel => exact ⟨t + 1, by omega, by go_num, by rw [HXn.out]; exact HR2.out⟩
    · obtain rfl : t = nb := by omega
      have htk : bl.take t = bl := List.take_of_length_le (by rw [HLB.out]; omega)
      have hr5 := HR.out
      rw [htk, HBK.out] at hr5
      have HS := Lib.hid hr5
      have x4 := HR.out.box.cell 4 (by simp)
      simp only [List.getElem_cons_zero, List.getElem_cons_succ] at x4
      have hX5 : (rcHead ⟨rm, rn, rp, its, bl⟩ ++ (List.replicate 4 0 ++ bl.flatten)).length = T := by rw [List.length_append, HL60.out, List.length_append, List.length_replicate, HFL.out, HT.out]; omega
      have hT5 : (rcHead ⟨rm, rn, rp, its, bl⟩ ++ (List.replicate 4 0 ++ bl.flatten)).take 60 = rcHead ⟨rm, rn, rp, its, bl⟩ := List.take_left' HL60.out
      have hD5 : ((rcHead ⟨rm, rn, rp, its, bl⟩ ++ (List.replicate 4 0 ++ bl.flatten)).drop 64).take (64 * t) = bl.flatten := by
        rw [← List.append_assoc, List.drop_left' (by rw [List.length_append, HL60.out, List.length_replicate]), List.take_of_length_le (by rw [HFL.out]; omega)]
      have hRS := rc_sum_t (r := ⟨rm, rn, rp, its, bl⟩) HM5.out (rcSum ⟨rm, rn, rp, its, bl⟩) bl.flatten
      have hRB : rcHead ⟨rm, rn, rp, its, bl⟩ ++ (le 4 (rcSum ⟨rm, rn, rp, its, bl⟩) ++ bl.flatten) = rcBytes ⟨rm, rn, rp, its, bl⟩ := rfl
      rw [hRB] at hRS
      have hsm : 4294967295 - cadd (4294967295 - csum (rcHead ⟨rm, rn, rp, its, bl⟩)) bl.flatten = rcSum ⟨rm, rn, rp, its, bl⟩ := csum_more _ _
      have hs32 : rcSum ⟨rm, rn, rp, its, bl⟩ < 4294967296 := csum_lt _
      have hrl := rcBytes_length (r := ⟨rm, rn, rp, its, bl⟩) HM.out
      have HENC : Hid (encRc ⟨rm, rn, rp, its, bl⟩ = some (rcBytes ⟨rm, rn, rp, its, bl⟩, rcSum ⟨rm, rn, rp, its, bl⟩)) := Lib.hid (enc_rc HM.out)
      generalize rcHead ⟨rm, rn, rp, its, bl⟩ ++ (List.replicate 4 0 ++ bl.flatten) = X5 at *
      generalize rcSum ⟨rm, rn, rp, its, bl⟩ = s at *
      generalize rcBytes ⟨rm, rn, rp, its, bl⟩ = RB at *
      rw [← hT5, ← hD5] at hsm
      have HX5 := Lib.hid hX5
      have HSM := Lib.hid hsm
      have HRS := Lib.hid hRS
      have HRL := Lib.hid hrl
      obtain ⟨A0, c0, hf0, hfb, hfA⟩ := row_bys HS.out.row
      rw [HX5.out] at hf0 hfb hfA
      obtain rfl := hfA (by omega)
      have hTc := hfb.le
      have hcM := hfb.cm
      have hcM2 := hcM
      unfold maxLen at hcM2
      have hc60 : (60 : Int) ≤ (c0 : Int) := by omega
      obtain ⟨A64, hA64⟩ : ∃ x, cutA (some (⟨g, 0, none⟩ : Addr)) c0 64 = x := ⟨_, rfl⟩
      have hs64 : ∀ w, (Instr.slice 35 (.slice (some ⟨g, 0, none⟩) T c0) (some (.int .i64 64)) none none).run Try.prog w = .ok (.slice A64 (64 * t) (c0 - 64)) w := fun w => by
        have := run_slice1_lo (P := Try.prog) w 35 5 Try.underlying35 (by kernel_rfl) (some ⟨g, 0, none⟩) T c0 64 64 (64 * t) .i64 rfl (by omega) (by have := HT.out; omega)
        rwa [hA64] at this
      have HC1 : Hid (∀ V, Bys V (some ⟨g, 0, none⟩) T c0 X5 → Bys V (some ⟨g, 0, none⟩) 60 c0 (X5.take 60)) := Lib.hid (fun V h => by
        have h2 := h.cut (l := 0) (m := 60) (by omega)
        rw [bvs_cut, List.drop_zero, Nat.sub_zero] at h2
        have e : cutA (some (⟨g, 0, none⟩ : Addr)) c0 0 = some ⟨g, 0, none⟩ := by
          rw [cutA, if_neg (by omega)]
          simp [Addr.add]
        rwa [e] at h2)
      have HC2 : Hid (∀ V, Bys V (some ⟨g, 0, none⟩) T c0 X5 → Bys V A64 (64 * t) (c0 - 64) ((X5.drop 64).take (64 * t))) := Lib.hid (fun V h => by
        have h2 := h.cut (l := 64) (m := 64 * t) (by have := HT.out; omega)
        rwa [bvs_cut, hA64] at h2)
      have HFB := Lib.hid hfb
      clear htk hr5 hX5 hT5 hD5 hRS hRB hsm hrl hfb hfA hA64 hlt HR HBK
      go_wp2_with fail
      have HSd := Lib.hid HS.out.drew
      have HFBd := Lib.hid HFB.out.drew
      clear HS HFB
      refine wp_region_held_drew (S := (fun w' => w'.cell? ⟨p, 0, none⟩ = some (.slice (some ⟨g, 0, none⟩) T c0))) (by kernel_rfl) hf0 (fun hSw0 => ?_)
      refine wpAnyH_take (i := 0) (oi := ⟨some 63, _, _, _, _, _⟩) (v := ?_) rfl (by kernel_rfl) (by kernel_rfl) (by kernel_rfl) (fun _ _ _ h => h) (Or.inl ⟨by rfl, ?_⟩) (by assumption) ?_
      rotate_left
      · intro w hSw
        (try dsimp only at hSw)
        go_simp
        all_goals (try with_reducible rfl)
      (try simp only [Act.put, List.setIfInBounds_toArray, List.set_cons_zero, List.set_cons_succ])
      refine wpAnyH_take (i := 1) (oi := ⟨some 64, _, _, _, _, _⟩) (v := ?_) rfl (by kernel_rfl) (by kernel_rfl) (by kernel_rfl) (fun _ _ _ h => h) (Or.inl ⟨by rfl, ?_⟩) (by assumption) ?_
      rotate_left
      · intro w hSw
        (try dsimp only at hSw)
        go_simp
        all_goals (try with_reducible rfl)
      (try simp only [Act.put, List.setIfInBounds_toArray, List.set_cons_zero, List.set_cons_succ])
      refine wpAnyH_take (i := 2) (oi := ⟨some 65, _, _, _, _, _⟩) (v := ?_) rfl (by kernel_rfl) (by kernel_rfl) (by kernel_rfl) (fun _ _ _ h => h) (Or.inl ⟨by rfl, ?_⟩) (by assumption) ?_
      rotate_left
      · intro w hSw
        (try dsimp only at hSw)
        go_simp
        all_goals (try with_reducible rfl)
      (try simp only [Act.put, List.setIfInBounds_toArray, List.set_cons_zero, List.set_cons_succ])
      refine wpAnyH_take (i := 3) (oi := ⟨some 66, _, _, _, _, _⟩) (v := ?_) rfl (by kernel_rfl) (by kernel_rfl) (by kernel_rfl) (fun _ _ _ h => h) (Or.inl ⟨by rfl, ?_⟩) (by assumption) ?_
      rotate_left
      · intro w hSw
        (try dsimp only at hSw)
        go_simp
        all_goals (try with_reducible rfl)
      (try simp only [Act.put, List.setIfInBounds_toArray, List.set_cons_zero, List.set_cons_succ])
      refine wpAnyH_take (i := 4) (oi := ⟨some 67, _, _, _, _, _⟩) (v := ?_) rfl (by kernel_rfl) (by kernel_rfl) (by kernel_rfl) (fun _ _ _ h => h) (Or.inl ⟨by rfl, ?_⟩) (by assumption) ?_
      rotate_left
      · intro w hSw
        (try dsimp only at hSw)
        go_simp
        all_goals (try with_reducible rfl)
      (try simp only [Act.put, List.setIfInBounds_toArray, List.set_cons_zero, List.set_cons_succ])
      refine wpAnyH_take (i := 6) (oi := ⟨some 69, _, _, _, _, _⟩) (v := ?_) rfl (by kernel_rfl) (by kernel_rfl) (by kernel_rfl) (fun _ _ _ h => h) (Or.inl ⟨by rfl, ?_⟩) (by assumption) ?_
      rotate_left
      · intro w hSw
        (try dsimp only at hSw)
        go_simp
        all_goals (try with_reducible rfl)
      (try simp only [Act.put, List.setIfInBounds_toArray, List.set_cons_zero, List.set_cons_succ])
      refine wpAnyH_take (i := 7) (oi := ⟨some 70, _, _, _, _, _⟩) (v := ?_) rfl (by kernel_rfl) (by kernel_rfl) (by kernel_rfl) (fun _ _ _ h => h) (Or.inl ⟨by rfl, ?_⟩) (by assumption) ?_
      rotate_left
      · intro w hSw
        (try dsimp only at hSw)
        go_simp
        all_goals (try with_reducible rfl)
      (try simp only [Act.put, List.setIfInBounds_toArray, List.set_cons_zero, List.set_cons_succ])
      refine wpAnyH_take (i := 8) (oi := ⟨some 71, _, _, _, _, _⟩) (v := ?_) rfl (by kernel_rfl) (by kernel_rfl) (by kernel_rfl) (fun _ _ _ h => h) (Or.inl ⟨by rfl, ?_⟩) (by assumption) ?_
      rotate_left
      · intro w hSw
        (try dsimp only at hSw)
        go_simp
        all_goals (try with_reducible rfl)
      (try simp only [Act.put, List.setIfInBounds_toArray, List.set_cons_zero, List.set_cons_succ])
      refine wpAnyH_take (i := 9) (oi := ⟨some 72, _, _, _, _, _⟩) (v := ?_) rfl (by kernel_rfl) (by kernel_rfl) (by kernel_rfl) (fun _ _ _ h => h) (Or.inl ⟨by rfl, ?_⟩) (by assumption) ?_
      rotate_left
      · intro w hSw
        (try dsimp only at hSw)
        go_simp
        all_goals (try with_reducible rfl)
      (try simp only [Act.put, List.setIfInBounds_toArray, List.set_cons_zero, List.set_cons_succ])
      refine wpAnyH_take (i := 10) (oi := ⟨some 73, _, _, _, _, _⟩) (v := ?_) rfl (by kernel_rfl) (by kernel_rfl) (by kernel_rfl) (fun _ _ _ h => h) (Or.inl ⟨by rfl, ?_⟩) (by assumption) ?_
      rotate_left
      · intro w hSw
        (try dsimp only at hSw)
        go_simp
        all_goals (try with_reducible rfl)
      (try simp only [Act.put, List.setIfInBounds_toArray, List.set_cons_zero, List.set_cons_succ])
      refine wpAnyH_ready (rs := [5]) (by kernel_rfl) (by simp) ?_
      refine AllReadyH.cons (o := ⟨some 68, _, _, _, _, _⟩) rfl (fun K hK => ?_) AllReadyH.nil
      go_simp
      refine (ref_sum_any (some ⟨g, 0, none⟩) 60 c0 (X5.take 60) _ (HC1.out _ HFBd.out)).mono ?_
      rintro en va ⟨rfl, hOe⟩
      have HSe := Lib.hid (HSd.out.keep hOe)
      have HFBe := Lib.hid (HFBd.out.keep0 hOe)
      clear HSd HFBd
      refine hK.out _ _ (hOe.cell hSw0 (by simp)) (fun hSn => ?_)
      clear hK K hSw0
      have hSw0 := hSn
      clear hSn hOe
      (try simp only [Act.put, List.setIfInBounds_toArray, List.set_cons_zero, List.set_cons_succ])
      refine wpAnyH_ready (rs := [11]) (by kernel_rfl) (by simp) ?_
      refine AllReadyH.cons (o := ⟨some 74, _, _, _, _, _⟩) rfl (fun K hK => ?_) AllReadyH.nil
      go_simp
      refine (ref_more_any (csum (X5.take 60)) A64 (64 * t) (c0 - 64) ((X5.drop 64).take (64 * t)) _ (csum_lt _) (HC2.out _ HFBe.out)).mono ?_
      rintro en vb ⟨rfl, hOf⟩
      rw [HSM.out]
      have HSf := Lib.hid (HSe.out.keep hOf)
      have HFBf := Lib.hid (HFBe.out.keep0 hOf)
      clear HSe HFBe
      refine hK.out _ _ (hOf.cell hSw0 (by simp)) (fun hSn => ?_)
      clear hK K hSw0
      have hSw0 := hSn
      clear hSn hOf
      (try simp only [Act.put, List.setIfInBounds_toArray, List.set_cons_zero, List.set_cons_succ])
      refine wpAnyH_take (i := 12) (oi := ⟨some 9, _, _, _, _, _⟩) (v := ?_) rfl (by kernel_rfl) (by kernel_rfl) (by kernel_rfl) (fun _ _ _ h => h) (Or.inl ⟨by rfl, ?_⟩) (by assumption) ?_
      rotate_left
      · intro w hSw
        (try dsimp only at hSw)
        go_simp
        all_goals (try with_reducible rfl)
      (try simp only [Act.put, List.setIfInBounds_toArray, List.set_cons_zero, List.set_cons_succ])
      refine wpAnyH_done (by kernel_rfl) ?_ _
      have hy0 := HSf.out.row.fk
      have hy1 := HSf.out.row.pz 1
      have hlp := HSf.out.row.lp
      clear hSw0 hs64 hc60
      go_upto_region 15 with fail
      have HS : Hid (Encs w (vb.setCell ⟨p, 1, none⟩ (.int .i64 (60 : Nat))) p g 60 b X5 [.int .i64 rm, .int .i64 rn, .int .i64 rp, .slice A na ca, .slice B t cb]) := Lib.hid (HSf.out.put (HSf.out.row.place 60 (by rw [HX5.out]; omega)) ((Only.refl [p, g] vb).set (by simp) _))
      rw [show ((60 : Nat) : Int) = 60 from rfl] at HS
      clear HSf HFBf hy0 hy1 hlp
      generalize vb.setCell ⟨p, 1, none⟩ (.int .i64 60) = vc at *
      go_wp2_with fail
      refine (ref_one_any p g 60 X5 4 (s : Int) _ (by exact HS.out.row) (by decide) (by rw [HX5.out]; omega) (by omega)).mono ?_
      rintro e vd ⟨rfl, hr, hO⟩
      rw [Int.toNat_natCast, HRS.out] at hr
      have HS2 : Hid (Encs w vd p g (60 + 4) b RB [.int .i64 rm, .int .i64 rn, .int .i64 rp, .slice A na ca, .slice B t cb]) := Lib.hid (HS.out.put hr hO)
      obtain ⟨A9, c9, hf9, hfb9, hfA9⟩ := row_bys hr
      obtain rfl := hfA9 (by rw [HRL.out]; omega)
      have hoR := hr.own (by rw [HRL.out]; omega)
      have HOR := Lib.hid hoR
      have hc9 := hfb9.le
      have hm9 := hfb9.cm
      have hggw := HS.out.hg
      clear hr hO HS hfb9 hfA9 hoR
      go_wp2
      go_ret3
      exact .inr ⟨RB, s, g, c9, HENC.out, rfl, hc9, hm9, hggw, HOR.out, HS2.out.only⟩
end Go.Proofs.Ytoibehikojkoiaa
