/- Contracts of record.May, record.Len. -/
import Derived.Test.YtoibehikojkoiaaRecP
import Derived.Test.YtoibehikojkoiaaItemB
import Derived.Shelf.Abstract
import Derived.Deep.Cut
set_option linter.unusedVariables false
set_option linter.unusedSimpArgs false
namespace Go.Kn
open Go Go.RowKit
def is64 (b : List UInt8) : Bool := decide (b.length = 64)
theorem full64_eq (bl : List (List UInt8)) : full64 bl = bl.all is64 := rfl
theorem full_take {bl : List (List UInt8)} {j : Nat} (hj : j < bl.length) (h : full64 (bl.take j) = true) (hm : is64 bl[j] = true) : full64 (bl.take (j + 1)) = true := by
  rw [full64_eq] at *
  rw [List.take_succ_eq_append_getElem hj, List.all_append, h]
  simp [hm]
theorem full_no {bl : List (List UInt8)} {j : Nat} (hj : j < bl.length) (hm : is64 bl[j] = false) : full64 bl = false := by
  cases h : full64 bl with
  | false => rfl
  | true =>
    have := List.all_eq_true.1 h bl[j] (List.getElem_mem _)
    rw [show decide (bl[j].length = 64) = is64 bl[j] from rfl, hm] at this
    cases this
theorem loads_take {l : List It} {j : Nat} (hj : j < l.length) : loads (l.take (j + 1)) = loads (l.take j) + if l[j].loaded then 1 else 0 := by
  rw [List.take_succ_eq_append_getElem hj, loads_snoc]
theorem rcMay_head {r : Rc} (h : rcHeadMay r = false) : rcMay r = false := by unfold rcMay; rw [h]; rfl
theorem rcMay_its {r : Rc} {j : Nat} (hj : j < r.its.length) (h : r.its[j].may = false) : rcMay r = false := by
  have : r.its.all It.may = false := by
    cases h' : r.its.all It.may with
    | false => rfl
    | true =>
      have := List.all_eq_true.1 h' r.its[j] (List.getElem_mem _)
      rw [h] at this
      cases this
  unfold rcMay
  rw [this, Bool.false_and, Bool.and_false]
theorem rcMay_yes {r : Rc} (h : rcHeadMay r = true) (hi : r.its.all It.may = true) : rcMay r = (decide (r.bl.length = loads r.its) && full64 r.bl) := by
  unfold rcMay
  rw [h, hi]
  rfl
end Go.Kn
namespace Go.Proofs.Ytoibehikojkoiaa
open Go Go.RowKit Go.Kn

theorem rec_within_any (n lo hi : Int) (w : World) : Calls Try.prog 79 #[.int .i64 n, .int .i64 lo, .int .i64 hi] w fun e w' => e = .returned (.bool (decide (lo ≤ n ∧ n ≤ hi))) ∧ w = w' := by
  go_enter Try.func79, Try.ntmps79
  by_cases h1 : lo ≤ n <;> by_cases h2 : n ≤ hi <;>
  (go_wp2
   go_ret
   exact ⟨by simp [*], rfl⟩)
theorem rec_is64_any (A : Option Addr) (n c : Nat) (b : List UInt8) (w : World) (h : Bys w A n c b) : Calls Try.prog 83 #[.slice A n c] w fun e w' => e = .returned (.bool (!is64 b)) ∧ w = w' := by
  have hl := h.len
  rw [bvs_length] at hl
  have e1 : ((n : Int) != 64) = !is64 b := by unfold is64; rw [hl]; by_cases hn : n = 64 <;> simp [hn] <;> omega
  generalize is64 b = q at *
  have HE := Lib.hid e1
  clear e1 hl h
  go_enter Try.func83, Try.ntmps83
  go_wp2
  go_ret
  exact ⟨by rw [← HE.out]; rfl, rfl⟩

set_option maxRecDepth 100000 in
set_option maxHeartbeats 2000000 in
theorem rec_index_any (A : Option Addr) (n c : Nat) (bl : List (List UInt8)) (w : World) (hi : Blks w A n c bl) :
    Calls Try.prog 140 #[.slice A n c, .func (.func 83) #[] #[]] w fun e w' => ∃ r : Int, e = .returned (.int .i64 r) ∧ decide (0 ≤ r) = !(full64 bl) ∧ w = w' := by
  have hlen := hi.len
  have hcm := hi.cm
  have hcl := hi.le
  unfold maxLen at hcm
  have HI := Lib.hid hi
  have HL := Lib.hid hlen
  clear hi hlen
  have eg : ∀ args w, (callFunc 83 args).run Try.prog w = .ok (.enter 83 args) w := enters_of Try.func83 (by kernel_rfl) rfl
  go_enter Try.func140, Try.ntmps140
  go_wp2_with fail
  go_loopg [5, 8] n (fun r _ i wr => ∃ j : Nat, j + r = n ∧ i = .int .i64 j ∧ w = wr ∧ full64 (bl.take j) = true)
  case atStart => exact ⟨0, by omega, rfl, rfl, by simp [full64]⟩
  obtain ⟨j, hj, rfl, rfl, hal⟩ := hrel
  have HAL := Lib.hid hal
  clear hal
  by_cases hlt : j < n
  · have hjz : j < bl.length := by rw [HL.out]; exact hlt
    obtain ⟨a, o, B, m, d, rfl, c0, hb⟩ := HI.out.at_ j hlt
    have HB := Lib.hid hb
    clear hb
    cases hm : is64 bl[j]
    · have HM := Lib.hid hm
      clear hm
      generalize hz : bl[j] = z at *
      have HZ := Lib.hid hz
      clear hz
      go_wp2_with fail
      refine (rec_is64_any B m d z _ HB.out).mono ?_
      rintro e w2 ⟨rfl, rfl⟩
      rw [HM.out]
      go_wp2
      go_ret
      exact ⟨_, rfl, by rw [full_no hjz (by rw [HZ.out]; exact HM.out)]; simp, rfl⟩
    · have HM := Lib.hid hm
      clear hm
      generalize hz : bl[j] = z at *
      have HZ := Lib.hid hz
      clear hz
      go_wp2_with fail
      refine (rec_is64_any B m d z _ HB.out).mono ?_
      rintro e w2 ⟨rfl, rfl⟩
      rw [HM.out]
      go_wp2
      go_roundg (gk - 1)
      case measure => omega
      case rel => exact ⟨j + 1, by omega, by go_num, rfl, full_take hjz HAL.out (by rw [HZ.out]; exact HM.out)⟩
  · obtain rfl : j = n := by omega
    have hfull : bl.take j = bl := List.take_of_length_le (by rw [HL.out]; omega)
    have hal := HAL.out
    rw [hfull] at hal
    have HAL' := Lib.hid hal
    clear hal hfull
    go_wp2
    go_ret
    exact ⟨_, rfl, by rw [HAL'.out]; simp, rfl⟩

set_option maxRecDepth 100000 in
theorem rec_contains_any (A : Option Addr) (n c : Nat) (bl : List (List UInt8)) (w : World) (hi : Blks w A n c bl) :
    Calls Try.prog 82 #[.slice A n c, .func (.func 83) #[] #[]] w fun e w' => e = .returned (.bool (!(full64 bl))) ∧ w = w' := by
  have HI := Lib.hid hi
  clear hi
  obtain ⟨b, hb⟩ : ∃ b, full64 bl = b := ⟨_, rfl⟩
  have HB := Lib.hid hb
  rw [hb]
  clear hb
  go_enter Try.func82, Try.ntmps82
  go_wp2_with fail
  refine (rec_index_any A n c bl _ HI.out).mono ?_
  rintro e w' ⟨r, rfl, hr, rfl⟩
  rw [HB.out] at hr
  have HR := Lib.hid hr
  clear hr
  go_wp2
  go_ret
  exact ⟨by simp [HR.out], rfl⟩

set_option maxRecDepth 100000 in
set_option maxHeartbeats 8000000 in
theorem rec_may_no (m n p : Int) (A : Option Addr) (na ca : Nat) (B : Option Addr) (nb cb : Nat) (w : World) (ha : na ≤ ca) (hb : ca ≤ maxLen)
    (h : (decide (1 ≤ m ∧ m ≤ 2147483647) && (decide (1 ≤ n ∧ n ≤ 2147483647) && (decide (0 ≤ p ∧ p ≤ 4294967295) && decide (1 ≤ (na : Int) ∧ (na : Int) ≤ 6)))) = false) :
    Calls Try.prog 22 #[.agg #[.int .i64 m, .int .i64 n, .int .i64 p, .slice A na ca, .slice B nb cb]] w fun e w' => e = .returned (.bool false) ∧ Only [] w w' := by
  unfold maxLen at hb
  obtain ⟨b1, h1⟩ : ∃ b, decide (1 ≤ m ∧ m ≤ 2147483647) = b := ⟨_, rfl⟩
  obtain ⟨b2, h2⟩ : ∃ b, decide (1 ≤ n ∧ n ≤ 2147483647) = b := ⟨_, rfl⟩
  obtain ⟨b3, h3⟩ : ∃ b, decide (0 ≤ p ∧ p ≤ 4294967295) = b := ⟨_, rfl⟩
  obtain ⟨b4, h4⟩ : ∃ b, decide (1 ≤ (na : Int) ∧ (na : Int) ≤ 6) = b := ⟨_, rfl⟩
  rw [h1, h2, h3, h4] at h
  have H1 := Lib.hid h1
  have H2 := Lib.hid h2
  have H3 := Lib.hid h3
  have H4 := Lib.hid h4
  clear h1 h2 h3 h4
  cases b1 <;> cases b2 <;> cases b3 <;> cases b4 <;> first
    | (exact absurd h (by decide))
    | (clear h
       go_enter Try.func22, Try.ntmps22
       go_wp2_with (first | (go_at_call 79; refine (rec_within_any _ _ _ _).mono ?_; rintro e w' ⟨rfl, rfl⟩; first | rw [H1.out] | rw [H2.out] | rw [H3.out] | rw [H4.out]))
       go_ret
       exact ⟨rfl, (Only.refl _ _).alloc _⟩)

set_option maxRecDepth 100000 in
set_option maxHeartbeats 8000000 in
theorem rec_may_yes (m n p : Int) (A : Option Addr) (na ca : Nat) (its : List It) (B : Option Addr) (nb cb : Nat) (bl : List (List UInt8)) (w : World) (hi : Its w A na ca its) (hj : Blks w B nb cb bl)
    (h : rcHeadMay ⟨m, n, p, its, bl⟩ = true) :
    Calls Try.prog 22 #[.agg #[.int .i64 m, .int .i64 n, .int .i64 p, .slice A na ca, .slice B nb cb]] w fun e w' => e = .returned (.bool (rcMay ⟨m, n, p, its, bl⟩)) ∧ Only [] w w' := by
  have hlen := hi.len
  have hcm := hi.cm
  have hcl := hi.le
  have hln := hj.len
  have hdm := hj.cm
  have hdl := hj.le
  unfold maxLen at hcm hdm
  have h' := h
  unfold rcHeadMay at h'
  simp only [Bool.and_eq_true, decide_eq_true_eq] at h'
  have h1 : decide (1 ≤ m ∧ m ≤ 2147483647) = true := by simp; omega
  have h2 : decide (1 ≤ n ∧ n ≤ 2147483647) = true := by simp; omega
  have h3 : decide (0 ≤ p ∧ p ≤ 4294967295) = true := by simp; omega
  have h4 : decide (1 ≤ (na : Int) ∧ (na : Int) ≤ 6) = true := by simp; omega
  have hna : na ≤ 6 := by omega
  have HX := Lib.hid (And.intro h1 (And.intro h2 (And.intro h3 h4)))
  have HI := Lib.hid hi
  have HJ := Lib.hid hj
  have HL := Lib.hid hlen
  have HLB := Lib.hid hln
  have HH := Lib.hid h
  clear h1 h2 h3 h4 h' h hi hj hlen hln
  go_enter Try.func22, Try.ntmps22
  go_upto_region 3 with (first | (go_at_call 79; refine (rec_within_any _ _ _ _).mono ?_; rintro e w' ⟨rfl, rfl⟩; first | rw [HX.out.1] | rw [HX.out.2.1] | rw [HX.out.2.2.1] | rw [HX.out.2.2.2]))
  have hO0 := (Only.refl [] w).alloc (.cells #[.int .i64 m, .int .i64 n, .int .i64 p, .slice A na ca, .slice B nb cb] 47)
  have hbx := Own.new w #[.int .i64 m, .int .i64 n, .int .i64 p, .slice A na ca, .slice B nb cb] 47
  have x3 := hbx.cell 3 (by simp)
  have x4 := hbx.cell 4 (by simp)
  simp only [List.getElem_cons_zero, List.getElem_cons_succ] at x3 x4
  generalize w.alloc (.cells #[.int .i64 m, .int .i64 n, .int .i64 p, .slice A na ca, .slice B nb cb] 47) = w1 at *
  have HO := Lib.hid hO0
  have X4 := Lib.hid x4
  clear hO0 hbx x4
  go_wp2_with fail
  clear x3
  go_loopg [3, 32] na (fun r ld i wr => ∃ j : Nat, j + r = na ∧ ld = .int .i64 (loads (its.take j) : Nat) ∧ i = .int .i64 j ∧ Only [] w1 wr ∧ (its.take j).all It.may = true)
  case atStart => exact ⟨0, by omega, by simp [loads], rfl, Only.refl _ _, by simp⟩
  obtain ⟨j, hj, rfl, rfl, hO, hal⟩ := hrel
  have HO1 := Lib.hid hO
  have HAL := Lib.hid hal
  have hld := loads_le (its.take j)
  rw [List.length_take] at hld
  clear hO hal
  by_cases hlt : j < na
  · have hjz : j < its.length := by rw [HL.out]; exact hlt
    obtain ⟨a, o, rfl, hc⟩ := HI.out.at_ (by omega)
    obtain ⟨q0, q1, q2, q3⟩ := hc j hjz
    have c0 := HO1.out.cell (HO.out.cell q0 (by simp)) (by simp)
    have c1 := HO1.out.cell (HO.out.cell q1 (by simp)) (by simp)
    have c2 := HO1.out.cell (HO.out.cell q2 (by simp)) (by simp)
    have c3 := HO1.out.cell (HO.out.cell q3 (by simp)) (by simp)
    have HIT : Hid (its[j] = ⟨its[j].k, its[j].b, its[j].c, its[j].v⟩) := Lib.hid rfl
    have HLT := Lib.hid (loads_take hjz)
    clear hc q0 q1 q2 q3
    cases hm : its[j].may
    · have HM := Lib.hid hm
      clear hm
      generalize hik : its[j].k = ik at *
      generalize hib : its[j].b = ib at *
      generalize hic : its[j].c = ic at *
      generalize hiv : its[j].v = iv at *
      have HME : Hid (It.may ⟨ik, ib, ic, iv⟩ = false) := Lib.hid (by rw [← HIT.out]; exact HM.out)
      clear hik hib hic hiv
      go_wp2_with fail
      refine (item_may_any ik ib ic iv _).mono ?_
      rintro e w2 ⟨rfl, hO2⟩
      rw [HME.out]
      go_wp2
      go_ret
      exact ⟨by rw [rcMay_its (r := ⟨m, n, p, its, bl⟩) hjz HM.out]; rfl, (HO.out.trans' (HO1.out.alloc _)).trans' hO2⟩
    · have HM := Lib.hid hm
      clear hm
      obtain ⟨q, hq⟩ : ∃ q, its[j].loaded = q := ⟨_, rfl⟩
      have HQ := Lib.hid hq
      clear hq
      generalize hik : its[j].k = ik at *
      generalize hib : its[j].b = ib at *
      generalize hic : its[j].c = ic at *
      generalize hiv : its[j].v = iv at *
      have HME : Hid (It.may ⟨ik, ib, ic, iv⟩ = true) := Lib.hid (by rw [← HIT.out]; exact HM.out)
      have HQE : Hid (It.loaded ⟨ik, ib, ic, iv⟩ = q) := Lib.hid (by rw [← HIT.out]; exact HQ.out)
      clear hik hib hic hiv
      go_wp2_with fail
      refine (item_may_any ik ib ic iv _).mono ?_
      rintro e w2 ⟨rfl, hO2⟩
      rw [HME.out]
      have x0 := hO2.cell (p := ⟨wr.heap.size, 0, none⟩) (v := .int .i64 ik) (by simp) (by simp)
      have x1 := hO2.cell (p := ⟨wr.heap.size, 1, none⟩) (v := .int .i64 ib) (by simp) (by simp)
      have x2 := hO2.cell (p := ⟨wr.heap.size, 2, none⟩) (v := .int .i64 ic) (by simp) (by simp)
      have x3 := hO2.cell (p := ⟨wr.heap.size, 3, none⟩) (v := .int .i64 iv) (by simp) (by simp)
      have HO2 := Lib.hid ((HO1.out.alloc (.cells #[.int .i64 ik, .int .i64 ib, .int .i64 ic, .int .i64 iv] 87)).trans' hO2)
      clear hO2 c0 c1 c2 c3
      generalize hlv : loads (its.take j) = lv at *
      have hl9 : lv ≤ 6 := by omega
      cases q
      · go_wp2_with fail
        refine (item_loaded_any ik ib ic iv _).mono ?_
        rintro e w3 ⟨rfl, hO3⟩
        rw [HQE.out]
        have HO3 := Lib.hid (HO2.out.trans' hO3)
        clear hO3 x0 x1 x2 x3
        go_wp2
        go_roundg (gk - 1)
        case measure => omega
        case rel => exact ⟨j + 1, by omega, by rw [HLT.out, HQ.out]; rfl, by go_num, HO3.out, all_take hjz HAL.out HM.out⟩
      · go_wp2_with fail
        refine (item_loaded_any ik ib ic iv _).mono ?_
        rintro e w3 ⟨rfl, hO3⟩
        rw [HQE.out]
        have HO3 := Lib.hid (HO2.out.trans' hO3)
        clear hO3 x0 x1 x2 x3
        go_wp2
        go_roundg (gk - 1)
        case measure => omega
        case rel => exact ⟨j + 1, by omega, by rw [HLT.out, HQ.out, if_pos rfl]; go_num, by go_num, HO3.out, all_take hjz HAL.out HM.out⟩
  · obtain rfl : j = na := by omega
    have hfull : its.take j = its := List.take_of_length_le (by rw [HL.out]; omega)
    have hal := HAL.out
    rw [hfull] at hal hld ⊢
    have HAL' := Lib.hid hal
    have HY := Lib.hid (rcMay_yes (r := ⟨m, n, p, its, bl⟩) HH.out HAL'.out)
    have x4 := HO1.out.cell X4.out (by simp)
    have hlb := HLB.out
    generalize hlv : loads its = lv at *
    have HLV := Lib.hid hlv
    have hl9 : lv ≤ 6 := by omega
    have hd : decide (bl.length = lv) = decide (nb = lv) := by rw [hlb]
    have HD := Lib.hid hd
    clear hal hfull hlv hd hlb
    obtain ⟨q, hq⟩ : ∃ q, full64 bl = q := ⟨_, rfl⟩
    have HQ := Lib.hid hq
    clear hq
    by_cases hnl : nb = lv
    · have hn1 : ((nb : Int) == (lv : Int)) = true := by simp; omega
      have HNL := Lib.hid hnl
      clear hnl
      go_wp2_with fail
      refine (rec_contains_any B nb cb bl _ (by exact (HJ.out.keep0 HO.out).keep0 HO1.out)).mono ?_
      rintro e w3 ⟨rfl, rfl⟩
      rw [HQ.out]
      go_wp2
      go_ret
      refine ⟨?_, HO.out.trans' HO1.out⟩
      rw [HY.out, HD.out, HQ.out, decide_eq_true HNL.out]
      simp
    · have hn1 : ((nb : Int) == (lv : Int)) = false := by simp; omega
      have HNL := Lib.hid hnl
      clear hnl
      go_wp2_with fail
      go_ret
      refine ⟨?_, HO.out.trans' HO1.out⟩
      rw [HY.out, HD.out, decide_eq_false HNL.out]
      simp
theorem rec_may_any (m n p : Int) (A : Option Addr) (na ca : Nat) (its : List It) (B : Option Addr) (nb cb : Nat) (bl : List (List UInt8)) (w : World) (hi : Its w A na ca its) (hj : Blks w B nb cb bl) :
    Calls Try.prog 22 #[.agg #[.int .i64 m, .int .i64 n, .int .i64 p, .slice A na ca, .slice B nb cb]] w fun e w' => e = .returned (.bool (rcMay ⟨m, n, p, its, bl⟩)) ∧ Only [] w w' := by
  cases h : rcHeadMay ⟨m, n, p, its, bl⟩ with
  | true => exact rec_may_yes m n p A na ca its B nb cb bl w hi hj h
  | false =>
    rw [rcMay_head h]
    refine rec_may_no m n p A na ca B nb cb w hi.le hi.cm ?_
    have hl := hi.len
    have e : decide (1 ≤ its.length ∧ its.length ≤ 6) = decide (1 ≤ (na : Int) ∧ (na : Int) ≤ 6) := by rw [hl]; congr 1; simp only [eq_iff_iff]; omega
    rw [← e]
    exact h
set_option maxRecDepth 100000 in
set_option maxHeartbeats 2000000 in
theorem rec_len_any (m n p : Int) (A : Option Addr) (na ca : Nat) (its : List It) (B : Option Addr) (nb cb : Nat) (bl : List (List UInt8)) (w : World) (hi : Its w A na ca its) (hj : Blks w B nb cb bl) :
    Calls Try.prog 23 #[.agg #[.int .i64 m, .int .i64 n, .int .i64 p, .slice A na ca, .slice B nb cb]] w fun e w' => e = .returned (.int .i64 (if rcMay ⟨m, n, p, its, bl⟩ then ((1 + bl.length : Nat) : Int) else 0)) ∧ Only [] w w' := by
  have hl := hj.len
  have h1 := hj.le
  have h2 := hj.cm
  unfold maxLen at h2
  obtain ⟨q, hq⟩ : ∃ q, rcMay ⟨m, n, p, its, bl⟩ = q := ⟨_, rfl⟩
  have HQ := Lib.hid hq
  have h6 : q = true → nb ≤ 6 := fun h => by
    rw [h] at hq
    obtain ⟨⟨_, _, _, _, a6⟩, _, a1, _⟩ := rcMay_iff.1 hq
    have := loads_le its
    simp only at a1 a6
    omega
  have H6 := Lib.hid h6
  clear h6
  rw [hq, hl]
  have HI := Lib.hid hi
  have HJ := Lib.hid hj
  clear hq hl hi hj
  have hO0 := (Only.refl [] w).alloc (.cells #[.int .i64 m, .int .i64 n, .int .i64 p, .slice A na ca, .slice B nb cb] 47)
  have hbx := Own.new w #[.int .i64 m, .int .i64 n, .int .i64 p, .slice A na ca, .slice B nb cb] 47
  have x0 := hbx.cell 0 (by simp)
  have x1 := hbx.cell 1 (by simp)
  have x2 := hbx.cell 2 (by simp)
  have x3 := hbx.cell 3 (by simp)
  have x4 := hbx.cell 4 (by simp)
  simp only [List.getElem_cons_zero, List.getElem_cons_succ] at x0 x1 x2 x3 x4
  go_enter Try.func23, Try.ntmps23
  go_upto_region 1 with fail
  generalize w.alloc (.cells #[.int .i64 m, .int .i64 n, .int .i64 p, .slice A na ca, .slice B nb cb] 47) = w1 at *
  have HO := Lib.hid hO0
  clear hO0 hbx
  go_wp2_with fail
  refine (rec_may_any m n p A na ca its B nb cb bl _ (by exact HI.out.keep0 HO.out) (by exact HJ.out.keep0 HO.out)).mono ?_
  rintro e w2 ⟨rfl, hO⟩
  rw [HQ.out]
  have y4 := hO.cell x4 (by simp)
  have HO2 := Lib.hid (HO.out.trans' hO)
  clear hO x0 x1 x2 x3 x4
  cases q
  · go_wp2
    go_ret
    exact ⟨rfl, HO2.out⟩
  · have h6 := H6.out rfl
    go_wp2
    go_ret
    exact ⟨by go_num, HO2.out⟩
end Go.Proofs.Ytoibehikojkoiaa
