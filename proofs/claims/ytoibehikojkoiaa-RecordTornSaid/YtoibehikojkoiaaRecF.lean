/- Contracts of the reference's RecordMay, RecordSize; alike.Blocks, alike.Record. -/
import Derived.Test.YtoibehikojkoiaaRecA
import Derived.Test.YtoibehikojkoiaaItemD
import Derived.Test.YtoibehikojkoiaaRefD
import Derived.Test.YtoibehikojkoiaaRefA
set_option linter.unusedVariables false
set_option linter.unusedSimpArgs false
namespace Go.Kn
open Go Go.RowKit
instance : DecidableEq Rc := fun a b => by
  rcases a with ⟨a1, a2, a3, a4, a5⟩
  rcases b with ⟨b1, b2, b3, b4, b5⟩
  rw [Rc.mk.injEq]
  exact inferInstance
theorem take2_iff {b : List UInt8} (h : b.length = 64) (x y : UInt8) : b.take 2 = [x, y] ↔ b[0]? = some x ∧ b[1]? = some y := by
  rcases b with _ | ⟨p, _ | ⟨q, r⟩⟩
  · simp at h
  · simp at h
  · simp
theorem num_at {b : List UInt8} {i : Nat} (h : i < b.length) : num ((b.drop i).take 1) = b[i].toNat := by
  rw [List.drop_eq_getElem_cons h, List.take_succ_cons, List.take_zero]
  simp [num]
end Go.Kn
namespace Go.Proofs.Ytoibehikojkoiaa
open Go Go.RowKit Go.Kn

set_option maxRecDepth 100000 in
set_option maxHeartbeats 8000000 in
theorem ref_rec_may_no (m n p : Int) (A : Option Addr) (na ca : Nat) (B : Option Addr) (nb cb : Nat) (w : World) (ha : na ≤ ca) (hb : ca ≤ maxLen)
    (h : (decide (1 ≤ m ∧ m ≤ 2147483647) && (decide (1 ≤ n ∧ n ≤ 2147483647) && (decide (0 ≤ p ∧ p ≤ 4294967295) && decide (1 ≤ (na : Int) ∧ (na : Int) ≤ 6)))) = false) :
    Calls Try.prog 21 #[.agg #[.int .i64 m, .int .i64 n, .int .i64 p, .slice A na ca, .slice B nb cb]] w fun e w' => e = .returned (.bool false) ∧ Only [] w w' := by
  unfold maxLen at hb
  obtain ⟨b1, h1⟩ : ∃ b, decide (1 ≤ m ∧ m ≤ 2147483647) = b := ⟨_, rfl⟩
  obtain ⟨b2, h2⟩ : ∃ b, decide (1 ≤ n ∧ n ≤ 2147483647) = b := ⟨_, rfl⟩
  obtain ⟨b3, h3⟩ : ∃ b, decide (0 ≤ p ∧ p ≤ 4294967295) = b := ⟨_, rfl⟩
  obtain ⟨b4, h4⟩ : ∃ b, decide (1 ≤ (na : Int) ∧ (na : Int) ≤ 6) = b := ⟨_, rfl⟩
  rw [h1, h2, h3, h4] at h
  have H1 := Lib.hid h1
  have H2 := Lib.hid h2
  have H3 := Lib.hid h3
  have H4 := Lib.hid h4
  clear h1 h2 h3 h4
  cases b1 <;> cases b2 <;> cases b3 <;> cases b4 <;> first
    | (exact absurd h (by decide))
    | (clear h
       go_enter Try.func21, Try.ntmps21
       go_wp2_with (first | (go_at_call 76; refine (within_any _ _ _ _).mono ?_; rintro e w' ⟨rfl, rfl⟩; first | rw [H1.out] | rw [H2.out] | rw [H3.out] | rw [H4.out]))
       go_ret
       exact ⟨rfl, (Only.refl _ _).alloc _⟩)

set_option maxRecDepth 100000 in
set_option maxHeartbeats 8000000 in
theorem ref_rec_may_yes (m n p : Int) (A : Option Addr) (na ca : Nat) (its : List It) (B : Option Addr) (nb cb : Nat) (bl : List (List UInt8)) (w : World) (hi : Its w A na ca its) (hj : Blks w B nb cb bl)
    (h : rcHeadMay ⟨m, n, p, its, bl⟩ = true) :
    Calls Try.prog 21 #[.agg #[.int .i64 m, .int .i64 n, .int .i64 p, .slice A na ca, .slice B nb cb]] w fun e w' => e = .returned (.bool (rcMay ⟨m, n, p, its, bl⟩)) ∧ Only [] w w' := by
  have hlen := hi.len
  have hcm := hi.cm
  have hcl := hi.le
  have hln := hj.len
  have hdm := hj.cm
  have hdl := hj.le
  unfold maxLen at hcm hdm
  have h' := h
  unfold rcHeadMay at h'
  simp only [Bool.and_eq_true, decide_eq_true_eq] at h'
  have h1 : decide (1 ≤ m ∧ m ≤ 2147483647) = true := by simp; omega
  have h2 : decide (1 ≤ n ∧ n ≤ 2147483647) = true := by simp; omega
  have h3 : decide (0 ≤ p ∧ p ≤ 4294967295) = true := by simp; omega
  have h4 : decide (1 ≤ (na : Int) ∧ (na : Int) ≤ 6) = true := by simp; omega
  have hna : na ≤ 6 := by omega
  have HX := Lib.hid (And.intro h1 (And.intro h2 (And.intro h3 h4)))
  have HI := Lib.hid hi
  have HJ := Lib.hid hj
  have HL := Lib.hid hlen
  have HLB := Lib.hid hln
  have HH := Lib.hid h
  clear h1 h2 h3 h4 h' h hi hj hlen hln
  go_enter Try.func21, Try.ntmps21
  go_upto_region 3 with (first | (go_at_call 76; refine (within_any _ _ _ _).mono ?_; rintro e w' ⟨rfl, rfl⟩; first | rw [HX.out.1] | rw [HX.out.2.1] | rw [HX.out.2.2.1] | rw [HX.out.2.2.2]))
  have hO0 := (Only.refl [] w).alloc (.cells #[.int .i64 m, .int .i64 n, .int .i64 p, .slice A na ca, .slice B nb cb] 47)
  have hbx := Own.new w #[.int .i64 m, .int .i64 n, .int .i64 p, .slice A na ca, .slice B nb cb] 47
  have x3 := hbx.cell 3 (by simp)
  have x4 := hbx.cell 4 (by simp)
  simp only [List.getElem_cons_zero, List.getElem_cons_succ] at x3 x4
  generalize w.alloc (.cells #[.int .i64 m, .int .i64 n, .int .i64 p, .slice A na ca, .slice B nb cb] 47) = w1 at *
  have HO := Lib.hid hO0
  have X3 := Lib.hid x3
  have X4 := Lib.hid x4
  clear hO0 hbx x3 x4
  go_wp2_with fail
  go_loopg [3, 4] na (fun r ld i wr => ∃ j : Nat, j + r = na ∧ ld = .int .i64 (loads (its.take j) : Nat) ∧ i = .int .i64 j ∧ Only [] w1 wr ∧ (its.take j).all It.may = true)
  case atStart => exact ⟨0, by omega, by simp [loads], rfl, Only.refl _ _, by simp⟩
  obtain ⟨j, hj, rfl, rfl, hO, hal⟩ := hrel
  have HO1 := Lib.hid hO
  have HAL := Lib.hid hal
  have hld := loads_le (its.take j)
  rw [List.length_take] at hld
  have x3 := hO.cell X3.out (by simp)
  clear hO hal
  by_cases hlt : j < na
  · have hjz : j < its.length := by rw [HL.out]; exact hlt
    obtain ⟨a, o, rfl, hc⟩ := HI.out.at_ (by omega)
    obtain ⟨q0, q1, q2, q3⟩ := hc j hjz
    have c0 := HO1.out.cell (HO.out.cell q0 (by simp)) (by simp)
    have c1 := HO1.out.cell (HO.out.cell q1 (by simp)) (by simp)
    have c2 := HO1.out.cell (HO.out.cell q2 (by simp)) (by simp)
    have c3 := HO1.out.cell (HO.out.cell q3 (by simp)) (by simp)
    have HIT : Hid (its[j] = ⟨its[j].k, its[j].b, its[j].c, its[j].v⟩) := Lib.hid rfl
    have HLT := Lib.hid (loads_take hjz)
    have hlt2 : (j : Int) < (na : Int) := by omega
    have hge : 0 ≤ (j : Int) := by omega
    have htn : ((j : Int)).toNat = j := by omega
    clear hc q0 q1 q2 q3
    cases hm : its[j].may
    · have HM := Lib.hid hm
      clear hm
      generalize hik : its[j].k = ik at *
      generalize hib : its[j].b = ib at *
      generalize hic : its[j].c = ic at *
      generalize hiv : its[j].v = iv at *
      have HME : Hid (It.may ⟨ik, ib, ic, iv⟩ = false) := Lib.hid (by rw [← HIT.out]; exact HM.out)
      clear hik hib hic hiv
      go_wp2_with fail
      refine (ref_item_may_any ik ib ic iv _).mono ?_
      rintro e w2 ⟨rfl, hO2⟩
      rw [HME.out]
      go_wp2
      go_ret
      exact ⟨by rw [rcMay_its (r := ⟨m, n, p, its, bl⟩) hjz HM.out]; rfl, (HO.out.trans' HO1.out).trans' hO2⟩
    · have HM := Lib.hid hm
      clear hm
      obtain ⟨q, hq⟩ : ∃ q, its[j].loaded = q := ⟨_, rfl⟩
      have HQ := Lib.hid hq
      clear hq
      generalize hik : its[j].k = ik at *
      generalize hib : its[j].b = ib at *
      generalize hic : its[j].c = ic at *
      generalize hiv : its[j].v = iv at *
      have HME : Hid (It.may ⟨ik, ib, ic, iv⟩ = true) := Lib.hid (by rw [← HIT.out]; exact HM.out)
      have HQE : Hid (It.loaded ⟨ik, ib, ic, iv⟩ = q) := Lib.hid (by rw [← HIT.out]; exact HQ.out)
      clear hik hib hic hiv
      go_wp2_with fail
      refine (ref_item_may_any ik ib ic iv _).mono ?_
      rintro e w2 ⟨rfl, hO2⟩
      rw [HME.out]
      have d0 := hO2.cell c0 (by simp)
      have d1 := hO2.cell c1 (by simp)
      have d2 := hO2.cell c2 (by simp)
      have d3 := hO2.cell c3 (by simp)
      have y3 := hO2.cell x3 (by simp)
      have HO2 := Lib.hid (HO1.out.trans' hO2)
      clear hO2 c0 c1 c2 c3 x3
      generalize hlv : loads (its.take j) = lv at *
      have hl9 : lv ≤ 6 := by omega
      cases q
      · go_wp2_with fail
        refine (ref_item_loaded_any ik ib ic iv _).mono ?_
        rintro e w3 ⟨rfl, hO3⟩
        rw [HQE.out]
        have HO3 := Lib.hid (HO2.out.trans' hO3)
        clear hO3 d0 d1 d2 d3 y3
        go_wp2
        go_roundg (gk - 1)
        case measure => omega
        case rel => exact ⟨j + 1, by omega, by rw [HLT.out, HQ.out]; rfl, by go_num, HO3.out, all_take hjz HAL.out HM.out⟩
      · go_wp2_with fail
        refine (ref_item_loaded_any ik ib ic iv _).mono ?_
        rintro e w3 ⟨rfl, hO3⟩
        rw [HQE.out]
        have HO3 := Lib.hid (HO2.out.trans' hO3)
        clear hO3 d0 d1 d2 d3 y3
        go_wp2
        go_roundg (gk - 1)
        case measure => omega
        case rel => exact ⟨j + 1, by omega, by rw [HLT.out, HQ.out, if_pos rfl]; go_num, by go_num, HO3.out, all_take hjz HAL.out HM.out⟩
  · obtain rfl : j = na := by omega
    have hfull : its.take j = its := List.take_of_length_le (by rw [HL.out]; omega)
    have hal := HAL.out
    rw [hfull] at hal hld ⊢
    have HAL' := Lib.hid hal
    have HY := Lib.hid (rcMay_yes (r := ⟨m, n, p, its, bl⟩) HH.out HAL'.out)
    have x4 := HO1.out.cell X4.out (by simp)
    have hlb := HLB.out
    generalize hlv : loads its = lv at *
    have hl9 : lv ≤ 6 := by omega
    have hd : decide (bl.length = lv) = decide (nb = lv) := by rw [hlb]
    have HD := Lib.hid hd
    clear hal hfull hlv hd hlb
    by_cases hnl : nb = lv
    · have hn1 : ((lv : Int) != (nb : Int)) = false := by simp; omega
      subst hnl
      have HOA := Lib.hid (HO.out.trans' HO1.out)
      clear hn1
      go_wp2_with fail
      generalize hwq : wr = wq at *
      clear hwq
      go_loopg [5] nb (fun r i wr => ∃ t : Nat, t + r = nb ∧ i = .int .i64 t ∧ wq = wr ∧ full64 (bl.take t) = true)
      case atStart => exact ⟨0, by omega, rfl, rfl, by simp [full64]⟩
      obtain ⟨t, ht, rfl, rfl, hal⟩ := hrel
      have HFT := Lib.hid hal
      clear hal
      by_cases hlt2 : t < nb
      · have hjz : t < bl.length := by rw [HLB.out]; exact hlt2
        obtain ⟨a, o, B', m', d', rfl, c0, hb⟩ := ((HJ.out.keep0 HO.out).keep0 HO1.out).at_ t hlt2
        have hbl := hb.len
        have hbm := hb.le
        have hbd := hb.cm
        rw [bvs_length] at hbl
        unfold maxLen at hbd
        have hlt3 : (t : Int) < (nb : Int) := by omega
        have hge : 0 ≤ (t : Int) := by omega
        have htn : ((t : Int)).toNat = t := by omega
        cases hm : is64 bl[t]
        · have HM := Lib.hid hm
          have h64 : ((m' : Int) != 64) = true := by unfold is64 at hm; simp at hm ⊢; omega
          clear hm hb hbl
          go_wp2
          go_ret
          exact ⟨by rw [HY.out, full_no hjz HM.out, Bool.and_false]; rfl, HOA.out⟩
        · have HM := Lib.hid hm
          have h64 : ((m' : Int) != 64) = false := by unfold is64 at hm; simp at hm ⊢; omega
          clear hm hb hbl
          go_wp2
          go_roundg (gk - 1)
          case measure => omega
          case rel => exact ⟨t + 1, by omega, by go_num, rfl, full_take hjz HFT.out HM.out⟩
      · obtain rfl : t = nb := by omega
        have hfull : bl.take t = bl := List.take_of_length_le (by rw [HLB.out]; omega)
        have hal := HFT.out
        rw [hfull] at hal
        have HF := Lib.hid hal
        clear hal hfull
        go_wp2
        go_ret
        exact ⟨by rw [HY.out, HD.out, HF.out]; simp, HOA.out⟩
    · have hn1 : ((lv : Int) != (nb : Int)) = true := by simp; omega
      have HNL := Lib.hid hnl
      clear hnl
      go_wp2_with fail
      go_ret
      refine ⟨?_, HO.out.trans' HO1.out⟩
      rw [HY.out, HD.out, decide_eq_false HNL.out]
      simp
theorem ref_rec_may_any (m n p : Int) (A : Option Addr) (na ca : Nat) (its : List It) (B : Option Addr) (nb cb : Nat) (bl : List (List UInt8)) (w : World) (hi : Its w A na ca its) (hj : Blks w B nb cb bl) :
    Calls Try.prog 21 #[.agg #[.int .i64 m, .int .i64 n, .int .i64 p, .slice A na ca, .slice B nb cb]] w fun e w' => e = .returned (.bool (rcMay ⟨m, n, p, its, bl⟩)) ∧ Only [] w w' := by
  cases h : rcHeadMay ⟨m, n, p, its, bl⟩ with
  | true => exact ref_rec_may_yes m n p A na ca its B nb cb bl w hi hj h
  | false =>
    rw [rcMay_head h]
    refine ref_rec_may_no m n p A na ca B nb cb w hi.le hi.cm ?_
    have hl := hi.len
    have e : decide (1 ≤ its.length ∧ its.length ≤ 6) = decide (1 ≤ (na : Int) ∧ (na : Int) ≤ 6) := by rw [hl]; congr 1; simp only [eq_iff_iff]; omega
    rw [← e]
    exact h

set_option maxRecDepth 100000 in
set_option maxHeartbeats 4000000 in
theorem ref_rec_size_any (A : Option Addr) (n c : Nat) (b : List UInt8) (w : World) (hi : Bys w A n c b) :
    Calls Try.prog 29 #[.slice A n c] w fun e w' => e = .returned (.int .i64 (sizeRc b : Nat)) ∧ Only [] w w' := by
  have hlen := hi.len
  rw [bvs_length] at hlen
  have HI := Lib.hid hi
  have HL := Lib.hid hlen
  clear hi
  by_cases hs : b.length = 64 ∧ b[0]? = some 75 ∧ b[1]? = some 82
  · have hds : decide (b.length = 64 ∧ b[0]? = some 75 ∧ b[1]? = some 82) = true := decide_eq_true hs
    have HDS := Lib.hid hds
    obtain ⟨h64, hm⟩ := hs
    have hm2 : b.take 2 = [75, 82] := (take2_iff h64 75 82).2 hm
    obtain ⟨ga, oa, rfl, hc⟩ := HI.out.at_ (by omega)
    have c14 := hc 14 (by rw [bvs_length]; omega)
    have c15 := hc 15 (by rw [bvs_length]; omega)
    rw [bvs_get] at c14 c15
    have e14 : rcN b = (b[14]'(by omega)).toNat := num_at (by omega)
    have e15 : rcK b = (b[15]'(by omega)).toNat := num_at (by omega)
    rw [← e14] at c14
    rw [← e15] at c15
    have hb1 : rcN b ≤ 255 := by rw [e14]; have := (b[14]'(by omega)).toNat_lt; omega
    have hb2 : rcK b ≤ 255 := by rw [e15]; have := (b[15]'(by omega)).toNat_lt; omega
    have hn64 : n = 64 := by omega
    have hsz : sizeRc b = if (decide (1 ≤ (rcN b : Int) ∧ (rcN b : Int) ≤ 6) && decide (rcK b ≤ rcN b)) = true then 1 + rcK b else 0 := by
      unfold sizeRc rcHd
      rw [decide_eq_true hm2, Bool.true_and]
      have e1 : decide (1 ≤ rcN b ∧ rcN b ≤ 6) = decide (1 ≤ (rcN b : Int) ∧ (rcN b : Int) ≤ 6) := by congr 1; simp only [eq_iff_iff]; omega
      rw [e1]
      simp only [h64, true_and]
    have HSZ := Lib.hid hsz
    clear hds h64 hm hm2 hc e14 e15 hsz hlen
    generalize rcN b = N at *
    generalize rcK b = K at *
    subst hn64
    obtain ⟨q, hq⟩ : ∃ q, decide (1 ≤ (N : Int) ∧ (N : Int) ≤ 6) = q := ⟨_, rfl⟩
    have HQ := Lib.hid hq
    clear hq
    go_enter Try.func29, Try.ntmps29
    go_wp2_with fail
    refine (ref_starts_any _ _ _ b 64 75 82 64 75 82 _ HI.out rfl rfl rfl (by decide)).mono ?_
    rintro e w1 ⟨rfl, rfl⟩
    rw [HDS.out]
    go_wp2_with fail
    refine (within_any _ _ _ _).mono ?_
    rintro e w1 ⟨rfl, rfl⟩
    rw [HQ.out]
    cases q
    · go_wp2
      go_ret
      exact ⟨by rw [HSZ.out, HQ.out]; rfl, Only.refl _ _⟩
    · by_cases hk : K ≤ N
      · have hk2 : decide (N < K) = false := decide_eq_false (by omega)
        have HK := Lib.hid hk
        clear hk
        go_wp2
        go_ret
        refine ⟨?_, Only.refl _ _⟩
        rw [HSZ.out, HQ.out, decide_eq_true HK.out, if_pos (by rfl)]
        go_num
      · have hk2 : decide (N < K) = true := decide_eq_true (by omega)
        have HK := Lib.hid hk
        clear hk
        go_wp2
        go_ret
        refine ⟨?_, Only.refl _ _⟩
        rw [HSZ.out, HQ.out, decide_eq_false HK.out]
        rfl
  · have hds : decide (b.length = 64 ∧ b[0]? = some 75 ∧ b[1]? = some 82) = false := decide_eq_false hs
    have HDS := Lib.hid hds
    have hsz : sizeRc b = 0 := by
      unfold sizeRc rcHd
      rw [if_neg]
      rintro ⟨h1, h2⟩
      simp only [Bool.and_eq_true, decide_eq_true_eq] at h2
      exact hs ⟨h1, (take2_iff h1 75 82).1 h2.1⟩
    have HSZ := Lib.hid hsz
    clear hs hds hsz hlen
    go_enter Try.func29, Try.ntmps29
    go_wp2_with fail
    refine (ref_starts_any _ _ _ b 64 75 82 64 75 82 _ HI.out rfl rfl rfl (by decide)).mono ?_
    rintro e w1 ⟨rfl, rfl⟩
    rw [HDS.out]
    go_wp2
    go_ret
    exact ⟨by rw [HSZ.out]; rfl, Only.refl _ _⟩

set_option maxRecDepth 100000 in
set_option maxHeartbeats 8000000 in
theorem alike_blocks_any (A : Option Addr) (n c : Nat) (xs : List (List UInt8)) (B : Option Addr) (m d : Nat) (ys : List (List UInt8)) (w : World) (hx : Blks w A n c xs) (hy : Blks w B m d ys) :
    Calls Try.prog 98 #[.slice A n c, .slice B m d] w fun e w' => e = .returned (.bool (decide (xs = ys))) ∧ ∃ k, w' = w.drewN k := by
  have hlx := hx.len
  have hly := hy.len
  have hcm := hx.cm
  have hcl := hx.le
  have hdm := hy.cm
  have hdl := hy.le
  unfold maxLen at hcm hdm
  have HX := Lib.hid hx
  have HY := Lib.hid hy
  have HLX := Lib.hid hlx
  have HLY := Lib.hid hly
  clear hx hy hlx hly
  by_cases hnm : n = m
  · subst hnm
    go_enter Try.func98, Try.ntmps98
    go_wp2_with fail
    go_loopg [5] n (fun r i wr => ∃ j : Nat, j + r = n ∧ i = .int .i64 j ∧ (∃ k, wr = w.drewN k) ∧ xs.take j = ys.take j)
    case atStart => exact ⟨0, by omega, rfl, ⟨0, rfl⟩, by simp⟩
    obtain ⟨j, hj, rfl, ⟨k, hwk⟩, htk⟩ := hrel
    have HWK := Lib.hid hwk
    have HT := Lib.hid htk
    clear htk
    by_cases hlt : j < n
    · have hjx : j < xs.length := by rw [HLX.out]; exact hlt
      have hjy : j < ys.length := by rw [HLY.out]; exact hlt
      obtain ⟨ga, oa, Ax, nx, cx, rfl, p0', hbx⟩ := HX.out.at_ j hlt
      obtain ⟨gb, ob, Ay, ny, cy, rfl, q0', hby⟩ := HY.out.at_ j hlt
      have p0 : wr.cell? ⟨ga, oa + j, none⟩ = some (.slice Ax nx cx) := by rw [hwk]; exact p0'
      have q0 : wr.cell? ⟨gb, ob + j, none⟩ = some (.slice Ay ny cy) := by rw [hwk]; exact q0'
      have HBX := Lib.hid hbx
      have HBY := Lib.hid hby
      have hlt2 : (j : Int) < (n : Int) := by omega
      have hge : 0 ≤ (j : Int) := by omega
      have htn : ((j : Int)).toNat = j := by omega
      clear hbx hby p0' q0' hwk
      generalize hgx : xs[j] = x at *
      generalize hgy : ys[j] = y at *
      have HGX := Lib.hid hgx
      have HGY := Lib.hid hgy
      clear hgx hgy
      obtain ⟨q, hq⟩ : ∃ q, decide (x = y) = q := ⟨_, rfl⟩
      have HQ := Lib.hid hq
      have HC : Hid (∀ V, (∃ m, V = w.drewN m) → Calls Try.prog 24 #[.slice Ax nx cx, .slice Ay ny cy] V fun e w' => e = .returned (.bool q) ∧ ∃ k, w' = V.drewN k) := Lib.hid (fun V hV => by
        obtain ⟨m, rfl⟩ := hV
        have := alike_bytes_any Ax nx cx x Ay ny cy y (w.drewN m) (HBX.out.drewN m) (HBY.out.drewN m)
        rw [hq] at this
        exact this)
      clear hq
      go_wp2_with fail
      go_quiet ((go_at_call 24; exact Calls.quiet_of (HC.out _ ⟨_, by rw [HWK.out, World.drewN_drewN]⟩)))
      cases q
      · go_wp2
        go_ret
        have hd : xs ≠ ys := by
          intro h
          subst h
          have h1 := HGX.out
          rw [HGY.out] at h1
          subst h1
          have := HQ.out
          simp at this
        exact ⟨by simp [hd], k + nq, by rw [HWK.out, World.drewN_drewN]⟩
      · go_wp2
        go_roundg (gk - 1)
        case measure => omega
        case rel =>
          refine ⟨j + 1, by omega, by go_num, ⟨k + nq, by rw [HWK.out, World.drewN_drewN]⟩, ?_⟩
          have h1 := of_decide_eq_true HQ.out
          rw [List.take_succ_eq_append_getElem hjx, List.take_succ_eq_append_getElem hjy, HT.out, HGX.out, HGY.out, h1]
    · obtain rfl : j = n := by omega
      clear hwk
      go_wp2
      go_ret
      have : xs = ys := by
        have := HT.out
        rwa [List.take_of_length_le (by rw [HLX.out]; omega), List.take_of_length_le (by rw [HLY.out]; omega)] at this
      exact ⟨by simp [this], k, HWK.out⟩
  · have hd : xs ≠ ys := fun h => hnm (by subst h; have := HLX.out; have := HLY.out; omega)
    have hne : ((n : Int) != (m : Int)) = true := by rw [bne_iff_ne]; omega
    go_enter Try.func98, Try.ntmps98
    go_wp2
    go_ret
    exact ⟨by simp [hd], 0, rfl⟩

set_option maxRecDepth 100000 in
set_option maxHeartbeats 8000000 in
theorem alike_record_any (m1 n1 p1 : Int) (A : Option Addr) (na ca : Nat) (its : List It) (B : Option Addr) (nb cb : Nat) (bl : List (List UInt8)) (m2 n2 p2 : Int) (A' : Option Addr) (na' ca' : Nat) (its' : List It) (B' : Option Addr) (nb' cb' : Nat) (bl' : List (List UInt8)) (w : World) (hi : Its w A na ca its) (hj : Blks w B nb cb bl) (hi' : Its w A' na' ca' its') (hj' : Blks w B' nb' cb' bl') :
    Calls Try.prog 27 #[.agg #[.int .i64 m1, .int .i64 n1, .int .i64 p1, .slice A na ca, .slice B nb cb], .agg #[.int .i64 m2, .int .i64 n2, .int .i64 p2, .slice A' na' ca', .slice B' nb' cb']] w
      fun e w' => e = .returned (.bool (decide ((⟨m1, n1, p1, its, bl⟩ : Rc) = ⟨m2, n2, p2, its', bl'⟩))) ∧ Only [] w w' := by
  have HI := Lib.hid hi
  have HJ := Lib.hid hj
  have HI' := Lib.hid hi'
  have HJ' := Lib.hid hj'
  clear hi hj hi' hj'
  have hE : decide ((⟨m1, n1, p1, its, bl⟩ : Rc) = ⟨m2, n2, p2, its', bl'⟩) = (m1 == m2 && (n1 == n2 && (p1 == p2 && (decide (its = its') && decide (bl = bl'))))) := by
    rw [Bool.eq_iff_iff]
    simp [Rc.mk.injEq]
  have HE := Lib.hid hE
  rw [hE]
  clear hE
  have hO0 := ((Only.refl [] w).alloc (.cells #[.int .i64 m1, .int .i64 n1, .int .i64 p1, .slice A na ca, .slice B nb cb] 47)).alloc (.cells #[.int .i64 m2, .int .i64 n2, .int .i64 p2, .slice A' na' ca', .slice B' nb' cb'] 47)
  have HO0 := Lib.hid hO0
  clear hO0
  obtain ⟨q1, h1⟩ : ∃ q, (m1 == m2) = q := ⟨_, rfl⟩
  obtain ⟨q2, h2⟩ : ∃ q, (n1 == n2) = q := ⟨_, rfl⟩
  obtain ⟨q3, h3⟩ : ∃ q, (p1 == p2) = q := ⟨_, rfl⟩
  obtain ⟨q4, h4⟩ : ∃ q, decide (its = its') = q := ⟨_, rfl⟩
  obtain ⟨q5, h5⟩ : ∃ q, decide (bl = bl') = q := ⟨_, rfl⟩
  have H4 := Lib.hid h4
  have H5 := Lib.hid h5
  rw [h1, h2, h3, h4, h5]
  clear h4 h5 HE
  cases q1
  · go_enter Try.func27, Try.ntmps27
    go_wp2
    go_ret
    exact ⟨rfl, HO0.out⟩
  cases q2
  · go_enter Try.func27, Try.ntmps27
    go_wp2
    go_ret
    exact ⟨rfl, HO0.out⟩
  cases q3
  · go_enter Try.func27, Try.ntmps27
    go_wp2
    go_ret
    exact ⟨rfl, HO0.out⟩
  cases q4
  · go_enter Try.func27, Try.ntmps27
    go_wp2_with fail
    refine (alike_items_any A na ca its A' na' ca' its' _ (by exact HI.out.keep0 HO0.out) (by exact HI'.out.keep0 HO0.out)).mono ?_
    rintro e w3 ⟨rfl, k, rfl⟩
    rw [H4.out]
    go_wp2
    go_ret
    exact ⟨rfl, HO0.out.drewN _⟩
  · go_enter Try.func27, Try.ntmps27
    go_wp2_with fail
    refine (alike_items_any A na ca its A' na' ca' its' _ (by exact HI.out.keep0 HO0.out) (by exact HI'.out.keep0 HO0.out)).mono ?_
    rintro e w3 ⟨rfl, k, rfl⟩
    rw [H4.out]
    go_wp2_with fail
    refine (alike_blocks_any B nb cb bl B' nb' cb' bl' _ (by exact (HJ.out.keep0 HO0.out).keep0 ((Only.refl _ _).drewN _)) (by exact (HJ'.out.keep0 HO0.out).keep0 ((Only.refl _ _).drewN _))).mono ?_
    rintro e w4 ⟨rfl, k2, rfl⟩
    rw [H5.out]
    go_wp2
    go_ret
    exact ⟨rfl, HO0.out.os, HO0.out.tape, HO0.out.output, HO0.out.size, HO0.out.block⟩
end Go.Proofs.Ytoibehikojkoiaa
