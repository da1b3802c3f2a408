
/- Contracts of item.Encode and the reference's ItemBytes. -/
import Derived.Test.YtkpagiokjihmhaaItemP
import Derived.Test.YtkpagiokjihmhaaRowD
import Derived.Deep.RegionHeld3
set_option linter.unusedVariables false
namespace Go.Proofs.Ytkpagiokjihmhaa
open Go Go.RowKit Go.Kn

/-- the ints of a variadic call, just built -/
theorem ins_built (w : World) (zs : List Int) (t : TypeId) (n : Nat) (hn : zs.length = n) (hm : n ≤ 1000000) : Ins (w.alloc (.cells (zs.map (Value.int .i64)).toArray t)) (some ⟨w.heap.size, 0, none⟩) n n zs := by
  have h := Own.new w (zs.map (Value.int .i64)).toArray t
  exact Row1.of_Own (by simpa [ivs] using h) (by simpa using hn) (Nat.le_refl _) (by unfold maxLen; omega)
theorem ne_built {w : World} {p g k : Nat} {bs : List UInt8} (h : RowAt w p g bs k) : ∀ a, some (⟨w.heap.size, 0, none⟩ : Addr) = some a → a.block ≠ p ∧ a.block ≠ g := by
  intro a ha
  injection ha with ha
  subst ha
  have h1 := h.lp
  have h2 := h.lg
  exact ⟨by simp; omega, by simp; omega⟩

theorem made_row {w w' : World} {A : Option Addr} {c : Nat} {bs : List UInt8} (hc : bs.length ≤ c) (hm : c ≤ maxLen) (hpos : 0 < bs.length → ∃ g, A = some ⟨g, 0, none⟩ ∧ w.heap.size ≤ g ∧ Own w' g (bvs bs)) : Bys w' A bs.length c bs := by
  rcases Nat.eq_zero_or_pos bs.length with h0 | h0
  · exact ⟨by simp, hc, hm, fun h => absurd h (by omega)⟩
  · obtain ⟨g, rfl, _, ho⟩ := hpos h0
    exact Row1.of_Own ho (by simp) hc hm

/-- one item more is laid -/
theorem lay_item {zr : List UInt8} {l : List It} {j : Nat} (hj : j < l.length) (hz : zr.length = 7 * l.length) :
    lay (lay (lay zr 0 (itsB (l.take j))) (7 * j) (les 1 [l[j].k, l[j].b, l[j].c])) (7 * j + 1 * 3) (les 4 [l[j].v]) = lay zr 0 (itsB (l.take (j + 1))) := by
  have h1 : (itsB (l.take j)).length = 7 * j := by rw [itsB_length, List.length_take, Nat.min_eq_left (by omega)]
  have e1 := lay_lay zr 0 (itsB (l.take j)) (les 1 [l[j].k, l[j].b, l[j].c]) (by rw [h1]; simp; omega)
  rw [h1, Nat.zero_add] at e1
  have h2 : (itsB (l.take j) ++ les 1 [l[j].k, l[j].b, l[j].c]).length = 7 * j + 3 := by rw [List.length_append, h1]; simp
  have e2 := lay_lay zr 0 (itsB (l.take j) ++ les 1 [l[j].k, l[j].b, l[j].c]) (les 4 [l[j].v]) (by rw [h2]; simp; omega)
  rw [h2, Nat.zero_add] at e2
  rw [e1, e2, List.append_assoc]
  have e3 : les 1 [l[j].k, l[j].b, l[j].c] ++ les 4 [l[j].v] = l[j].bytes := rfl
  rw [e3, ← itsB_snoc, ← List.take_succ_eq_append_getElem hj]

theorem all_take {l : List It} {j : Nat} (hj : j < l.length) (h : (l.take j).all It.may = true) (hm : l[j].may = true) : (l.take (j + 1)).all It.may = true := by
  rw [List.take_succ_eq_append_getElem hj, List.all_append, h]
  simp [hm]
theorem enc_bad {l : List It} {j : Nat} (hj : j < l.length) (hm : l[j].may = false) : encItems l = none := by
  unfold encItems
  rw [if_neg]
  intro h
  have := List.all_eq_true.1 h.2 l[j] (List.getElem_mem _)
  rw [hm] at this
  cases this

set_option maxRecDepth 100000 in
set_option maxHeartbeats 2000000 in
theorem item_enc_any (A : Option Addr) (n c : Nat) (l : List It) (w : World) (hi : Its w A n c l) :
    Calls Try.prog 139 #[.slice A n c] w (EncSays w (encItems l)) := by
  have hlen := hi.len
  have hcm := hi.cm
  have hcl := hi.le
  unfold maxLen at hcm
  by_cases h6 : n ≤ 6
  · have hd6 : decide (6 < (n : Int)) = false := by simp; omega
    have HI := Lib.hid hi
    have HL := Lib.hid hlen
    clear hi hlen
    go_enter Try.func139, Try.ntmps139
    go_wp2_with fail
    refine (new_any (7 * (n : Int)) _ (by omega) (by omega)).mono ?_
    rintro e w1 ⟨p, g, rfl, hp, hg, hr1, hO1⟩
    have hzr : (List.replicate (7 * (n : Int)).toNat (0 : UInt8)).length = 7 * n := by simp <;> omega
    generalize List.replicate (7 * (n : Int)).toNat (0 : UInt8) = zr at *
    have HZR := Lib.hid hzr
    have HO1 := Lib.hid hO1
    have HR1 := Lib.hid hr1
    clear hO1 hr1 hzr
    go_wp2_with fail
    go_loopg [16] n (fun r i wr => ∃ j : Nat, j + r = n ∧ i = .int .i64 j ∧ RowAt wr p g (lay zr 0 (itsB (l.take j))) (7 * j) ∧ Only [] w wr ∧ (l.take j).all It.may = true)
    case atStart => exact ⟨0, by omega, rfl, by simpa [lay_nil, itsB] using HR1.out, HO1.out, by simp⟩
    obtain ⟨j, hj, rfl, hr, hO, hal⟩ := hrel
    have HR := Lib.hid hr
    have HO := Lib.hid hO
    have HAL := Lib.hid hal
    have hlp := hr.lp
    have hlg := hr.lg
    clear hr hO hal
    by_cases hlt : j < n
    · have hjz : j < l.length := by rw [HL.out]; exact hlt
      obtain ⟨a, o, rfl, hc⟩ := HI.out.at_ (by omega)
      obtain ⟨q0, q1, q2, q3⟩ := hc j hjz
      have c0 := HO.out.cell q0 (by simp)
      have c1 := HO.out.cell q1 (by simp)
      have c2 := HO.out.cell q2 (by simp)
      have c3 := HO.out.cell q3 (by simp)
      have HIT : Hid (l[j] = ⟨l[j].k, l[j].b, l[j].c, l[j].v⟩) := Lib.hid rfl
      clear hc q0 q1 q2 q3
      cases hm : l[j].may
      · have HM := Lib.hid hm
        clear hm
        generalize hik : l[j].k = ik at *
        generalize hib : l[j].b = ib at *
        generalize hic : l[j].c = ic at *
        generalize hiv : l[j].v = iv at *
        have HME : Hid (It.may ⟨ik, ib, ic, iv⟩ = false) := Lib.hid (by rw [← HIT.out]; exact HM.out)
        clear hik hib hic hiv
        go_wp2_with fail
        refine (item_may_any ik ib ic iv _).mono ?_
        rintro e w2 ⟨rfl, hO2⟩
        rw [HME.out]
        go_wp2
        go_ret2
        exact EncSays.no (enc_bad hjz HM.out) ((HO.out.alloc _).trans' hO2)
      · have HM := Lib.hid hm
        have HF1 := Lib.hid (It.fit1 hm)
        have HF4 := Lib.hid (It.fit4 hm)
        have HLI := Lib.hid (lay_item hjz (show zr.length = 7 * l.length by rw [HZR.out, HL.out]))
        have hk1 : (lay zr 0 (itsB (l.take j))).length = 7 * n := by rw [lay_length _ _ _ (by rw [itsB_length, HZR.out, List.length_take]; omega), HZR.out]
        have HK1 := Lib.hid hk1
        clear hm hk1
        generalize hik : l[j].k = ik at *
        generalize hib : l[j].b = ib at *
        generalize hic : l[j].c = ic at *
        generalize hiv : l[j].v = iv at *
        have HME : Hid (It.may ⟨ik, ib, ic, iv⟩ = true) := Lib.hid (by rw [← HIT.out]; exact HM.out)
        clear hik hib hic hiv
        generalize lay zr 0 (itsB (l.take j)) = X at *
        generalize hX' : lay zr 0 (itsB (l.take (j + 1))) = X' at *
        have HX' := Lib.hid hX'
        clear hX'
        go_wp2_with fail
        refine (item_may_any ik ib ic iv _).mono ?_
        rintro e w2 ⟨rfl, hO2⟩
        rw [HME.out]
        have x0 := hO2.cell (p := ⟨wr.heap.size, 0, none⟩) (v := .int .i64 ik) (by simp) (by simp)
        have x1 := hO2.cell (p := ⟨wr.heap.size, 1, none⟩) (v := .int .i64 ib) (by simp) (by simp)
        have x2 := hO2.cell (p := ⟨wr.heap.size, 2, none⟩) (v := .int .i64 ic) (by simp) (by simp)
        have x3 := hO2.cell (p := ⟨wr.heap.size, 3, none⟩) (v := .int .i64 iv) (by simp) (by simp)
        have HR2 := Lib.hid ((HR.out.alloc (.cells #[.int .i64 ik, .int .i64 ib, .int .i64 ic, .int .i64 iv] 77)).keep0 hO2)
        have HO2 := Lib.hid ((HO.out.alloc (.cells #[.int .i64 ik, .int .i64 ib, .int .i64 ic, .int .i64 iv] 77)).trans' hO2)
        have hsz2 := hO2.size
        clear hO2 HR HO c0 c1 c2 c3
        have hpw : wr.heap.size < w2.heap.size := by simp at hsz2; omega
        go_wp2_with fail
        refine (put_any p g (7 * j) X 1 _ 3 3 [ik, ib, ic] _ (by exact HR2.out.alloc _) (by exact ins_built _ [ik, ib, ic] _ 3 rfl (by omega)) (by exact ne_built HR2.out) (by decide) (by rw [HK1.out]; omega) HF1.out).mono ?_
        rintro e w3 ⟨rfl, hr3, hO3⟩
        have hO3' := ((Only.refl [p, g] w2).alloc (.cells #[.int .i64 ik, .int .i64 ib, .int .i64 ic] 3)).trans' hO3
        have x3' := hO3'.cell x3 (by simp; omega)
        have HR3 := Lib.hid hr3
        have HO3 := Lib.hid ((HO2.out.alloc _).trans hO3 (by simp; omega) : Only [] w w3)
        have hk3 : (lay X (7 * j) (les 1 [ik, ib, ic])).length = 7 * n := by rw [lay_length _ _ _ (by simp; have := HK1.out; omega)]; exact HK1.out
        have HK3 := Lib.hid hk3
        clear x0 x1 x2 x3 hr3 hO3 hO3' hk3 HR2 HO2
        go_wp2_with fail
        refine (put_any p g (7 * j + 1 * 3) _ 4 _ 1 1 [iv] _ (by exact HR3.out.alloc _) (by exact ins_built _ [iv] _ 1 rfl (by omega)) (by exact ne_built HR3.out) (by decide) (by rw [HK3.out]; omega) HF4.out).mono ?_
        rintro e w4 ⟨rfl, hr4, hO4⟩
        rw [HLI.out] at hr4
        have HR4 := Lib.hid hr4
        have HO4 := Lib.hid ((HO3.out.alloc _).trans hO4 (by simp; omega) : Only [] w w4)
        clear hr4 hO4 HR3 HO3
        go_wp2
        go_roundg (gk - 1)
        case measure => omega
        case rel =>
          have e : 7 * (j + 1) = 7 * j + 1 * 3 + 4 * 1 := by omega
          refine ⟨j + 1, by omega, by go_num, ?_, HO4.out, all_take hjz HAL.out HM.out⟩
          rw [e, HX'.out]
          exact HR4.out
    · obtain rfl : j = n := by omega
      have hfull : l.take j = l := List.take_of_length_le (by rw [HL.out]; omega)
      have hr := HR.out
      rw [hfull, lay_all _ _ (by rw [itsB_length, HZR.out, HL.out])] at hr
      have hal := HAL.out
      rw [hfull] at hal
      have henc : encItems l = some (itsB l) := by unfold encItems; rw [if_pos ⟨by rw [HL.out]; exact h6, hal⟩]
      have HR' := Lib.hid hr
      have HE := Lib.hid henc
      clear hr hal henc hfull HR
      go_wp2_with fail
      refine (bytes_any p g _ (itsB l) _ (by exact HR'.out)).mono ?_
      rintro e w3 ⟨A3, c3, rfl, hc3, hm3, hpos3, hO3⟩
      have HB3 := Lib.hid (And.intro hc3 (And.intro hm3 hpos3))
      have hszz := HO.out.size
      go_wp2
      go_ret2
      rw [HE.out]
      refine ⟨A3, c3, rfl, ?_, ?_, HO.out.trans' hO3⟩
      · exact made_row HB3.out.1 HB3.out.2.1 HB3.out.2.2
      · intro h0 a ha
        obtain ⟨g3, rfl, hg3, _⟩ := HB3.out.2.2 h0
        injection ha with ha
        subst ha
        exact Nat.le_trans hszz hg3
  · have hd6 : decide (6 < (n : Int)) = true := by simp; omega
    have henc : encItems l = none := by unfold encItems; rw [if_neg]; omega
    go_enter Try.func139, Try.ntmps139
    go_wp2
    go_ret2
    exact EncSays.no henc (Only.refl _ _)

end Go.Proofs.Ytkpagiokjihmhaa
