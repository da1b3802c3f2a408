
/- alike.Uses, alike.Region: of the same region. -/
import Derived.Test.YtkpagiokjihmhaaRegI
import Derived.Test.YtkpagiokjihmhaaScrL
set_option linter.unusedVariables false
set_option linter.unusedSimpArgs false
namespace Go.Proofs.Ytkpagiokjihmhaa
open Go Go.RowKit Go.Kn

set_option maxRecDepth 100000 in
set_option maxHeartbeats 4000000 in
theorem alike_uses_same (A : Option Addr) (n c : Nat) (xs : List (Int × Int)) (B : Option Addr) (d : Nat) (w : World) (hx : Uss w A n c xs) (hy : Uss w B n d xs) :
    Calls Try.prog 70 #[.slice A n c, .slice B n d] w fun e w' => e = .returned (.bool true) ∧ ∃ k, w' = w.drewN k := by
  have hlx := hx.len
  have hcm := hx.cm
  have hcl := hx.le
  have hdm := hy.cm
  have hdl := hy.le
  unfold maxLen at hcm hdm
  have HX := Lib.hid hx
  have HY := Lib.hid hy
  have HLX := Lib.hid hlx
  clear hx hy hlx
  go_enter Try.func70, Try.ntmps70
  go_wp2_with fail
  go_loopg [5] n (fun r i wr => ∃ j : Nat, j + r = n ∧ i = .int .i64 j ∧ (∃ k, wr = w.drewN k))
  case atStart => exact ⟨0, by omega, rfl, ⟨0, rfl⟩⟩
  obtain ⟨j, hj, rfl, ⟨k, rfl⟩⟩ := hrel
  by_cases hlt : j < n
  · have hjx : j < xs.length := by rw [HLX.out]; exact hlt
    obtain ⟨ga, oa, rfl, hca⟩ := HX.out.at_ (by omega)
    obtain ⟨gb, ob, rfl, hcb⟩ := HY.out.at_ (by omega)
    obtain ⟨p0, p1⟩ := hca j hjx
    obtain ⟨q0, q1⟩ := hcb j hjx
    clear hca hcb
    have hlt2 : (j : Int) < (n : Int) := by omega
    have hge : 0 ≤ (j : Int) := by omega
    have htn : ((j : Int)).toNat = j := by omega
    have hgd := Try.eqGuardType120
    generalize xs[j].1 = x0 at *
    generalize xs[j].2 = x1 at *
    go_wp2_with fail
    go_quiet (fail)
    go_wp2
    go_roundg (gk - 1)
    case measure => omega
    case rel => exact ⟨j + 1, by omega, by go_num, ⟨_, rfl⟩⟩
  · obtain rfl : j = n := by omega
    go_wp2
    go_ret
    exact ⟨rfl, k, rfl⟩

set_option maxRecDepth 100000 in
set_option maxHeartbeats 8000000 in
theorem alike_region_same (g v m e sq d ps po pl pp pm : Int) (base over : List Int) (segs : List (Int × Int)) (bA : Option Addr) (bn bc : Nat) (oA : Option Addr) (on oc : Nat) (sA : Option Addr) (sn sc : Nat) (bA' : Option Addr) (bn' bc' : Nat) (oA' : Option Addr) (on' oc' : Nat) (sA' : Option Addr) (sn' sc' : Nat) (w : World)
    (hx : RgAt w ⟨g, v, m, e, sq, d, ps, po, pl, pp, pm, base, over, segs⟩ (bA, bn, bc) (oA, on, oc) (sA, sn, sc)) (hy : RgAt w ⟨g, v, m, e, sq, d, ps, po, pl, pp, pm, base, over, segs⟩ (bA', bn', bc') (oA', on', oc') (sA', sn', sc')) :
    Calls Try.prog 22 #[.agg #[.int .i64 g, .int .i64 v, .int .i64 m, .int .i64 e, .int .i64 sq, .int .i64 d, .int .i64 ps, .int .i64 po, .int .i64 pl, .int .i64 pp, .int .i64 pm, .slice bA bn bc, .slice oA on oc, .slice sA sn sc], .agg #[.int .i64 g, .int .i64 v, .int .i64 m, .int .i64 e, .int .i64 sq, .int .i64 d, .int .i64 ps, .int .i64 po, .int .i64 pl, .int .i64 pp, .int .i64 pm, .slice bA' bn' bc', .slice oA' on' oc', .slice sA' sn' sc']] w
      fun en w' => en = .returned (.bool true) ∧ Only [] w w' := by
  obtain ⟨x1, x2, x3⟩ := hx
  obtain ⟨y1, y2, y3⟩ := hy
  dsimp only at x1 x2 x3 y1 y2 y3
  have hbn : bn' = bn := by have h1 := x1.len; have h2 := y1.len; omega
  have hon : on' = on := by have h1 := x2.len; have h2 := y2.len; omega
  have hsn : sn' = sn := by have h1 := x3.len; have h2 := y3.len; omega
  subst hbn hon hsn
  have X1 := Lib.hid x1
  have X2 := Lib.hid x2
  have X3 := Lib.hid x3
  have Y1 := Lib.hid y1
  have Y2 := Lib.hid y2
  have Y3 := Lib.hid y3
  clear x1 x2 x3 y1 y2 y3
  have hgd := Try.eqGuardType49
  have d1 : decide (base = base) = true := by simp
  have d2 : decide (over = over) = true := by simp
  have HD1 := Lib.hid d1
  have HD2 := Lib.hid d2
  clear d1 d2
  have HW : Hid (Only [] w ((w.alloc (.cells #[.int .i64 g, .int .i64 v, .int .i64 m, .int .i64 e, .int .i64 sq, .int .i64 d, .int .i64 ps, .int .i64 po, .int .i64 pl, .int .i64 pp, .int .i64 pm, .slice bA bn' bc, .slice oA on' oc, .slice sA sn' sc] 52)).alloc (.cells #[.int .i64 g, .int .i64 v, .int .i64 m, .int .i64 e, .int .i64 sq, .int .i64 d, .int .i64 ps, .int .i64 po, .int .i64 pl, .int .i64 pp, .int .i64 pm, .slice bA' bn' bc', .slice oA' on' oc', .slice sA' sn' sc'] 52))) := Lib.hid (((Only.refl _ _).alloc _).alloc _)
  go_enter Try.func22, Try.ntmps22
  have hB := Own.new (w.alloc (.cells #[.int .i64 g, .int .i64 v, .int .i64 m, .int .i64 e, .int .i64 sq, .int .i64 d, .int .i64 ps, .int .i64 po, .int .i64 pl, .int .i64 pp, .int .i64 pm, .slice bA bn' bc, .slice oA on' oc, .slice sA sn' sc] 52)) #[.int .i64 g, .int .i64 v, .int .i64 m, .int .i64 e, .int .i64 sq, .int .i64 d, .int .i64 ps, .int .i64 po, .int .i64 pl, .int .i64 pp, .int .i64 pm, .slice bA' bn' bc', .slice oA' on' oc', .slice sA' sn' sc'] 52
  have hA := (Own.new w #[.int .i64 g, .int .i64 v, .int .i64 m, .int .i64 e, .int .i64 sq, .int .i64 d, .int .i64 ps, .int .i64 po, .int .i64 pl, .int .i64 pp, .int .i64 pm, .slice bA bn' bc, .slice oA on' oc, .slice sA sn' sc] 52).alloc (.cells #[.int .i64 g, .int .i64 v, .int .i64 m, .int .i64 e, .int .i64 sq, .int .i64 d, .int .i64 ps, .int .i64 po, .int .i64 pl, .int .i64 pp, .int .i64 pm, .slice bA' bn' bc', .slice oA' on' oc', .slice sA' sn' sc'] 52)
  have hs1 : (w.alloc (.cells #[.int .i64 g, .int .i64 v, .int .i64 m, .int .i64 e, .int .i64 sq, .int .i64 d, .int .i64 ps, .int .i64 po, .int .i64 pl, .int .i64 pp, .int .i64 pm, .slice bA bn' bc, .slice oA on' oc, .slice sA sn' sc] 52)).heap.size = w.heap.size + 1 := by simp
  rw [hs1] at hB
  clear hs1
  go_wp2_with fail
  generalize hfe : w.heap.size + 1 = f at *
  generalize (w.alloc (.cells #[.int .i64 g, .int .i64 v, .int .i64 m, .int .i64 e, .int .i64 sq, .int .i64 d, .int .i64 ps, .int .i64 po, .int .i64 pl, .int .i64 pp, .int .i64 pm, .slice bA bn' bc, .slice oA on' oc, .slice sA sn' sc] 52)).alloc (.cells #[.int .i64 g, .int .i64 v, .int .i64 m, .int .i64 e, .int .i64 sq, .int .i64 d, .int .i64 ps, .int .i64 po, .int .i64 pl, .int .i64 pp, .int .i64 pm, .slice bA' bn' bc', .slice oA' on' oc', .slice sA' sn' sc'] 52) = w2 at *
  refine (alike_ints_any bA bn' bc base bA' bn' bc' base _ (by exact X1.out.keep0 HW.out) (by exact Y1.out.keep0 HW.out)).mono ?_
  rintro en w3 ⟨rfl, k3, rfl⟩
  have hdd : decide (base = base) = true := by simp
  rw [hdd]
  clear hdd
  have a12 := hA.cell 12 (by simp)
  have a13 := hA.cell 13 (by simp)
  have b12 := hB.cell 12 (by simp)
  have b13 := hB.cell 13 (by simp)
  simp only [List.getElem_cons_zero, List.getElem_cons_succ] at a12 a13 b12 b13
  have la := hA.lt
  have lb := hB.lt
  clear hA hB
  go_wp2_with fail
  refine (alike_ints_any oA on' oc over oA' on' oc' over _ (by exact (X2.out.keep0 HW.out).drewN _) (by exact (Y2.out.keep0 HW.out).drewN _)).mono ?_
  rintro en w4 ⟨rfl, k4, rfl⟩
  have hdd : decide (over = over) = true := by simp
  rw [hdd]
  clear hdd
  go_wp2_with fail
  refine (alike_uses_same sA sn' sc segs sA' sc' _ (by exact (X3.out.keep0 HW.out).keep0 ((Only.refl _ _).drewN _)) (by exact (Y3.out.keep0 HW.out).keep0 ((Only.refl _ _).drewN _))).mono ?_
  rintro en w5 ⟨rfl, k5, rfl⟩
  go_wp2
  go_ret
  exact ⟨rfl, HW.out.drewN _⟩
end Go.Proofs.Ytkpagiokjihmhaa
