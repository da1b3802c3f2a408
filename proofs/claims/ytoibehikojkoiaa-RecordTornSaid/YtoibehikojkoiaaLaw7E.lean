/- The law package of chapter 7: mixed. Printed by mkmix7.py. -/
import Derived.Test.YtoibehikojkoiaaLaw7D
import Derived.Test.YtoibehikojkoiaaRecC
import Derived.Test.YtoibehikojkoiaaRecF
import Derived.Deep.RegionHeld3
import Derived.Deep.RegionLaw
set_option linter.unusedVariables false
set_option linter.unusedSimpArgs false
namespace Go.Proofs.Ytoibehikojkoiaa
open Go Go.RowKit Go.Kn

set_option maxRecDepth 100000 in
set_option maxHeartbeats 16000000 in
theorem mixed_any (y r q : Rc) (A1 : Option Addr) (n1 c1 : Nat) (B1 : Option Addr) (d1 : Nat) (A2 : Option Addr) (n2 c2 : Nat) (B2 : Option Addr) (d2 : Nat) (A3 : Option Addr) (n3 c3 : Nat) (B3 : Option Addr) (d3 : Nat) (k : Nat) (w : World)
    (hy : RcAt w y (A1, n1, c1) (B1, k, d1)) (hr : RcAt w r (A2, n2, c2) (B2, k, d2)) (hq : RcAt w q (A3, n3, c3) (B3, k, d3)) (xs ga bs : List UInt8) (s t u : Nat) (e1 : encRc y = some (xs, s)) (e2 : encRc r = some (ga, t)) (e3 : encRc q = some (bs, u)) (hx : 64 ≤ xs.length) (hs : s = t ∨ s = u)
    (hb : ∀ i (h1 : i < y.bl.length) (h2 : i < r.bl.length) (h3 : i < q.bl.length), y.bl[i] = r.bl[i] ∨ y.bl[i] = q.bl[i]) :
    Calls Try.prog 32 #[.agg #[.int .i64 y.m, .int .i64 y.n, .int .i64 y.p, .slice A1 n1 c1, .slice B1 k d1], .agg #[.int .i64 r.m, .int .i64 r.n, .int .i64 r.p, .slice A2 n2 c2, .slice B2 k d2], .agg #[.int .i64 q.m, .int .i64 q.n, .int .i64 q.p, .slice A3 n3 c3, .slice B3 k d3]] w fun en w' => en = .returned (.bool true) ∧ Only [] w w' := by
  have ly := hy.2.len
  have lr := hr.2.len
  have lq := hq.2.len
  have hdl := hy.2.le
  have hdm := hy.2.cm
  dsimp only at ly lr lq hdl hdm
  unfold maxLen at hdm
  have HX := Lib.hid hx
  have HBB := Lib.hid hb
  have HSU := Lib.hid hs
  have HE1 := Lib.hid e1
  have HE2 := Lib.hid e2
  have HE3 := Lib.hid e3
  have HY := Lib.hid ly
  have HR := Lib.hid lr
  have HQ := Lib.hid lq
  have hfc : ∀ {r : Rc} {s t : Option Addr × Nat × Nat}, RcAt w r s t → Fc w (fun _ => False) (fun W => RcAt W r s t) := fun h => by
    obtain ⟨h1, sl, h2, h3⟩ := h
    exact RcAt.fc (sl := sl) (h1.fc (by simp)) (h2.fc (by simp)) (h3.fc (by simp))
  have HD0 := Lib.hid (((((((Wc.start w).old (hfc hq)).old (hfc hr)).old (hfc hy)).newF #[.int .i64 y.m, .int .i64 y.n, .int .i64 y.p, .slice A1 n1 c1, .slice B1 k d1] 47 rfl).newF #[.int .i64 r.m, .int .i64 r.n, .int .i64 r.p, .slice A2 n2 c2, .slice B2 k d2] 47 (b := w.heap.size + 1) (by simp)).newF #[.int .i64 q.m, .int .i64 q.n, .int .i64 q.p, .slice A3 n3 c3, .slice B3 k d3] 47 (b := w.heap.size + 2) (by simp))
  clear hfc hy hr hq ly lr lq e1 e2 e3 hx hb hs
  go_enter Try.func32, Try.ntmps32
  go_upto_region 1 with fail
  generalize hww : ((w.alloc (.cells #[.int .i64 y.m, .int .i64 y.n, .int .i64 y.p, .slice A1 n1 c1, .slice B1 k d1] 47)).alloc (.cells #[.int .i64 r.m, .int .i64 r.n, .int .i64 r.p, .slice A2 n2 c2, .slice B2 k d2] 47)).alloc (.cells #[.int .i64 q.m, .int .i64 q.n, .int .i64 q.p, .slice A3 n3 c3, .slice B3 k d3] 47) = w1 at *
  clear hww
  generalize w.heap.size + 2 = qb at *
  generalize w.heap.size + 1 = rb at *
  generalize w.heap.size = yb at *
  obtain ⟨x0, x1, x2, x3, x4, xl⟩ := cells5 (show Kn.Own w1 yb _ from HD0.out.fi 2 rfl)
  obtain ⟨y0, y1, y2, y3, y4, yl⟩ := cells5 (show Kn.Own w1 rb _ from HD0.out.fi 1 rfl)
  obtain ⟨z0, z1, z2, z3, z4, zl⟩ := cells5 (show Kn.Own w1 qb _ from HD0.out.fi 0 rfl)
  go_wp2_with fail
  clear x0 x1 x2 x3 x4 xl y0 y1 y2 y3 y4 yl z0 z1 z2 z3 z4 zl
  go_loopg [7] k (fun r1 i wr => ∃ j : Nat, j + r1 = k ∧ i = .int .i64 j ∧ Wc w wr [] [] [(fun W => Kn.Own W qb [.int .i64 q.m, .int .i64 q.n, .int .i64 q.p, .slice A3 n3 c3, .slice B3 k d3]), (fun W => Kn.Own W rb [.int .i64 r.m, .int .i64 r.n, .int .i64 r.p, .slice A2 n2 c2, .slice B2 k d2]), (fun W => Kn.Own W yb [.int .i64 y.m, .int .i64 y.n, .int .i64 y.p, .slice A1 n1 c1, .slice B1 k d1]), (fun W => RcAt W y (A1, n1, c1) (B1, k, d1)), (fun W => RcAt W r (A2, n2, c2) (B2, k, d2)), (fun W => RcAt W q (A3, n3, c3) (B3, k, d3))])
  case atStart => exact ⟨0, by omega, rfl, HD0.out⟩
  obtain ⟨j, hj, rfl, hw⟩ := hrel
  have HD1 := Lib.hid hw
  clear hw HD0
  obtain ⟨x0, x1, x2, x3, x4, xl⟩ := cells5 (show Kn.Own wr yb _ from HD1.out.fi 2 rfl)
  by_cases hlt : j < k
  · have hlt2 : (j : Int) < (k : Int) := by omega
    have hge : 0 ≤ (j : Int) := by omega
    have htn : ((j : Int)).toNat = j := by omega
    obtain ⟨g1, o1, E1, m1, f1, rfl, p1, b1⟩ := (HD1.out.fi 3 rfl).2.at_ j hlt
    obtain ⟨g2, o2, E2, m2, f2, rfl, p2, b2⟩ := (HD1.out.fi 4 rfl).2.at_ j hlt
    obtain ⟨g3, o3, E3, m3, f3, rfl, p3, b3⟩ := (HD1.out.fi 5 rfl).2.at_ j hlt
    have hor := HBB.out j (by rw [HY.out]; exact hlt) (by rw [HR.out]; exact hlt) (by rw [HQ.out]; exact hlt)
    obtain ⟨v1, hv1⟩ : ∃ v, y.bl[j]'(by rw [HY.out]; exact hlt) = v := ⟨_, rfl⟩
    obtain ⟨v2, hv2⟩ : ∃ v, r.bl[j]'(by rw [HR.out]; exact hlt) = v := ⟨_, rfl⟩
    obtain ⟨v3, hv3⟩ : ∃ v, q.bl[j]'(by rw [HQ.out]; exact hlt) = v := ⟨_, rfl⟩
    rw [hv1] at b1 hor
    rw [hv2] at b2 hor
    rw [hv3] at b3 hor
    have HB1 := Lib.hid b1
    have HB2 := Lib.hid b2
    have HB3 := Lib.hid b3
    clear hv1 hv2 hv3 b1 b2 b3
    obtain ⟨y0, y1, y2, y3, y4, yl⟩ := cells5 (show Kn.Own wr rb _ from HD1.out.fi 1 rfl)
    obtain ⟨z0, z1, z2, z3, z4, zl⟩ := cells5 (show Kn.Own wr qb _ from HD1.out.fi 0 rfl)
    go_upto_region 6 with fail
    have HSS : Hid (wr.cell? ⟨yb, 4, none⟩ = some (.slice (some ⟨g1, o1, none⟩) k d1) ∧ wr.cell? ⟨rb, 4, none⟩ = some (.slice (some ⟨g2, o2, none⟩) k d2) ∧ wr.cell? ⟨qb, 4, none⟩ = some (.slice (some ⟨g3, o3, none⟩) k d3) ∧ wr.cell? ⟨g1, o1 + j, none⟩ = some (.slice E1 m1 f1) ∧ wr.cell? ⟨g2, o2 + j, none⟩ = some (.slice E2 m2 f2) ∧ wr.cell? ⟨g3, o3 + j, none⟩ = some (.slice E3 m3 f3)) := Lib.hid ⟨x4, y4, z4, p1, p2, p3⟩
    clear x0 x1 x2 x3 x4 y0 y1 y2 y3 y4 z0 z1 z2 z3 z4 xl yl zl p1 p2 p3
    by_cases hq12 : v1 = v2
    · subst hq12
      clear hor
      refine wp_region_held_drew (S := (fun w' => w'.cell? ⟨yb, 4, none⟩ = some (.slice (some ⟨g1, o1, none⟩) k d1) ∧ w'.cell? ⟨rb, 4, none⟩ = some (.slice (some ⟨g2, o2, none⟩) k d2) ∧ w'.cell? ⟨qb, 4, none⟩ = some (.slice (some ⟨g3, o3, none⟩) k d3) ∧ w'.cell? ⟨g1, o1 + j, none⟩ = some (.slice E1 m1 f1) ∧ w'.cell? ⟨g2, o2 + j, none⟩ = some (.slice E2 m2 f2) ∧ w'.cell? ⟨g3, o3 + j, none⟩ = some (.slice E3 m3 f3))) (by kernel_rfl) (by simp only [World.cell?_drew]; exact HSS.out) (fun hSw0 => ?_)
      have HO0 := Lib.hid ((Only.refl [] wr).drew)
      refine wpAnyH_take (i := 0) (oi := ⟨some 40, _, _, _, _, _⟩) (v := ?_) rfl (by kernel_rfl) (by kernel_rfl) (by kernel_rfl) (fun _ _ _ h => h) (Or.inl ⟨by rfl, ?_⟩) (by assumption) ?_
      rotate_left
      · intro w hSw
        obtain ⟨hS0, hS1, hS2, hS3, hS4, hS5⟩ := hSw
        go_simp
        all_goals (try with_reducible rfl)
      (try simp only [Act.put, List.setIfInBounds_toArray, List.set_cons_zero, List.set_cons_succ])
      refine wpAnyH_take (i := 1) (oi := ⟨some 41, _, _, _, _, _⟩) (v := ?_) rfl (by kernel_rfl) (by kernel_rfl) (by kernel_rfl) (fun _ _ _ h => h) (Or.inl ⟨by rfl, ?_⟩) (by assumption) ?_
      rotate_left
      · intro w hSw
        obtain ⟨hS0, hS1, hS2, hS3, hS4, hS5⟩ := hSw
        go_simp
        all_goals (try with_reducible rfl)
      (try simp only [Act.put, List.setIfInBounds_toArray, List.set_cons_zero, List.set_cons_succ])
      refine wpAnyH_take (i := 2) (oi := ⟨some 42, _, _, _, _, _⟩) (v := ?_) rfl (by kernel_rfl) (by kernel_rfl) (by kernel_rfl) (fun _ _ _ h => h) (Or.inl ⟨by rfl, ?_⟩) (by assumption) ?_
      rotate_left
      · intro w hSw
        obtain ⟨hS0, hS1, hS2, hS3, hS4, hS5⟩ := hSw
        go_simp
        all_goals (try with_reducible rfl)
      (try simp only [Act.put, List.setIfInBounds_toArray, List.set_cons_zero, List.set_cons_succ])
      refine wpAnyH_take (i := 3) (oi := ⟨some 43, _, _, _, _, _⟩) (v := ?_) rfl (by kernel_rfl) (by kernel_rfl) (by kernel_rfl) (fun _ _ _ h => h) (Or.inl ⟨by rfl, ?_⟩) (by assumption) ?_
      rotate_left
      · intro w hSw
        obtain ⟨hS0, hS1, hS2, hS3, hS4, hS5⟩ := hSw
        go_simp
        all_goals (try with_reducible rfl)
      (try simp only [Act.put, List.setIfInBounds_toArray, List.set_cons_zero, List.set_cons_succ])
      refine wpAnyH_take (i := 4) (oi := ⟨some 44, _, _, _, _, _⟩) (v := ?_) rfl (by kernel_rfl) (by kernel_rfl) (by kernel_rfl) (fun _ _ _ h => h) (Or.inl ⟨by rfl, ?_⟩) (by assumption) ?_
      rotate_left
      · intro w hSw
        obtain ⟨hS0, hS1, hS2, hS3, hS4, hS5⟩ := hSw
        go_simp
        all_goals (try with_reducible rfl)
      (try simp only [Act.put, List.setIfInBounds_toArray, List.set_cons_zero, List.set_cons_succ])
      refine wpAnyH_take (i := 5) (oi := ⟨some 45, _, _, _, _, _⟩) (v := ?_) rfl (by kernel_rfl) (by kernel_rfl) (by kernel_rfl) (fun _ _ _ h => h) (Or.inl ⟨by rfl, ?_⟩) (by assumption) ?_
      rotate_left
      · intro w hSw
        obtain ⟨hS0, hS1, hS2, hS3, hS4, hS5⟩ := hSw
        go_simp
        all_goals (try with_reducible rfl)
      (try simp only [Act.put, List.setIfInBounds_toArray, List.set_cons_zero, List.set_cons_succ])
      refine wpAnyH_take (i := 6) (oi := ⟨some 46, _, _, _, _, _⟩) (v := ?_) rfl (by kernel_rfl) (by kernel_rfl) (by kernel_rfl) (fun _ _ _ h => h) (Or.inl ⟨by rfl, ?_⟩) (by assumption) ?_
      rotate_left
      · intro w hSw
        obtain ⟨hS0, hS1, hS2, hS3, hS4, hS5⟩ := hSw
        go_simp
        all_goals (try with_reducible rfl)
      (try simp only [Act.put, List.setIfInBounds_toArray, List.set_cons_zero, List.set_cons_succ])
      refine wpAnyH_take (i := 7) (oi := ⟨some 47, _, _, _, _, _⟩) (v := ?_) rfl (by kernel_rfl) (by kernel_rfl) (by kernel_rfl) (fun _ _ _ h => h) (Or.inl ⟨by rfl, ?_⟩) (by assumption) ?_
      rotate_left
      · intro w hSw
        obtain ⟨hS0, hS1, hS2, hS3, hS4, hS5⟩ := hSw
        go_simp
        all_goals (try with_reducible rfl)
      (try simp only [Act.put, List.setIfInBounds_toArray, List.set_cons_zero, List.set_cons_succ])
      refine wpAnyH_take (i := 8) (oi := ⟨some 48, _, _, _, _, _⟩) (v := ?_) rfl (by kernel_rfl) (by kernel_rfl) (by kernel_rfl) (fun _ _ _ h => h) (Or.inl ⟨by rfl, ?_⟩) (by assumption) ?_
      rotate_left
      · intro w hSw
        obtain ⟨hS0, hS1, hS2, hS3, hS4, hS5⟩ := hSw
        go_simp
        all_goals (try with_reducible rfl)
      (try simp only [Act.put, List.setIfInBounds_toArray, List.set_cons_zero, List.set_cons_succ])
      refine wpAnyH_take (i := 9) (oi := ⟨some 49, _, _, _, _, _⟩) (v := ?_) rfl (by kernel_rfl) (by kernel_rfl) (by kernel_rfl) (fun _ _ _ h => h) (Or.inl ⟨by rfl, ?_⟩) (by assumption) ?_
      rotate_left
      · intro w hSw
        obtain ⟨hS0, hS1, hS2, hS3, hS4, hS5⟩ := hSw
        go_simp
        all_goals (try with_reducible rfl)
      (try simp only [Act.put, List.setIfInBounds_toArray, List.set_cons_zero, List.set_cons_succ])
      refine wpAnyH_ready (rs := [10]) (by kernel_rfl) (by simp) ?_
      refine AllReadyH.cons (o := ⟨some 50, _, _, _, _, _⟩) rfl (fun K hK => ?_) AllReadyH.nil
      go_simp
      refine (alike_bytes_any E1 m1 f1 v1 E2 m2 f2 v1 _ (HB1.out.keep HO0.out (by simp)) (HB2.out.keep HO0.out (by simp))).mono ?_
      rintro en va1 ⟨rfl, k1, hk1⟩
      have hdd : decide (v1 = v1) = true := by simp
      rw [hdd]
      clear hdd
      have HO1 : Hid (Only [] wr va1) := Lib.hid (by rw [hk1]; exact HO0.out.trans' ((Only.refl [] _).drewN k1))
      refine hK.out _ _ (by rw [hk1]; simp only [World.cell?_drewN]; exact hSw0) (fun hSn => ?_)
      clear hk1
      clear hK K hSw0
      have hSw0 := hSn
      clear hSn
      (try simp only [Act.put, List.setIfInBounds_toArray, List.set_cons_zero, List.set_cons_succ])
      refine wpAnyH_take (i := 11) (oi := ⟨some 51, _, _, _, _, _⟩) (v := ?_) rfl (by kernel_rfl) (by kernel_rfl) (by kernel_rfl) (fun _ _ _ h => h) (Or.inl ⟨by rfl, ?_⟩) (by assumption) ?_
      rotate_left
      · intro w hSw
        obtain ⟨hS0, hS1, hS2, hS3, hS4, hS5⟩ := hSw
        go_simp
        all_goals (try with_reducible rfl)
      (try simp only [Act.put, List.setIfInBounds_toArray, List.set_cons_zero, List.set_cons_succ])
      refine wpAnyH_take (i := 12) (oi := ⟨some 52, _, _, _, _, _⟩) (v := ?_) rfl (by kernel_rfl) (by kernel_rfl) (by kernel_rfl) (fun _ _ _ h => h) (Or.inl ⟨by rfl, ?_⟩) (by assumption) ?_
      rotate_left
      · intro w hSw
        obtain ⟨hS0, hS1, hS2, hS3, hS4, hS5⟩ := hSw
        go_simp
        all_goals (try with_reducible rfl)
      (try simp only [Act.put, List.setIfInBounds_toArray, List.set_cons_zero, List.set_cons_succ])
      refine wpAnyH_take (i := 13) (oi := ⟨some 53, _, _, _, _, _⟩) (v := undef) rfl (by kernel_rfl) (by kernel_rfl) (by kernel_rfl) (fun _ _ _ h => h) (Or.inr ⟨by rfl, rfl⟩) (by assumption) ?_
      (try simp only [Act.put, List.setIfInBounds_toArray, List.set_cons_zero, List.set_cons_succ])
      refine wpAnyH_take (i := 14) (oi := ⟨some 54, _, _, _, _, _⟩) (v := undef) rfl (by kernel_rfl) (by kernel_rfl) (by kernel_rfl) (fun _ _ _ h => h) (Or.inr ⟨by rfl, rfl⟩) (by assumption) ?_
      (try simp only [Act.put, List.setIfInBounds_toArray, List.set_cons_zero, List.set_cons_succ])
      refine wpAnyH_take (i := 15) (oi := ⟨some 55, _, _, _, _, _⟩) (v := undef) rfl (by kernel_rfl) (by kernel_rfl) (by kernel_rfl) (fun _ _ _ h => h) (Or.inr ⟨by rfl, rfl⟩) (by assumption) ?_
      (try simp only [Act.put, List.setIfInBounds_toArray, List.set_cons_zero, List.set_cons_succ])
      refine wpAnyH_take (i := 16) (oi := ⟨some 56, _, _, _, _, _⟩) (v := undef) rfl (by kernel_rfl) (by kernel_rfl) (by kernel_rfl) (fun _ _ _ h => h) (Or.inr ⟨by rfl, rfl⟩) (by assumption) ?_
      (try simp only [Act.put, List.setIfInBounds_toArray, List.set_cons_zero, List.set_cons_succ])
      refine wpAnyH_take (i := 17) (oi := ⟨some 57, _, _, _, _, _⟩) (v := undef) rfl (by kernel_rfl) (by kernel_rfl) (by kernel_rfl) (fun _ _ _ h => h) (Or.inr ⟨by rfl, rfl⟩) (by assumption) ?_
      (try simp only [Act.put, List.setIfInBounds_toArray, List.set_cons_zero, List.set_cons_succ])
      refine wpAnyH_take (i := 18) (oi := ⟨some 58, _, _, _, _, _⟩) (v := undef) rfl (by kernel_rfl) (by kernel_rfl) (by kernel_rfl) (fun _ _ _ h => h) (Or.inr ⟨by rfl, rfl⟩) (by assumption) ?_
      (try simp only [Act.put, List.setIfInBounds_toArray, List.set_cons_zero, List.set_cons_succ])
      refine wpAnyH_take (i := 19) (oi := ⟨some 59, _, _, _, _, _⟩) (v := undef) rfl (by kernel_rfl) (by kernel_rfl) (by kernel_rfl) (fun _ _ _ h => h) (Or.inr ⟨by rfl, rfl⟩) (by assumption) ?_
      (try simp only [Act.put, List.setIfInBounds_toArray, List.set_cons_zero, List.set_cons_succ])
      refine wpAnyH_take (i := 20) (oi := ⟨some 60, _, _, _, _, _⟩) (v := undef) rfl (by kernel_rfl) (by kernel_rfl) (by kernel_rfl) (fun _ _ _ h => h) (Or.inr ⟨by rfl, rfl⟩) (by assumption) ?_
      (try simp only [Act.put, List.setIfInBounds_toArray, List.set_cons_zero, List.set_cons_succ])
      refine wpAnyH_take (i := 21) (oi := ⟨some 61, _, _, _, _, _⟩) (v := undef) rfl (by kernel_rfl) (by kernel_rfl) (by kernel_rfl) (fun _ _ _ h => h) (Or.inr ⟨by rfl, rfl⟩) (by assumption) ?_
      (try simp only [Act.put, List.setIfInBounds_toArray, List.set_cons_zero, List.set_cons_succ])
      refine wpAnyH_take (i := 22) (oi := ⟨some 62, _, _, _, _, _⟩) (v := undef) rfl (by kernel_rfl) (by kernel_rfl) (by kernel_rfl) (fun _ _ _ h => h) (Or.inr ⟨by rfl, rfl⟩) (by assumption) ?_
      (try simp only [Act.put, List.setIfInBounds_toArray, List.set_cons_zero, List.set_cons_succ])
      refine wpAnyH_take (i := 23) (oi := ⟨some 63, _, _, _, _, _⟩) (v := undef) rfl (by kernel_rfl) (by kernel_rfl) (by kernel_rfl) (fun _ _ _ h => h) (Or.inr ⟨by rfl, rfl⟩) (by assumption) ?_
      (try simp only [Act.put, List.setIfInBounds_toArray, List.set_cons_zero, List.set_cons_succ])
      refine wpAnyH_take (i := 24) (oi := ⟨some 64, _, _, _, _, _⟩) (v := undef) rfl (by kernel_rfl) (by kernel_rfl) (by kernel_rfl) (fun _ _ _ h => h) (Or.inr ⟨by rfl, rfl⟩) (by assumption) ?_
      (try simp only [Act.put, List.setIfInBounds_toArray, List.set_cons_zero, List.set_cons_succ])
      refine wpAnyH_take (i := 25) (oi := ⟨some 65, _, _, _, _, _⟩) (v := ?_) rfl (by kernel_rfl) (by kernel_rfl) (by kernel_rfl) (fun _ _ _ h => h) (Or.inl ⟨by rfl, ?_⟩) (by assumption) ?_
      rotate_left
      · intro w hSw
        obtain ⟨hS0, hS1, hS2, hS3, hS4, hS5⟩ := hSw
        go_simp
        all_goals (try with_reducible rfl)
      (try simp only [Act.put, List.setIfInBounds_toArray, List.set_cons_zero, List.set_cons_succ])
      refine wpAnyH_done (by kernel_rfl) ?_ _
      clear hSw0
      have HD2 := Lib.hid (HD1.out.keep0 HO1.out)
      go_wp2_with fail
      go_roundg (gk - 1)
      case measure => omega
      case rel => exact ⟨j + 1, by omega, by go_num, HD2.out⟩
    · obtain rfl : v1 = v3 := hor.resolve_left hq12
      clear hor
      refine wp_region_held_drew (S := (fun w' => w'.cell? ⟨yb, 4, none⟩ = some (.slice (some ⟨g1, o1, none⟩) k d1) ∧ w'.cell? ⟨rb, 4, none⟩ = some (.slice (some ⟨g2, o2, none⟩) k d2) ∧ w'.cell? ⟨qb, 4, none⟩ = some (.slice (some ⟨g3, o3, none⟩) k d3) ∧ w'.cell? ⟨g1, o1 + j, none⟩ = some (.slice E1 m1 f1) ∧ w'.cell? ⟨g2, o2 + j, none⟩ = some (.slice E2 m2 f2) ∧ w'.cell? ⟨g3, o3 + j, none⟩ = some (.slice E3 m3 f3))) (by kernel_rfl) (by simp only [World.cell?_drew]; exact HSS.out) (fun hSw0 => ?_)
      have HO0 := Lib.hid ((Only.refl [] wr).drew)
      refine wpAnyH_take (i := 0) (oi := ⟨some 40, _, _, _, _, _⟩) (v := ?_) rfl (by kernel_rfl) (by kernel_rfl) (by kernel_rfl) (fun _ _ _ h => h) (Or.inl ⟨by rfl, ?_⟩) (by assumption) ?_
      rotate_left
      · intro w hSw
        obtain ⟨hS0, hS1, hS2, hS3, hS4, hS5⟩ := hSw
        go_simp
        all_goals (try with_reducible rfl)
      (try simp only [Act.put, List.setIfInBounds_toArray, List.set_cons_zero, List.set_cons_succ])
      refine wpAnyH_take (i := 1) (oi := ⟨some 41, _, _, _, _, _⟩) (v := ?_) rfl (by kernel_rfl) (by kernel_rfl) (by kernel_rfl) (fun _ _ _ h => h) (Or.inl ⟨by rfl, ?_⟩) (by assumption) ?_
      rotate_left
      · intro w hSw
        obtain ⟨hS0, hS1, hS2, hS3, hS4, hS5⟩ := hSw
        go_simp
        all_goals (try with_reducible rfl)
      (try simp only [Act.put, List.setIfInBounds_toArray, List.set_cons_zero, List.set_cons_succ])
      refine wpAnyH_take (i := 2) (oi := ⟨some 42, _, _, _, _, _⟩) (v := ?_) rfl (by kernel_rfl) (by kernel_rfl) (by kernel_rfl) (fun _ _ _ h => h) (Or.inl ⟨by rfl, ?_⟩) (by assumption) ?_
      rotate_left
      · intro w hSw
        obtain ⟨hS0, hS1, hS2, hS3, hS4, hS5⟩ := hSw
        go_simp
        all_goals (try with_reducible rfl)
      (try simp only [Act.put, List.setIfInBounds_toArray, List.set_cons_zero, List.set_cons_succ])
      refine wpAnyH_take (i := 3) (oi := ⟨some 43, _, _, _, _, _⟩) (v := ?_) rfl (by kernel_rfl) (by kernel_rfl) (by kernel_rfl) (fun _ _ _ h => h) (Or.inl ⟨by rfl, ?_⟩) (by assumption) ?_
      rotate_left
      · intro w hSw
        obtain ⟨hS0, hS1, hS2, hS3, hS4, hS5⟩ := hSw
        go_simp
        all_goals (try with_reducible rfl)
      (try simp only [Act.put, List.setIfInBounds_toArray, List.set_cons_zero, List.set_cons_succ])
      refine wpAnyH_take (i := 4) (oi := ⟨some 44, _, _, _, _, _⟩) (v := ?_) rfl (by kernel_rfl) (by kernel_rfl) (by kernel_rfl) (fun _ _ _ h => h) (Or.inl ⟨by rfl, ?_⟩) (by assumption) ?_
      rotate_left
      · intro w hSw
        obtain ⟨hS0, hS1, hS2, hS3, hS4, hS5⟩ := hSw
        go_simp
        all_goals (try with_reducible rfl)
      (try simp only [Act.put, List.setIfInBounds_toArray, List.set_cons_zero, List.set_cons_succ])
      refine wpAnyH_take (i := 5) (oi := ⟨some 45, _, _, _, _, _⟩) (v := ?_) rfl (by kernel_rfl) (by kernel_rfl) (by kernel_rfl) (fun _ _ _ h => h) (Or.inl ⟨by rfl, ?_⟩) (by assumption) ?_
      rotate_left
      · intro w hSw
        obtain ⟨hS0, hS1, hS2, hS3, hS4, hS5⟩ := hSw
        go_simp
        all_goals (try with_reducible rfl)
      (try simp only [Act.put, List.setIfInBounds_toArray, List.set_cons_zero, List.set_cons_succ])
      refine wpAnyH_take (i := 6) (oi := ⟨some 46, _, _, _, _, _⟩) (v := ?_) rfl (by kernel_rfl) (by kernel_rfl) (by kernel_rfl) (fun _ _ _ h => h) (Or.inl ⟨by rfl, ?_⟩) (by assumption) ?_
      rotate_left
      · intro w hSw
        obtain ⟨hS0, hS1, hS2, hS3, hS4, hS5⟩ := hSw
        go_simp
        all_goals (try with_reducible rfl)
      (try simp only [Act.put, List.setIfInBounds_toArray, List.set_cons_zero, List.set_cons_succ])
      refine wpAnyH_take (i := 7) (oi := ⟨some 47, _, _, _, _, _⟩) (v := ?_) rfl (by kernel_rfl) (by kernel_rfl) (by kernel_rfl) (fun _ _ _ h => h) (Or.inl ⟨by rfl, ?_⟩) (by assumption) ?_
      rotate_left
      · intro w hSw
        obtain ⟨hS0, hS1, hS2, hS3, hS4, hS5⟩ := hSw
        go_simp
        all_goals (try with_reducible rfl)
      (try simp only [Act.put, List.setIfInBounds_toArray, List.set_cons_zero, List.set_cons_succ])
      refine wpAnyH_take (i := 8) (oi := ⟨some 48, _, _, _, _, _⟩) (v := ?_) rfl (by kernel_rfl) (by kernel_rfl) (by kernel_rfl) (fun _ _ _ h => h) (Or.inl ⟨by rfl, ?_⟩) (by assumption) ?_
      rotate_left
      · intro w hSw
        obtain ⟨hS0, hS1, hS2, hS3, hS4, hS5⟩ := hSw
        go_simp
        all_goals (try with_reducible rfl)
      (try simp only [Act.put, List.setIfInBounds_toArray, List.set_cons_zero, List.set_cons_succ])
      refine wpAnyH_take (i := 9) (oi := ⟨some 49, _, _, _, _, _⟩) (v := ?_) rfl (by kernel_rfl) (by kernel_rfl) (by kernel_rfl) (fun _ _ _ h => h) (Or.inl ⟨by rfl, ?_⟩) (by assumption) ?_
      rotate_left
      · intro w hSw
        obtain ⟨hS0, hS1, hS2, hS3, hS4, hS5⟩ := hSw
        go_simp
        all_goals (try with_reducible rfl)
      (try simp only [Act.put, List.setIfInBounds_toArray, List.set_cons_zero, List.set_cons_succ])
      refine wpAnyH_ready (rs := [10]) (by kernel_rfl) (by simp) ?_
      refine AllReadyH.cons (o := ⟨some 50, _, _, _, _, _⟩) rfl (fun K hK => ?_) AllReadyH.nil
      go_simp
      refine (alike_bytes_any E1 m1 f1 v1 E2 m2 f2 v2 _ (HB1.out.keep HO0.out (by simp)) (HB2.out.keep HO0.out (by simp))).mono ?_
      rintro en va1 ⟨rfl, k1, hk1⟩
      have hdd : decide (v1 = v2) = false := by simpa using hq12
      rw [hdd]
      clear hdd
      have HO1 : Hid (Only [] wr va1) := Lib.hid (by rw [hk1]; exact HO0.out.trans' ((Only.refl [] _).drewN k1))
      refine hK.out _ _ (by rw [hk1]; simp only [World.cell?_drewN]; exact hSw0) (fun hSn => ?_)
      clear hk1
      clear hK K hSw0
      have hSw0 := hSn
      clear hSn
      (try simp only [Act.put, List.setIfInBounds_toArray, List.set_cons_zero, List.set_cons_succ])
      refine wpAnyH_take (i := 11) (oi := ⟨some 51, _, _, _, _, _⟩) (v := ?_) rfl (by kernel_rfl) (by kernel_rfl) (by kernel_rfl) (fun _ _ _ h => h) (Or.inl ⟨by rfl, ?_⟩) (by assumption) ?_
      rotate_left
      · intro w hSw
        obtain ⟨hS0, hS1, hS2, hS3, hS4, hS5⟩ := hSw
        go_simp
        all_goals (try with_reducible rfl)
      (try simp only [Act.put, List.setIfInBounds_toArray, List.set_cons_zero, List.set_cons_succ])
      refine wpAnyH_take (i := 12) (oi := ⟨some 52, _, _, _, _, _⟩) (v := ?_) rfl (by kernel_rfl) (by kernel_rfl) (by kernel_rfl) (fun _ _ _ h => h) (Or.inl ⟨by rfl, ?_⟩) (by assumption) ?_
      rotate_left
      · intro w hSw
        obtain ⟨hS0, hS1, hS2, hS3, hS4, hS5⟩ := hSw
        go_simp
        all_goals (try with_reducible rfl)
      (try simp only [Act.put, List.setIfInBounds_toArray, List.set_cons_zero, List.set_cons_succ])
      refine wpAnyH_take (i := 13) (oi := ⟨some 53, _, _, _, _, _⟩) (v := ?_) rfl (by kernel_rfl) (by kernel_rfl) (by kernel_rfl) (fun _ _ _ h => h) (Or.inl ⟨by rfl, ?_⟩) (by assumption) ?_
      rotate_left
      · intro w hSw
        obtain ⟨hS0, hS1, hS2, hS3, hS4, hS5⟩ := hSw
        go_simp
        all_goals (try with_reducible rfl)
      (try simp only [Act.put, List.setIfInBounds_toArray, List.set_cons_zero, List.set_cons_succ])
      refine wpAnyH_take (i := 14) (oi := ⟨some 54, _, _, _, _, _⟩) (v := ?_) rfl (by kernel_rfl) (by kernel_rfl) (by kernel_rfl) (fun _ _ _ h => h) (Or.inl ⟨by rfl, ?_⟩) (by assumption) ?_
      rotate_left
      · intro w hSw
        obtain ⟨hS0, hS1, hS2, hS3, hS4, hS5⟩ := hSw
        go_simp
        all_goals (try with_reducible rfl)
      (try simp only [Act.put, List.setIfInBounds_toArray, List.set_cons_zero, List.set_cons_succ])
      refine wpAnyH_take (i := 15) (oi := ⟨some 55, _, _, _, _, _⟩) (v := ?_) rfl (by kernel_rfl) (by kernel_rfl) (by kernel_rfl) (fun _ _ _ h => h) (Or.inl ⟨by rfl, ?_⟩) (by assumption) ?_
      rotate_left
      · intro w hSw
        obtain ⟨hS0, hS1, hS2, hS3, hS4, hS5⟩ := hSw
        go_simp
        all_goals (try with_reducible rfl)
      (try simp only [Act.put, List.setIfInBounds_toArray, List.set_cons_zero, List.set_cons_succ])
      refine wpAnyH_take (i := 16) (oi := ⟨some 56, _, _, _, _, _⟩) (v := ?_) rfl (by kernel_rfl) (by kernel_rfl) (by kernel_rfl) (fun _ _ _ h => h) (Or.inl ⟨by rfl, ?_⟩) (by assumption) ?_
      rotate_left
      · intro w hSw
        obtain ⟨hS0, hS1, hS2, hS3, hS4, hS5⟩ := hSw
        go_simp
        all_goals (try with_reducible rfl)
      (try simp only [Act.put, List.setIfInBounds_toArray, List.set_cons_zero, List.set_cons_succ])
      refine wpAnyH_take (i := 17) (oi := ⟨some 57, _, _, _, _, _⟩) (v := ?_) rfl (by kernel_rfl) (by kernel_rfl) (by kernel_rfl) (fun _ _ _ h => h) (Or.inl ⟨by rfl, ?_⟩) (by assumption) ?_
      rotate_left
      · intro w hSw
        obtain ⟨hS0, hS1, hS2, hS3, hS4, hS5⟩ := hSw
        go_simp
        all_goals (try with_reducible rfl)
      (try simp only [Act.put, List.setIfInBounds_toArray, List.set_cons_zero, List.set_cons_succ])
      refine wpAnyH_take (i := 18) (oi := ⟨some 58, _, _, _, _, _⟩) (v := ?_) rfl (by kernel_rfl) (by kernel_rfl) (by kernel_rfl) (fun _ _ _ h => h) (Or.inl ⟨by rfl, ?_⟩) (by assumption) ?_
      rotate_left
      · intro w hSw
        obtain ⟨hS0, hS1, hS2, hS3, hS4, hS5⟩ := hSw
        go_simp
        all_goals (try with_reducible rfl)
      (try simp only [Act.put, List.setIfInBounds_toArray, List.set_cons_zero, List.set_cons_succ])
      refine wpAnyH_take (i := 19) (oi := ⟨some 59, _, _, _, _, _⟩) (v := ?_) rfl (by kernel_rfl) (by kernel_rfl) (by kernel_rfl) (fun _ _ _ h => h) (Or.inl ⟨by rfl, ?_⟩) (by assumption) ?_
      rotate_left
      · intro w hSw
        obtain ⟨hS0, hS1, hS2, hS3, hS4, hS5⟩ := hSw
        go_simp
        all_goals (try with_reducible rfl)
      (try simp only [Act.put, List.setIfInBounds_toArray, List.set_cons_zero, List.set_cons_succ])
      refine wpAnyH_take (i := 20) (oi := ⟨some 60, _, _, _, _, _⟩) (v := ?_) rfl (by kernel_rfl) (by kernel_rfl) (by kernel_rfl) (fun _ _ _ h => h) (Or.inl ⟨by rfl, ?_⟩) (by assumption) ?_
      rotate_left
      · intro w hSw
        obtain ⟨hS0, hS1, hS2, hS3, hS4, hS5⟩ := hSw
        go_simp
        all_goals (try with_reducible rfl)
      (try simp only [Act.put, List.setIfInBounds_toArray, List.set_cons_zero, List.set_cons_succ])
      refine wpAnyH_take (i := 21) (oi := ⟨some 61, _, _, _, _, _⟩) (v := ?_) rfl (by kernel_rfl) (by kernel_rfl) (by kernel_rfl) (fun _ _ _ h => h) (Or.inl ⟨by rfl, ?_⟩) (by assumption) ?_
      rotate_left
      · intro w hSw
        obtain ⟨hS0, hS1, hS2, hS3, hS4, hS5⟩ := hSw
        go_simp
        all_goals (try with_reducible rfl)
      (try simp only [Act.put, List.setIfInBounds_toArray, List.set_cons_zero, List.set_cons_succ])
      refine wpAnyH_take (i := 22) (oi := ⟨some 62, _, _, _, _, _⟩) (v := ?_) rfl (by kernel_rfl) (by kernel_rfl) (by kernel_rfl) (fun _ _ _ h => h) (Or.inl ⟨by rfl, ?_⟩) (by assumption) ?_
      rotate_left
      · intro w hSw
        obtain ⟨hS0, hS1, hS2, hS3, hS4, hS5⟩ := hSw
        go_simp
        all_goals (try with_reducible rfl)
      (try simp only [Act.put, List.setIfInBounds_toArray, List.set_cons_zero, List.set_cons_succ])
      refine wpAnyH_ready (rs := [23]) (by kernel_rfl) (by simp) ?_
      refine AllReadyH.cons (o := ⟨some 63, _, _, _, _, _⟩) rfl (fun K hK => ?_) AllReadyH.nil
      go_simp
      refine (alike_bytes_any E1 m1 f1 v1 E3 m3 f3 v1 _ (HB1.out.keep HO1.out (by simp)) (HB3.out.keep HO1.out (by simp))).mono ?_
      rintro en va2 ⟨rfl, k2, hk2⟩
      have hdd : decide (v1 = v1) = true := by simp
      rw [hdd]
      clear hdd
      have HO2 : Hid (Only [] wr va2) := Lib.hid (by rw [hk2]; exact HO1.out.trans' ((Only.refl [] _).drewN k2))
      refine hK.out _ _ (by rw [hk2]; simp only [World.cell?_drewN]; exact hSw0) (fun hSn => ?_)
      clear hk2
      clear hK K hSw0
      have hSw0 := hSn
      clear hSn
      (try simp only [Act.put, List.setIfInBounds_toArray, List.set_cons_zero, List.set_cons_succ])
      refine wpAnyH_take (i := 24) (oi := ⟨some 64, _, _, _, _, _⟩) (v := ?_) rfl (by kernel_rfl) (by kernel_rfl) (by kernel_rfl) (fun _ _ _ h => h) (Or.inl ⟨by rfl, ?_⟩) (by assumption) ?_
      rotate_left
      · intro w hSw
        obtain ⟨hS0, hS1, hS2, hS3, hS4, hS5⟩ := hSw
        go_simp
        all_goals (try with_reducible rfl)
      (try simp only [Act.put, List.setIfInBounds_toArray, List.set_cons_zero, List.set_cons_succ])
      refine wpAnyH_take (i := 25) (oi := ⟨some 65, _, _, _, _, _⟩) (v := ?_) rfl (by kernel_rfl) (by kernel_rfl) (by kernel_rfl) (fun _ _ _ h => h) (Or.inl ⟨by rfl, ?_⟩) (by assumption) ?_
      rotate_left
      · intro w hSw
        obtain ⟨hS0, hS1, hS2, hS3, hS4, hS5⟩ := hSw
        go_simp
        all_goals (try with_reducible rfl)
      (try simp only [Act.put, List.setIfInBounds_toArray, List.set_cons_zero, List.set_cons_succ])
      refine wpAnyH_done (by kernel_rfl) ?_ _
      clear hSw0
      have HD2 := Lib.hid (HD1.out.keep0 HO2.out)
      go_wp2_with fail
      go_roundg (gk - 1)
      case measure => omega
      case rel => exact ⟨j + 1, by omega, by go_num, HD2.out⟩
  · obtain rfl : j = k := by omega
    have hlt2 : ¬ (j : Int) < (j : Int) := by omega
    have hx64 : decide (64 ≤ (xs.length : Int)) = true := by have := HX.out; simp; omega
    go_wp2_with fail
    refine (rec_enc_any y.m y.n y.p A1 n1 c1 y.its B1 j d1 y.bl _ (HD1.out.fi 3 rfl).1 (HD1.out.fi 3 rfl).2).mono ?_
    intro en w2 he
    rw [show (⟨y.m, y.n, y.p, y.its, y.bl⟩ : Rc) = y from rfl, HE1.out] at he
    obtain ⟨gx, cx, rfl, _, _, _, hw⟩ := HD1.out.encRc he
    have HD2 := Lib.hid hw
    clear hw he x0 x1 x2 x3 x4 xl
    obtain ⟨y0, y1, y2, y3, y4, yl⟩ := cells5 (show Kn.Own w2 rb _ from HD2.out.fi 2 rfl)
    go_wp2_with fail
    refine (rec_enc_any r.m r.n r.p A2 n2 c2 r.its B2 j d2 r.bl _ (HD2.out.fi 5 rfl).1 (HD2.out.fi 5 rfl).2).mono ?_
    intro en w3 he
    rw [show (⟨r.m, r.n, r.p, r.its, r.bl⟩ : Rc) = r from rfl, HE2.out] at he
    obtain ⟨gy, cy, rfl, _, _, _, hw⟩ := HD2.out.encRc he
    have HD3 := Lib.hid hw
    clear hw he y0 y1 y2 y3 y4 yl
    obtain ⟨z0, z1, z2, z3, z4, zl⟩ := cells5 (show Kn.Own w3 qb _ from HD3.out.fi 2 rfl)
    go_wp2_with fail
    refine (rec_enc_any q.m q.n q.p A3 n3 c3 q.its B3 j d3 q.bl _ (HD3.out.fi 7 rfl).1 (HD3.out.fi 7 rfl).2).mono ?_
    intro en w4 he
    rw [show (⟨q.m, q.n, q.p, q.its, q.bl⟩ : Rc) = q from rfl, HE3.out] at he
    obtain ⟨gz, cz, rfl, _, _, _, hw⟩ := HD3.out.encRc he
    have HD4 := Lib.hid hw
    clear hw he z0 z1 z2 z3 z4 zl
    by_cases hst : s = t
    · have hq1 : ((s : Int) == (t : Int)) = true := by simp [hst]
      have hq2 : decide ((s : Int) = (t : Int)) = true := by simp [hst]
      go_wp2_with fail
      go_ret
      exact ⟨rfl, HD4.out.only⟩
    · have hq1 : ((s : Int) == (t : Int)) = false := by simp; omega
      have hq2 : decide ((s : Int) = (t : Int)) = false := by simp; omega
      have hsu := HSU.out.resolve_left hst
      have hq3 : ((s : Int) == (u : Int)) = true := by simp [hsu]
      go_wp2_with fail
      go_ret
      exact ⟨rfl, HD4.out.only⟩
end Go.Proofs.Ytoibehikojkoiaa
