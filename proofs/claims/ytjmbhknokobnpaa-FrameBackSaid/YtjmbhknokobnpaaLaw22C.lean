/- The law package of chapter 22: made, cases 0 and 3, and the whole. Printed by mkmade22c.py. -/
import Derived.Test.YtjmbhknokobnpaaLaw22B
import Derived.Test.YtjmbhknokobnpaaWireV
import Derived.Test.YtjmbhknokobnpaaWireQ
import Derived.Deep.RegionHeld3
import Derived.Deep.DeepCutAuto
set_option linter.unusedVariables false
set_option linter.unusedSimpArgs false
namespace Go.Kn
open Go Go.RowKit
/-- a frame begun, in a box of the call's own -/
def MadeBox (w : World) (r : Nat) (Z L F : List Value) (t : Value) (wx : World) : Prop :=
  ∃ g, t = .pointer (some ⟨g, 0, none⟩) ∧ Own wx g F ∧ Own wx r Z ∧ Own wx w.heap.size L ∧ r < g ∧ Only [] w wx
end Go.Kn
namespace Go.Proofs.Ytjmbhknokobnpaa
open Go Go.RowKit Go.Kn

set_option maxRecDepth 100000 in
set_option maxHeartbeats 8000000 in
theorem made22_0 (z0 z1 z2 z3 z4 z5 : Int) (w : World) (h0 : (Lit.int .i64 z0).wf = true) (h1 : (Lit.int .i64 z1).wf = true) (h2 : (Lit.int .i64 z2).wf = true) (h3 : (Lit.int .i64 z3).wf = true) (h4 : (Lit.int .i64 z4).wf = true) (h5 : (Lit.int .i64 z5).wf = true) (hz : z0 % 5 = 0) :
    Calls Try.prog 50 #[.agg #[.int .i64 z0, .int .i64 z1, .int .i64 z2, .int .i64 z3, .int .i64 z4, .int .i64 z5]] w fun e w' => ∃ g, e = .returned (.agg #[.int .i64 1, .int .i64 (1 + z1 % 2147483647), .int .i64 (1 + z2 % 2147483647), .int .i64 (z3 % 64), .int .i64 0, .int .i64 0, .int .i64 0, .slice (some ⟨g, 0, none⟩) 64 64]) ∧ Bys w' (some ⟨g, 0, none⟩) 64 64 (fillB z4) ∧ Only [] w w' := by
  have H0 := Lib.hid h0
  have H1 := Lib.hid h1
  have H2 := Lib.hid h2
  have H3 := Lib.hid h3
  have H4 := Lib.hid h4
  have H5 := Lib.hid h5
  have HZ := Lib.hid hz
  have hres : Try.f50.results = #[.cell 2 64] := by kernel_rfl
  have HRES := Lib.hid hres
  clear h0 h1 h2 h3 h4 h5 hz hres
  have hw1 := IntWalk.i64_in (1 + z1 % 2147483647) (by omega)
  have hw2 := IntWalk.i64_in (1 + z2 % 2147483647) (by omega)
  have hs1 : (w.alloc (.cells #[.int .i64 z0, .int .i64 z1, .int .i64 z2, .int .i64 z3, .int .i64 z4, .int .i64 z5] 74)).heap.size = w.heap.size + 1 := by simp
  have HBX := ((Boxes.nil w).new #[.int .i64 z0, .int .i64 z1, .int .i64 z2, .int .i64 z3, .int .i64 z4, .int .i64 z5] 74).new #[.int .i64 0, .int .i64 0, .int .i64 0, .int .i64 0, .int .i64 0, .int .i64 0, .int .i64 0, .slice none 0 0] 64
  rw [hs1] at HBX
  have HB0 := Lib.hid HBX
  have HO0 := Lib.hid (((Only.refl [] w).alloc (.cells #[.int .i64 z0, .int .i64 z1, .int .i64 z2, .int .i64 z3, .int .i64 z4, .int .i64 z5] 74)).alloc (.cells #[.int .i64 0, .int .i64 0, .int .i64 0, .int .i64 0, .int .i64 0, .int .i64 0, .int .i64 0, .slice none 0 0] 64))
  clear HBX hs1
  go_enter Try.func50, Try.ntmps50
  go_upto_region 1 with (fail)
  refine opaqueW (F := Code.wp _ _ _ _) ?_
  intro wx hwx
  have hB : Boxes wx [(w.heap.size + 1, [.int .i64 0, .int .i64 0, .int .i64 0, .int .i64 0, .int .i64 0, .int .i64 0, .int .i64 0, .slice none 0 0]), (w.heap.size, [.int .i64 z0, .int .i64 z1, .int .i64 z2, .int .i64 z3, .int .i64 z4, .int .i64 z5])] := hwx ▸ HB0.out
  have hO : Only [] w wx := hwx ▸ HO0.out
  clear hwx HB0 HO0
  have HB := Lib.hid hB
  have HO := Lib.hid hO
  have hszx : w.heap.size + 1 < wx.heap.size := (hB (w.heap.size + 1, [.int .i64 0, .int .i64 0, .int .i64 0, .int .i64 0, .int .i64 0, .int .i64 0, .int .i64 0, .slice none 0 0]) (by simp)).lt
  clear hB hO
  go_cut [3] (fun s3 wz => MadeBox w (w.heap.size + 1) [.int .i64 0, .int .i64 0, .int .i64 0, .int .i64 0, .int .i64 0, .int .i64 0, .int .i64 0, .slice none 0 0] [.int .i64 z0, .int .i64 z1, .int .i64 z2, .int .i64 z3, .int .i64 z4, .int .i64 z5] [.int .i64 0, .int .i64 (1 + z1 % 2147483647), .int .i64 (1 + z2 % 2147483647), .int .i64 0, .int .i64 0, .int .i64 0, .int .i64 0, .slice none 0 0] s3 wz)
  case first =>
    have c1 : wx.cell? ⟨w.heap.size, 1, none⟩ = some (.int .i64 z1) := (HB.out (w.heap.size, [.int .i64 z0, .int .i64 z1, .int .i64 z2, .int .i64 z3, .int .i64 z4, .int .i64 z5]) (by simp)).cell 1 (by simp)
    have c2 : wx.cell? ⟨w.heap.size, 2, none⟩ = some (.int .i64 z2) := (HB.out (w.heap.size, [.int .i64 z0, .int .i64 z1, .int .i64 z2, .int .i64 z3, .int .i64 z4, .int .i64 z5]) (by simp)).cell 2 (by simp)
    have hn1 : ¬ (w.heap.size = wx.heap.size) := by omega
    have hn2 : ¬ (wx.heap.size = w.heap.size) := by omega
    have hn3 : w.heap.size < wx.heap.size := by omega
    go_region_held3 (fun w' => w'.cell? ⟨w.heap.size, 1, none⟩ = some (.int .i64 z1) ∧ w'.cell? ⟨w.heap.size, 2, none⟩ = some (.int .i64 z2))
      (first | exact ⟨c1, c2⟩ | go_keep)
      (first
      | (go_at_call 40; refine (round_any _ _ _ (by first | exact H1.out | exact H2.out) (by decide) (by decide)).mono ?_
         rintro e w' ⟨rfl, rfl⟩))
    all_goals
      go_wp2
      go_meet
      case rel =>
        refine ⟨wx.heap.size, rfl, by first | exact Own.new _ #[.int .i64 0, .int .i64 (1 + z1 % 2147483647), .int .i64 (1 + z2 % 2147483647), .int .i64 0, .int .i64 0, .int .i64 0, .int .i64 0, .slice none 0 0] 64 | exact (Own.new _ #[.int .i64 0, .int .i64 (1 + z1 % 2147483647), .int .i64 (1 + z2 % 2147483647), .int .i64 0, .int .i64 0, .int .i64 0, .int .i64 0, .slice none 0 0] 64).drew, ?_, ?_, by omega, ?_⟩
        · first | exact (HB.out (w.heap.size + 1, [.int .i64 0, .int .i64 0, .int .i64 0, .int .i64 0, .int .i64 0, .int .i64 0, .int .i64 0, .slice none 0 0]) (by simp)).alloc _ | exact ((HB.out (w.heap.size + 1, [.int .i64 0, .int .i64 0, .int .i64 0, .int .i64 0, .int .i64 0, .int .i64 0, .int .i64 0, .slice none 0 0]) (by simp)).alloc _).drew | exact (HB.out (w.heap.size + 1, [.int .i64 0, .int .i64 0, .int .i64 0, .int .i64 0, .int .i64 0, .int .i64 0, .int .i64 0, .slice none 0 0]) (by simp)).drew.alloc _
        · first | exact (HB.out (w.heap.size, [.int .i64 z0, .int .i64 z1, .int .i64 z2, .int .i64 z3, .int .i64 z4, .int .i64 z5]) (by simp)).alloc _ | exact ((HB.out (w.heap.size, [.int .i64 z0, .int .i64 z1, .int .i64 z2, .int .i64 z3, .int .i64 z4, .int .i64 z5]) (by simp)).alloc _).drew | exact (HB.out (w.heap.size, [.int .i64 z0, .int .i64 z1, .int .i64 z2, .int .i64 z3, .int .i64 z4, .int .i64 z5]) (by simp)).drew.alloc _
        · first | exact HO.out.alloc _ | exact (HO.out.alloc _).drew | exact HO.out.drew.alloc _
  case rest =>
    clear hszx HB HO
    obtain ⟨g, rfl, hF, hR, hL, hg, hO⟩ := hcut
    have HF := Lib.hid hF
    have HR := Lib.hid hR
    have HL := Lib.hid hL
    have HO := Lib.hid hO
    have ltg := hF.lt
    clear hF hR hL hO
    have hn1 : ¬ (w.heap.size = g) := by omega
    have hn2 : ¬ (g = w.heap.size) := by omega
    have hn3 : ¬ (w.heap.size + 1 = g) := by omega
    have hn4 : ¬ (g = w.heap.size + 1) := by omega
    have c0 := HL.out.cell 0 (by simp)
    have c1 := HL.out.cell 1 (by simp)
    have c2 := HL.out.cell 2 (by simp)
    have c3 := HL.out.cell 3 (by simp)
    have c4 := HL.out.cell 4 (by simp)
    have c5 := HL.out.cell 5 (by simp)
    simp only [List.getElem_cons_zero, List.getElem_cons_succ] at c0 c1 c2 c3 c4 c5
    go_wp2_with fail
    refine (round_any z3 64 _ H3.out (by decide) (by decide)).mono ?_
    rintro e w' ⟨rfl, rfl⟩
    go_wp2_with fail
    refine (round_any z0 5 _ H0.out (by decide) (by decide)).mono ?_
    rintro e w' ⟨rfl, rfl⟩
    rw [HZ.out]
    go_wp2_with fail
    refine (fill_any z4 _ H4.out).mono ?_
    rintro e wf ⟨gf, rfl, hgf, hof, hOf⟩
    have HF2 := Lib.hid (HF.out.keep0 hOf)
    have HR2 := Lib.hid (HR.out.keep0 hOf)
    have HO2 := Lib.hid (HO.out.trans' hOf)
    have HW := Lib.hid hof
    clear hOf hof
    have f0 := HF2.out.cell 0 (by simp)
    have f1 := HF2.out.cell 1 (by simp)
    have f2 := HF2.out.cell 2 (by simp)
    have f3 := HF2.out.cell 3 (by simp)
    have f4 := HF2.out.cell 4 (by simp)
    have f5 := HF2.out.cell 5 (by simp)
    have f6 := HF2.out.cell 6 (by simp)
    have f7 := HF2.out.cell 7 (by simp)
    simp only [List.getElem_cons_zero, List.getElem_cons_succ] at f0 f1 f2 f3 f4 f5 f6 f7
    have m0 := HF2.out.frozen 0
    have m1 := HF2.out.frozen 1
    have m2 := HF2.out.frozen 2
    have m3 := HF2.out.frozen 3
    have m4 := HF2.out.frozen 4
    have m5 := HF2.out.frozen 5
    have m6 := HF2.out.frozen 6
    have m7 := HF2.out.frozen 7
    have t0 := HR2.out.cell 0 (by simp)
    have t1 := HR2.out.cell 1 (by simp)
    have t2 := HR2.out.cell 2 (by simp)
    have t3 := HR2.out.cell 3 (by simp)
    have t4 := HR2.out.cell 4 (by simp)
    have t5 := HR2.out.cell 5 (by simp)
    have t6 := HR2.out.cell 6 (by simp)
    have t7 := HR2.out.cell 7 (by simp)
    simp only [List.getElem_cons_zero, List.getElem_cons_succ] at t0 t1 t2 t3 t4 t5 t6 t7
    have u0 := HR2.out.frozen 0
    have u1 := HR2.out.frozen 1
    have u2 := HR2.out.frozen 2
    have u3 := HR2.out.frozen 3
    have u4 := HR2.out.frozen 4
    have u5 := HR2.out.frozen 5
    have u6 := HR2.out.frozen 6
    have u7 := HR2.out.frozen 7
    have ltg2 := HF2.out.lt
    go_wp2
    (try simp only [Exit.inBlock, Exit.then])
    refine bodyPost_ret (v := .agg #[.int .i64 1, .int .i64 (1 + z1 % 2147483647), .int .i64 (1 + z2 % 2147483647), .int .i64 (z3 % 64), .int .i64 0, .int .i64 0, .int .i64 0, .slice (some ⟨gf, 0, none⟩) 64 64]) ?_ rfl ?_
    · simp only [results, HRES.out]
      go_simp
    · refine ⟨gf, rfl, Row1.of_Own (HW.out.keep (S := [g, w.heap.size + 1]) (by (repeat' refine Only.set ?_ (.inl (by simp)) _); exact Only.refl _ _) (by simp; omega)) (by simp [fillB_length]) (Nat.le_refl _) (by unfold maxLen; omega), ?_⟩
      (repeat' refine Only.set ?_ (.inr (by first | (simp; done) | (simp; omega) | omega)) _)
      exact HO2.out

set_option maxRecDepth 100000 in
set_option maxHeartbeats 8000000 in
theorem made22_3 (z0 z1 z2 z3 z4 z5 : Int) (w : World) (h0 : (Lit.int .i64 z0).wf = true) (h1 : (Lit.int .i64 z1).wf = true) (h2 : (Lit.int .i64 z2).wf = true) (h3 : (Lit.int .i64 z3).wf = true) (h4 : (Lit.int .i64 z4).wf = true) (h5 : (Lit.int .i64 z5).wf = true) (hz : z0 % 5 = 3) :
    Calls Try.prog 50 #[.agg #[.int .i64 z0, .int .i64 z1, .int .i64 z2, .int .i64 z3, .int .i64 z4, .int .i64 z5]] w fun e w' => e = .returned (.agg #[.int .i64 8, .int .i64 (1 + z1 % 2147483647), .int .i64 (1 + z2 % 2147483647), .int .i64 0, .int .i64 0, .int .i64 (z5 % 2147483648), .int .i64 (z4 % (1 + z2 % 2147483647 + 1)), .slice none 0 0]) ∧ Only [] w w' := by
  have H0 := Lib.hid h0
  have H1 := Lib.hid h1
  have H2 := Lib.hid h2
  have H3 := Lib.hid h3
  have H4 := Lib.hid h4
  have H5 := Lib.hid h5
  have HZ := Lib.hid hz
  have hres : Try.f50.results = #[.cell 2 64] := by kernel_rfl
  have HRES := Lib.hid hres
  clear h0 h1 h2 h3 h4 h5 hz hres
  have hw1 := IntWalk.i64_in (1 + z1 % 2147483647) (by omega)
  have hw2 := IntWalk.i64_in (1 + z2 % 2147483647) (by omega)
  have hs1 : (w.alloc (.cells #[.int .i64 z0, .int .i64 z1, .int .i64 z2, .int .i64 z3, .int .i64 z4, .int .i64 z5] 74)).heap.size = w.heap.size + 1 := by simp
  have HBX := ((Boxes.nil w).new #[.int .i64 z0, .int .i64 z1, .int .i64 z2, .int .i64 z3, .int .i64 z4, .int .i64 z5] 74).new #[.int .i64 0, .int .i64 0, .int .i64 0, .int .i64 0, .int .i64 0, .int .i64 0, .int .i64 0, .slice none 0 0] 64
  rw [hs1] at HBX
  have HB0 := Lib.hid HBX
  have HO0 := Lib.hid (((Only.refl [] w).alloc (.cells #[.int .i64 z0, .int .i64 z1, .int .i64 z2, .int .i64 z3, .int .i64 z4, .int .i64 z5] 74)).alloc (.cells #[.int .i64 0, .int .i64 0, .int .i64 0, .int .i64 0, .int .i64 0, .int .i64 0, .int .i64 0, .slice none 0 0] 64))
  clear HBX hs1
  go_enter Try.func50, Try.ntmps50
  go_upto_region 1 with (fail)
  refine opaqueW (F := Code.wp _ _ _ _) ?_
  intro wx hwx
  have hB : Boxes wx [(w.heap.size + 1, [.int .i64 0, .int .i64 0, .int .i64 0, .int .i64 0, .int .i64 0, .int .i64 0, .int .i64 0, .slice none 0 0]), (w.heap.size, [.int .i64 z0, .int .i64 z1, .int .i64 z2, .int .i64 z3, .int .i64 z4, .int .i64 z5])] := hwx ▸ HB0.out
  have hO : Only [] w wx := hwx ▸ HO0.out
  clear hwx HB0 HO0
  have HB := Lib.hid hB
  have HO := Lib.hid hO
  have hszx : w.heap.size + 1 < wx.heap.size := (hB (w.heap.size + 1, [.int .i64 0, .int .i64 0, .int .i64 0, .int .i64 0, .int .i64 0, .int .i64 0, .int .i64 0, .slice none 0 0]) (by simp)).lt
  clear hB hO
  go_cut [3] (fun s3 wz => MadeBox w (w.heap.size + 1) [.int .i64 0, .int .i64 0, .int .i64 0, .int .i64 0, .int .i64 0, .int .i64 0, .int .i64 0, .slice none 0 0] [.int .i64 z0, .int .i64 z1, .int .i64 z2, .int .i64 z3, .int .i64 z4, .int .i64 z5] [.int .i64 0, .int .i64 (1 + z1 % 2147483647), .int .i64 (1 + z2 % 2147483647), .int .i64 0, .int .i64 0, .int .i64 0, .int .i64 0, .slice none 0 0] s3 wz)
  case first =>
    have c1 : wx.cell? ⟨w.heap.size, 1, none⟩ = some (.int .i64 z1) := (HB.out (w.heap.size, [.int .i64 z0, .int .i64 z1, .int .i64 z2, .int .i64 z3, .int .i64 z4, .int .i64 z5]) (by simp)).cell 1 (by simp)
    have c2 : wx.cell? ⟨w.heap.size, 2, none⟩ = some (.int .i64 z2) := (HB.out (w.heap.size, [.int .i64 z0, .int .i64 z1, .int .i64 z2, .int .i64 z3, .int .i64 z4, .int .i64 z5]) (by simp)).cell 2 (by simp)
    have hn1 : ¬ (w.heap.size = wx.heap.size) := by omega
    have hn2 : ¬ (wx.heap.size = w.heap.size) := by omega
    have hn3 : w.heap.size < wx.heap.size := by omega
    go_region_held3 (fun w' => w'.cell? ⟨w.heap.size, 1, none⟩ = some (.int .i64 z1) ∧ w'.cell? ⟨w.heap.size, 2, none⟩ = some (.int .i64 z2))
      (first | exact ⟨c1, c2⟩ | go_keep)
      (first
      | (go_at_call 40; refine (round_any _ _ _ (by first | exact H1.out | exact H2.out) (by decide) (by decide)).mono ?_
         rintro e w' ⟨rfl, rfl⟩))
    all_goals
      go_wp2
      go_meet
      case rel =>
        refine ⟨wx.heap.size, rfl, by first | exact Own.new _ #[.int .i64 0, .int .i64 (1 + z1 % 2147483647), .int .i64 (1 + z2 % 2147483647), .int .i64 0, .int .i64 0, .int .i64 0, .int .i64 0, .slice none 0 0] 64 | exact (Own.new _ #[.int .i64 0, .int .i64 (1 + z1 % 2147483647), .int .i64 (1 + z2 % 2147483647), .int .i64 0, .int .i64 0, .int .i64 0, .int .i64 0, .slice none 0 0] 64).drew, ?_, ?_, by omega, ?_⟩
        · first | exact (HB.out (w.heap.size + 1, [.int .i64 0, .int .i64 0, .int .i64 0, .int .i64 0, .int .i64 0, .int .i64 0, .int .i64 0, .slice none 0 0]) (by simp)).alloc _ | exact ((HB.out (w.heap.size + 1, [.int .i64 0, .int .i64 0, .int .i64 0, .int .i64 0, .int .i64 0, .int .i64 0, .int .i64 0, .slice none 0 0]) (by simp)).alloc _).drew | exact (HB.out (w.heap.size + 1, [.int .i64 0, .int .i64 0, .int .i64 0, .int .i64 0, .int .i64 0, .int .i64 0, .int .i64 0, .slice none 0 0]) (by simp)).drew.alloc _
        · first | exact (HB.out (w.heap.size, [.int .i64 z0, .int .i64 z1, .int .i64 z2, .int .i64 z3, .int .i64 z4, .int .i64 z5]) (by simp)).alloc _ | exact ((HB.out (w.heap.size, [.int .i64 z0, .int .i64 z1, .int .i64 z2, .int .i64 z3, .int .i64 z4, .int .i64 z5]) (by simp)).alloc _).drew | exact (HB.out (w.heap.size, [.int .i64 z0, .int .i64 z1, .int .i64 z2, .int .i64 z3, .int .i64 z4, .int .i64 z5]) (by simp)).drew.alloc _
        · first | exact HO.out.alloc _ | exact (HO.out.alloc _).drew | exact HO.out.drew.alloc _
  case rest =>
    clear hszx HB HO
    obtain ⟨g, rfl, hF, hR, hL, hg, hO⟩ := hcut
    have HF := Lib.hid hF
    have HR := Lib.hid hR
    have HL := Lib.hid hL
    have HO := Lib.hid hO
    have ltg := hF.lt
    clear hF hR hL hO
    have hn1 : ¬ (w.heap.size = g) := by omega
    have hn2 : ¬ (g = w.heap.size) := by omega
    have hn3 : ¬ (w.heap.size + 1 = g) := by omega
    have hn4 : ¬ (g = w.heap.size + 1) := by omega
    have c0 := HL.out.cell 0 (by simp)
    have c1 := HL.out.cell 1 (by simp)
    have c2 := HL.out.cell 2 (by simp)
    have c3 := HL.out.cell 3 (by simp)
    have c4 := HL.out.cell 4 (by simp)
    have c5 := HL.out.cell 5 (by simp)
    simp only [List.getElem_cons_zero, List.getElem_cons_succ] at c0 c1 c2 c3 c4 c5
    have hw3 := IntWalk.i64_in (1 + z2 % 2147483647 + 1) (by omega)
    have f2 : wc.cell? ⟨g, 2, none⟩ = some (.int .i64 (1 + z2 % 2147483647)) := HF.out.cell 2 (by simp)
    have f0 : wc.cell? ⟨g, 0, none⟩ = some (.int .i64 0) := HF.out.cell 0 (by simp)
    have f5 : wc.cell? ⟨g, 5, none⟩ = some (.int .i64 0) := HF.out.cell 5 (by simp)
    have f6 : wc.cell? ⟨g, 6, none⟩ = some (.int .i64 0) := HF.out.cell 6 (by simp)
    have m0 := HF.out.frozen 0
    have m5 := HF.out.frozen 5
    have m6 := HF.out.frozen 6
    go_upto_region 11 with (first | (go_at_call 40; refine (round_any z3 64 _ H3.out (by decide) (by decide)).mono ?_; rintro e w' ⟨rfl, rfl⟩) | (go_at_call 40; refine (round_any z0 5 _ H0.out (by decide) (by decide)).mono ?_; rintro e w' ⟨rfl, rfl⟩; rw [HZ.out]))
    have XD : Hid (wc.drew.cell? ⟨w.heap.size, 5, none⟩ = some (.int .i64 z5) ∧ wc.drew.cell? ⟨w.heap.size, 4, none⟩ = some (.int .i64 z4) ∧ wc.drew.cell? ⟨g, 2, none⟩ = some (.int .i64 (1 + z2 % 2147483647))) := Lib.hid ⟨c5, c4, f2⟩
    go_region_held3 (fun w' => w'.cell? ⟨w.heap.size, 5, none⟩ = some (.int .i64 z5) ∧ w'.cell? ⟨w.heap.size, 4, none⟩ = some (.int .i64 z4) ∧ w'.cell? ⟨g, 2, none⟩ = some (.int .i64 (1 + z2 % 2147483647)))
      (first | with_reducible exact XD.out | (refine ⟨?_, ?_, ?_⟩ <;> (repeat first | rw [World.cell?_drew] | rw [World.cell?_setCell_other _ _ _ _ (by simp [hn1, hn2])]) <;> first | exact c5 | exact c4 | exact f2))
      (first
      | (go_at_call 40; refine (round_any z5 2147483648 _ H5.out (by decide) (by decide)).mono ?_
         rintro e w' ⟨rfl, rfl⟩)
      | (go_at_call 40; refine (round_any z4 (1 + z2 % 2147483647 + 1) _ H4.out (by omega) (by omega)).mono ?_
         rintro e w' ⟨rfl, rfl⟩))
    all_goals
      go_upto_region 14 with (fail)
      refine opaqueW (F := Code.wp _ _ _ _) ?_
      intro wz hwz
      have hF : Own wz g [.int .i64 8, .int .i64 (1 + z1 % 2147483647), .int .i64 (1 + z2 % 2147483647), .int .i64 0, .int .i64 0, .int .i64 (z5 % 2147483648), .int .i64 (z4 % (1 + z2 % 2147483647 + 1)), .slice none 0 0] := by
        rw [hwz]
        first | exact ((HF.out.set 0 _).set 5 _).set 6 _ | exact ((HF.out.set 0 _).set 6 _).set 5 _ | exact ((HF.out.set 5 _).set 0 _).set 6 _ | exact ((HF.out.set 5 _).set 6 _).set 0 _ | exact ((HF.out.set 6 _).set 0 _).set 5 _ | exact ((HF.out.set 6 _).set 5 _).set 0 _
      have hOz : Only [g] wc wz := by
        rw [hwz]
        (repeat' first | (with_reducible refine Only.set ?_ (.inl (by simp)) _) | (with_reducible refine Only.drew ?_))
        exact Only.refl _ _
      have HF2 := Lib.hid hF
      have HR2 := Lib.hid (HR.out.keep hOz (by simp; omega))
      have HO2 := Lib.hid (HO.out.trans hOz (fun i hi => .inr (by simp at hi; omega)))
      clear hF hOz f0 f2 f5 f6 m0 m5 m6 hwz
      have f0 := HF2.out.cell 0 (by simp)
      have f1 := HF2.out.cell 1 (by simp)
      have f2 := HF2.out.cell 2 (by simp)
      have f3 := HF2.out.cell 3 (by simp)
      have f4 := HF2.out.cell 4 (by simp)
      have f5 := HF2.out.cell 5 (by simp)
      have f6 := HF2.out.cell 6 (by simp)
      have f7 := HF2.out.cell 7 (by simp)
      simp only [List.getElem_cons_zero, List.getElem_cons_succ] at f0 f1 f2 f3 f4 f5 f6 f7
      have t0 := HR2.out.cell 0 (by simp)
      have t1 := HR2.out.cell 1 (by simp)
      have t2 := HR2.out.cell 2 (by simp)
      have t3 := HR2.out.cell 3 (by simp)
      have t4 := HR2.out.cell 4 (by simp)
      have t5 := HR2.out.cell 5 (by simp)
      have t6 := HR2.out.cell 6 (by simp)
      have t7 := HR2.out.cell 7 (by simp)
      simp only [List.getElem_cons_zero, List.getElem_cons_succ] at t0 t1 t2 t3 t4 t5 t6 t7
      have u0 := HR2.out.frozen 0
      have u1 := HR2.out.frozen 1
      have u2 := HR2.out.frozen 2
      have u3 := HR2.out.frozen 3
      have u4 := HR2.out.frozen 4
      have u5 := HR2.out.frozen 5
      have u6 := HR2.out.frozen 6
      have u7 := HR2.out.frozen 7
      have ltg2 := HF2.out.lt
      go_wp2
      (try simp only [Exit.inBlock, Exit.then])
      refine bodyPost_ret (v := .agg #[.int .i64 8, .int .i64 (1 + z1 % 2147483647), .int .i64 (1 + z2 % 2147483647), .int .i64 0, .int .i64 0, .int .i64 (z5 % 2147483648), .int .i64 (z4 % (1 + z2 % 2147483647 + 1)), .slice none 0 0]) ?_ rfl ⟨rfl, ?_⟩
      · simp only [results, HRES.out]
        go_simp
      · (repeat' refine Only.set ?_ (.inr (by first | (simp; done) | (simp; omega) | omega)) _)
        exact HO2.out

theorem made22 (z0 z1 z2 z3 z4 z5 : Int) (w : World) (h0 : (Lit.int .i64 z0).wf = true) (h1 : (Lit.int .i64 z1).wf = true) (h2 : (Lit.int .i64 z2).wf = true) (h3 : (Lit.int .i64 z3).wf = true) (h4 : (Lit.int .i64 z4).wf = true) (h5 : (Lit.int .i64 z5).wf = true) :
    Calls Try.prog 50 #[.agg #[.int .i64 z0, .int .i64 z1, .int .i64 z2, .int .i64 z3, .int .i64 z4, .int .i64 z5]] w fun e w' => ∃ A n c, e = .returned (.agg #[.int .i64 (madeFr z0 z1 z2 z3 z4 z5).k, .int .i64 (madeFr z0 z1 z2 z3 z4 z5).v, .int .i64 (madeFr z0 z1 z2 z3 z4 z5).s, .int .i64 (madeFr z0 z1 z2 z3 z4 z5).b, .int .i64 (madeFr z0 z1 z2 z3 z4 z5).c, .int .i64 (madeFr z0 z1 z2 z3 z4 z5).e, .int .i64 (madeFr z0 z1 z2 z3 z4 z5).d, .slice A n c]) ∧ Bys w' A n c (madeFr z0 z1 z2 z3 z4 z5).data ∧ Only [] w w' := by
  have hm : z0 % 5 = 0 ∨ z0 % 5 = 1 ∨ z0 % 5 = 2 ∨ z0 % 5 = 3 ∨ z0 % 5 = 4 := by omega
  rcases hm with h | h | h | h | h
  · have e1 : madeFr z0 z1 z2 z3 z4 z5 = ⟨1, 1 + z1 % 2147483647, 1 + z2 % 2147483647, z3 % 64, 0, 0, 0, fillB z4⟩ := by unfold madeFr; rw [if_pos h]
    rw [e1]
    refine (made22_0 z0 z1 z2 z3 z4 z5 w h0 h1 h2 h3 h4 h5 h).mono ?_
    rintro e w' ⟨g, rfl, hb, hO⟩
    exact ⟨_, _, _, rfl, hb, hO⟩
  · have e1 : madeFr z0 z1 z2 z3 z4 z5 = ⟨2, 1 + z1 % 2147483647, 1 + z2 % 2147483647, z3 % 64, 1 + z4 % (64 - z3 % 64), 0, 0, []⟩ := by unfold madeFr; rw [if_neg (by omega), if_pos h]
    rw [e1]
    refine (made22_1 z0 z1 z2 z3 z4 z5 w h0 h1 h2 h3 h4 h5 h).mono ?_
    rintro e w' ⟨rfl, hO⟩
    exact ⟨_, _, _, rfl, Row1.nil _, hO⟩
  · have e1 : madeFr z0 z1 z2 z3 z4 z5 = ⟨3, 1 + z1 % 2147483647, 1 + z2 % 2147483647, 0, 0, 1 + z5 % 2147483647, 0, []⟩ := by unfold madeFr; rw [if_neg (by omega), if_neg (by omega), if_pos h]
    rw [e1]
    refine (made22_2 z0 z1 z2 z3 z4 z5 w h0 h1 h2 h3 h4 h5 h).mono ?_
    rintro e w' ⟨rfl, hO⟩
    exact ⟨_, _, _, rfl, Row1.nil _, hO⟩
  · have e1 : madeFr z0 z1 z2 z3 z4 z5 = ⟨8, 1 + z1 % 2147483647, 1 + z2 % 2147483647, 0, 0, z5 % 2147483648, z4 % (1 + z2 % 2147483647 + 1), []⟩ := by unfold madeFr; rw [if_neg (by omega), if_neg (by omega), if_neg (by omega), if_pos h]
    rw [e1]
    refine (made22_3 z0 z1 z2 z3 z4 z5 w h0 h1 h2 h3 h4 h5 h).mono ?_
    rintro e w' ⟨rfl, hO⟩
    exact ⟨_, _, _, rfl, Row1.nil _, hO⟩
  · have e1 : madeFr z0 z1 z2 z3 z4 z5 = ⟨9, 1 + z1 % 2147483647, 0, 0, 0, 0, 0, []⟩ := by unfold madeFr; rw [if_neg (by omega), if_neg (by omega), if_neg (by omega), if_neg (by omega)]
    rw [e1]
    refine (made22_4 z0 z1 z2 z3 z4 z5 w h0 h1 h2 h3 h4 h5 h).mono ?_
    rintro e w' ⟨rfl, hO⟩
    exact ⟨_, _, _, rfl, Row1.nil _, hO⟩
end Go.Proofs.Ytjmbhknokobnpaa
