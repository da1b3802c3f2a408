
/- Contracts of geom, and of the reference's Up, Pages, RegionLen, PosMay. -/
import Derived.Test.YtkpagiokjihmhaaRefD
import Derived.Deep.RegionHeld3
set_option linter.unusedVariables false
set_option linter.unusedSimpArgs false
namespace Go.Kn
open Go Go.RowKit
/-- a device's numbers that may be -/
def CfOk (b s l : Int) : Prop := (1 ≤ b ∧ b ≤ 64) ∧ (8 ≤ s ∧ s ≤ 32) ∧ (24 ≤ l ∧ l ≤ 64)
/-- a Geom -/
structure GeoAt (w : World) (p : Nat) (b s l : Int) : Prop where
  c0 : w.cell? ⟨p, 0, none⟩ = some (.int .i64 b)
  c1 : w.cell? ⟨p, 1, none⟩ = some (.int .i64 s)
  c2 : w.cell? ⟨p, 2, none⟩ = some (.int .i64 l)
theorem GeoAt.keep0 {w w' : World} {p : Nat} {b s l : Int} (h : GeoAt w p b s l) (hO : Only [] w w') : GeoAt w' p b s l := ⟨hO.cell h.c0 (by simp), hO.cell h.c1 (by simp), hO.cell h.c2 (by simp)⟩
theorem GeoAt.lt {w : World} {p : Nat} {b s l : Int} (h : GeoAt w p b s l) : p < w.heap.size := lt_of_cell h.c0
def upI (n by_ : Int) : Int := (n + by_ - 1) / by_
def pgs (b : Int) : Int := (b + 14) / 15
def rln (s : Int) : Int := (43 + 5 * s + 63) / 64
theorem pgs_bounds {b s l : Int} (h : CfOk b s l) : 1 ≤ pgs b ∧ pgs b ≤ 5 := by unfold pgs; unfold CfOk at h; omega
theorem rln_bounds {b s l : Int} (h : CfOk b s l) : 2 ≤ rln s ∧ rln s ≤ 4 ∧ 43 + 5 * s ≤ 64 * rln s := by unfold rln; unfold CfOk at h; omega
/-- may a place be -/
def posMay (s l ps po pl pp pm : Int) : Bool := decide (0 ≤ ps ∧ ps ≤ s - 1) && (decide (0 ≤ po ∧ po ≤ l - 1) && (decide (1 ≤ pl ∧ pl ≤ 2147483647) && (decide (1 ≤ pm ∧ pm ≤ 2147483647) && decide (0 ≤ pp ∧ pp ≤ 4294967295))))
end Go.Kn
namespace Go.Proofs.Ytkpagiokjihmhaa
open Go Go.RowKit Go.Kn

theorem geom_within_any (n lo hi : Int) (w : World) : Calls Try.prog 92 #[.int .i64 n, .int .i64 lo, .int .i64 hi] w fun e w' => e = .returned (.bool (decide (lo ≤ n ∧ n ≤ hi))) ∧ w = w' := by
  go_enter Try.func92, Try.ntmps92
  by_cases h1 : lo ≤ n <;> by_cases h2 : n ≤ hi <;>
  (go_wp2
   go_ret
   exact ⟨by simp [*], rfl⟩)
theorem region_within_any (n lo hi : Int) (w : World) : Calls Try.prog 111 #[.int .i64 n, .int .i64 lo, .int .i64 hi] w fun e w' => e = .returned (.bool (decide (lo ≤ n ∧ n ≤ hi))) ∧ w = w' := by
  go_enter Try.func111, Try.ntmps111
  by_cases h1 : lo ≤ n <;> by_cases h2 : n ≤ hi <;>
  (go_wp2
   go_ret
   exact ⟨by simp [*], rfl⟩)
theorem geom_up_any (n b : Int) (w : World) (hn : 0 ≤ n ∧ n ≤ 100000) (hb : 0 < b ∧ b ≤ 1000) : Calls Try.prog 112 #[.int .i64 n, .int .i64 b] w fun e w' => e = .returned (.int .i64 (upI n b)) ∧ w = w' := by
  have e1 : (n + b - 1).tdiv b = upI n b := Int.tdiv_eq_ediv_of_nonneg (by omega)
  have hq : 0 ≤ upI n b ∧ upI n b ≤ 1000000 := by
    unfold upI
    exact ⟨Int.ediv_nonneg (by omega) (by omega), Int.le_trans (Int.ediv_le_self _ (by omega)) (by omega)⟩
  have hbne : ¬ (b = 0) := by omega
  go_enter Try.func112, Try.ntmps112
  go_wp2
  all_goals (first | (exfalso; omega) | skip)
  go_ret
  refine ⟨?_, rfl⟩
  rw [← e1]
  rfl
theorem ref_up_any (n b : Int) (w : World) (hn : 0 ≤ n ∧ n ≤ 100000) (hb : 0 < b ∧ b ≤ 1000) : Calls Try.prog 105 #[.int .i64 n, .int .i64 b] w fun e w' => e = .returned (.int .i64 (upI n b)) ∧ w = w' := by
  have e1 : (n + b - 1).tdiv b = upI n b := Int.tdiv_eq_ediv_of_nonneg (by omega)
  have hq : 0 ≤ upI n b ∧ upI n b ≤ 1000000 := by
    unfold upI
    exact ⟨Int.ediv_nonneg (by omega) (by omega), Int.le_trans (Int.ediv_le_self _ (by omega)) (by omega)⟩
  have hbne : ¬ (b = 0) := by omega
  go_enter Try.func105, Try.ntmps105
  go_wp2
  all_goals (first | (exfalso; omega) | skip)
  go_ret
  refine ⟨?_, rfl⟩
  rw [← e1]
  rfl
theorem geom_config_any (p : Nat) (b s l : Int) (w : World) (hg : GeoAt w p b s l) :
    Calls Try.prog 110 #[.pointer (some ⟨p, 0, none⟩)] w fun e w' => e = .returned (.agg #[.int .i64 b, .int .i64 s, .int .i64 l]) ∧ Only [] w w' := by
  have hres : Try.f110.results = #[.cell 2 44] := by kernel_rfl
  have HRES := Lib.hid hres
  obtain ⟨c0, c1, c2⟩ := hg
  have hlt := lt_of_cell c0
  clear hres
  go_enter Try.func110, Try.ntmps110
  go_wp2
  (try simp only [Exit.inBlock, Exit.then])
  refine bodyPost_ret (v := .agg #[.int .i64 b, .int .i64 s, .int .i64 l]) ?_ rfl ⟨rfl, ?_⟩
  · simp only [results, HRES.out]
    go_simp
  · exact (Only.refl _ _).alloc _
theorem field_cfg0 (b s l : Int) (w : World) : (Instr.field 44 (.agg #[.int .i64 b, .int .i64 s, .int .i64 l]) 0).run Try.prog w = .ok (.int .i64 b) w := by kernel_rfl
theorem field_cfg1 (b s l : Int) (w : World) : (Instr.field 44 (.agg #[.int .i64 b, .int .i64 s, .int .i64 l]) 1).run Try.prog w = .ok (.int .i64 s) w := by kernel_rfl
set_option maxRecDepth 100000 in
theorem geom_pages_any (p : Nat) (b s l : Int) (w : World) (hg : GeoAt w p b s l) (hb : CfOk b s l) :
    Calls Try.prog 109 #[.pointer (some ⟨p, 0, none⟩)] w fun e w' => e = .returned (.int .i64 (pgs b)) ∧ Only [] w w' := by
  have HG := Lib.hid hg
  have HB := Lib.hid hb
  have e1 : upI b 15 = pgs b := by unfold upI pgs; congr 1; omega
  have HE := Lib.hid e1
  clear hg hb e1
  have hfl := field_cfg0 b s l
  go_enter Try.func109, Try.ntmps109
  go_wp2_with fail
  refine (geom_config_any p b s l _ HG.out).mono ?_
  rintro e w1 ⟨rfl, hO1⟩
  have HO1 := Lib.hid hO1
  clear hO1
  go_wp2_with fail
  refine (geom_up_any b 15 _ (by have := HB.out; unfold CfOk at this; omega) (by decide)).mono ?_
  rintro e w2 ⟨rfl, rfl⟩
  rw [HE.out]
  go_wp2
  go_ret
  exact ⟨rfl, HO1.out⟩
theorem geom_rlen_any (p : Nat) (b s l : Int) (w : World) (hg : GeoAt w p b s l) (hb : CfOk b s l) :
    Calls Try.prog 67 #[.pointer (some ⟨p, 0, none⟩)] w fun e w' => e = .returned (.int .i64 (rln s)) ∧ w = w' := by
  obtain ⟨c0, c1, c2⟩ := hg
  have hlt := lt_of_cell c0
  have HB := Lib.hid hb
  have e1 : upI (43 + 5 * s) 64 = rln s := by unfold upI rln; congr 1; omega
  have HE := Lib.hid e1
  have hs : 8 ≤ s ∧ s ≤ 32 := hb.2.1
  have hw1 := IntWalk.i64_in (5 * s) (by omega)
  have hw2 := IntWalk.i64_in (43 + 5 * s) (by omega)
  clear hb e1
  go_enter Try.func67, Try.ntmps67
  go_wp2_with fail
  refine (geom_up_any (43 + 5 * s) 64 _ (by omega) (by decide)).mono ?_
  rintro e w2 ⟨rfl, rfl⟩
  rw [HE.out]
  go_wp2
  go_ret
  exact ⟨rfl, rfl⟩
theorem geom_has_any (p : Nat) (b s l x : Int) (w : World) (hg : GeoAt w p b s l) (hb : CfOk b s l) :
    Calls Try.prog 125 #[.pointer (some ⟨p, 0, none⟩), .int .i64 x] w fun e w' => e = .returned (.bool (decide (0 ≤ x ∧ x ≤ s - 1))) ∧ w = w' := by
  obtain ⟨c0, c1, c2⟩ := hg
  have hlt := lt_of_cell c0
  have hs : 8 ≤ s ∧ s ≤ 32 := hb.2.1
  have hw1 := IntWalk.i64_in (s - 1) (by omega)
  obtain ⟨bb, hbb⟩ : ∃ bb, decide (0 ≤ x ∧ x ≤ s - 1) = bb := ⟨_, rfl⟩
  have HBB := Lib.hid hbb
  rw [hbb]
  clear hb hbb
  go_enter Try.func125, Try.ntmps125
  go_wp2_with fail
  refine (geom_within_any x 0 (s - 1) _).mono ?_
  rintro e w2 ⟨rfl, rfl⟩
  rw [HBB.out]
  go_wp2
  go_ret
  exact ⟨rfl, rfl⟩
set_option maxRecDepth 100000 in
theorem ref_pages_any (b s l : Int) (w : World) (hb : CfOk b s l) :
    Calls Try.prog 65 #[.agg #[.int .i64 b, .int .i64 s, .int .i64 l]] w fun e w' => e = .returned (.int .i64 (pgs b)) ∧ Only [] w w' := by
  have e1 : upI b 15 = pgs b := by unfold upI pgs; congr 1; omega
  have HE := Lib.hid e1
  have HB := Lib.hid hb
  clear e1 hb
  go_enter Try.func65, Try.ntmps65
  go_wp2_with fail
  refine (ref_up_any b 15 _ (by have := HB.out; unfold CfOk at this; omega) (by decide)).mono ?_
  rintro e w2 ⟨rfl, rfl⟩
  rw [HE.out]
  go_wp2
  go_ret
  exact ⟨rfl, (Only.refl _ _).alloc _⟩
theorem ref_rlen_any (b s l : Int) (w : World) (hb : CfOk b s l) :
    Calls Try.prog 133 #[.agg #[.int .i64 b, .int .i64 s, .int .i64 l]] w fun e w' => e = .returned (.int .i64 (rln s)) ∧ Only [] w w' := by
  have e1 : upI (43 + 5 * s) 64 = rln s := by unfold upI rln; congr 1; omega
  have HE := Lib.hid e1
  have hs : 8 ≤ s ∧ s ≤ 32 := hb.2.1
  have hw1 := IntWalk.i64_in (5 * s) (by omega)
  have hw2 := IntWalk.i64_in (43 + 5 * s) (by omega)
  clear hb e1
  go_enter Try.func133, Try.ntmps133
  go_wp2_with fail
  refine (ref_up_any (43 + 5 * s) 64 _ (by omega) (by decide)).mono ?_
  rintro e w2 ⟨rfl, rfl⟩
  rw [HE.out]
  go_wp2
  go_ret
  exact ⟨rfl, (Only.refl _ _).alloc _⟩

set_option maxRecDepth 100000 in
set_option maxHeartbeats 4000000 in
theorem ref_posmay_any (b s l ps po pl pp pm : Int) (w : World) (hb : CfOk b s l) :
    Calls Try.prog 119 #[.agg #[.int .i64 b, .int .i64 s, .int .i64 l], .agg #[.int .i64 ps, .int .i64 po, .int .i64 pl, .int .i64 pp, .int .i64 pm]] w fun e w' => e = .returned (.bool (posMay s l ps po pl pp pm)) ∧ Only [] w w' := by
  have hs : (8 ≤ s ∧ s ≤ 32) ∧ 24 ≤ l ∧ l ≤ 64 := ⟨hb.2.1, hb.2.2⟩
  have hw1 := IntWalk.i64_in (s - 1) (by omega)
  have hw2 := IntWalk.i64_in (l - 1) (by omega)
  clear hb hs
  have hE : posMay s l ps po pl pp pm = (decide (0 ≤ ps ∧ ps ≤ s - 1) && (decide (0 ≤ po ∧ po ≤ l - 1) && (decide (1 ≤ pl ∧ pl ≤ 2147483647) && (decide (1 ≤ pm ∧ pm ≤ 2147483647) && decide (0 ≤ pp ∧ pp ≤ 4294967295))))) := rfl
  have HE := Lib.hid hE
  clear hE
  go_enter Try.func119, Try.ntmps119
  go_wp2_with (first | (go_at_call 60; refine (within_any _ _ _ _).mono ?_; rintro e w' ⟨rfl, rfl⟩))
  all_goals (go_ret; exact ⟨by rw [HE.out]; simp [*], ((Only.refl _ _).alloc _).alloc _⟩)
end Go.Proofs.Ytkpagiokjihmhaa
