
/- alike.Config, geom.New, law9's kept. -/
import Derived.Test.YtkpagiokjihmhaaGeoB
set_option linter.unusedVariables false
set_option linter.unusedSimpArgs false
namespace Go.Kn
open Go Go.RowKit
theorem GeoAt.keep {S : List Nat} {w w' : World} {p : Nat} {b s l : Int} (h : GeoAt w p b s l) (hO : Only S w w') (hp : p ∉ S) : GeoAt w' p b s l := ⟨hO.cell h.c0 hp, hO.cell h.c1 hp, hO.cell h.c2 hp⟩
theorem cf_ok (z0 z1 z2 : Int) : CfOk (1 + z0 % 64) (8 + z1 % 25) (24 + z2 % 41) := by unfold CfOk; omega
end Go.Kn
namespace Go.Proofs.Ytkpagiokjihmhaa
open Go Go.RowKit Go.Kn

set_option maxRecDepth 100000 in
set_option maxHeartbeats 4000000 in
theorem alike_config_any (z0 z1 z2 : Int) (w : World) (h0 : (Lit.int .i64 z0).wf = true) (h1 : (Lit.int .i64 z1).wf = true) (h2 : (Lit.int .i64 z2).wf = true) :
    Calls Try.prog 62 #[.agg #[.int .i64 z0, .int .i64 z1, .int .i64 z2], .bool false] w fun e w' => e = .returned (.agg #[.int .i64 (1 + z0 % 64), .int .i64 (8 + z1 % 25), .int .i64 (24 + z2 % 41)]) ∧ Only [] w w' := by
  have H0 := Lib.hid h0
  have H1 := Lib.hid h1
  have H2 := Lib.hid h2
  have hres : Try.f62.results = #[.cell 4 44] := by kernel_rfl
  have HRES := Lib.hid hres
  clear h0 h1 h2 hres
  have hw0 := IntWalk.i64_in (1 + z0 % 64) (by omega)
  have hw1 := IntWalk.i64_in (8 + z1 % 25) (by omega)
  have hw2 := IntWalk.i64_in (24 + z2 % 41) (by omega)
  go_enter Try.func62, Try.ntmps62
  go_wp2_with fail
  have HW := Lib.hid (((Only.refl [] w).alloc (.cells #[.int .i64 z0, .int .i64 z1, .int .i64 z2] 42)).alloc (.cells #[.int .i64 0, .int .i64 0, .int .i64 0] 44))
  have c0 : ((w.alloc (.cells #[.int .i64 z0, .int .i64 z1, .int .i64 z2] 42)).alloc (.cells #[.int .i64 0, .int .i64 0, .int .i64 0] 44)).cell? ⟨w.heap.size, 0, none⟩ = some (.int .i64 z0) := by simp
  have c1 : ((w.alloc (.cells #[.int .i64 z0, .int .i64 z1, .int .i64 z2] 42)).alloc (.cells #[.int .i64 0, .int .i64 0, .int .i64 0] 44)).cell? ⟨w.heap.size, 1, none⟩ = some (.int .i64 z1) := by simp
  have c2 : ((w.alloc (.cells #[.int .i64 z0, .int .i64 z1, .int .i64 z2] 42)).alloc (.cells #[.int .i64 0, .int .i64 0, .int .i64 0] 44)).cell? ⟨w.heap.size, 2, none⟩ = some (.int .i64 z2) := by simp
  go_region_held3 (fun w' => w'.cell? ⟨w.heap.size, 0, none⟩ = some (.int .i64 z0) ∧ w'.cell? ⟨w.heap.size, 1, none⟩ = some (.int .i64 z1) ∧ w'.cell? ⟨w.heap.size, 2, none⟩ = some (.int .i64 z2))
    (first | exact ⟨c0, c1, c2⟩ | go_keep)
    (first
    | (go_at_call 26; refine (round_any _ _ _ (by first | exact H0.out | exact H1.out | exact H2.out) (by decide) (by decide)).mono ?_
       rintro e w' ⟨rfl, rfl⟩))
  go_wp2
  (try simp only [Exit.inBlock, Exit.then])
  refine bodyPost_ret (v := .agg #[.int .i64 (1 + z0 % 64), .int .i64 (8 + z1 % 25), .int .i64 (24 + z2 % 41)]) ?_ rfl ⟨rfl, ?_⟩
  · simp only [results, HRES.out]
    go_simp
  · exact (((Only.refl _ _).alloc _).alloc _).drew

set_option maxRecDepth 100000 in
set_option maxHeartbeats 4000000 in
theorem geom_new_any (b s l : Int) (w : World) (hb : CfOk b s l) :
    Calls Try.prog 63 #[.agg #[.int .i64 b, .int .i64 s, .int .i64 l]] w fun e w' => ∃ p, e = .returned (.tuple #[.pointer (some ⟨p, 0, none⟩), .int .i64 0]) ∧ w.heap.size ≤ p ∧ GeoAt w' p b s l ∧ Only [] w w' := by
  obtain ⟨h1, h2, h3⟩ := hb
  have H1 : Hid (decide (1 ≤ b ∧ b ≤ 64) = true) := Lib.hid (decide_eq_true h1)
  have H2 : Hid (decide (8 ≤ s ∧ s ≤ 32) = true) := Lib.hid (decide_eq_true h2)
  have H3 : Hid (decide (24 ≤ l ∧ l ≤ 64) = true) := Lib.hid (decide_eq_true h3)
  clear h1 h2 h3
  go_enter Try.func63, Try.ntmps63
  go_wp2_with (go_at_call 92; refine (geom_within_any _ _ _ _).mono ?_; rintro e w' ⟨rfl, rfl⟩; first | rw [H1.out] | rw [H2.out] | rw [H3.out])
  go_ret2
  have hs : (w.alloc (.cells #[.int .i64 b, .int .i64 s, .int .i64 l] 44)).heap.size = w.heap.size + 1 := by simp
  have hO := Own.new (w.alloc (.cells #[.int .i64 b, .int .i64 s, .int .i64 l] 44)) #[.int .i64 b, .int .i64 s, .int .i64 l] 148
  rw [hs] at hO
  exact ⟨w.heap.size + 1, rfl, by omega, ⟨hO.cell 0 (by simp), hO.cell 1 (by simp), hO.cell 2 (by simp)⟩, ((Only.refl _ _).alloc _).alloc _⟩

set_option maxRecDepth 100000 in
set_option maxHeartbeats 4000000 in
theorem kept9_any (z0 z1 z2 : Int) (w : World) (h0 : (Lit.int .i64 z0).wf = true) (h1 : (Lit.int .i64 z1).wf = true) (h2 : (Lit.int .i64 z2).wf = true) :
    Calls Try.prog 17 #[.agg #[.int .i64 z0, .int .i64 z1, .int .i64 z2]] w fun e w' => ∃ p, e = .returned (.tuple #[.agg #[.int .i64 (1 + z0 % 64), .int .i64 (8 + z1 % 25), .int .i64 (24 + z2 % 41)], .pointer (some ⟨p, 0, none⟩), .bool true]) ∧
      GeoAt w' p (1 + z0 % 64) (8 + z1 % 25) (24 + z2 % 41) ∧ w.heap.size ≤ p ∧ Only [] w w' := by
  have H0 := Lib.hid h0
  have H1 := Lib.hid h1
  have H2 := Lib.hid h2
  have hres : Try.f17.results = #[.cell 2 44, .tmp 3, .tmp 4] := by kernel_rfl
  have HRES := Lib.hid hres
  clear h0 h1 h2 hres
  have HCF := Lib.hid (cf_ok z0 z1 z2)
  obtain ⟨b, hb⟩ : ∃ b, 1 + z0 % 64 = b := ⟨_, rfl⟩
  obtain ⟨s, hs⟩ : ∃ b, 8 + z1 % 25 = b := ⟨_, rfl⟩
  obtain ⟨l, hl⟩ : ∃ b, 24 + z2 % 41 = b := ⟨_, rfl⟩
  rw [hb, hs, hl]
  rw [hb, hs, hl] at HCF
  have HC : Hid (∀ W : World, Calls Try.prog 62 #[.agg #[.int .i64 z0, .int .i64 z1, .int .i64 z2], .bool false] W fun e w' => e = .returned (.agg #[.int .i64 b, .int .i64 s, .int .i64 l]) ∧ Only [] W w') := Lib.hid fun W => by
    have h := alike_config_any z0 z1 z2 W H0.out H1.out H2.out
    rw [hb, hs, hl] at h
    exact h
  clear hb hs hl
  go_enter Try.func17, Try.ntmps17
  go_wp2_with fail
  refine (HC.out _).mono ?_
  rintro e w1 ⟨rfl, hO1⟩
  have hX := (((Own.new w #[.int .i64 z0, .int .i64 z1, .int .i64 z2] 42).alloc (.cells #[.int .i64 0, .int .i64 0, .int .i64 0] 44)).keep0 hO1)
  have hs0 : (w.alloc (.cells #[.int .i64 z0, .int .i64 z1, .int .i64 z2] 42)).heap.size = w.heap.size + 1 := by simp
  have hY := (Own.new (w.alloc (.cells #[.int .i64 z0, .int .i64 z1, .int .i64 z2] 42)) #[.int .i64 0, .int .i64 0, .int .i64 0] 44).keep0 hO1
  rw [hs0] at hY
  have hylt := hY.lt
  have HO1 := Lib.hid ((((Only.refl [] w).alloc (.cells #[.int .i64 z0, .int .i64 z1, .int .i64 z2] 42)).alloc (.cells #[.int .i64 0, .int .i64 0, .int .i64 0] 44)).trans' hO1)
  have HB1 := Lib.hid (hY.alloc (.cells #[.int .i64 b, .int .i64 s, .int .i64 l] 44))
  have HC1 := Lib.hid (Own.new w1 #[.int .i64 b, .int .i64 s, .int .i64 l] 44)
  clear hO1 hX hs0 hY
  go_wp2_with fail
  refine (geom_new_any b s l _ HCF.out).mono ?_
  rintro e w2 ⟨p, rfl, hp, hg, hO2⟩
  have hB2 := HB1.out.keep0 hO2
  have hC2 := HC1.out.keep0 hO2
  have x0 := hC2.cell 0 (by simp)
  have x1 := hC2.cell 1 (by simp)
  have x2 := hC2.cell 2 (by simp)
  have y0 := hB2.cell 0 (by simp)
  have y1 := hB2.cell 1 (by simp)
  have y2 := hB2.cell 2 (by simp)
  simp only [List.getElem_cons_zero, List.getElem_cons_succ] at x0 x1 x2 y0 y1 y2
  have f0 := hB2.frozen 0
  have f1 := hB2.frozen 1
  have f2 := hB2.frozen 2
  have hl1 := hB2.lt
  have hl2 := hC2.lt
  have hne : ¬ (w.heap.size + 1 = w1.heap.size) := by omega
  have HO2 := Lib.hid ((HO1.out.alloc (.cells #[.int .i64 b, .int .i64 s, .int .i64 l] 44)).trans' hO2)
  have HG2 := Lib.hid hg
  have hpn : ¬ (p = w.heap.size + 1) := by simp at hp; omega
  have hpf : w.heap.size ≤ p := by simp at hp; omega
  clear hO2 hg hB2 hC2
  go_wp2
  (try simp only [Exit.inBlock, Exit.then])
  have hO3 : Only [w.heap.size + 1] w2 (((w2.setCell ⟨w.heap.size + 1, 0, none⟩ (.int .i64 b)).setCell ⟨w.heap.size + 1, 1, none⟩ (.int .i64 s)).setCell ⟨w.heap.size + 1, 2, none⟩ (.int .i64 l)) := (((Only.refl _ _).set (.inl (by simp)) _).set (.inl (by simp)) _).set (.inl (by simp)) _
  refine bodyPost_ret (v := .tuple #[.agg #[.int .i64 b, .int .i64 s, .int .i64 l], .pointer (some ⟨p, 0, none⟩), .bool true]) ?_ rfl ⟨p, rfl, HG2.out.keep hO3 (by simp; omega), hpf, HO2.out.trans hO3 (by simp)⟩
  simp only [results, HRES.out]
  go_simp
end Go.Proofs.Ytkpagiokjihmhaa
