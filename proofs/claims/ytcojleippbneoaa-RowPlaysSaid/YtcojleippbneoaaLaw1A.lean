/- The law package of chapter 1: awake. -/
import Derived.Test.YtcojleippbneoaaRowC
set_option linter.unusedVariables false
namespace Go.Proofs.Ytcojleippbneoaa
open Go Go.RowKit Go.Kn

/-- the ints of a variadic call, just built -/
theorem ins_new (w : World) (zs : List Int) (t : TypeId) (n : Nat) (hn : zs.length = n) (hm : n ≤ 1000000) : Ins (w.alloc (.cells (zs.map (Value.int .i64)).toArray t)) (some ⟨w.heap.size, 0, none⟩) n n zs := by
  have h := Own.new w (zs.map (Value.int .i64)).toArray t
  exact Row1.of_Own (by simpa [ivs] using h) (by simpa using hn) (Nat.le_refl _) (by unfold maxLen; omega)

theorem ne_new {w : World} {p g k : Nat} {bs : List UInt8} (h : RowAt w p g bs k) : ∀ a, some (⟨w.heap.size, 0, none⟩ : Addr) = some a → a.block ≠ p ∧ a.block ≠ g := by
  intro a ha
  injection ha with ha
  subst ha
  have h1 := h.lp
  have h2 := h.lg
  exact ⟨by simp; omega, by simp; omega⟩

set_option maxRecDepth 100000 in
set_option maxHeartbeats 1000000 in
theorem awake1 (w : World) : Calls Try.prog 19 #[] w fun e w' => e = .returned (.bool true) ∧ Only [] w w' := by
  go_enter Try.func19, Try.ntmps19
  go_wp2_with fail
  refine (new_any 3 _ (by decide) (by decide)).mono ?_
  rintro e w1 ⟨p, g, rfl, hp, hg, hr1, hO1⟩
  have hR1 := Lib.hid hr1
  have HO1 := Lib.hid hO1
  clear hr1 hO1
  go_wp2_with fail
  refine (new_none (-1) _ (by decide)).mono ?_
  rintro e w' ⟨rfl, rfl⟩
  go_wp2_with fail
  refine (new_none 65537 _ (by decide)).mono ?_
  rintro e w' ⟨rfl, rfl⟩
  go_wp2_with fail
  refine (put_any p g 0 _ 2 _ 1 1 [258] _ (hR1.out.alloc _) (ins_new _ [258] _ 1 rfl (by decide)) (ne_new hR1.out) (by decide) (by decide) (by decide)).mono ?_
  rintro e w2 ⟨rfl, hr2, hO2⟩
  have e2 : lay (List.replicate (Int.toNat 3) 0) 0 (les 2 [258]) = [2, 1, 0] := by decide
  rw [e2] at hr2
  have hR2 := Lib.hid hr2
  have HO2 := Lib.hid (((HO1.out.alloc _).trans hO2 (by simp; omega)) : Only [] w w2)
  clear hr2 hO2 e2
  go_wp2_with fail
  refine (put_full p g 2 _ 2 _ 1 1 _ (hR2.out.alloc _) (by decide) (by decide) (by decide)).mono ?_
  rintro e w3 ⟨rfl, n3, rfl⟩
  have HO3 := Lib.hid ((HO2.out.alloc (.cells #[.int .i64 1] 3)).drewN n3)
  have hR3 := Lib.hid ((hR2.out.alloc (.cells #[.int .i64 1] 3)).drewN n3)
  clear HO2 hR2 HO1 hR1
  go_wp2_with fail
  refine (bytes_any p g 2 _ _ (by exact hR3.out)).mono ?_
  rintro e w4 ⟨A4, c4, rfl, hc4, hm4, hpos4, hO4⟩
  obtain ⟨g4, rfl, hg4, ho4⟩ := hpos4 (by decide)
  have HO4 := Lib.hid (HO3.out.trans' hO4)
  have hs4 := HO4.out.size
  have hR4 := Lib.hid (hR3.out.keep0 hO4)
  have hB4 := Lib.hid (Row1.of_Own ho4 rfl hc4 hm4)
  clear hO4 ho4 HO3 hR3 hpos4
  go_wp2_with fail
  refine (from_any _ _ _ [2, 1, 0] _ (by exact hB4.out) (by decide)).mono ?_
  rintro e w5 ⟨p5, g5, rfl, hp5, hg5, hr5, hO5⟩
  have HO5 := Lib.hid (HO4.out.trans' hO5)
  have hR5 := Lib.hid (hR4.out.keep0 hO5)
  have hX5 := Lib.hid hr5
  have hlp := hR4.out.lp
  have hlg := hR4.out.lg
  clear hO5 hr5 HO4 hR4 hB4
  go_wp2_with fail
  refine (get_any p5 g5 0 _ 2 _ (by exact hX5.out) (by decide) (by decide)).mono ?_
  rintro e w6 ⟨rfl, hr6, hO6⟩
  have hX6 := Lib.hid hr6
  have hR6 := Lib.hid (hR5.out.keep hO6 (by simp; omega) (by simp; omega))
  have HO6 := Lib.hid (HO5.out.trans hO6 (by simp; exact Nat.le_trans hs4 hp5))
  clear hr6 hO6 HO5 hR5 hX5
  go_wp2_with fail
  refine (get_none p5 g5 (0 + 2) _ 2 _ (by exact hX6.out) (by decide)).mono ?_
  rintro e w7 ⟨rfl, n7, rfl⟩
  have hX7 := Lib.hid (hX6.out.drewN n7)
  have hR7 := Lib.hid (hR6.out.drewN n7)
  have HO7 := Lib.hid (HO6.out.drewN n7)
  clear hX6 hR6 HO6
  go_wp2_with fail
  refine (left_any p5 g5 (0 + 2) _ _ (by exact hX7.out)).mono ?_
  rintro e w8 ⟨rfl, n8, rfl⟩
  have hR8 := Lib.hid (hR7.out.drewN n8)
  have HO8 := Lib.hid (HO7.out.drewN n8)
  rw [World.drewN_drewN] at hR8 HO8
  clear hX7 hR7 HO7
  go_wp2_with fail
  refine (bytes_any p g 2 _ _ (by exact hR8.out)).mono ?_
  rintro e w9 ⟨A9, c9, rfl, hc9, hm9, hpos9, hO9⟩
  have HO9 := Lib.hid (HO8.out.trans' hO9)
  clear hpos9 hO9 HO8
  go_wp2_with fail
  refine (left_nil _).mono ?_
  rintro e w' ⟨rfl, rfl⟩
  go_wp2_with fail
  refine (put_nil 1 none 0 0 _).mono ?_
  rintro e w' ⟨rfl, rfl⟩
  go_wp2_with fail
  refine (bytes_nil _).mono ?_
  rintro e w10 ⟨A10, c10, rfl, hc10, hm10, hpos10, hO10⟩
  have HO10 := Lib.hid (HO9.out.trans' hO10)
  clear hpos10 hO10
  go_wp2
  go_ret
  exact ⟨rfl, HO10.out⟩
end Go.Proofs.Ytcojleippbneoaa
