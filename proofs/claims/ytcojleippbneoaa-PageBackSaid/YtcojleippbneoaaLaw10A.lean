/- The law package of chapter 10: awake. -/
import Derived.Test.YtcojleippbneoaaPageE
set_option linter.unusedVariables false
namespace Go.Kn
open Go Go.RowKit
def awakeP : List UInt8 := sealed (lay zeros64 0 (les 4 (awakeR.map w32)))
theorem awakeP_enc : encPage awakeR = some awakeP := by decide +kernel
theorem awakeP_length : awakeP.length = 64 := by decide +kernel
def awakeQ : List Int := awakeR ++ List.replicate 12 0
theorem awakeP_dec : decPage awakeP = some awakeQ := awake_page
theorem awakeP_at : awakeP[0]? = some 5 ∧ awakeP[4]? = some 255 ∧ awakeP[8]? = some 2 ∧ awakeP[9]? = some 1 := by decide +kernel
theorem bys_at {w : World} {g o n c i : Nat} {bs : List UInt8} {x : UInt8} (h : Bys w (some ⟨g, o, none⟩) n c bs) (hi : bs[i]? = some x) : w.cell? ⟨g, o + i, none⟩ = some (.int .u8 (x.toNat : Int)) := by
  obtain ⟨h1, h2⟩ := List.getElem?_eq_some_iff.1 hi
  have hl := h.len
  rw [bvs_length] at hl
  obtain ⟨g', o', e, hc⟩ := h.at_ (by omega)
  injection e with e
  injection e with e1 e2
  subst e1 e2
  have := hc i (by simpa using h1)
  rw [bvs_get, h2] at this
  exact this
theorem ins_at {w : World} {g o n c i : Nat} {zs : List Int} {x : Int} (h : Ins w (some ⟨g, o, none⟩) n c zs) (hi : zs[i]? = some x) : w.cell? ⟨g, o + i, none⟩ = some (.int .i64 x) := by
  obtain ⟨h1, h2⟩ := List.getElem?_eq_some_iff.1 hi
  have hl := h.len
  rw [ivs_length] at hl
  obtain ⟨g', o', e, hc⟩ := h.at_ (by omega)
  injection e with e
  injection e with e1 e2
  subst e1 e2
  have := hc i (by simpa using h1)
  rw [ivs_get, h2] at this
  exact this
end Go.Kn
namespace Go.Proofs.Ytcojleippbneoaa
open Go Go.RowKit Go.Kn

set_option maxRecDepth 100000 in
set_option maxHeartbeats 4000000 in
theorem awake10 (w : World) : Calls Try.prog 47 #[] w fun e w' => e = .returned (.bool true) ∧ Only [] w w' := by
  have hmk : ∀ w : World, (Instr.makeSlice 29 (.int .i64 64) (.int .i64 64)).run Try.prog w = .ok (.slice (some ⟨w.heap.size, 0, none⟩) 64 64) (w.alloc (.cells (bvs (List.replicate 64 0)).toArray 5)) := make_bys 64 (by decide)
  go_enter Try.func47, Try.ntmps47
  go_wp2_with fail
  refine (page_enc_any _ 3 3 awakeR _ (by exact ins_built _ [5, -1, 258] _ 3 rfl (by omega))).mono ?_
  rintro e w2 ⟨A2, c2, rfl, hb2, hn2, hO2⟩
  rw [awakeP_enc] at hb2
  rw [awakeP_enc]
  simp only [Option.getD_some, Option.isSome_some, if_true, awakeP_length] at hb2 ⊢
  have HB2 := Lib.hid hb2
  have HO2 := Lib.hid (((Only.refl [] w).alloc (.cells #[.int .i64 5, .int .i64 (-1), .int .i64 258] 3)).trans' hO2)
  clear hb2 hn2 hO2
  go_wp2_with fail
  refine (page_dec_any A2 64 c2 awakeP _ (by exact HB2.out) (by decide)).mono ?_
  rintro e w3 ⟨A3, c3, rfl, hb3, hO3⟩
  rw [awakeP_dec] at hb3
  rw [awakeP_dec]
  simp only [Option.getD_some, Option.isSome_some, if_true] at hb3 ⊢
  have hq15 : awakeQ.length = 15 := rfl
  rw [hq15] at hb3 ⊢
  have HB23 := Lib.hid (HB2.out.keep0 hO3)
  have HO3 := Lib.hid (HO2.out.trans' hO3)
  have HB3 := Lib.hid hb3
  clear hO3 hb3 HB2 HO2 hq15
  go_wp2_with fail
  have hzb : Bys (w3.alloc (.cells (bvs (List.replicate 64 0)).toArray 5)) (some ⟨w3.heap.size, 0, none⟩) 64 64 zeros64 := Row1.of_Own (Own.new w3 (bvs (List.replicate 64 0)).toArray 5) (by simp [zeros64]) (Nat.le_refl _) (by unfold maxLen; omega)
  refine (page_dec_any _ 64 64 zeros64 _ (by exact hzb) (by decide)).mono ?_
  rintro e w4 ⟨A4, c4, rfl, _, hO4⟩
  rw [zeros_page]
  simp only [Option.getD_none, Option.isSome_none, List.length_nil]
  have hO34 := ((Only.refl [] w3).alloc (.cells (bvs (List.replicate 64 0)).toArray 5)).trans' hO4
  have HB24 := Lib.hid (HB23.out.keep0 hO34)
  have HB4 := Lib.hid (HB3.out.keep0 hO34)
  have HO4 := Lib.hid (HO3.out.trans' hO34)
  clear hO4 hO34 hzb HB23 HB3 HO3 hmk
  go_wp2_with fail
  refine (page_enc_any _ 1 1 [4096] _ (by exact ins_built _ [4096] _ 1 rfl (by omega))).mono ?_
  rintro e w5 ⟨A5, c5, rfl, _, _, hO5⟩
  rw [show encPage [4096] = none from by decide]
  simp only [Option.getD_none, Option.isSome_none, List.length_nil]
  have hO45 := ((Only.refl [] w4).alloc (.cells #[.int .i64 4096] 3)).trans' hO5
  have hb := HB24.out.keep0 hO45
  have hq := HB4.out.keep0 hO45
  have HO5 := Lib.hid (HO4.out.trans' hO45)
  obtain ⟨ga, oa, rfl, _⟩ := hb.at_ (by decide)
  obtain ⟨gb, ob, rfl, _⟩ := hq.at_ (by decide)
  have z0 := bys_at hb awakeP_at.1
  have z4 := bys_at hb awakeP_at.2.1
  have z8 := bys_at hb awakeP_at.2.2.1
  have z9 := bys_at hb awakeP_at.2.2.2
  have y1 := ins_at hq (show awakeQ[1]? = some (-1) from rfl)
  have y3 := ins_at hq (show awakeQ[3]? = some 0 from rfl)
  simp only [Nat.add_zero] at z0
  replace z0 : w5.cell? ⟨ga, oa, none⟩ = some (.int .u8 5) := z0
  replace z4 : w5.cell? ⟨ga, oa + 4, none⟩ = some (.int .u8 255) := z4
  replace z8 : w5.cell? ⟨ga, oa + 8, none⟩ = some (.int .u8 2) := z8
  replace z9 : w5.cell? ⟨ga, oa + 9, none⟩ = some (.int .u8 1) := z9
  clear hO5 hO45 hb hq HO4 HB24 HB4
  go_wp2
  go_ret
  exact ⟨rfl, HO5.out⟩
end Go.Proofs.Ytcojleippbneoaa
