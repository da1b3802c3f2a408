/- The reference's closed. -/
import Derived.Test.YtcojleippbneoaaCrcC
import Derived.Test.YtcojleippbneoaaSealed
set_option linter.unusedVariables false
namespace Go.Proofs.Ytcojleippbneoaa
open Go Go.RowKit Go.Kn

set_option maxRecDepth 100000 in
set_option maxHeartbeats 4000000 in
theorem ref_closed_any (p g k : Nat) (bs : List UInt8) (w : World) (h : RowAt w p g bs k) (hl : bs.length = 64) :
    Calls Try.prog 84 #[.pointer (some ⟨p, 0, none⟩)] w fun e w' => ∃ c, e = .returned (.slice (some ⟨g, 0, none⟩) 64 c) ∧ 64 ≤ c ∧ c ≤ maxLen ∧ Own w' g (bvs (sealed bs)) ∧ Only [p, g] w w' := by
  obtain ⟨old, c, hf0, hcl, hf1, _, _⟩ := h.facts hl (show 0 < 64 by omega)
  have hpz := h.pz 1
  have hcm : c ≤ maxLen := by
    obtain ⟨A', c', h1, _, h3, _⟩ := h.fb
    rw [h1] at hf0
    injection hf0 with hf0
    injection hf0 with _ _ hcc
    omega
  have hpl := h.place 60 (by omega)
  have HL := Lib.hid hl
  have HP := Lib.hid hpl
  have hO0 : Only [p] w (w.setCell ⟨p, 1, none⟩ (.int .i64 ((60 : Nat) : Int))) := (Only.refl _ _).set (by simp) _
  have HO0 := Lib.hid hO0
  have H := Lib.hid h
  clear hpl hl hO0 h
  go_enter Try.func84, Try.ntmps84
  go_wp2_with fail
  have e60 : ((60 : Nat) : Int) = 60 := rfl
  rw [e60] at HP HO0
  have hb : Bys (w.setCell ⟨p, 1, none⟩ (.int .i64 60)) (some ⟨g, 0, none⟩) 60 c (bs.take 60) := by
    have h1 := (HP.out.own (by have := HL.out; omega)).take 60
    rw [show (bvs bs).take 60 = bvs (bs.take 60) from by simp [bvs, List.map_take]] at h1
    exact Row1.of_Own h1 (by simp; have := HL.out; omega) (by omega) hcm
  generalize w.setCell ⟨p, 1, none⟩ (.int .i64 60) = w0 at *
  refine (ref_sum_any (some ⟨g, 0, none⟩) 60 c (bs.take 60) _ (by exact hb)).mono ?_
  rintro e w1 ⟨rfl, hO1⟩
  have HR1 := Lib.hid (HP.out.keep0 hO1)
  have HO1 := Lib.hid (HO0.out.trans' (hO1.mono (by simp)))
  have hs := csum_lt (bs.take 60)
  have hsd : sealed bs = lay bs 60 (le 4 (csum (bs.take 60))) := rfl
  have HSD := Lib.hid hsd
  clear hO1 hb HP HO0 H hf0 hf1 hpz hsd
  generalize csum (bs.take 60) = s at *
  go_wp2_with fail
  refine (ref_one_any p g 60 bs 4 (s : Int) _ (by exact HR1.out) (by decide) (by rw [HL.out]; decide) ⟨by omega, by have e : (256 : Int) ^ 4 = 4294967296 := rfl; omega⟩).mono ?_
  rintro e w2 ⟨rfl, hr2, hO2⟩
  have e3 : ((s : Nat) : Int).toNat = s := by omega
  rw [e3, ← HSD.out] at hr2
  have hl2 := sealed_length bs HL.out
  obtain ⟨A2, c2, hc2, hle2, hm2, hA2⟩ := hr2.fb
  have hA := hA2 (by omega)
  subst hA
  rw [hl2] at hc2 hle2
  have HOW := Lib.hid (hr2.own (by omega))
  have HO2 := Lib.hid (((HO1.out.mono (T := [p, g]) (by simp)).trans' hO2) : Only [p, g] w w2)
  clear hr2 hO2 hA2 hl2
  go_wp2
  go_ret
  exact ⟨c2, rfl, hle2, hm2, HOW.out, HO2.out⟩
end Go.Proofs.Ytcojleippbneoaa
