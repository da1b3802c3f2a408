/- Contract of the reference's PageBytes. -/
import Derived.Test.YtcojleippbneoaaPageA
set_option linter.unusedVariables false
namespace Go.Proofs.Ytcojleippbneoaa
open Go Go.RowKit Go.Kn

set_option maxRecDepth 100000 in
set_option maxHeartbeats 4000000 in
theorem ref_page_bytes_any (A : Option Addr) (n c : Nat) (zs : List Int) (w : World) (hi : Ins w A n c zs) (hwf : ∀ z ∈ zs, (Lit.int .i64 z).wf = true) :
    Calls Try.prog 49 #[.slice A n c] w (EncSays w (encPage zs)) := by
  have hlen := hi.len
  rw [ivs_length] at hlen
  have hcm := hi.cm
  have hcl := hi.le
  unfold maxLen at hcm
  have HI := Lib.hid hi
  have HL := Lib.hid hlen
  have HWF := Lib.hid hwf
  clear hi hlen hwf
  by_cases h15 : n ≤ 15
  · have hd15 : decide (15 < (n : Int)) = false := by simp; omega
    go_enter Try.func49, Try.ntmps49
    go_wp2_with fail
    refine (ref_new_any 64 _ (by decide) (by decide)).mono ?_
    rintro e w1 ⟨p, g, rfl, hp, hg, hr1, hO1⟩
    have hzr : List.replicate (64 : Int).toNat (0 : UInt8) = zeros64 := rfl
    rw [hzr] at hr1
    have HO1 := Lib.hid hO1
    have HR1 := Lib.hid hr1
    clear hO1 hr1 hzr
    go_wp2_with fail
    go_loopg [5] n (fun r i wr => ∃ j : Nat, j + r = n ∧ i = .int .i64 j ∧ RowAt wr p g (lay zeros64 0 (les 4 ((zs.take j).map w32))) (4 * j) ∧ Only [] w wr ∧ (zs.take j).all refMay = true)
    case atStart => exact ⟨0, by omega, rfl, by simpa [lay_nil] using HR1.out, HO1.out, by simp⟩
    obtain ⟨j, hj, rfl, hr, hO, hal⟩ := hrel
    have HR := Lib.hid hr
    have HO := Lib.hid hO
    have HAL := Lib.hid hal
    have hlp := hr.lp
    have hlg := hr.lg
    clear hr hO hal
    by_cases hlt : j < n
    · have hjz : j < zs.length := by rw [HL.out]; exact hlt
      obtain ⟨a, o, rfl, hc⟩ := HI.out.at_ (by omega)
      have q0 := hc j (by simpa using hjz)
      rw [ivs_get] at q0
      have c0 := HO.out.cell q0 (by simp)
      have hx2 : (j : Int) < (n : Int) := by omega
      have hx1 : 0 ≤ (j : Int) := by omega
      have htn : ((j : Int)).toNat = j := by omega
      clear hc q0
      cases hm : refMay zs[j]
      · have hbad := page_bad hjz hm
        have HBAD := Lib.hid hbad
        have hm2 := hm
        unfold refMay at hm2
        have hm3 := of_decide_eq_false hm2
        clear hbad hm2 hm
        generalize zs[j] = z at *
        have hdec : decide (-1 ≤ z ∧ z ≤ 4095) = false := by simp; omega
        go_wp2_with fail
        refine (within_any z (-1) 4095 _).mono ?_
        rintro e w2 ⟨rfl, rfl⟩
        rw [hdec]
        go_wp2_with fail
        go_ret2
        exact EncSays.no HBAD.out HO.out
      · have hzw := HWF.out zs[j] (List.getElem_mem _)
        have hlay := page_lay hjz (by rw [HL.out]; exact h15)
        have hfit := w32_fit zs[j]
        have hm2 := of_decide_eq_true hm
        have HM := Lib.hid hm
        have HLAY := Lib.hid hlay
        have HF := Lib.hid hfit
        have hk : (lay zeros64 0 (les 4 ((zs.take j).map w32))).length = 64 := by
          rw [lay_length _ _ _ (by simp [zeros64]; omega)]
          rfl
        have HK := Lib.hid hk
        clear hlay hfit hk hm
        have hzu : zs[j] % 4294967296 = w32 zs[j] := rfl
        have hdec : decide (-1 ≤ zs[j] ∧ zs[j] ≤ 4095) = true := by simp; omega
        generalize hu : w32 zs[j] = u at *
        generalize hz : zs[j] = z at *
        have HZU := Lib.hid hzu
        have HDEC := Lib.hid hdec
        have HZW := Lib.hid hzw
        clear hu hzu hdec hzw
        generalize lay zeros64 0 (les 4 ((zs.take j).map w32)) = X at *
        go_wp2_with fail
        refine (within_any z (-1) 4095 _).mono ?_
        rintro e w2 ⟨rfl, rfl⟩
        rw [HDEC.out]
        go_wp2_with fail
        refine (mod_any z 4294967296 _ HZW.out (by decide) (by decide)).mono ?_
        rintro e w2 ⟨rfl, rfl⟩
        rw [HZU.out]
        go_wp2_with fail
        refine (ref_one_any p g (4 * j) X 4 u _ (by exact HR.out) (by decide) (by rw [HK.out]; omega) HF.out).mono ?_
        rintro e w3 ⟨rfl, hr3, hO3⟩
        rw [les_one] at HLAY
        rw [HLAY.out, show 4 * j + 4 = 4 * (j + 1) from by omega] at hr3
        have HR3 := Lib.hid hr3
        have HO3 := Lib.hid (HO.out.trans hO3 (by simp; omega) : Only [] w w3)
        clear hr3 hO3 c0
        go_wp2_with fail
        go_roundg (gk - 1)
        case measure => omega
        case rel =>
          refine ⟨j + 1, by omega, by go_num, HR3.out, HO3.out, ?_⟩
          rw [List.take_succ_eq_append_getElem hjz, List.all_append, HAL.out, hz]
          simp [HM.out]
    · obtain rfl : j = n := by omega
      have htk : zs.take j = zs := List.take_of_length_le (by rw [HL.out]; omega)
      have hal := HAL.out
      have hr := HR.out
      rw [htk] at hal hr
      have hen : encPage zs = some (sealed (lay zeros64 0 (les 4 (zs.map w32)))) := by
        unfold encPage
        rw [if_pos ⟨by rw [HL.out]; omega, hal⟩]
      have hk : (lay zeros64 0 (les 4 (zs.map w32))).length = 64 := by
        rw [lay_length _ _ _ (by simp [zeros64]; have := HL.out; omega)]
        rfl
      have HK := Lib.hid hk
      have HEN := Lib.hid hen
      have HR2 := Lib.hid hr
      clear hal hr hk hen HR
      generalize lay zeros64 0 (les 4 (zs.map w32)) = X at *
      go_wp2_with fail
      refine (ref_closed_any p g (4 * j) X _ (by exact HR2.out) HK.out).mono ?_
      rintro e w5 ⟨c4, rfl, hc4, hm4, ho5, hO5⟩
      have hgw : w.heap.size ≤ g := hg
      have HO5 := Lib.hid (HO.out.trans hO5 (by simp; omega) : Only [] w w5)
      have HW5 := Lib.hid ho5
      clear ho5 hO5
      go_wp2
      go_ret2
      have hl := sealed_length X HK.out
      refine ⟨some ⟨g, 0, none⟩, c4, by simp [HEN.out, hl], ?_, ?_, HO5.out⟩
      · rw [HEN.out]
        simp only [Option.getD_some, hl]
        exact Row1.of_Own HW5.out (by simpa [sealed] using hl) hc4 hm4
      · intro _ a ha
        injection ha with ha
        subst ha
        exact hgw
  · have hd15 : decide (15 < (n : Int)) = true := by simp; omega
    go_enter Try.func49, Try.ntmps49
    go_wp2
    go_ret2
    refine EncSays.no ?_ (Only.refl _ _)
    unfold encPage
    rw [if_neg (by have := HL.out; omega)]
end Go.Proofs.Ytcojleippbneoaa
