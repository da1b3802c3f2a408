/- Contract of page.Encode. -/
import Derived.Test.YtcojleippbneoaaCrcD
import Derived.Test.YtcojleippbneoaaItemB
set_option linter.unusedVariables false
namespace Go.Kn
open Go Go.RowKit
/-- may a ref be -/
def refMay (z : Int) : Bool := decide (-1 ≤ z ∧ z < 4096)
def w32 (z : Int) : Int := z % 4294967296
def zeros64 : List UInt8 := List.replicate 64 0
/-- refs as a page, or refused -/
def encPage (zs : List Int) : Option (List UInt8) := if zs.length ≤ 15 ∧ zs.all refMay = true then some (sealed (lay zeros64 0 (les 4 (zs.map w32)))) else none
theorem bits_and_mask (z : Int) (h : refMay z = true) : bits .and .i64 z 4294967295 = w32 z := by
  unfold refMay at h
  have h := of_decide_eq_true h
  by_cases h0 : 0 ≤ z
  · obtain ⟨n, rfl⟩ := Int.eq_ofNat_of_zero_le h0
    have := bits_and_i64_nat n 4294967295 (by omega) (by decide)
    rw [show ((4294967295 : Nat) : Int) = 4294967295 from rfl] at this
    rw [this, show 4294967295 = 2 ^ 32 - 1 from rfl, Nat.and_two_pow_sub_one_eq_mod]
    unfold w32
    omega
  · obtain rfl : z = -1 := by omega
    decide
theorem w32_fit (z : Int) : 0 ≤ w32 z ∧ w32 z < 256 ^ 4 := by
  have e : (256 : Int) ^ 4 = 4294967296 := rfl
  rw [e]
  unfold w32
  omega
theorem page_bad {zs : List Int} {j : Nat} (hj : j < zs.length) (hm : refMay zs[j] = false) : encPage zs = none := by
  unfold encPage
  rw [if_neg]
  intro h
  have := List.all_eq_true.1 h.2 zs[j] (List.getElem_mem _)
  rw [hm] at this
  cases this
theorem page_lay {zs : List Int} {j : Nat} (hj : j < zs.length) (h15 : zs.length ≤ 15) : lay (lay zeros64 0 (les 4 ((zs.take j).map w32))) (4 * j) (les 4 [w32 zs[j]]) = lay zeros64 0 (les 4 ((zs.take (j + 1)).map w32)) := by
  have h1 : (les 4 ((zs.take j).map w32)).length = 4 * j := by rw [les_length, List.length_map, List.length_take, Nat.min_eq_left (by omega)]
  have e1 := lay_lay zeros64 0 (les 4 ((zs.take j).map w32)) (les 4 [w32 zs[j]]) (by rw [h1]; simp [zeros64]; omega)
  rw [h1, Nat.zero_add] at e1
  rw [e1, ← les_append, List.take_succ_eq_append_getElem hj, List.map_append]
  rfl
end Go.Kn
namespace Go.Proofs.Ytcojleippbneoaa
open Go Go.RowKit Go.Kn

set_option maxRecDepth 100000 in
set_option maxHeartbeats 4000000 in
theorem page_enc_any (A : Option Addr) (n c : Nat) (zs : List Int) (w : World) (hi : Ins w A n c zs) :
    Calls Try.prog 48 #[.slice A n c] w (EncSays w (encPage zs)) := by
  have hlen := hi.len
  rw [ivs_length] at hlen
  have hcm := hi.cm
  have hcl := hi.le
  unfold maxLen at hcm
  have HI := Lib.hid hi
  have HL := Lib.hid hlen
  clear hi hlen
  by_cases h15 : n ≤ 15
  · have hd15 : decide (15 < (n : Int)) = false := by simp; omega
    go_enter Try.func48, Try.ntmps48
    go_wp2_with fail
    refine (new_any 64 _ (by decide) (by decide)).mono ?_
    rintro e w1 ⟨p, g, rfl, hp, hg, hr1, hO1⟩
    have hzr : List.replicate (64 : Int).toNat (0 : UInt8) = zeros64 := rfl
    rw [hzr] at hr1
    have HO1 := Lib.hid hO1
    have HR1 := Lib.hid hr1
    clear hO1 hr1 hzr
    go_wp2_with fail
    go_loopg [13] n (fun r i wr => ∃ j : Nat, j + r = n ∧ i = .int .i64 j ∧ RowAt wr p g (lay zeros64 0 (les 4 ((zs.take j).map w32))) (4 * j) ∧ Only [] w wr ∧ (zs.take j).all refMay = true)
    case atStart => exact ⟨0, by omega, rfl, by simpa [lay_nil] using HR1.out, HO1.out, by simp⟩
    obtain ⟨j, hj, rfl, hr, hO, hal⟩ := hrel
    have HR := Lib.hid hr
    have HO := Lib.hid hO
    have HAL := Lib.hid hal
    have hlp := hr.lp
    have hlg := hr.lg
    clear hr hO hal
    by_cases hlt : j < n
    · have hjz : j < zs.length := by rw [HL.out]; exact hlt
      obtain ⟨a, o, rfl, hc⟩ := HI.out.at_ (by omega)
      have q0 := hc j (by simpa using hjz)
      rw [ivs_get] at q0
      have c0 := HO.out.cell q0 (by simp)
      have hx2 : (j : Int) < (n : Int) := by omega
      have hx1 : 0 ≤ (j : Int) := by omega
      have htn : ((j : Int)).toNat = j := by omega
      clear hc q0
      cases hm : refMay zs[j]
      · have hbad := page_bad hjz hm
        have HBAD := Lib.hid hbad
        have hm2 := hm
        unfold refMay at hm2
        have hm3 := of_decide_eq_false hm2
        clear hbad hm2 hm
        generalize zs[j] = z at *
        by_cases hz : z < -1
        · go_wp2_with fail
          go_ret2
          exact EncSays.no HBAD.out HO.out
        · have hz2 : 4096 ≤ z := by omega
          go_wp2_with fail
          go_ret2
          exact EncSays.no HBAD.out HO.out
      · have hmask := bits_and_mask zs[j] hm
        have hlay := page_lay hjz (by rw [HL.out]; exact h15)
        have hfit := w32_fit zs[j]
        have hm2 := of_decide_eq_true hm
        have HM := Lib.hid hm
        have HLAY := Lib.hid hlay
        have HF := Lib.hid (fit_one hfit)
        have hk : (lay zeros64 0 (les 4 ((zs.take j).map w32))).length = 64 := by
          rw [lay_length _ _ _ (by simp [zeros64]; omega)]
          rfl
        have HK := Lib.hid hk
        clear hlay hfit hk hm
        generalize hu : w32 zs[j] = u at *
        generalize hz : zs[j] = z at *
        clear hu
        generalize lay zeros64 0 (les 4 ((zs.take j).map w32)) = X at *
        go_wp2_with fail
        refine (put_any p g (4 * j) X 4 _ 1 1 [u] _ (by exact HR.out.alloc _) (by exact ins_built _ [u] _ 1 rfl (by omega)) (by exact ne_built HR.out) (by decide) (by rw [HK.out]; omega) HF.out).mono ?_
        rintro e w3 ⟨rfl, hr3, hO3⟩
        rw [HLAY.out, show 4 * j + 4 * 1 = 4 * (j + 1) from by omega] at hr3
        have HR3 := Lib.hid hr3
        have HO3 := Lib.hid ((HO.out.alloc (.cells #[.int .i64 u] 3)).trans hO3 (by simp; omega) : Only [] w w3)
        clear hr3 hO3 c0
        go_wp2_with fail
        go_roundg (gk - 1)
        case measure => omega
        case rel =>
          refine ⟨j + 1, by omega, by go_num, HR3.out, HO3.out, ?_⟩
          rw [List.take_succ_eq_append_getElem hjz, List.all_append, HAL.out, hz]
          simp [HM.out]
    · obtain rfl : j = n := by omega
      have htk : zs.take j = zs := List.take_of_length_le (by rw [HL.out]; omega)
      have hal := HAL.out
      have hr := HR.out
      rw [htk] at hal hr
      have hen : encPage zs = some (sealed (lay zeros64 0 (les 4 (zs.map w32)))) := by
        unfold encPage
        rw [if_pos ⟨by rw [HL.out]; omega, hal⟩]
      have hk : (lay zeros64 0 (les 4 (zs.map w32))).length = 64 := by
        rw [lay_length _ _ _ (by simp [zeros64]; have := HL.out; omega)]
        rfl
      have HK := Lib.hid hk
      have HEN := Lib.hid hen
      have HR2 := Lib.hid hr
      clear hal hr hk hen HR
      generalize lay zeros64 0 (les 4 (zs.map w32)) = X at *
      go_wp2_with fail
      refine (bytes_any p g (4 * j) X _ (by exact HR2.out)).mono ?_
      rintro e w4 ⟨A4, c4, rfl, hc4, hm4, hpos4, hO4⟩
      obtain ⟨g4, rfl, hg4, ho4⟩ := hpos4 (by rw [HK.out]; decide)
      rw [HK.out] at hc4 ⊢
      have HO4 := Lib.hid (HO.out.trans' hO4)
      have HW4 := Lib.hid ho4
      clear hpos4 hO4 ho4
      go_wp2_with fail
      refine (crc_seal_any g4 c4 X 60 _ HK.out hc4 hm4 (by exact HW4.out)).mono ?_
      rintro e w5 ⟨rfl, ho5, hO5⟩
      have hgw : w.heap.size ≤ g4 := Nat.le_trans HO.out.size hg4
      have HO5 := Lib.hid (HO4.out.trans hO5 (by simpa using hgw) : Only [] w w5)
      have HW5 := Lib.hid ho5
      clear ho5 hO5
      go_wp2
      go_ret2
      have hl := sealed_length X HK.out
      refine ⟨some ⟨g4, 0, none⟩, c4, by simp [HEN.out, hl], ?_, ?_, HO5.out⟩
      · rw [HEN.out]
        simp only [Option.getD_some, hl]
        exact Row1.of_Own HW5.out (by simpa [sealed] using hl) hc4 hm4
      · intro _ a ha
        injection ha with ha
        subst ha
        exact hgw
  · have hd15 : decide (15 < (n : Int)) = true := by simp; omega
    go_enter Try.func48, Try.ntmps48
    go_wp2
    go_ret2
    refine EncSays.no ?_ (Only.refl _ _)
    unfold encPage
    rw [if_neg (by have := HL.out; omega)]
end Go.Proofs.Ytcojleippbneoaa
