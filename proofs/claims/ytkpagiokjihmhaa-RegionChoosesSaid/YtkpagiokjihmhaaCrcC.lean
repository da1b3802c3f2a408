
/- The reference's sum. -/
import Derived.Test.YtkpagiokjihmhaaCrcB
set_option linter.unusedVariables false
namespace Go.Kn
open Go Go.RowKit
theorem bits_not_u32' (y : Nat) (hy : y < 4294967296) : bits .xor .u32 IntKind.u32.max (y : Int) = ((4294967295 - y : Nat) : Int) := bits_not_u32 y hy
theorem div_pow_succ (k t : Nat) : k / 2 ^ t / 2 = k / 2 ^ (t + 1) := by rw [Nat.div_div_eq_div_mul, Nat.pow_succ]
end Go.Kn
namespace Go.Proofs.Ytkpagiokjihmhaa
open Go Go.RowKit Go.Kn

set_option maxRecDepth 100000 in
set_option maxHeartbeats 4000000 in
theorem ref_more_any (s : Nat) (A : Option Addr) (n c : Nat) (bs : List UInt8) (w : World) (hs : s < 4294967296) (hi : Bys w A n c bs) :
    Calls Try.prog 101 #[.int .i64 s, .slice A n c] w fun e w' => e = .returned (.int .i64 ((4294967295 - cadd (4294967295 - s) bs : Nat) : Int)) ∧ Only [] w w' := by
  have hlen := hi.len
  rw [bvs_length] at hlen
  have hle := hi.le
  have hcm := hi.cm
  unfold maxLen at hcm
  have HI := Lib.hid hi
  have HL := Lib.hid hlen
  clear hi hlen
  have hwf : (Lit.int .i64 (s : Int)).wf = true := by simp [Lit.wf, IntKind.min, IntKind.max, IntKind.signed, IntKind.bits]; omega
  have hsm : (s : Int) % 4294967296 = s := by omega
  go_enter Try.func101, Try.ntmps101
  go_wp2_with fail
  refine (mod_any (s : Int) 4294967296 _ hwf (by decide) (by decide)).mono ?_
  rintro e w1 ⟨rfl, rfl⟩
  rw [hsm]
  have hnb := bits_not_u32 s hs
  have hx : 4294967295 - s < 4294967296 := by omega
  generalize hxx : 4294967295 - s = x at *
  have HXX := Lib.hid hxx
  clear hxx hwf hsm
  go_wp2_with fail
  go_loopg [5, 6] n (fun r v i wr => ∃ j : Nat, j + r = n ∧ i = .int .i64 j ∧ v = .int .u32 (cadd x (bs.take j) : Nat) ∧ Only [] w wr)
  case atStart => exact ⟨0, by omega, rfl, by simp [cadd], Only.refl _ _⟩
  obtain ⟨j, hj, rfl, rfl, hO⟩ := hrel
  have HO := Lib.hid hO
  have hlx := cadd_lt hx (bs.take j)
  clear hO
  by_cases hlt : j < n
  · have hjz : j < bs.length := by rw [HL.out]; exact hlt
    obtain ⟨a, o, rfl, hc⟩ := HI.out.at_ (by omega)
    have q0 := hc j (by simpa using hjz)
    rw [bvs_get] at q0
    have c0 := HO.out.cell q0 (by simp)
    have hsn : cadd x (bs.take (j + 1)) = cbyte (cadd x (bs.take j)) bs[j] := by rw [List.take_succ_eq_append_getElem hjz, cadd_snoc]
    have HSN := Lib.hid hsn
    clear hc q0 hsn
    generalize bs[j] = cc at *
    generalize cadd x (bs.take j) = y at *
    have hlt2 : (j : Int) < (n : Int) := by omega
    have hge : 0 ≤ (j : Int) := by omega
    have htn : ((j : Int)).toNat = j := by omega
    have hcc : cc.toNat < 256 := cc.toNat_lt
    go_wp2_with fail
    rename World => w2
    obtain ⟨gk0, hgk0⟩ : ∃ g0, g0 = gk := ⟨gk, rfl⟩
    go_loopg [5, 7, 8] 8 (fun r v d i ws => ∃ t : Nat, t + r = 8 ∧ i = .int .i64 t ∧ v = .int .u32 (cbits cc.toNat y t : Nat) ∧ d = .int .u32 (cc.toNat / 2 ^ t : Nat) ∧ ws = w2)
    case atStart => exact ⟨0, by omega, rfl, rfl, by simp, rfl⟩
    obtain ⟨t, ht, rfl, rfl, rfl, rfl⟩ := hrel
    have hlz := cbits_lt hlx cc.toNat t
    have hzz : cbits cc.toNat y (t + 1) = cstep (cbits cc.toNat y t) (cc.toNat / 2 ^ t) := rfl
    have HZ := Lib.hid hzz
    clear hzz
    by_cases ht8 : t < 8
    · have ht2 : (t : Int) < 8 := by omega
      have htg : 0 ≤ (t : Int) := by omega
      have htt : ((t : Int)).toNat = t := by omega
      have hdt : cc.toNat / 2 ^ t < 256 := Nat.lt_of_le_of_lt (Nat.div_le_self _ _) hcc
      have hcond := crc_cond (cbits cc.toNat y t) (cc.toNat / 2 ^ t) hlz hdt
      have hxp := bits_xor_u32_nat (cbits cc.toNat y t / 2) 2197175160 (by omega) (by decide)
      rw [show ((cbits cc.toNat y t / 2 : Nat) : Int) = ((cbits cc.toNat y t : Nat) : Int) / 2 from by simp, show ((2197175160 : Nat) : Int) = 2197175160 from rfl] at hxp
      have hz2 : ((cbits cc.toNat y t / 2 : Nat) : Int) = ((cbits cc.toNat y t : Nat) : Int) / 2 := by simp
      have hd2 : ((cc.toNat / 2 ^ t : Nat) : Int) / 2 = ((cc.toNat / 2 ^ (t + 1) : Nat) : Int) := by rw [← div_pow_succ]; rfl
      have HXP := Lib.hid hxp
      have HZ2 := Lib.hid hz2
      have HD2 := Lib.hid hd2
      clear hxp hz2 hd2
      generalize cc.toNat / 2 ^ t = d at *
      generalize cbits cc.toNat y t = z at *
      generalize cc.toNat = k at *
      by_cases hb : (z ^^^ d) % 2 = 1
      · rw [decide_eq_true hb] at hcond
        have HC := Lib.hid hb
        clear hb
        go_wp2_with fail
        go_roundg (gk - 1)
        case measure => omega
        case rel =>
          refine ⟨t + 1, by omega, by go_num, ?_, ?_, rfl⟩
          · rw [HXP.out, HZ.out]
            unfold cstep
            rw [if_pos HC.out]
          · rw [HD2.out]
      · rw [decide_eq_false hb] at hcond
        have HC := Lib.hid hb
        clear hb
        go_wp2_with fail
        go_roundg (gk - 1)
        case measure => omega
        case rel =>
          refine ⟨t + 1, by omega, by go_num, ?_, ?_, rfl⟩
          · rw [HZ.out]
            unfold cstep
            rw [if_neg HC.out, HZ2.out]
          · rw [HD2.out]
    · obtain rfl : t = 8 := by omega
      have HSB : Hid (cadd x (bs.take (j + 1)) = cbits cc.toNat y 8) := Lib.hid HSN.out
      generalize cbits cc.toNat y 8 = z at *
      go_wp2_with fail
      go_roundg (gk0 - 1)
      case measure => omega
      case rel => exact ⟨j + 1, by omega, by go_num, by rw [HSB.out], HO.out⟩
  · obtain rfl : j = n := by omega
    have htk : bs.take j = bs := List.take_of_length_le (by rw [HL.out]; omega)
    rw [htk] at hlx ⊢
    have hn := bits_not_u32 (cadd x bs) hlx
    have HXX' := Lib.hid (rfl : cadd x bs = cadd x bs)
    generalize hyy : cadd x bs = y at *
    have HYY := Lib.hid hyy
    have hr : 4294967295 - y < 4294967296 := by omega
    generalize hzz : 4294967295 - y = z at *
    have HZZ := Lib.hid hzz
    clear hyy hzz hnb
    go_wp2
    go_ret
    refine ⟨?_, HO.out⟩
    rw [HXX.out, HYY.out, HZZ.out]
    simp

theorem ref_sum_any (A : Option Addr) (n c : Nat) (bs : List UInt8) (w : World) (hi : Bys w A n c bs) :
    Calls Try.prog 48 #[.slice A n c] w fun e w' => e = .returned (.int .i64 (csum bs : Nat)) ∧ Only [] w w' := by
  go_enter Try.func48, Try.ntmps48
  go_wp2_with fail
  refine (ref_more_any 0 A n c bs _ (by decide) hi).mono ?_
  rintro e w1 ⟨rfl, hO⟩
  go_wp2
  go_ret
  exact ⟨rfl, hO⟩
end Go.Proofs.Ytkpagiokjihmhaa
