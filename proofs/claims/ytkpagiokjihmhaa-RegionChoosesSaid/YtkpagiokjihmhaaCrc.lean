
/- The sum of bytes: the register's steps, plainly; the walk of crc.add. -/
import Derived.Test.YtkpagiokjihmhaaRefC
set_option linter.unusedVariables false
namespace Go.Kn
open Go Go.RowKit
theorem bits_xor_u32_nat (a b : Nat) (ha : a < 4294967296) (hb : b < 4294967296) : bits .xor .u32 (a : Int) (b : Int) = ((a ^^^ b : Nat) : Int) := by
  have hx : a ^^^ b < 2 ^ 32 := Nat.xor_lt_two_pow (by omega) (by omega)
  have h1 : (BitVec.ofInt 32 (a : Int)).toNat = a := by
    rw [BitVec.ofInt_natCast, BitVec.toNat_ofNat]; exact Nat.mod_eq_of_lt (by omega)
  have h2 : (BitVec.ofInt 32 (b : Int)).toNat = b := by
    rw [BitVec.ofInt_natCast, BitVec.toNat_ofNat]; exact Nat.mod_eq_of_lt (by omega)
  show IntKind.u32.wrap ((BitVec.ofInt 32 (a : Int) ^^^ BitVec.ofInt 32 (b : Int)).toNat : Int) = _
  rw [BitVec.toNat_xor, h1, h2]
  simp [IntKind.wrap, IntKind.signed, IntKind.bits]
  omega
theorem bits_and_u32_nat (a b : Nat) (ha : a < 4294967296) (hb : b < 4294967296) : bits .and .u32 (a : Int) (b : Int) = ((a &&& b : Nat) : Int) := by
  have hx : a &&& b < 2 ^ 32 := Nat.and_lt_two_pow _ (by omega)
  have h1 : (BitVec.ofInt 32 (a : Int)).toNat = a := by
    rw [BitVec.ofInt_natCast, BitVec.toNat_ofNat]; exact Nat.mod_eq_of_lt (by omega)
  have h2 : (BitVec.ofInt 32 (b : Int)).toNat = b := by
    rw [BitVec.ofInt_natCast, BitVec.toNat_ofNat]; exact Nat.mod_eq_of_lt (by omega)
  show IntKind.u32.wrap ((BitVec.ofInt 32 (a : Int) &&& BitVec.ofInt 32 (b : Int)).toNat : Int) = _
  rw [BitVec.toNat_and, h1, h2]
  simp [IntKind.wrap, IntKind.signed, IntKind.bits]
  omega
theorem crc_cond (z d : Nat) (hz : z < 4294967296) (hd : d < 256) : (bits .and .u32 (bits .xor .u32 (z : Int) (d : Int)) 1 == 1) = decide ((z ^^^ d) % 2 = 1) := by
  have hx : z ^^^ d < 2 ^ 32 := Nat.xor_lt_two_pow (by omega) (by omega)
  rw [bits_xor_u32_nat z d hz (by omega)]
  have := bits_and_u32_nat (z ^^^ d) 1 (by omega) (by omega)
  rw [show ((1 : Nat) : Int) = 1 from rfl] at this
  rw [this, Nat.and_one_is_mod, Bool.eq_iff_iff]
  simp only [beq_iff_eq, decide_eq_true_eq]
  omega
/-- one step of the register, at an input bit (the lowest of d) -/
def cstep (x d : Nat) : Nat := if (x ^^^ d) % 2 = 1 then (x / 2) ^^^ 2197175160 else x / 2
/-- i bits of a byte -/
def cbits (c : Nat) : Nat → Nat → Nat
  | x, 0 => x
  | x, i + 1 => cstep (cbits c x i) (c / 2 ^ i)
def cbyte (x : Nat) (c : UInt8) : Nat := cbits c.toNat x 8
def cadd (x : Nat) (bs : List UInt8) : Nat := bs.foldl cbyte x
theorem cstep_lt {x : Nat} (h : x < 4294967296) (d : Nat) : cstep x d < 4294967296 := by
  unfold cstep
  split
  · exact Nat.xor_lt_two_pow (n := 32) (by omega) (by decide)
  · omega
theorem cbits_lt {x : Nat} (h : x < 4294967296) (c : Nat) : ∀ i, cbits c x i < 4294967296
  | 0 => h
  | i + 1 => cstep_lt (cbits_lt h c i) _
theorem cadd_lt {x : Nat} (h : x < 4294967296) : ∀ bs : List UInt8, cadd x bs < 4294967296
  | [] => h
  | b :: bs => cadd_lt (cbits_lt h b.toNat 8) bs
theorem cadd_append (x : Nat) (a b : List UInt8) : cadd x (a ++ b) = cadd (cadd x a) b := List.foldl_append
theorem cadd_snoc (x : Nat) (a : List UInt8) (c : UInt8) : cadd x (a ++ [c]) = cbyte (cadd x a) c := by simp [cadd]
end Go.Kn
namespace Go.Proofs.Ytkpagiokjihmhaa
open Go Go.RowKit Go.Kn

set_option maxRecDepth 100000 in
set_option maxHeartbeats 4000000 in
theorem crc_add_any (x : Nat) (A : Option Addr) (n c : Nat) (bs : List UInt8) (w : World) (hx : x < 4294967296) (hi : Bys w A n c bs) :
    Calls Try.prog 131 #[.int .u32 x, .slice A n c] w fun e w' => e = .returned (.int .u32 (cadd x bs : Nat)) ∧ Only [] w w' := by
  have hlen := hi.len
  rw [bvs_length] at hlen
  have hle := hi.le
  have hcm := hi.cm
  unfold maxLen at hcm
  have HI := Lib.hid hi
  have HL := Lib.hid hlen
  clear hi hlen
  go_enter Try.func131, Try.ntmps131
  go_wp2_with fail
  go_loopg [0, 11] n (fun r v i wr => ∃ j : Nat, j + r = n ∧ i = .int .i64 j ∧ v = .int .u32 (cadd x (bs.take j) : Nat) ∧ Only [] w wr)
  case atStart => exact ⟨0, by omega, rfl, by simp [cadd], Only.refl _ _⟩
  obtain ⟨j, hj, rfl, rfl, hO⟩ := hrel
  have HO := Lib.hid hO
  have hlx := cadd_lt hx (bs.take j)
  clear hO
  by_cases hlt : j < n
  · have hjz : j < bs.length := by rw [HL.out]; exact hlt
    obtain ⟨a, o, rfl, hc⟩ := HI.out.at_ (by omega)
    have q0 := hc j (by simpa using hjz)
    rw [bvs_get] at q0
    have c0 := HO.out.cell q0 (by simp)
    have hsn : cadd x (bs.take (j + 1)) = cbyte (cadd x (bs.take j)) bs[j] := by rw [List.take_succ_eq_append_getElem hjz, cadd_snoc]
    have HSN := Lib.hid hsn
    clear hc q0 hsn
    generalize bs[j] = cc at *
    generalize cadd x (bs.take j) = y at *
    have hlt2 : (j : Int) < (n : Int) := by omega
    have hge : 0 ≤ (j : Int) := by omega
    have htn : ((j : Int)).toNat = j := by omega
    go_wp2_with fail
    rename World => w2
    obtain ⟨gk0, hgk0⟩ : ∃ g0, g0 = gk := ⟨gk, rfl⟩
    go_loopg [0, 15] 8 (fun r v i ws => ∃ t : Nat, t + r = 8 ∧ i = .int .i64 t ∧ v = .int .u32 (cbits cc.toNat y t : Nat) ∧ ws = w2)
    case atStart => exact ⟨0, by omega, rfl, rfl, rfl⟩
    obtain ⟨t, ht, rfl, rfl, rfl⟩ := hrel
    have hlz := cbits_lt hlx cc.toNat t
    have hzz : cbits cc.toNat y (t + 1) = cstep (cbits cc.toNat y t) (cc.toNat / 2 ^ t) := rfl
    have HZ := Lib.hid hzz
    clear hzz
    have hcc : cc.toNat < 256 := cc.toNat_lt
    by_cases ht8 : t < 8
    · have ht2 : (t : Int) < 8 := by omega
      have htg : 0 ≤ (t : Int) := by omega
      have htt : ((t : Int)).toNat = t := by omega
      have hkt : ((cc.toNat : Nat) : Int) / 2 ^ t = ((cc.toNat / 2 ^ t : Nat) : Int) := by simp
      have hdt : cc.toNat / 2 ^ t < 256 := Nat.lt_of_le_of_lt (Nat.div_le_self _ _) hcc
      have hcond := crc_cond (cbits cc.toNat y t) (cc.toNat / 2 ^ t) hlz hdt
      rw [← hkt] at hcond
      have hxp := bits_xor_u32_nat (cbits cc.toNat y t / 2) 2197175160 (by omega) (by decide)
      rw [show ((cbits cc.toNat y t / 2 : Nat) : Int) = ((cbits cc.toNat y t : Nat) : Int) / 2 from by simp, show ((2197175160 : Nat) : Int) = 2197175160 from rfl] at hxp
      have hz2 : ((cbits cc.toNat y t / 2 : Nat) : Int) = ((cbits cc.toNat y t : Nat) : Int) / 2 := by simp
      have HXP := Lib.hid hxp
      have HZ2 := Lib.hid hz2
      clear hxp hz2 hkt hdt
      generalize hdd : cc.toNat / 2 ^ t = d at *
      clear hdd
      generalize cbits cc.toNat y t = z at *
      generalize cc.toNat = k at *
      by_cases hb : (z ^^^ d) % 2 = 1
      · rw [decide_eq_true hb] at hcond
        have HC := Lib.hid hb
        clear hb
        go_wp2_with fail
        go_roundg (gk - 1)
        case measure => omega
        case rel =>
          refine ⟨t + 1, by omega, by go_num, ?_, rfl⟩
          rw [HXP.out, HZ.out]
          unfold cstep
          rw [if_pos HC.out]
      · rw [decide_eq_false hb] at hcond
        have HC := Lib.hid hb
        clear hb
        go_wp2_with fail
        go_roundg (gk - 1)
        case measure => omega
        case rel =>
          refine ⟨t + 1, by omega, by go_num, ?_, rfl⟩
          rw [HZ.out]
          unfold cstep
          rw [if_neg HC.out, HZ2.out]
    · obtain rfl : t = 8 := by omega
      have HSB : Hid (cadd x (bs.take (j + 1)) = cbits cc.toNat y 8) := Lib.hid HSN.out
      generalize cbits cc.toNat y 8 = z at *
      go_wp2_with fail
      go_roundg (gk0 - 1)
      case measure => omega
      case rel => exact ⟨j + 1, by omega, by go_num, by rw [HSB.out], HO.out⟩
  · obtain rfl : j = n := by omega
    have htk : bs.take j = bs := List.take_of_length_le (by rw [HL.out]; omega)
    rw [htk]
    go_wp2
    go_ret
    exact ⟨rfl, HO.out⟩
end Go.Proofs.Ytkpagiokjihmhaa
