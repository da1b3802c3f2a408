/- The walk of alike.Turned: a burst of bits is turned. -/
import Derived.Test.YtoibehikojkoiaaTurnP
import Derived.Test.YtoibehikojkoiaaRowD
set_option linter.unusedVariables false
namespace Go.Kn
open Go Go.RowKit
theorem pat_bit (pat t : Nat) (hp : pat < 4294967296) : (bits .and .u32 ((pat : Int) / 2 ^ t) 1 == 1) = pat.testBit t := by
  have hd : pat / 2 ^ t < 4294967296 := Nat.lt_of_le_of_lt (Nat.div_le_self _ _) hp
  have h1 := bits_and_u32_nat (pat / 2 ^ t) 1 hd (by omega)
  rw [show ((1 : Nat) : Int) = 1 from rfl] at h1
  have h2 : ((pat / 2 ^ t : Nat) : Int) = (pat : Int) / 2 ^ t := by simp
  rw [h2, Nat.and_one_is_mod] at h1
  rw [h1, Nat.testBit_eq_decide_div_mod_eq, Bool.eq_iff_iff]
  simp only [beq_iff_eq, decide_eq_true_eq]
  omega
theorem bits_xor_u8_nat (a b : Nat) (ha : a < 256) (hb : b < 256) : bits .xor .u8 (a : Int) (b : Int) = ((a ^^^ b : Nat) : Int) := by
  have hx : a ^^^ b < 2 ^ 8 := Nat.xor_lt_two_pow (by omega) (by omega)
  have h1 : (BitVec.ofInt 8 (a : Int)).toNat = a := by
    rw [BitVec.ofInt_natCast, BitVec.toNat_ofNat]; exact Nat.mod_eq_of_lt (by omega)
  have h2 : (BitVec.ofInt 8 (b : Int)).toNat = b := by
    rw [BitVec.ofInt_natCast, BitVec.toNat_ofNat]; exact Nat.mod_eq_of_lt (by omega)
  show IntKind.u8.wrap ((BitVec.ofInt 8 (a : Int) ^^^ BitVec.ofInt 8 (b : Int)).toNat : Int) = _
  rw [BitVec.toNat_xor, h1, h2]
  simp [IntKind.wrap, IntKind.signed, IntKind.bits]
  omega
theorem shl_u8 (k : Nat) (hk : k < 8) : IntKind.u8.wrap (2 ^ k) = ((2 ^ k : Nat) : Int) := by
  have h : ∀ k : Fin 8, IntKind.u8.wrap (2 ^ k.val) = ((2 ^ k.val : Nat) : Int) := by decide
  exact h ⟨k, hk⟩
theorem flip_byte (c : UInt8) (k : Nat) (hk : k < 8) : bits .xor .u8 (c.toNat : Int) (2 ^ k) = ((UInt8.ofNat (c.toNat ^^^ 2 ^ k)).toNat : Int) := by
  have h := bits_xor_u8_nat c.toNat (2 ^ k) c.toNat_lt (Nat.pow_lt_pow_right (by omega) hk)
  rw [UInt8.toNat_ofNat', Nat.mod_eq_of_lt (xor_pow_lt c k hk), ← h]
  simp
theorem turn_yes {bs : List UInt8} {first lim pat t : Nat} (h : pat.testBit t = true ∧ first + t < lim) : turnB bs first lim pat (t + 1) = flipAt (turnB bs first lim pat t) (first + t) ∧ turnA first lim pat (t + 1) = true := by
  simp only [turnB, turnA, if_pos h, and_self]
theorem turn_no {bs : List UInt8} {first lim pat t : Nat} (h : ¬ (pat.testBit t = true ∧ first + t < lim)) : turnB bs first lim pat (t + 1) = turnB bs first lim pat t ∧ turnA first lim pat (t + 1) = turnA first lim pat t := by
  simp only [turnB, turnA, if_neg h, and_self]
end Go.Kn
namespace Go.Proofs.Ytoibehikojkoiaa
open Go Go.RowKit Go.Kn

/-- what Turned answers -/
def TurnSays (w : World) (n : Nat) (ys : List UInt8) (any : Bool) (e : Ending) (w' : World) : Prop :=
  ∃ g, e = .returned (.tuple #[.slice (some ⟨g, 0, none⟩) n n, .bool any]) ∧ w.heap.size ≤ g ∧ Own w' g (bvs ys) ∧ Only [] w w'

set_option maxRecDepth 100000 in
set_option maxHeartbeats 4000000 in
theorem turned_any (A : Option Addr) (n c : Nat) (bs : List UInt8) (B : Nat) (at_ : Int) (first pat : Nat) (w : World) (hi : Bys w A n c bs) (hB : 1 ≤ B) (hBn : B ≤ n) (hn : n ≤ 100000) (ha : (Lit.int .i64 at_).wf = true) (hf : at_ % ((8 * B : Nat) : Int) = first) (hp : pat < 4294967296) :
    Calls Try.prog 31 #[.slice A n c, .int .i64 B, .int .i64 at_, .int .u32 pat] w (TurnSays w n (turnB bs first (8 * B) pat 32) (turnA first (8 * B) pat 32)) := by
  have hlen := hi.len
  rw [bvs_length] at hlen
  have HI := Lib.hid hi
  have HL := Lib.hid hlen
  have HF := Lib.hid hf
  have hfl : first < 8 * B := by
    have := Int.emod_lt_of_pos at_ (show (0 : Int) < ((8 * B : Nat) : Int) by omega)
    omega
  have hd1 : decide ((B : Int) < 1) = false := by simp; omega
  have hd2 : decide ((n : Int) < (B : Int)) = false := by simp; omega
  clear hi hlen hf
  go_enter Try.func31, Try.ntmps31
  go_wp2_with fail
  refine (part_any A n c bs 0 n _ _ (by exact HI.out) (by omega) (by omega) (by omega)).mono ?_
  rintro e w1 ⟨rfl, ho1, hO1⟩
  have hdt : (bs.drop 0).take n = bs := by rw [List.drop_zero, List.take_of_length_le (by rw [HL.out]; omega)]
  rw [hdt] at ho1
  have HOW1 := Lib.hid ho1
  have HO1 := Lib.hid hO1
  generalize hg : w.heap.size = g at HOW1 ⊢
  have hgw : w.heap.size ≤ g := by omega
  have HG := Lib.hid hg
  clear hg
  clear ho1 hO1 hdt
  go_wp2_with fail
  refine (round_any at_ (8 * (B : Int)) _ ha (by omega) (by omega)).mono ?_
  rintro e w' ⟨rfl, rfl⟩
  have h8 : (8 * (B : Int)) = ((8 * B : Nat) : Int) := by omega
  rw [h8, HF.out]
  clear h8
  go_wp2_with fail
  go_loopg [12, 13] 32 (fun r any i wr => ∃ t : Nat, t + r = 32 ∧ i = .int .i64 t ∧ any = .bool (turnA first (8 * B) pat t) ∧ Own wr g (bvs (turnB bs first (8 * B) pat t)) ∧ Only [] w wr)
  case atStart => exact ⟨0, by omega, rfl, rfl, HOW1.out, HO1.out⟩
  obtain ⟨t, ht, rfl, rfl, hown, hO⟩ := hrel
  have HO := Lib.hid hO
  have HOWN := Lib.hid hown
  clear hO hown
  by_cases ht32 : t < 32
  · have htx : (t : Int) < 32 := by omega
    have htg : 0 ≤ (t : Int) := by omega
    have htt : ((t : Int)).toNat = t := by omega
    have hpb := pat_bit pat t hp
    by_cases hc : pat.testBit t = true ∧ first + t < 8 * B
    · obtain ⟨hc1, hc2⟩ := hc
      obtain ⟨hy1, hy2⟩ := turn_yes (bs := bs) (first := first) (lim := 8 * B) (pat := pat) (t := t) ⟨hc1, hc2⟩
      have HY1 := Lib.hid hy1
      have HY2 := Lib.hid hy2
      rw [hc1] at hpb
      have hlx : (turnB bs first (8 * B) pat t).length = n := by rw [turnB_length]; exact HL.out
      have HLX := Lib.hid hlx
      clear hy1 hy2 hc1 hlx
      generalize turnB bs first (8 * B) pat t = X at *
      generalize turnA first (8 * B) pat t = Y at *
      have hj : (first + t) / 8 < X.length := by rw [HLX.out]; omega
      have q0 := HOWN.out.cell ((first + t) / 8) (by simpa using hj)
      have f0 := HOWN.out.frozen ((first + t) / 8)
      rw [bvs_get] at q0
      have hfb := flip_byte X[(first + t) / 8] ((first + t) % 8) (by omega)
      have hst := HOWN.out.set ((first + t) / 8) (.int .u8 ((UInt8.ofNat (X[(first + t) / 8].toNat ^^^ 2 ^ ((first + t) % 8))).toNat : Int))
      have hse : (bvs X).set ((first + t) / 8) (.int .u8 ((UInt8.ofNat (X[(first + t) / 8].toNat ^^^ 2 ^ ((first + t) % 8))).toNat : Int)) = bvs (flipAt X (first + t)) := by
        unfold flipAt bvs
        rw [List.map_set, List.getD_eq_getElem?_getD, List.getElem?_eq_getElem hj, Option.getD_some]
      rw [hse] at hst
      have HST := Lib.hid hst
      generalize (UInt8.ofNat (X[(first + t) / 8].toNat ^^^ 2 ^ ((first + t) % 8))) = cc at *
      generalize X[(first + t) / 8].toNat = ob at *
      clear hst hse hj
      have hx1 : (first : Int) + (t : Int) < 8 * (B : Int) := by omega
      have hq : ((first : Int) + (t : Int)).tdiv 8 = (((first + t) / 8 : Nat) : Int) := by rw [Int.tdiv_eq_ediv_of_nonneg (by omega)]; omega
      have hr : ((first : Int) + (t : Int)).tmod 8 = (((first + t) % 8 : Nat) : Int) := by rw [Int.tmod_eq_emod_of_nonneg (by omega)]; omega
      have hw1 := IntWalk.i64_in ((first : Int) + (t : Int)) (by omega)
      have hqn : (first + t) / 8 < n := by omega
      have hrn : (first + t) % 8 < 8 := by omega
      have hsh := shl_u8 ((first + t) % 8) hrn
      generalize (first + t) / 8 = q at *
      generalize (first + t) % 8 = rr at *
      have hs0 : 0 ≤ (first : Int) + (t : Int) := by omega
      have hq0 : (q : Int) < (n : Int) := by omega
      have hqt : ((q : Int)).toNat = q := by omega
      have hqg : 0 ≤ (q : Int) := by omega
      have hrt : ((rr : Int)).toNat = rr := by omega
      have hrg : 0 ≤ (rr : Int) := by omega
      have hwq := IntWalk.i64_in (q : Int) (by omega)
      have hwr := IntWalk.i64_in (rr : Int) (by omega)
      go_wp2_with fail
      refine still_tail 18 (by kernel_rfl) (by kernel_rfl) ?_
      simp only [List.take_succ_cons, List.take_zero, List.drop_succ_cons, List.drop_zero]
      repeat still_step
      refine wpStill_nil ?_
      go_wp2
      go_roundg (gk - 1)
      case measure => omega
      case rel => exact ⟨t + 1, by omega, by go_num, by rw [HY2.out], by rw [HY1.out]; exact HST.out, HO.out.drew.set (.inr (by rw [HG.out]; exact Nat.le_refl _)) _⟩
    · obtain ⟨hy1, hy2⟩ := turn_no (bs := bs) hc
      have HY1 := Lib.hid hy1
      have HY2 := Lib.hid hy2
      clear hy1 hy2
      by_cases hc1 : pat.testBit t = true
      · have hx1 : ¬ (first : Int) + (t : Int) < 8 * (B : Int) := by
          intro h
          exact hc ⟨hc1, by omega⟩
        rw [hc1] at hpb
        clear hc hc1
        generalize turnB bs first (8 * B) pat t = X at *
        generalize turnA first (8 * B) pat t = Y at *
        go_wp2_with fail
        go_roundg (gk - 1)
        case measure => omega
        case rel => exact ⟨t + 1, by omega, by go_num, by rw [HY2.out], by rw [HY1.out]; exact HOWN.out, HO.out⟩
      · have hc2 : pat.testBit t = false := by simpa using hc1
        rw [hc2] at hpb
        clear hc hc1 hc2
        generalize turnB bs first (8 * B) pat t = X at *
        generalize turnA first (8 * B) pat t = Y at *
        go_wp2_with fail
        go_roundg (gk - 1)
        case measure => omega
        case rel => exact ⟨t + 1, by omega, by go_num, by rw [HY2.out], by rw [HY1.out]; exact HOWN.out, HO.out⟩
  · obtain rfl : t = 32 := by omega
    generalize turnB bs first (8 * B) pat 32 = X at *
    generalize turnA first (8 * B) pat 32 = Y at *
    go_wp2
    go_ret2
    exact ⟨g, rfl, hgw, HOWN.out, HO.out⟩
end Go.Proofs.Ytoibehikojkoiaa
