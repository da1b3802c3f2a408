
/- The walk of alike.Turned: a burst of bits is turned. -/
import Derived.Test.YtkpagiokjihmhaaTurnP
import Derived.Test.YtkpagiokjihmhaaRowD
set_option linter.unusedVariables false
namespace Go.Kn
open Go Go.RowKit
theorem pat_bit (pat t : Nat) (hp : pat < 4294967296) : (bits .and .u32 ((pat : Int) / 2 ^ t) 1 == 1) = pat.testBit t := by
  have hd : pat / 2 ^ t < 4294967296 := Nat.lt_of_le_of_lt (Nat.div_le_self _ _) hp
  have h1 := bits_and_u32_nat (pat / 2 ^ t) 1 hd (by omega)
  rw [show ((1 : Nat) : Int) = 1 from rfl] at h1
  have h2 : ((pat / 2 ^ t : Nat) : Int) = (pat : Int) / 2 ^ t := by simp
  rw [h2, Nat.and_one_is_mod] at h1
  rw [h1, Nat.testBit_eq_decide_div_mod_eq, Bool.eq_iff_iff]
  simp only [beq_iff_eq, decide_eq_true_eq]
  omega
theorem bits_xor_u8_nat (a b : Nat) (ha : a < 256) (hb : b < 256) : bits .xor .u8 (a : Int) (b : Int) = ((a ^^^ b : Nat) : Int) := by
  have hx : a ^^^ b < 2 ^ 8 := Nat.xor_lt_two_pow (by omega) (by omega)
  have h1 : (BitVec.ofInt 8 (a : Int)).toNat = a := by
    rw [BitVec.ofInt_natCast, BitVec.toNat_ofNat]; exact Nat.mod_eq_of_lt (by omega)
  have h2 : (BitVec.ofInt 8 (b : Int)).toNat = b := by
    rw [BitVec.ofInt_natCast, BitVec.toNat_ofNat]; exact Nat.mod_eq_of_lt (by omega)
  show IntKind.u8.wrap ((BitVec.ofInt 8 (a : Int) ^^^ BitVec.ofInt 8 (b : Int)).toNat : Int) = _
  rw [BitVec.toNat_xor, h1, h2]
  simp [IntKind.wrap, IntKind.signed, IntKind.bits]
  omega
theorem shl_u8 (k : Nat) (hk : k < 8) : IntKind.u8.wrap (2 ^ k) = ((2 ^ k : Nat) : Int) := by
  have h : ∀ k : Fin 8, IntKind.u8.wrap (2 ^ k.val) = ((2 ^ k.val : Nat) : Int) := by decide
  exact h ⟨k, hk⟩
theorem flip_byte (c : UInt8) (k : Nat) (hk : k < 8) : bits .xor .u8 (c.toNat : Int) (2 ^ k) = ((UInt8.ofNat (c.toNat ^^^ 2 ^ k)).toNat : Int) := by
  have h := bits_xor_u8_nat c.toNat (2 ^ k) c.toNat_lt (Nat.pow_lt_pow_right (by omega) hk)
  rw [UInt8.toNat_ofNat', Nat.mod_eq_of_lt (xor_pow_lt c k hk), ← h]
  simp
theorem turn_yes {bs : List UInt8} {first lim pat t : Nat} (h : pat.testBit t = true ∧ first + t < lim) : turnB bs first lim pat (t + 1) = flipAt (turnB bs first lim pat t) (first + t) ∧ turnA first lim pat (t + 1) = true := by
  simp only [turnB, turnA, if_pos h, and_self]
theorem turn_no {bs : List UInt8} {first lim pat t : Nat} (h : ¬ (pat.testBit t = true ∧ first + t < lim)) : turnB bs first lim pat (t + 1) = turnB bs first lim pat t ∧ turnA first lim pat (t + 1) = turnA first lim pat t := by
  simp only [turnB, turnA, if_neg h, and_self]
end Go.Kn
namespace Go.Proofs.Ytkpagiokjihmhaa
open Go Go.RowKit Go.Kn

/-- what Turned answers -/
def TurnSays (w : World) (n : Nat) (ys : List UInt8) (any : Bool) (e : Ending) (w' : World) : Prop :=
  ∃ g, e = .returned (.tuple #[.slice (some ⟨g, 0, none⟩) n n, .bool any]) ∧ w.heap.size ≤ g ∧ Own w' g (bvs ys) ∧ Only [] w w'

end Go.Proofs.Ytkpagiokjihmhaa
