
/- Bytes with their sum: closed; of which bits are turned: open. Plain, no program in sight. -/
import Derived.Test.YtkpagiokjihmhaaTurnP
set_option linter.unusedVariables false
namespace Go.Kn
open Go Go.RowKit
/-- bytes with their sum laid in the last four of 64 -/
def sealed (bs : List UInt8) : List UInt8 := lay bs 60 (le 4 (csum (bs.take 60)))
theorem sealed_length (bs : List UInt8) (h : bs.length = 64) : (sealed bs).length = 64 := by unfold sealed; rw [lay_length _ _ _ (by simp; omega)]; exact h
def zeros64 : List UInt8 := List.replicate 64 0
/-- bytes whose last four, from B on, are the sum of those ahead -/
def Closed (bs : List UInt8) (B : Nat) : Prop := bs.drop B = le 4 (csum (bs.take B))
theorem sealed_eq (bs : List UInt8) (h : bs.length = 64) : sealed bs = bs.take 60 ++ le 4 (csum (bs.take 60)) := by
  unfold sealed lay
  rw [List.drop_eq_nil_of_le (by simp; omega), List.append_nil]
theorem sealed_take (bs : List UInt8) (h : bs.length = 64) : (sealed bs).take 60 = bs.take 60 := by
  rw [sealed_eq bs h, List.take_append_of_le_length (by simp; omega), List.take_of_length_le (by simp; omega)]
theorem sealed_closed (bs : List UInt8) (h : bs.length = 64) : Closed (sealed bs) 60 := by
  unfold Closed
  rw [sealed_take bs h, sealed_eq bs h, List.drop_append, List.drop_eq_nil_of_le (by simp; omega), List.length_take, Nat.min_eq_left (by omega)]
  simp
theorem sealed_part (bs : List UInt8) (h : bs.length = 64) (k n : Nat) (hk : k + n ≤ 60) : ((sealed bs).drop k).take n = (bs.drop k).take n := by
  have e1 : (((sealed bs).take 60).drop k).take n = ((sealed bs).drop k).take n := by
    rw [List.drop_take, List.take_take, Nat.min_eq_left (by omega)]
  have e2 : ((bs.take 60).drop k).take n = (bs.drop k).take n := by
    rw [List.drop_take, List.take_take, Nat.min_eq_left (by omega)]
  rw [← e1, ← e2, sealed_take bs h]
theorem turned_not_closed (bs : List UInt8) (first B pat : Nat) (hB : B + 4 = bs.length) (h : turnA first (8 * B) pat 32 = true) (hs : Closed bs B) : ¬ Closed (turnB bs first (8 * B) pat 32) B :=
  turned_open bs first B pat hB h hs
theorem lay_zero (bs xs : List UInt8) : lay bs 0 xs = xs ++ bs.drop xs.length := by simp [lay]
theorem les_zeros (n : Nat) : ∀ k, les n (List.replicate k (0 : Int)) = List.replicate (n * k) 0
  | 0 => by simp
  | k + 1 => by
    have h0 : ∀ m, le m (0 : Int).toNat = List.replicate m 0 := by
      intro m
      induction m with
      | zero => rfl
      | succ m ih =>
        rw [List.replicate_succ, ← ih]
        rfl
    rw [List.replicate_succ, les_cons, h0, les_zeros n k, List.replicate_append_replicate]
    congr 1
    rw [Nat.mul_succ]
    omega
end Go.Kn
