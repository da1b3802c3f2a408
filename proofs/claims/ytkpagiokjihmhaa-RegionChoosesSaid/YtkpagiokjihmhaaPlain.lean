
/- Plain laws on numbers, bytes and bits. No program in sight. -/
import Derived.Test.YtkpagiokjihmhaaMem
import Derived.Laws.Bits64b
namespace Go.Kn
open Go Go.RowKit

theorem bits_or_i64_nat (a b : Nat) (ha : a < 9223372036854775808) (hb : b < 9223372036854775808) :
    bits .or .i64 (a : Int) (b : Int) = ((a ||| b : Nat) : Int) := by
  have hx : a ||| b < 2 ^ 63 := Nat.or_lt_two_pow (by omega) (by omega)
  have h1 : (BitVec.ofInt 64 (a : Int)).toNat = a := by
    rw [BitVec.ofInt_natCast, BitVec.toNat_ofNat]; exact Nat.mod_eq_of_lt (by omega)
  have h2 : (BitVec.ofInt 64 (b : Int)).toNat = b := by
    rw [BitVec.ofInt_natCast, BitVec.toNat_ofNat]; exact Nat.mod_eq_of_lt (by omega)
  show IntKind.i64.wrap ((BitVec.ofInt 64 (a : Int) ||| BitVec.ofInt 64 (b : Int)).toNat : Int) = _
  rw [BitVec.toNat_or, h1, h2, IntKind.wrap_i64]
  omega
theorem bits_and_i64_nat (a b : Nat) (ha : a < 9223372036854775808) (hb : b < 9223372036854775808) :
    bits .and .i64 (a : Int) (b : Int) = ((a &&& b : Nat) : Int) := by
  have hx : a &&& b < 2 ^ 63 := Nat.and_lt_two_pow _ (by omega)
  have h1 : (BitVec.ofInt 64 (a : Int)).toNat = a := by
    rw [BitVec.ofInt_natCast, BitVec.toNat_ofNat]; exact Nat.mod_eq_of_lt (by omega)
  have h2 : (BitVec.ofInt 64 (b : Int)).toNat = b := by
    rw [BitVec.ofInt_natCast, BitVec.toNat_ofNat]; exact Nat.mod_eq_of_lt (by omega)
  show IntKind.i64.wrap ((BitVec.ofInt 64 (a : Int) &&& BitVec.ofInt 64 (b : Int)).toNat : Int) = _
  rw [BitVec.toNat_and, h1, h2, IntKind.wrap_i64]
  omega
theorem or_shift (a c s : Nat) (h : a < 2 ^ s) : a ||| c * 2 ^ s = a + c * 2 ^ s := by
  have := Nat.two_pow_add_eq_or_of_lt h c
  rw [Nat.or_comm, Nat.mul_comm c, ← this, Nat.add_comm]

/-- the number that bytes are, the least first -/
def num : List UInt8 → Nat
  | [] => 0
  | c :: r => c.toNat + 256 * num r
theorem num_lt : ∀ l : List UInt8, num l < 256 ^ l.length
  | [] => by simp [num]
  | c :: r => by
    have h1 := num_lt r
    have h2 := c.toNat_lt
    simp only [num, List.length_cons, Nat.pow_succ]
    omega
theorem num_snoc : ∀ (l : List UInt8) (c : UInt8), num (l ++ [c]) = num l + c.toNat * 256 ^ l.length
  | [], c => by simp [num]
  | d :: r, c => by
    have h := num_snoc r c
    simp only [num, List.cons_append, List.length_cons, h, Nat.pow_succ]
    rw [Nat.mul_add, ← Nat.add_assoc]
    congr 1
    rw [← Nat.mul_assoc, Nat.mul_comm 256 c.toNat, Nat.mul_assoc, Nat.mul_comm 256]
theorem pow_256 (j : Nat) : (2 : Nat) ^ (8 * j) = 256 ^ j := by rw [Nat.pow_mul]
theorem take_drop_snoc (bs : List UInt8) (k j : Nat) (h : k + j < bs.length) : (bs.drop k).take (j + 1) = (bs.drop k).take j ++ [bs[k + j]] := by
  rw [List.take_succ_eq_append_getElem (by simp; omega)]
  simp
theorem num_step (bs : List UInt8) (k j : Nat) (h : k + j < bs.length) (hj : j < 4) :
    bits .or .i64 (num ((bs.drop k).take j) : Int) (((bs[k + j]).toNat : Int) * 2 ^ (8 * j)) = (num ((bs.drop k).take (j + 1)) : Int) := by
  have hl : ((bs.drop k).take j).length = j := by simp; omega
  have h1 := num_lt ((bs.drop k).take j)
  rw [hl, ← pow_256] at h1
  have h2 := bs[k + j].toNat_lt
  have h3 : 2 ^ (8 * j) ≤ 2 ^ 24 := Nat.pow_le_pow_right (by omega) (by omega)
  have h4 : (bs[k + j]).toNat * 2 ^ (8 * j) ≤ 255 * 2 ^ 24 := Nat.mul_le_mul (by omega) h3
  have e1 : (((bs[k + j]).toNat : Int) * 2 ^ (8 * j)) = (((bs[k + j]).toNat * 2 ^ (8 * j) : Nat) : Int) := by simp
  rw [e1, bits_or_i64_nat _ _ (by omega) (by omega), or_shift _ _ _ h1, take_drop_snoc _ _ _ h, num_snoc, hl, ← pow_256]
theorem num_step_wrap (bs : List UInt8) (k j : Nat) (h : k + j < bs.length) (hj : j < 4) :
    IntKind.i64.wrap (((bs[k + j]).toNat : Int) * 2 ^ (8 * j)) = ((bs[k + j]).toNat : Int) * 2 ^ (8 * j) := by
  have h2 := bs[k + j].toNat_lt
  have h3 : 2 ^ (8 * j) ≤ 2 ^ 24 := Nat.pow_le_pow_right (by omega) (by omega)
  have h4 : (bs[k + j]).toNat * 2 ^ (8 * j) ≤ 255 * 2 ^ 24 := Nat.mul_le_mul (by omega) h3
  have e1 : (((bs[k + j]).toNat : Int) * 2 ^ (8 * j)) = (((bs[k + j]).toNat * 2 ^ (8 * j) : Nat) : Int) := by simp
  rw [e1, IntKind.wrap_i64]
  omega
/-- a number as bytes, the least first -/
def le : Nat → Nat → List UInt8
  | 0, _ => []
  | n + 1, z => UInt8.ofNat z :: le n (z / 256)
@[simp] theorem le_length : ∀ n z, (le n z).length = n
  | 0, _ => rfl
  | n + 1, z => by simp [le, le_length n]
theorem le_get : ∀ (n z i : Nat) (h : i < (le n z).length), (le n z)[i] = UInt8.ofNat (z / 256 ^ i)
  | 0, z, i, h => by simp at h
  | n + 1, z, 0, h => by simp [le]
  | n + 1, z, i + 1, h => by
    simp only [le, List.getElem_cons_succ]
    rw [le_get n (z / 256) i, Nat.div_div_eq_div_mul, Nat.pow_succ, Nat.mul_comm 256]
theorem num_le : ∀ (n z : Nat), z < 256 ^ n → num (le n z) = z
  | 0, z, h => by simp at h; simp [le, num, h]
  | n + 1, z, h => by
    have h1 : z / 256 < 256 ^ n := by rw [Nat.pow_succ] at h; exact Nat.div_lt_of_lt_mul (by rw [Nat.mul_comm]; exact h)
    simp only [le, num, num_le n _ h1, UInt8.toNat_ofNat']
    omega
theorem le_num : ∀ l : List UInt8, le l.length (num l) = l
  | [] => rfl
  | c :: r => by
    have h := c.toNat_lt
    have e1 : UInt8.ofNat (c.toNat + 256 * num r) = c := by
      apply UInt8.toNat_inj.1
      rw [UInt8.toNat_ofNat']
      omega
    have e2 : (c.toNat + 256 * num r) / 256 = num r := by omega
    simp only [List.length_cons, num, le, e1, e2, le_num r]

/-- bytes laid over others from a place on -/
def lay (bs : List UInt8) (k : Nat) (xs : List UInt8) : List UInt8 := bs.take k ++ (xs ++ bs.drop (k + xs.length))
theorem lay_length (bs : List UInt8) (k : Nat) (xs : List UInt8) (h : k + xs.length ≤ bs.length) : (lay bs k xs).length = bs.length := by simp [lay]; omega
theorem lay_nil (bs : List UInt8) (k : Nat) : lay bs k [] = bs := by simp [lay]
theorem lay_set (bs : List UInt8) (k : Nat) (xs : List UInt8) (c : UInt8) (h : k + xs.length < bs.length) : (lay bs k xs).set (k + xs.length) c = lay bs k (xs ++ [c]) := by
  unfold lay
  have h1 : (bs.take k).length = k := by simp; omega
  rw [List.set_append_right _ _ (by omega), h1, Nat.add_sub_cancel_left, List.set_append_right _ _ (by omega), Nat.sub_self, List.drop_eq_getElem_cons h]
  simp [Nat.add_assoc]
theorem lay_lay (bs : List UInt8) (k : Nat) (xs ys : List UInt8) (h : k + xs.length + ys.length ≤ bs.length) : lay (lay bs k xs) (k + xs.length) ys = lay bs k (xs ++ ys) := by
  unfold lay
  have h1 : (bs.take k).length = k := by simp; omega
  have h2 : (bs.take k ++ (xs ++ bs.drop (k + xs.length))).take (k + xs.length) = bs.take k ++ xs := by
    rw [← List.append_assoc, List.take_append_of_le_length (by simp; omega)]
    exact List.take_of_length_le (by simp; omega)
  have h3 : (bs.take k ++ (xs ++ bs.drop (k + xs.length))).drop (k + xs.length + ys.length) = bs.drop (k + xs.length + ys.length) := by
    rw [← List.append_assoc, List.drop_append]
    have : (bs.take k ++ xs).length = k + xs.length := by simp; omega
    rw [this, List.drop_eq_nil_of_le (by omega), List.nil_append, List.drop_drop]
    congr 1
    omega
  rw [h2, h3]
  simp [Nat.add_assoc]

theorem bvs_lay (bs : List UInt8) (k : Nat) (xs : List UInt8) : (bvs bs).take k ++ (bvs xs ++ (bvs bs).drop (k + (bvs xs).length)) = bvs (lay bs k xs) := by simp [bvs, lay]

/-- numbers as bytes, one after the other -/
def les (n : Nat) (zs : List Int) : List UInt8 := zs.flatMap fun z => le n z.toNat
@[simp] theorem les_nil (n : Nat) : les n [] = [] := rfl
theorem les_cons (n : Nat) (z : Int) (zs : List Int) : les n (z :: zs) = le n z.toNat ++ les n zs := rfl
theorem les_append (n : Nat) (a b : List Int) : les n (a ++ b) = les n a ++ les n b := by simp [les]
@[simp] theorem les_length (n : Nat) (zs : List Int) : (les n zs).length = n * zs.length := by
  induction zs with
  | nil => simp
  | cons z zs ih => rw [les_cons, List.length_append, ih, le_length, List.length_cons, Nat.mul_succ]; omega
/-- numbers that fit so many bytes -/
def Fit (n : Nat) (zs : List Int) : Prop := ∀ z ∈ zs, 0 ≤ z ∧ z < 256 ^ n

/-- l numbers laid, and t bytes of the next -/
def mid (bs : List UInt8) (k n : Nat) (zs : List Int) (l t : Nat) : List UInt8 := lay bs k (les n (zs.take l) ++ (le n (zs.getD l 0).toNat).take t)
theorem mid_len {n : Nat} {zs : List Int} {l t : Nat} (hl : l < zs.length) (ht : t ≤ n) : (les n (zs.take l) ++ (le n (zs.getD l 0).toNat).take t).length = n * l + t := by
  rw [List.length_append, les_length, List.length_take, List.length_take, le_length, Nat.min_eq_left (by omega), Nat.min_eq_left ht]
theorem mid_room {k n L m l : Nat} (h : k + n * m ≤ L) (hl : l < m) : k + n * l + n ≤ L := by
  have := Nat.mul_le_mul_left n (show l + 1 ≤ m by omega)
  rw [Nat.mul_succ] at this
  omega
theorem mid_length {bs : List UInt8} {k n : Nat} {zs : List Int} {l t : Nat} (h : k + n * zs.length ≤ bs.length) (hl : l < zs.length) (ht : t ≤ n) : (mid bs k n zs l t).length = bs.length := by
  have h1 := mid_room h hl
  have h2 := mid_len hl ht
  exact lay_length _ _ _ (by rw [h2]; omega)
theorem mid_set {bs : List UInt8} {k n : Nat} {zs : List Int} {l t : Nat} (h : k + n * zs.length ≤ bs.length) (hl : l < zs.length) (ht : t < n) :
    (mid bs k n zs l t).set (k + n * l + t) (UInt8.ofNat ((zs.getD l 0).toNat / 256 ^ t)) = mid bs k n zs l (t + 1) := by
  have h1 := mid_room h hl
  have h2 := mid_len hl (Nat.le_of_lt ht)
  have h3 := lay_set bs k (les n (zs.take l) ++ (le n (zs.getD l 0).toNat).take t) (UInt8.ofNat ((zs.getD l 0).toNat / 256 ^ t)) (by rw [h2]; omega)
  rw [h2, ← Nat.add_assoc] at h3
  unfold mid
  rw [h3, List.append_assoc, List.take_succ_eq_append_getElem (by simpa using ht), le_get]
theorem mid_next {bs : List UInt8} {k n : Nat} {zs : List Int} {l : Nat} (hl : l < zs.length) : mid bs k n zs l n = lay bs k (les n (zs.take (l + 1))) := by
  unfold mid
  have h2 : (le n (zs.getD l 0).toNat).take n = le n (zs.getD l 0).toNat := List.take_of_length_le (by simp)
  rw [List.take_succ_eq_append_getElem hl, les_append, h2]
  have e : zs.getD l 0 = zs[l] := by simp [hl]
  rw [e]
  simp [les]

instance (n : Nat) (zs : List Int) : Decidable (Fit n zs) := inferInstanceAs (Decidable (∀ z ∈ zs, 0 ≤ z ∧ z < 256 ^ n))
theorem les_take_drop (n : Nat) (zs : List Int) (i : Nat) (h : i < zs.length) : ((les n zs).drop (n * i)).take n = le n zs[i].toNat := by
  have e : zs = zs.take i ++ zs[i] :: zs.drop (i + 1) := by rw [← List.drop_eq_getElem_cons h, List.take_append_drop]
  have e2 : les n zs = les n (zs.take i) ++ (le n zs[i].toNat ++ les n (zs.drop (i + 1))) := by
    conv => lhs; rw [e]
    rw [les_append, les_cons]
  have hl : (les n (zs.take i)).length = n * i := by rw [les_length, List.length_take, Nat.min_eq_left (by omega)]
  rw [e2, List.drop_append, hl, List.drop_eq_nil_of_le (by omega), List.nil_append, Nat.sub_self, List.drop_zero, List.take_append, le_length, List.take_of_length_le (by simp), Nat.sub_self, List.take_zero, List.append_nil]
theorem num_les (n : Nat) (zs : List Int) (i : Nat) (h : i < zs.length) (hf : Fit n zs) : (num (((les n zs).drop (n * i)).take n) : Int) = zs[i] := by
  obtain ⟨h0, h1⟩ := hf zs[i] (List.getElem_mem _)
  have h2 : zs[i].toNat < 256 ^ n := by
    have e : ((256 ^ n : Nat) : Int) = (256 : Int) ^ n := by simp
    omega
  rw [les_take_drop _ _ _ h, num_le _ _ h2]
  omega
theorem lay_all (bs xs : List UInt8) (h : xs.length = bs.length) : lay bs 0 xs = xs := by
  unfold lay
  rw [List.take_zero, List.nil_append, Nat.zero_add, List.drop_eq_nil_of_le (by omega), List.append_nil]
theorem fit_one {n : Nat} {z : Int} (h : 0 ≤ z ∧ z < 256 ^ n) : Fit n [z] := by
  intro x hx
  simp at hx
  subst hx
  exact h
theorem les_one (n : Nat) (z : Int) : les n [z] = le n z.toNat := by simp [les]
theorem les_take_succ (n : Nat) (zs : List Int) (i : Nat) (h : i < zs.length) : les n (zs.take (i + 1)) = les n (zs.take i) ++ les n [zs[i]] := by
  rw [List.take_succ_eq_append_getElem h, les_append]
theorem pow_256_le {n : Nat} (h : n ≤ 4) : (256 : Int) ^ n ≤ 4294967296 := by
  rcases n with _ | _ | _ | _ | _ | n
  all_goals first | decide | omega
theorem byte_of (z i : Nat) (hz : z < 9223372036854775808) : IntKind.u8.wrap (bits .and .i64 ((z : Int) / 2 ^ (8 * i)) 255) = ((UInt8.ofNat (z / 256 ^ i)).toNat : Int) := by
  have e1 : ((z : Int) / 2 ^ (8 * i)) = ((z / 256 ^ i : Nat) : Int) := by
    rw [← pow_256]
    simp
  have h1 : z / 256 ^ i ≤ z := Nat.div_le_self _ _
  rw [e1, show (255 : Int) = ((255 : Nat) : Int) from rfl, bits_and_i64_nat _ _ (by omega) (by omega), show 255 = 2 ^ 8 - 1 from rfl, Nat.and_two_pow_sub_one_eq_mod, UInt8.toNat_ofNat', IntKind.wrap_u8]
  omega
theorem shr_zero (z : Int) (n : Nat) (h0 : 0 ≤ z) : (z / 2 ^ (8 * n) == 0) = decide (z < 256 ^ n) := by
  have e : (2 : Int) ^ (8 * n) = 256 ^ n := by rw [Int.pow_mul]; rfl
  have hp : (0 : Int) < 256 ^ n := Int.pow_pos (by omega)
  rw [e]
  rw [Bool.eq_iff_iff]
  simp only [beq_iff_eq, decide_eq_true_eq]
  constructor
  · intro h
    have := Int.lt_mul_ediv_self_add (x := z) hp
    rw [h] at this
    omega
  · intro h
    exact Int.ediv_eq_zero_of_lt h0 h
end Go.Kn
