/- What was laid is read as it was: plain laws. -/
import Derived.Test.YtoibehikojkoiaaItemQ
set_option linter.unusedVariables false
namespace Go.Kn
open Go Go.RowKit
theorem itAt_front (i : It) (r : List UInt8) (h : i.may = true) : itAt (i.bytes ++ r) 0 = i := by
  obtain ⟨h1, h2, h3, h4⟩ := i.may_bounds h
  have e1 : num (le 1 i.k.toNat) = i.k.toNat := num_le 1 _ (by omega)
  have e2 : num (le 1 i.b.toNat) = i.b.toNat := num_le 1 _ (by omega)
  have e3 : num (le 1 i.c.toNat) = i.c.toNat := num_le 1 _ (by omega)
  have e5 : i.v.toNat < 256 ^ 4 := by
    have e : (256 : Nat) ^ 4 = 4294967296 := rfl
    omega
  have e4 : num (le 4 i.v.toNat) = i.v.toNat := num_le 4 _ e5
  have hb : i.bytes ++ r = le 1 i.k.toNat ++ (le 1 i.b.toNat ++ (le 1 i.c.toNat ++ (le 4 i.v.toNat ++ r))) := by
    simp [It.bytes, les_cons]
  have d1 : ∀ (a b : List UInt8), a.length = 1 → (a ++ b).drop 1 = b ∧ (a ++ b).take 1 = a := fun a b h => ⟨by rw [List.drop_left' h], by rw [List.take_left' h]⟩
  have t0 : (i.bytes ++ r).take 1 = le 1 i.k.toNat := by rw [hb]; exact (d1 _ _ (by simp)).2
  have s1 : (i.bytes ++ r).drop 1 = le 1 i.b.toNat ++ (le 1 i.c.toNat ++ (le 4 i.v.toNat ++ r)) := by rw [hb]; exact (d1 _ _ (by simp)).1
  have s2 : (i.bytes ++ r).drop 2 = le 1 i.c.toNat ++ (le 4 i.v.toNat ++ r) := by
    have := List.drop_drop (l := i.bytes ++ r) (i := 1) (j := 1)
    rw [s1] at this
    rw [show (2 : Nat) = 1 + 1 from rfl, ← this]
    exact (d1 _ _ (by simp)).1
  have s3 : (i.bytes ++ r).drop 3 = le 4 i.v.toNat ++ r := by
    have := List.drop_drop (l := i.bytes ++ r) (i := 1) (j := 2)
    rw [s2] at this
    rw [show (3 : Nat) = 2 + 1 from rfl, ← this]
    exact (d1 _ _ (by simp)).1
  obtain ⟨k, b, c, v⟩ := i
  simp only at *
  simp only [itAt, Nat.mul_zero, List.drop_zero, Nat.zero_add, Nat.reduceAdd]
  rw [t0, s1, s2, s3, (d1 _ _ (by simp)).2, (d1 _ _ (by simp)).2, List.take_left' (by simp), e1, e2, e3, e4]
  simp only [It.mk.injEq]
  omega
theorem itAt_behind (i : It) (r : List UInt8) (j : Nat) : itAt (i.bytes ++ r) (j + 1) = itAt r j := by
  have hl := i.bytes_length
  have hd : ∀ x, (i.bytes ++ r).drop (7 * (j + 1) + x) = r.drop (7 * j + x) := by
    intro x
    rw [List.drop_append, List.drop_of_length_le (by omega), List.nil_append]
    congr 1
    omega
  have h0 := hd 0
  have h1 := hd 1
  have h2 := hd 2
  have h3 := hd 3
  simp only [Nat.add_zero] at h0
  simp only [itAt, Nat.add_assoc, Nat.reduceAdd] at *
  rw [h0, h1, h2, h3]
theorem parse_itsB : ∀ l : List It, l.all It.may = true → parse (itsB l) l.length = l
  | [], _ => rfl
  | i :: l, h => by
    simp only [List.all_cons, Bool.and_eq_true] at h
    have ih := parse_itsB l h.2
    rw [itsB_cons, List.length_cons]
    unfold parse at ih ⊢
    rw [List.range_succ_eq_map, List.map_cons, List.map_map, itAt_front i _ h.1]
    have e : (List.range l.length).map (itAt (i.bytes ++ itsB l) ∘ Nat.succ) = l := by
      conv => rhs; rw [← ih]
      apply List.map_congr_left
      intro j _
      exact itAt_behind i _ j
    rw [e]
theorem dec_enc (l : List It) (h6 : l.length ≤ 6) (hm : l.all It.may = true) : decItems (itsB l) = some l := by
  unfold decItems
  have h1 : (itsB l).length / 7 = l.length := by rw [itsB_length]; omega
  rw [h1, parse_itsB l hm, if_pos ⟨by rw [itsB_length]; omega, by rw [itsB_length]; omega, hm⟩]
theorem enc_good (l : List It) (h6 : l.length ≤ 6) (hm : l.all It.may = true) : encItems l = some (itsB l) := by
  unfold encItems
  rw [if_pos ⟨h6, hm⟩]
theorem itsB_append (a b : List It) : itsB (a ++ b) = itsB a ++ itsB b := by simp [itsB]
theorem itsB_take (l : List It) (q : Nat) (h : q ≤ l.length) : (itsB l).take (7 * q) = itsB (l.take q) := by
  have e : itsB l = itsB (l.take q) ++ itsB (l.drop q) := by rw [← itsB_append, List.take_append_drop]
  rw [e]
  exact List.take_left' (by rw [itsB_length, List.length_take]; omega)
theorem all_take_of {l : List It} (h : l.all It.may = true) (q : Nat) : (l.take q).all It.may = true :=
  List.all_eq_true.2 fun x hx => List.all_eq_true.1 h x (List.mem_of_mem_take hx)
theorem dec_part (l : List It) (h6 : l.length ≤ 6) (hm : l.all It.may = true) (k : Nat) (hk : k ≤ 7 * l.length) : decItems ((itsB l).take k) = if k % 7 = 0 then some (l.take (k / 7)) else none := by
  split
  · rename_i h
    obtain ⟨q, rfl⟩ : ∃ q, k = 7 * q := ⟨k / 7, by omega⟩
    rw [itsB_take l q (by omega), dec_enc _ (by rw [List.length_take]; omega) (all_take_of hm q), show 7 * q / 7 = q from by omega]
  · rename_i h
    unfold decItems
    rw [if_neg]
    rintro ⟨_, h2, _⟩
    rw [List.length_take, itsB_length, Nat.min_eq_left hk] at h2
    exact h h2
end Go.Kn
