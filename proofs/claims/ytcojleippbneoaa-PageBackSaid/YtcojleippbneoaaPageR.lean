/- Pages read as they were laid; turned ones refused. Plain, no program in sight. -/
import Derived.Test.YtcojleippbneoaaPageC
import Derived.Test.YtcojleippbneoaaTurnP
set_option linter.unusedVariables false
namespace Go.Kn
open Go Go.RowKit
/-- bytes whose last four, from B on, are the sum of those ahead -/
def Closed (bs : List UInt8) (B : Nat) : Prop := bs.drop B = le 4 (csum (bs.take B))
theorem sealed_eq (bs : List UInt8) (h : bs.length = 64) : sealed bs = bs.take 60 ++ le 4 (csum (bs.take 60)) := by
  unfold sealed lay
  rw [List.drop_eq_nil_of_le (by simp; omega), List.append_nil]
theorem sealed_take (bs : List UInt8) (h : bs.length = 64) : (sealed bs).take 60 = bs.take 60 := by
  rw [sealed_eq bs h, List.take_append_of_le_length (by simp; omega), List.take_of_length_le (by simp; omega)]
theorem sealed_closed (bs : List UInt8) (h : bs.length = 64) : Closed (sealed bs) 60 := by
  unfold Closed
  rw [sealed_take bs h, sealed_eq bs h, List.drop_append, List.drop_eq_nil_of_le (by simp; omega), List.length_take, Nat.min_eq_left (by omega)]
  simp
theorem sealed_part (bs : List UInt8) (h : bs.length = 64) (k n : Nat) (hk : k + n ≤ 60) : ((sealed bs).drop k).take n = (bs.drop k).take n := by
  have e1 : (((sealed bs).take 60).drop k).take n = ((sealed bs).drop k).take n := by
    rw [List.drop_take, List.take_take, Nat.min_eq_left (by omega)]
  have e2 : ((bs.take 60).drop k).take n = (bs.drop k).take n := by
    rw [List.drop_take, List.take_take, Nat.min_eq_left (by omega)]
  rw [← e1, ← e2, sealed_take bs h]
theorem turned_not_closed (bs : List UInt8) (first B pat : Nat) (hB : B + 4 = bs.length) (h : turnA first (8 * B) pat 32 = true) (hs : Closed bs B) : ¬ Closed (turnB bs first (8 * B) pat 32) B :=
  turned_open bs first B pat hB h hs
theorem lay_zero (bs xs : List UInt8) : lay bs 0 xs = xs ++ bs.drop xs.length := by simp [lay]
theorem les_zeros (n : Nat) : ∀ k, les n (List.replicate k (0 : Int)) = List.replicate (n * k) 0
  | 0 => by simp
  | k + 1 => by
    have h0 : ∀ m, le m (0 : Int).toNat = List.replicate m 0 := by
      intro m
      induction m with
      | zero => rfl
      | succ m ih =>
        rw [List.replicate_succ, ← ih]
        rfl
    rw [List.replicate_succ, les_cons, h0, les_zeros n k, List.replicate_append_replicate]
    congr 1
    rw [Nat.mul_succ]
    omega
/-- fifteen refs: those of l, 0 behind the last one -/
def padR (l : List Int) : List Int := l ++ List.replicate (15 - l.length) 0
theorem padR_length {l : List Int} (h : l.length ≤ 15) : (padR l).length = 15 := by simp [padR]; omega
theorem padR_get {l : List Int} (h : l.length ≤ 15) (i : Nat) (hi : i < 15) : (padR l)[i]? = some (if i < l.length then l.getD i 0 else 0) := by
  unfold padR
  by_cases hl : i < l.length
  · rw [if_pos hl, List.getElem?_append_left hl, List.getD_eq_getElem?_getD, List.getElem?_eq_getElem hl]
    rfl
  · rw [if_neg hl, List.getElem?_append_right (by omega), List.getElem?_replicate, if_pos (by omega)]
theorem padR_may {l : List Int} (h : l.all refMay = true) : (padR l).all refMay = true := by
  unfold padR
  rw [List.all_append, h]
  simp only [Bool.true_and, List.all_eq_true]
  intro x hx
  rw [(List.mem_replicate.1 hx).2]
  decide
theorem page_row_pad {l : List Int} (h : l.length ≤ 15) : lay zeros64 0 (les 4 ((padR l).map w32)) = lay zeros64 0 (les 4 (l.map w32)) := by
  unfold padR
  rw [List.map_append, List.map_replicate, show w32 0 = 0 from rfl, les_append, les_zeros, lay_zero, lay_zero, List.append_assoc]
  congr 1
  unfold zeros64
  rw [List.drop_replicate, List.drop_replicate, List.replicate_append_replicate]
  congr 1
  simp
  omega
theorem page_row_length (l : List Int) (h : l.length ≤ 15) : (lay zeros64 0 (les 4 (l.map w32))).length = 64 := by
  rw [lay_length _ _ _ (by simp [zeros64]; omega)]
  rfl
theorem refOf_w32 {z : Int} (h : refMay z = true) : refOf (w32 z).toNat = z := by
  have h := of_decide_eq_true h
  unfold refOf w32
  split <;> omega
theorem refsOf_row {zs : List Int} (h : zs.length = 15) (hm : zs.all refMay = true) : refsOf (sealed (lay zeros64 0 (les 4 (zs.map w32)))) 15 = zs := by
  apply List.ext_getElem
  · simp [h]
  · intro i h1 h2
    have hi : i < 15 := by omega
    have hl := page_row_length zs (by omega)
    simp only [refsOf, List.getElem_map, List.getElem_range]
    rw [sealed_part _ hl _ _ (by omega), lay_zero, List.drop_append_of_le_length (by simp; omega), List.take_append_of_le_length (by simp; omega), les_take_drop 4 _ i (by simpa using h2), List.getElem_map]
    have hf := w32_fit zs[i]
    have e : (256 : Int) ^ 4 = 4294967296 := rfl
    have e' : (256 : Nat) ^ 4 = 4294967296 := rfl
    rw [num_le _ _ (by omega)]
    exact refOf_w32 (List.all_eq_true.1 hm _ (List.getElem_mem _))
/-- what was laid is read as it was -/
theorem page_back {l : List Int} (h : l.length ≤ 15) (hm : l.all refMay = true) : ∃ b, encPage l = some b ∧ b.length = 64 ∧ Closed b 60 ∧ decPage b = some (padR l) := by
  have hl := page_row_length l h
  refine ⟨sealed (lay zeros64 0 (les 4 (l.map w32))), ?_, sealed_length _ hl, sealed_closed _ hl, ?_⟩
  · unfold encPage
    rw [if_pos ⟨h, hm⟩]
  · have e1 : refsOf (sealed (lay zeros64 0 (les 4 (l.map w32)))) 15 = padR l := by
      rw [← page_row_pad h]
      exact refsOf_row (padR_length h) (padR_may hm)
    unfold decPage
    rw [e1, if_pos]
    refine ⟨sealed_length _ hl, ?_⟩
    unfold encPage
    rw [if_pos ⟨by rw [padR_length h]; omega, padR_may hm⟩, page_row_pad h]
theorem page_closed {b : List UInt8} {l : List Int} (h : decPage b = some l) : Closed b 60 := by
  unfold decPage at h
  split at h
  · rename_i hc
    obtain ⟨_, h2⟩ := hc
    unfold encPage at h2
    split at h2
    · rename_i hd
      injection h2 with h2
      rw [← h2]
      exact sealed_closed _ (page_row_length _ hd.1)
    · cases h2
  · cases h
/-- a page of which bits are turned is none -/
theorem page_turned {b : List UInt8} {first pat : Nat} (hb : b.length = 64) (hc : Closed b 60) (ha : turnA first (8 * 60) pat 32 = true) : decPage (turnB b first (8 * 60) pat 32) = none := by
  cases hd : decPage (turnB b first (8 * 60) pat 32) with
  | none => rfl
  | some l => exact absurd (page_closed hd) (turned_not_closed b first 60 pat (by omega) ha hc)
end Go.Kn
