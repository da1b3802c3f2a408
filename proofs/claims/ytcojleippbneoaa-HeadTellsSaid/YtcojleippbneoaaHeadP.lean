/- Heads: which may be, how they are laid and read, which place they fit. Plain, no program in sight. -/
import Derived.Test.YtcojleippbneoaaSeal
set_option linter.unusedVariables false
namespace Go.Kn
open Go Go.RowKit
def headMay (i : It) : Bool := decide (0 ≤ i.k ∧ i.k ≤ 31) && decide (1 ≤ i.b ∧ i.b ≤ 2147483647) && decide (1 ≤ i.c ∧ i.c ≤ 2147483647) && decide (0 ≤ i.v ∧ i.v ≤ 4294967295)
def headRow (i : It) : List UInt8 := lay (lay zeros64 0 (les 1 [75, 72, i.k])) 3 (les 4 [i.b, i.c, i.v])
def encHead (i : It) : Option (List UInt8) := if headMay i = true then some (sealed (headRow i)) else none
def headOf (bs : List UInt8) : It := ⟨rd bs 2 1, rd bs 3 4, rd bs 7 4, rd bs 11 4⟩
def decHead (bs : List UInt8) : Option It := decBy encHead headOf bs
theorem headMay_iff {i : It} : headMay i = true ↔ (0 ≤ i.k ∧ i.k ≤ 31) ∧ (1 ≤ i.b ∧ i.b ≤ 2147483647) ∧ (1 ≤ i.c ∧ i.c ≤ 2147483647) ∧ (0 ≤ i.v ∧ i.v ≤ 4294967295) := by
  simp [headMay, and_assoc]
theorem headRow_cat (i : It) : headRow i = cat [(1, 75), (1, 72), (1, i.k), (4, i.b), (4, i.c), (4, i.v)] ++ List.replicate 49 0 := by
  unfold headRow
  rw [les_cat 1, lay_cat _ _ 3 4 _ rfl (by simp [zeros64]), lay_zero, cat_length]
  rfl
theorem headRow_length (i : It) : (headRow i).length = 64 := by
  rw [headRow_cat, List.length_append, cat_length]
  rfl
theorem encHead_len {i : It} {b : List UInt8} (h : encHead i = some b) : b.length = 64 := by
  unfold encHead at h
  split at h
  · injection h with h
    rw [← h]
    exact sealed_length _ (headRow_length i)
  · cases h
theorem encHead_closed {i : It} {b : List UInt8} (h : encHead i = some b) : Closed b 60 := by
  unfold encHead at h
  split at h
  · injection h with h
    rw [← h]
    exact sealed_closed _ (headRow_length i)
  · cases h
theorem encHead_rd {i : It} {b : List UInt8} (h : encHead i = some b) (k n : Nat) (hk : k + n ≤ 60) : rd b k n = rd (headRow i) k n := by
  unfold encHead at h
  split at h
  · injection h with h
    rw [← h]
    exact rd_sealed _ (headRow_length i) k n hk
  · cases h
theorem encHead_may {i : It} {b : List UInt8} (h : encHead i = some b) : headMay i = true := by
  unfold encHead at h
  split at h
  · assumption
  · cases h
theorem encHead_of {i : It} {b : List UInt8} (h : encHead i = some b) : headOf b = i := by
  obtain ⟨h0, h1, h2, h3⟩ := headMay_iff.1 (encHead_may h)
  have e : (256 : Int) ^ 1 = 256 := rfl
  have e4 : (256 : Int) ^ 4 = 4294967296 := rfl
  unfold headOf
  rw [encHead_rd h 2 1 (by decide), encHead_rd h 3 4 (by decide), encHead_rd h 7 4 (by decide), encHead_rd h 11 4 (by decide), headRow_cat]
  have g0 := cat_get [(1, 75), (1, 72)] 1 i.k [(4, i.b), (4, i.c), (4, i.v)] (List.replicate 49 0) (by omega)
  have g1 := cat_get [(1, 75), (1, 72), (1, i.k)] 4 i.b [(4, i.c), (4, i.v)] (List.replicate 49 0) (by omega)
  have g2 := cat_get [(1, 75), (1, 72), (1, i.k), (4, i.b)] 4 i.c [(4, i.v)] (List.replicate 49 0) (by omega)
  have g3 := cat_get [(1, 75), (1, 72), (1, i.k), (4, i.b), (4, i.c)] 4 i.v [] (List.replicate 49 0) (by omega)
  simp only [wid, List.map_cons, List.map_nil, List.sum_cons, List.sum_nil, List.cons_append, List.nil_append, Nat.reduceAdd] at g0 g1 g2 g3
  rw [g0, g1, g2, g3]
theorem encHead_signs {i : It} {b : List UInt8} (h : encHead i = some b) : b[0]? = some 75 ∧ b[1]? = some 72 := by
  unfold encHead at h
  split at h
  · injection h with h
    have e : headRow i = 75 :: 72 :: (cat [(1, i.k), (4, i.b), (4, i.c), (4, i.v)] ++ List.replicate 49 0) := by rw [headRow_cat]; rfl
    have h2 : ((headRow i).take 60)[0]? = some 75 ∧ ((headRow i).take 60)[1]? = some 72 := by rw [e]; exact ⟨rfl, rfl⟩
    rw [← h, sealed_eq _ (headRow_length i), List.getElem?_append_left (by rw [List.length_take, headRow_length]; decide), List.getElem?_append_left (by rw [List.length_take, headRow_length]; decide)]
    exact h2
  · cases h
theorem decHead_signs {bs : List UInt8} (h : ¬ (bs.length = 64 ∧ bs[0]? = some 75 ∧ bs[1]? = some 72)) : decHead bs = none := by
  cases hd : decHead bs with
  | none => rfl
  | some x =>
    have he := decBy_enc hd
    exact absurd ⟨encHead_len he, encHead_signs he⟩ h
theorem head_back {i : It} (h : headMay i = true) : ∃ b, encHead i = some b ∧ b.length = 64 ∧ Closed b 60 ∧ decHead b = some i := by
  have he : encHead i = some (sealed (headRow i)) := by unfold encHead; rw [if_pos h]
  exact ⟨_, he, encHead_len he, encHead_closed he, decBy_back (encHead_of he) he⟩
theorem head_turned {b : List UInt8} {first pat : Nat} (hb : b.length = 64) (hc : Closed b 60) (ha : turnA first (8 * 60) pat 32 = true) : decHead (turnB b first (8 * 60) pat 32) = none :=
  decBy_turned (fun x y h => by rw [encHead_len h]; exact encHead_closed h) (by omega) hc ha
end Go.Kn
