/- The law package of chapter 7: a record of which some sectors are another one's. Plain. -/
import Derived.Test.YtoibehikojkoiaaLaw7B
set_option linter.unusedVariables false
namespace Go.Kn
open Go Go.RowKit
def sec (b : List UInt8) (i : Nat) : List UInt8 := (b.drop (64 * i)).take 64
/-- the first j sectors, of one or the other -/
def mixS (f : Nat → Bool) (a b : List UInt8) : Nat → List UInt8
  | 0 => []
  | j + 1 => mixS f a b j ++ (if f j then sec a j else sec b j)
theorem sec_length {b : List UInt8} {K i : Nat} (h : b.length = 64 * K) (hi : i < K) : (sec b i).length = 64 := by
  unfold sec
  rw [List.length_take, List.length_drop]
  omega
theorem mixS_length {f : Nat → Bool} {a b : List UInt8} {K : Nat} (ha : a.length = 64 * K) (hb : b.length = 64 * K) : ∀ j, j ≤ K → (mixS f a b j).length = 64 * j
  | 0, _ => rfl
  | j + 1, h => by
    unfold mixS
    rw [List.length_append, mixS_length ha hb j (by omega)]
    split
    · rw [sec_length ha (by omega)]; omega
    · rw [sec_length hb (by omega)]; omega
theorem sec_mixS {f : Nat → Bool} {a b : List UInt8} {K : Nat} (ha : a.length = 64 * K) (hb : b.length = 64 * K) (i : Nat) : ∀ j, j ≤ K → i < j → sec (mixS f a b j) i = if f i then sec a i else sec b i
  | 0, _, h => by omega
  | j + 1, hj, hi => by
    have hl := mixS_length (f := f) ha hb j (by omega)
    by_cases h : i < j
    · have e := sec_mixS (f := f) ha hb i j (by omega) h
      rw [← e]
      unfold sec
      rw [mixS, List.drop_append_of_le_length (by omega), List.take_append_of_le_length (by rw [List.length_drop]; omega)]
    · obtain rfl : i = j := by omega
      have hs : (if f i then sec a i else sec b i).length = 64 := by
        split
        · exact sec_length ha (by omega)
        · exact sec_length hb (by omega)
      rw [mixS]
      generalize (if f i then sec a i else sec b i) = z at *
      unfold sec
      rw [← hl, List.drop_left, List.take_of_length_le (by omega)]
theorem sec0 (b : List UInt8) : sec b 0 = b.take 64 := by unfold sec; simp
theorem rcSum_lt (r : Rc) : rcSum r < 4294967296 := by
  unfold rcSum csum
  have := cadd_lt (x := 4294967295) (by decide) (rcHead r ++ r.bl.flatten)
  omega
theorem sum_of_sec0 {y r : Rc} (hy : rcMay y = true) (hr : rcMay r = true) (h : sec (rcBytes y) 0 = sec (rcBytes r) 0) : rcSum y = rcSum r := by
  obtain ⟨⟨_, _, _, _, h6⟩, _⟩ := rcMay_iff.1 hy
  obtain ⟨⟨_, _, _, _, g6⟩, _⟩ := rcMay_iff.1 hr
  have e : ∀ b : List UInt8, (b.drop 60).take 4 = ((sec b 0).drop 60).take 4 := by
    intro b
    rw [sec0, List.drop_take, List.take_take]
    rfl
  have h1 := rcBytes_sum h6
  have h2 := rcBytes_sum g6
  rw [e, h, ← e, h2] at h1
  have a1 := num_le 4 (rcSum r) (rcSum_lt r)
  have a2 := num_le 4 (rcSum y) (rcSum_lt y)
  rw [h1] at a1
  omega
theorem rcK_sec {b : List UInt8} : rcK (sec b 0) = rcK b := by rw [sec0]; exact rcK_take (by decide)
/-- what is read of a mix: blocks of both, the sum of one -/
theorem torn_read {r q y : Rc} {f : Nat → Bool} {K s : Nat} (hr : rcMay r = true) (hq : rcMay q = true) (hkr : 1 + r.bl.length = K) (hkq : 1 + q.bl.length = K) (h : decRc (mixS f (rcBytes r) (rcBytes q) K) = some (y, s)) :
    encRc y = some (mixS f (rcBytes r) (rcBytes q) K, s) ∧ y.bl.length = r.bl.length ∧ q.bl.length = r.bl.length ∧ (s = rcSum r ∨ s = rcSum q) ∧ ∀ i (h1 : i < y.bl.length) (h2 : i < r.bl.length) (h3 : i < q.bl.length), y.bl[i] = r.bl[i] ∨ y.bl[i] = q.bl[i] := by
  obtain ⟨he, hof, hfit⟩ := encRc_of_dec h
  obtain ⟨hy, hb, rfl⟩ := of_enc he
  have lr := rcBytes_length hr
  have lq := rcBytes_length hq
  rw [hkr] at lr
  rw [hkq] at lq
  obtain ⟨⟨_, _, _, _, r6⟩, _, rk, rf⟩ := rcMay_iff.1 hr
  obtain ⟨⟨_, _, _, _, q6⟩, _, qk, qf⟩ := rcMay_iff.1 hq
  obtain ⟨⟨_, _, _, _, y6⟩, _, yk, yf⟩ := rcMay_iff.1 hy
  have lm := mixS_length (f := f) lr lq K (Nat.le_refl _)
  have ly := rcBytes_length hy
  have hyl : y.bl.length = r.bl.length := by rw [← hb, lm] at ly; omega
  have h0 := sec_mixS (f := f) lr lq 0 K (Nat.le_refl _) (by omega)
  rw [hb] at h0
  have hblk : ∀ {z : Rc} (hz : z.its.length ≤ 6) (hf : full64 z.bl = true) (i : Nat) (hi : i < z.bl.length), sec (rcBytes z) (i + 1) = z.bl[i] := by
    intro z hz hf i hi
    unfold sec
    rw [show 64 * (i + 1) = 64 + 64 * i from by omega, ← List.drop_drop, rcBytes_flat hz]
    exact flat64_get hf i hi
  refine ⟨he, hyl, by omega, ?_, fun i h1 h2 h3 => ?_⟩
  · cases hf : f 0 with
    | true => rw [hf, if_pos rfl] at h0; exact .inl (sum_of_sec0 hy hr h0)
    | false => rw [hf] at h0; exact .inr (sum_of_sec0 hy hq h0)
  · have e := sec_mixS (f := f) lr lq (i + 1) K (Nat.le_refl _) (by omega)
    rw [hb, hblk y6 yf i h1, hblk r6 rf i h2, hblk q6 qf i h3] at e
    cases hf : f (i + 1) with
    | true => rw [hf, if_pos rfl] at e; exact .inl e
    | false => rw [hf] at e; exact .inr e
end Go.Kn
