
/- Regions as bytes: plain laws; bits; region.Encode. Printed by mkregenc.py. -/
import Derived.Test.YtkpagiokjihmhaaRegC
import Derived.Test.YtkpagiokjihmhaaCrcC
import Derived.Deep.RegionHeld3
import Derived.Deep.Cut
set_option linter.unusedVariables false
set_option linter.unusedSimpArgs false
namespace Go.Kn
open Go Go.RowKit
/-- slots as the bits of a number -/
def bitsN : List Int → Nat
  | [] => 0
  | x :: r => x.toNat + 2 * bitsN r
theorem bitsN_lt : ∀ xs : List Int, xs.all inSlot = true → bitsN xs < 2 ^ xs.length
  | [], _ => by simp [bitsN]
  | x :: r, h => by
    simp only [List.all_cons, Bool.and_eq_true] at h
    have h1 := bitsN_lt r h.2
    have h2 := h.1
    unfold inSlot at h2
    simp at h2
    simp only [bitsN, List.length_cons, Nat.pow_succ]
    omega
theorem bitsN_snoc : ∀ (xs : List Int) (x : Int), bitsN (xs ++ [x]) = bitsN xs + x.toNat * 2 ^ xs.length
  | [], x => by simp [bitsN]
  | y :: r, x => by
    have h := bitsN_snoc r x
    simp only [bitsN, List.cons_append, List.length_cons, h, Nat.pow_succ]
    rw [Nat.mul_add, ← Nat.add_assoc]
    congr 1
    rw [← Nat.mul_assoc, Nat.mul_comm 2 x.toNat, Nat.mul_assoc, Nat.mul_comm 2]
theorem bits_step {xs : List Int} {j : Nat} (hj : j < xs.length) (hl : xs.length ≤ 5) (h : xs.all inSlot = true) : bits .or .i64 (bitsN (xs.take j) : Int) (xs[j] * 2 ^ j) = (bitsN (xs.take (j + 1)) : Int) ∧ IntKind.i64.wrap (xs[j] * 2 ^ j) = xs[j] * 2 ^ j := by
  have hx := List.all_eq_true.1 h xs[j] (List.getElem_mem _)
  unfold inSlot at hx
  simp at hx
  have h1 := bitsN_lt (xs.take j) (List.all_eq_true.2 fun y hy => List.all_eq_true.1 h y (List.mem_of_mem_take hy))
  have hlen : (xs.take j).length = j := by rw [List.length_take]; omega
  rw [hlen] at h1
  have h2 : 2 ^ j ≤ 2 ^ 4 := Nat.pow_le_pow_right (by omega) (by omega)
  have e1 : xs[j] * 2 ^ j = ((xs[j].toNat * 2 ^ j : Nat) : Int) := by
    have : xs[j] = ((xs[j].toNat : Nat) : Int) := by omega
    rw [this]
    simp
  have h3 : xs[j].toNat * 2 ^ j ≤ 1 * 2 ^ 4 := Nat.mul_le_mul (by omega) h2
  constructor
  · rw [e1, bits_or_i64_nat _ _ (by omega) (by omega), or_shift _ _ _ h1, List.take_succ_eq_append_getElem hj, bitsN_snoc, hlen]
  · rw [e1, IntKind.wrap_i64]
    omega
/-- the numbers of a region, each of its width -/
def rgNums (r : Rg) : List (Nat × Int) := [(1, 75), (1, 67), (4, r.g), (4, r.v), (1, r.m), (4, r.e), (4, r.s), (4, r.d), (1, r.ps), (1, r.po), (4, r.pl), (4, r.pp), (4, r.pm), (1, (bitsN r.base : Int)), (1, (bitsN r.over : Int))]
def usNums (us : List (Int × Int)) : List (Nat × Int) := us.flatMap fun u => [(1, u.1), (4, u.2)]
theorem usNums_wid (us : List (Int × Int)) : wid (usNums us) = 5 * us.length := by
  induction us with
  | nil => rfl
  | cons u r ih =>
    have : usNums (u :: r) = [(1, u.1), (4, u.2)] ++ usNums r := rfl
    rw [this, wid_append, ih]
    simp [wid]
    omega
theorem usNums_snoc (us : List (Int × Int)) (u : Int × Int) : usNums (us ++ [u]) = usNums us ++ [(1, u.1), (4, u.2)] := by simp [usNums]
def rlN (s : Int) : Nat := (rln s).toNat
def rgT (s : Int) : Nat := 64 * rlN s
def rgBytes (s : Int) (r : Rg) : List UInt8 := lay (lay (List.replicate (rgT s) 0) 0 (cat (rgNums r ++ usNums r.segs))) (rgT s - 4) (le 4 (csum ((lay (List.replicate (rgT s) 0) 0 (cat (rgNums r ++ usNums r.segs))).take (rgT s - 4))))
def encRg (b s l : Int) (r : Rg) : Option (List UInt8) := if rgMay b s l r = true then some (rgBytes s r) else none
theorem rgMay_parts {b s l : Int} {r : Rg} (h : rgMay b s l r = true) : numOk r = true ∧ posMay s l r.ps r.po r.pl r.pp r.pm = true ∧ slotsOk (pgs b) r.base = true ∧ slotsOk (pgs b) r.over = true ∧ (r.segs.length : Int) = s ∧ segsOk r.ps r.segs = true := by
  unfold rgMay at h
  simp only [Bool.and_eq_true, decide_eq_true_eq] at h
  exact h
theorem slotsOk_parts {P : Int} {xs : List Int} (h : slotsOk P xs = true) : (xs.length : Int) = P ∧ xs.all inSlot = true := by
  unfold slotsOk at h
  simpa only [Bool.and_eq_true, decide_eq_true_eq] using h
theorem numOk_parts {r : Rg} (h : numOk r = true) : (1 ≤ r.g ∧ r.g ≤ 2147483647) ∧ (1 ≤ r.v ∧ r.v ≤ 2147483647) ∧ (1 ≤ r.m ∧ r.m ≤ 2) ∧ (0 ≤ r.e ∧ r.e ≤ 2147483647) ∧ (0 ≤ r.s ∧ r.s ≤ 2147483647) ∧ (0 ≤ r.d ∧ r.d ≤ r.s) := by
  unfold numOk at h
  simpa only [Bool.and_eq_true, decide_eq_true_eq] using h
theorem posMay_parts {s l ps po pl pp pm : Int} (h : posMay s l ps po pl pp pm = true) : (0 ≤ ps ∧ ps ≤ s - 1) ∧ (0 ≤ po ∧ po ≤ l - 1) ∧ (1 ≤ pl ∧ pl ≤ 2147483647) ∧ (1 ≤ pm ∧ pm ≤ 2147483647) ∧ (0 ≤ pp ∧ pp ≤ 4294967295) := by
  unfold posMay at h
  simpa only [Bool.and_eq_true, decide_eq_true_eq] using h
theorem segsOk_at {ps : Int} {us : List (Int × Int)} (h : segsOk ps us = true) (i : Nat) (hi : i < us.length) : (0 ≤ us[i].1 ∧ us[i].1 ≤ 2) ∧ (0 ≤ us[i].2 ∧ us[i].2 ≤ 2147483647) := by
  have h1 := of_decide_eq_true h i hi
  unfold segOk at h1
  simp only [Bool.and_eq_true, decide_eq_true_eq] at h1
  exact ⟨h1.1, h1.2.1⟩
theorem rlN_eq {b s l : Int} (h : CfOk b s l) : rln s = (rlN s : Int) ∧ 2 ≤ rlN s ∧ rlN s ≤ 4 ∧ 43 + 5 * s ≤ 64 * (rlN s : Int) := by
  have h1 := rln_bounds h
  unfold rlN
  omega
end Go.Kn
namespace Go.Proofs.Ytkpagiokjihmhaa
open Go Go.RowKit Go.Kn

set_option maxRecDepth 100000 in
set_option maxHeartbeats 2000000 in
theorem region_bits_any (A : Option Addr) (n c : Nat) (xs : List Int) (w : World) (hi : Ins w A n c xs) (h5 : n ≤ 5) (ha : xs.all inSlot = true) :
    Calls Try.prog 68 #[.slice A n c] w fun e w' => e = .returned (.int .i64 (bitsN xs : Nat)) ∧ w' = w := by
  have hlen := hi.len
  rw [ivs_length] at hlen
  have hcm := hi.cm
  have hcl := hi.le
  unfold maxLen at hcm
  have HI := Lib.hid hi
  have HL := Lib.hid hlen
  have HA := Lib.hid ha
  clear hi hlen ha
  go_enter Try.func68, Try.ntmps68
  go_wp2_with fail
  go_loopg [2, 7] n (fun r acc i wr => ∃ j : Nat, j + r = n ∧ i = .int .i64 j ∧ acc = .int .i64 (bitsN (xs.take j) : Nat) ∧ w = wr)
  case atStart => exact ⟨0, by omega, rfl, by simp [bitsN], rfl⟩
  obtain ⟨j, hj, rfl, rfl, rfl⟩ := hrel
  by_cases hlt : j < n
  · have hjz : j < xs.length := by rw [HL.out]; exact hlt
    obtain ⟨a, o, rfl, hc⟩ := HI.out.at_ (by omega)
    have c0 := hc j (by rw [ivs_length]; exact hjz)
    simp only [ivs, List.getElem_map] at c0
    obtain ⟨hs5, hs4⟩ := bits_step hjz (by rw [HL.out]; exact h5) HA.out
    have hs1 : 0 ≤ (j : Int) := by omega
    have hs2 : (j : Int) ≤ 64 := by omega
    have hs3 : ((j : Int)).toNat = j := by omega
    clear hc
    generalize xs[j] = z at *
    go_wp2
    go_roundg (gk - 1)
    case measure => omega
    case rel => exact ⟨j + 1, by omega, by go_num, rfl, rfl⟩
  · obtain rfl : j = n := by omega
    have hfull : xs.take j = xs := List.take_of_length_le (by rw [HL.out]; omega)
    have HF := Lib.hid hfull
    clear hfull
    go_wp2
    go_ret
    exact ⟨by rw [HF.out]; rfl, rfl⟩

end Go.Proofs.Ytkpagiokjihmhaa
