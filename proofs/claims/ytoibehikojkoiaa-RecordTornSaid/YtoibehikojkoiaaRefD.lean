/- The reference's begun and starts. -/
import Derived.Test.YtoibehikojkoiaaSeal
import Derived.Test.YtoibehikojkoiaaRefC
set_option linter.unusedVariables false
namespace Go.Kn
open Go Go.RowKit
theorem u8_ne {a b : UInt8} (h : a ≠ b) : ((a.toNat : Int) == (b.toNat : Int)) = false := by
  rw [beq_eq_false_iff_ne]
  intro e
  exact h (UInt8.toNat_inj.1 (by omega))
theorem fit_cons {n : Nat} {z : Int} {zs : List Int} : Fit n (z :: zs) ↔ (0 ≤ z ∧ z < 256 ^ n) ∧ Fit n zs := by simp [Fit]
theorem fit_nil {n : Nat} : Fit n [] ↔ True := by simp [Fit]
end Go.Kn
namespace Go.Proofs.Ytoibehikojkoiaa
open Go Go.RowKit Go.Kn

set_option maxRecDepth 100000 in
set_option maxHeartbeats 1000000 in
theorem ref_begun_any (n : Int) (x y : Int) (a b : UInt8) (w : World) (hx : x = ((a.toNat : Nat) : Int)) (hy : y = ((b.toNat : Nat) : Int)) (h2 : 2 ≤ n) (hn : n ≤ 65536) :
    Calls Try.prog 69 #[.int .i64 n, .int .u8 x, .int .u8 y] w fun e w' => ∃ p g, e = .returned (.pointer (some ⟨p, 0, none⟩)) ∧ w.heap.size ≤ p ∧ w.heap.size ≤ g ∧ RowAt w' p g (lay (List.replicate n.toNat 0) 0 [a, b]) 2 ∧ Only [] w w' := by
  have HX := Lib.hid hx
  have HY := Lib.hid hy
  clear hx hy
  go_enter Try.func69, Try.ntmps69
  go_wp2_with fail
  refine (ref_new_any n _ (by omega) hn).mono ?_
  rintro e w1 ⟨p, g, rfl, hp, hg, hr, hO⟩
  have HR := Lib.hid hr
  have HO := Lib.hid hO
  have hb : Bys (w1.alloc (.cells #[.int .u8 x, .int .u8 y] 5)) (some ⟨w1.heap.size, 0, none⟩) 2 2 [a, b] := by
    have h := Own.new w1 #[.int .u8 x, .int .u8 y] 5
    rw [HX.out, HY.out] at h ⊢
    exact Row1.of_Own h (by simp) (Nat.le_refl _) (by simp [maxLen])
  have HB := Lib.hid hb
  clear hr hO hb
  go_wp2_with fail
  refine (ref_lay_any p g 0 _ _ 2 2 [a, b] _ (by exact HR.out.alloc _) (by exact HB.out) (by simp; omega)).mono ?_
  rintro e w2 ⟨rfl, hr, hO⟩
  have HR2 := Lib.hid hr
  have HO2 := Lib.hid ((HO.out.alloc _).trans hO (by simp [hp, hg]) : Only [] w w2)
  clear hr hO
  go_wp2
  go_ret
  exact ⟨p, g, rfl, hp, hg, HR2.out, HO2.out⟩

set_option maxRecDepth 100000 in
set_option maxHeartbeats 1000000 in
theorem ref_starts_any (A : Option Addr) (n c : Nat) (bs : List UInt8) (s x y : Int) (size : Nat) (a b : UInt8) (w : World) (hi : Bys w A n c bs) (hs : s = (size : Int)) (hx : x = ((a.toNat : Nat) : Int)) (hy : y = ((b.toNat : Nat) : Int)) (h2 : 2 ≤ size) :
    Calls Try.prog 99 #[.slice A n c, .int .i64 s, .int .u8 x, .int .u8 y] w fun e w' => e = .returned (.bool (decide (bs.length = size ∧ bs[0]? = some a ∧ bs[1]? = some b))) ∧ w = w' := by
  have hlen := hi.len
  rw [bvs_length] at hlen
  have HL := Lib.hid hlen
  by_cases hn : n = size
  · have hb1 : ((n : Int) == s) = true := by rw [beq_iff_eq, hs]; omega
    obtain ⟨g, o, rfl, hc⟩ := hi.at_ (by omega)
    have q0 := hc 0 (by simp; omega)
    have q1 := hc 1 (by simp; omega)
    rw [bvs_get] at q0 q1
    simp only [Nat.add_zero] at q0
    have l0 : bs[0]? = some (bs[0]'(by omega)) := List.getElem?_eq_getElem _
    have l1 : bs[1]? = some (bs[1]'(by omega)) := List.getElem?_eq_getElem _
    have hn0 : (0 : Int) < (n : Int) := by omega
    have hn1 : (1 : Int) < (n : Int) := by omega
    generalize bs[0]'(by omega) = b0 at *
    generalize bs[1]'(by omega) = b1 at *
    have L0 := Lib.hid l0
    have L1 := Lib.hid l1
    clear l0 l1 hc hi hlen
    by_cases e0 : b0 = a
    · have f0 : (((b0.toNat : Nat) : Int) == x) = true := by rw [beq_iff_eq, hx, e0]
      by_cases e1 : b1 = b
      · have f1 : (((b1.toNat : Nat) : Int) == y) = true := by rw [beq_iff_eq, hy, e1]
        have HR : Hid (decide (bs.length = size ∧ bs[0]? = some a ∧ bs[1]? = some b) = true) := Lib.hid (by rw [decide_eq_true_eq, L0.out, L1.out, e0, e1, HL.out]; exact ⟨hn, rfl, rfl⟩)
        clear hs hx hy e0 e1 hn
        generalize b0.toNat = n0 at *
        generalize b1.toNat = n1 at *
        go_enter Try.func99, Try.ntmps99
        go_wp2
        go_ret
        exact ⟨by rw [HR.out]; rfl, rfl⟩
      · have f1 : (((b1.toNat : Nat) : Int) == y) = false := by rw [hy]; exact u8_ne e1
        have HR : Hid (decide (bs.length = size ∧ bs[0]? = some a ∧ bs[1]? = some b) = false) := Lib.hid (by rw [decide_eq_false_iff_not, L1.out]; simp [e1])
        clear hs hx hy e0 e1 hn
        generalize b0.toNat = n0 at *
        generalize b1.toNat = n1 at *
        go_enter Try.func99, Try.ntmps99
        go_wp2
        go_ret
        exact ⟨by rw [HR.out]; rfl, rfl⟩
    · have f0 : (((b0.toNat : Nat) : Int) == x) = false := by rw [hx]; exact u8_ne e0
      have HR : Hid (decide (bs.length = size ∧ bs[0]? = some a ∧ bs[1]? = some b) = false) := Lib.hid (by rw [decide_eq_false_iff_not, L0.out]; simp [e0])
      clear hs hx hy e0 hn
      generalize b0.toNat = n0 at *
      go_enter Try.func99, Try.ntmps99
      go_wp2
      go_ret
      exact ⟨by rw [HR.out]; rfl, rfl⟩
  · have hb1 : ((n : Int) == s) = false := by rw [beq_eq_false_iff_ne, hs]; omega
    have HR : Hid (decide (bs.length = size ∧ bs[0]? = some a ∧ bs[1]? = some b) = false) := Lib.hid (by rw [decide_eq_false_iff_not, HL.out]; simp [hn])
    clear hs hx hy hn hlen hi
    go_enter Try.func99, Try.ntmps99
    go_wp2
    go_ret
    exact ⟨by rw [HR.out]; rfl, rfl⟩
end Go.Proofs.Ytoibehikojkoiaa
