/- Contract of alike.Fill. -/
import Derived.Test.YtoibehikojkoiaaLeaf
import Derived.Test.YtoibehikojkoiaaPlain
import Derived.Test.YtoibehikojkoiaaRowD
set_option linter.unusedVariables false
namespace Go.Kn
open Go Go.RowKit
def fillAt (x : Int) (k : Nat) : UInt8 := UInt8.ofNat ((x % 256).toNat + k)
/-- 64 bytes that begin with a number and count on -/
def fillB (x : Int) : List UInt8 := (List.range 64).map (fillAt x)
def fillP (x : Int) (t : Nat) : List UInt8 := (List.range 64).map fun k => if k < t then fillAt x k else 0
theorem fillP_zero (x : Int) : fillP x 0 = List.replicate 64 0 := by
  unfold fillP
  simp only [Nat.not_lt_zero, if_false]
  rfl
theorem fillP_full (x : Int) : fillP x 64 = fillB x := by
  unfold fillP fillB
  apply List.map_congr_left
  intro k hk
  rw [if_pos (List.mem_range.1 hk)]
@[simp] theorem fillP_length (x : Int) (t : Nat) : (fillP x t).length = 64 := by simp [fillP]
theorem fillP_get (x : Int) (t i : Nat) (h : i < (fillP x t).length) : (fillP x t)[i] = if i < t then fillAt x i else 0 := by simp [fillP]
theorem fillP_set (x : Int) (t : Nat) (ht : t < 64) : (fillP x t).set t (fillAt x t) = fillP x (t + 1) := by
  apply List.ext_getElem
  · simp
  · intro i h1 h2
    rw [List.getElem_set, fillP_get, fillP_get]
    by_cases h : t = i
    · subst h
      rw [if_pos rfl, if_pos (by omega)]
    · rw [if_neg h]
      by_cases h3 : i < t
      · rw [if_pos h3, if_pos (by omega)]
      · rw [if_neg h3, if_neg (by omega)]
theorem fill_wrap (x : Int) (t : Nat) : IntKind.u8.wrap ((x % 256 + (t : Int)) % 256) = ((fillAt x t).toNat : Int) := by
  unfold fillAt
  rw [UInt8.toNat_ofNat']
  simp [IntKind.wrap, IntKind.signed, IntKind.bits]
  omega
end Go.Kn
namespace Go.Proofs.Ytoibehikojkoiaa
open Go Go.RowKit Go.Kn

set_option maxRecDepth 100000 in
set_option maxHeartbeats 4000000 in
theorem fill_any (x : Int) (w : World) (hx : (Lit.int .i64 x).wf = true) :
    Calls Try.prog 41 #[.int .i64 x] w fun e w' => ∃ g, e = .returned (.slice (some ⟨g, 0, none⟩) 64 64) ∧ w.heap.size ≤ g ∧ Own w' g (bvs (fillB x)) ∧ Only [] w w' := by
  have hmk : ∀ w : World, (Instr.makeSlice 35 (.int .i64 64) (.int .i64 64)).run Try.prog w = .ok (.slice (some ⟨w.heap.size, 0, none⟩) 64 64) (w.alloc (.cells (bvs (List.replicate 64 0)).toArray 5)) := make_bys 64 (by decide)
  have HX := Lib.hid hx
  clear hx
  go_enter Try.func41, Try.ntmps41
  go_wp2_with fail
  have h0 : Own (w.alloc (.cells (bvs (List.replicate 64 0)).toArray 5)) w.heap.size (bvs (fillP x 0)) := by
    rw [fillP_zero]
    exact Own.new w (bvs (List.replicate 64 0)).toArray 5
  have HO0 := Lib.hid ((Only.refl [] w).alloc (.cells (bvs (List.replicate 64 0)).toArray 5))
  have HW0 := Lib.hid h0
  clear h0 hmk
  go_loopg [4] 64 (fun r i wr => ∃ t : Nat, t + r = 64 ∧ i = .int .i64 t ∧ Own wr w.heap.size (bvs (fillP x t)) ∧ Only [] w wr)
  case atStart => exact ⟨0, by omega, rfl, HW0.out, HO0.out⟩
  obtain ⟨t, ht, rfl, hown, hO⟩ := hrel
  have HO := Lib.hid hO
  have HOWN := Lib.hid hown
  clear hO hown
  by_cases ht64 : t < 64
  · have q0 := HOWN.out.cell t (by simpa using ht64)
    have f0 := HOWN.out.frozen t
    have hst := HOWN.out.set t (.int .u8 ((fillAt x t).toNat : Int))
    have hse : (bvs (fillP x t)).set t (.int .u8 ((fillAt x t).toNat : Int)) = bvs (fillP x (t + 1)) := by
      rw [← fillP_set x t ht64, bvs, bvs, List.map_set]
    rw [hse] at hst
    have HST := Lib.hid hst
    have hwr := fill_wrap x t
    generalize (bvs (fillP x t))[t] = old at *
    generalize (fillAt x t).toNat = cc at *
    clear hst hse
    have hx1 : (t : Int) < 64 := by omega
    have hx0 : 0 ≤ (t : Int) := by omega
    have htt : ((t : Int)).toNat = t := by omega
    have hm0 : 0 ≤ x % 256 := Int.emod_nonneg _ (by decide)
    have hm1 : x % 256 < 256 := Int.emod_lt_of_pos _ (by decide)
    generalize hmm : x % 256 = m at *
    have HMM := Lib.hid hmm
    clear hmm
    go_wp2_with fail
    refine (round_any x 256 _ HX.out (by decide) (by decide)).mono ?_
    rintro e w' ⟨rfl, rfl⟩
    rw [HMM.out]
    go_wp2_with fail
    have hwf : (Lit.int .i64 (m + (t : Int))).wf = true := by simp [Lit.wf, IntKind.min, IntKind.max, IntKind.signed, IntKind.bits]; omega
    refine (round_any (m + (t : Int)) 256 _ hwf (by decide) (by decide)).mono ?_
    rintro e w' ⟨rfl, rfl⟩
    clear hwf
    go_wp2_with fail
    go_roundg (gk - 1)
    case measure => omega
    case rel => exact ⟨t + 1, by omega, by go_num, HST.out, HO.out.set (.inr (Nat.le_refl _)) _⟩
  · obtain rfl : t = 64 := by omega
    have hown := HOWN.out
    rw [fillP_full] at hown
    have HF := Lib.hid hown
    go_wp2
    go_ret
    exact ⟨_, rfl, Nat.le_refl _, HF.out, HO.out⟩
end Go.Proofs.Ytoibehikojkoiaa
