
/- crc.Sum of one part; crc.Seal. -/
import Derived.Test.YtkpagiokjihmhaaCrc
set_option linter.unusedVariables false
namespace Go.Kn
open Go Go.RowKit
/-- the sum of bytes -/
def csum (bs : List UInt8) : Nat := 4294967295 - cadd 4294967295 bs
theorem csum_lt (bs : List UInt8) : csum bs < 4294967296 := by unfold csum; omega
theorem bits_not_u32 (y : Nat) (hy : y < 4294967296) : bits .xor .u32 IntKind.u32.max (y : Int) = ((4294967295 - y : Nat) : Int) := by
  have h1 : IntKind.u32.max = ((4294967295 : Nat) : Int) := by decide
  rw [h1, bits_xor_u32_nat _ _ (by decide) hy]
  have h2 : (BitVec.allOnes 32 ^^^ BitVec.ofNat 32 y).toNat = (~~~ BitVec.ofNat 32 y).toNat := by rw [BitVec.not_def]
  rw [BitVec.toNat_xor, BitVec.toNat_not, BitVec.toNat_allOnes, BitVec.toNat_ofNat, Nat.mod_eq_of_lt (by omega)] at h2
  have h3 : (2 : Nat) ^ 32 - 1 = 4294967295 := by decide
  rw [h3] at h2
  rw [h2]
end Go.Kn
namespace Go.Proofs.Ytkpagiokjihmhaa
open Go Go.RowKit Go.Kn

set_option maxRecDepth 100000 in
set_option maxHeartbeats 4000000 in
theorem crc_sum_one (g : Nat) (A : Option Addr) (n c : Nat) (bs : List UInt8) (w : World) (hc : w.cell? ⟨g, 0, none⟩ = some (.slice A n c)) (hi : Bys w A n c bs) :
    Calls Try.prog 99 #[.slice (some ⟨g, 0, none⟩) 1 1] w fun e w' => e = .returned (.int .i64 (csum bs : Nat)) ∧ Only [] w w' := by
  have HI := Lib.hid hi
  clear hi
  go_enter Try.func99, Try.ntmps99
  go_wp2_with fail
  go_loopg [3, 8] 1 (fun r v i wr => (r = 1 ∧ i = .int .i64 0 ∧ v = .int .u32 4294967295 ∧ wr = w) ∨ (r = 0 ∧ i = .int .i64 1 ∧ v = .int .u32 (cadd 4294967295 bs : Nat) ∧ Only [] w wr))
  case atStart => exact .inl ⟨rfl, rfl, rfl, rfl⟩
  rcases hrel with ⟨rfl, rfl, rfl, rfl⟩ | ⟨rfl, rfl, rfl, hO⟩
  · go_wp2_with fail
    refine (crc_add_any 4294967295 A n c bs _ (by decide) (by exact HI.out)).mono ?_
    rintro e w3 ⟨rfl, hO⟩
    have HO := Lib.hid hO
    clear hO
    generalize cadd 4294967295 bs = y at *
    go_wp2_with fail
    go_roundg 0
    case measure => omega
    case rel => exact .inr ⟨rfl, by go_num, rfl, HO.out⟩
  · have HO := Lib.hid hO
    have hlt := cadd_lt (x := 4294967295) (by decide) bs
    have hy : csum bs = 4294967295 - cadd 4294967295 bs := rfl
    have hn := bits_not_u32 (cadd 4294967295 bs) hlt
    rw [← hy] at hn
    have hs := csum_lt bs
    clear hO hy hc
    generalize cadd 4294967295 bs = y at *
    generalize hcs : csum bs = s at *
    have HCS := Lib.hid hcs
    clear hcs
    go_wp2
    go_ret
    refine ⟨?_, HO.out⟩
    have hw : wrap64 (s : Int) = s := by unfold wrap64; omega
    rw [HCS.out, ← hw]
    simp [hw]

set_option maxRecDepth 100000 in
set_option maxHeartbeats 4000000 in
/-- the sum of all but the last four bytes is laid there -/
theorem crc_seal_any (g : Nat) (c : Nat) (bs : List UInt8) (m : Nat) (w : World) (hl : bs.length = m + 4) (hc : m + 4 ≤ c) (hm : c ≤ maxLen) (ho : Own w g (bvs bs)) :
    Calls Try.prog 42 #[.slice (some ⟨g, 0, none⟩) (m + 4) c] w fun e w' => e = .returned (.slice (some ⟨g, 0, none⟩) (m + 4) c) ∧ Own w' g (bvs (lay bs m (le 4 (csum (bs.take m))))) ∧ Only [g] w w' := by
  have hm' := hm
  unfold maxLen at hm'
  have hb : Bys w (some ⟨g, 0, none⟩) m c (bs.take m) := by
    have h1 := ho.take m
    rw [show (bvs bs).take m = bvs (bs.take m) from by simp [bvs, List.map_take]] at h1
    exact Row1.of_Own h1 (by simp; omega) (by omega) hm
  have HB := Lib.hid hb
  have HOW := Lib.hid ho
  have HLEN := Lib.hid hl
  clear hb ho hl hm
  have hmc : m ≤ c := by omega
  go_enter Try.func42, Try.ntmps42
  go_wp2_with fail
  refine (crc_sum_one w.heap.size (some ⟨g, 0, none⟩) m c (bs.take m) _ (by simp) (by exact HB.out.alloc _)).mono ?_
  rintro e w1 ⟨rfl, hO1⟩
  have HO1 := Lib.hid (((Only.refl [] w).alloc (.cells #[.slice (some ⟨g, 0, none⟩) m c] 23)).trans' hO1)
  have hs := csum_lt (bs.take m)
  generalize hcs : csum (bs.take m) = s at *
  have HCS := Lib.hid hcs
  have HOW1 := Lib.hid (HOW.out.keep0 HO1.out)
  clear hO1 HB hcs
  go_wp2_with fail
  go_loopg [14] 4 (fun r i wr => ∃ t, t + r = 4 ∧ i = .int .i64 t ∧ Own wr g (bvs (lay bs m ((le 4 s).take t))) ∧ Only [g] w wr)
  case atStart => exact ⟨0, by omega, rfl, by simpa [lay_nil] using HOW1.out, HO1.out.mono (by simp)⟩
  obtain ⟨t, ht, rfl, hown, hO⟩ := hrel
  have HO := Lib.hid hO
  have HOWN := Lib.hid hown
  clear hO hown
  by_cases ht4 : t < 4
  · have hll : (lay bs m ((le 4 s).take t)).length = m + 4 := by rw [lay_length _ _ _ (by simp; have := HLEN.out; omega)]; exact HLEN.out
    have hmt : m + t < (bvs (lay bs m ((le 4 s).take t))).length := by rw [bvs_length, hll]; omega
    have q0 := HOWN.out.cell (m + t) hmt
    have f0 := HOWN.out.frozen (m + t)
    have hbo := byte_of s t (by omega)
    have hst := HOWN.out.set (m + t) (.int .u8 ((UInt8.ofNat (s / 256 ^ t)).toNat : Int))
    have hsl : (bvs (lay bs m ((le 4 s).take t))).set (m + t) (.int .u8 ((UInt8.ofNat (s / 256 ^ t)).toNat : Int)) = bvs (lay bs m ((le 4 s).take (t + 1))) := by
      have h1 := lay_set bs m ((le 4 s).take t) (UInt8.ofNat (s / 256 ^ t)) (by simp; have := HLEN.out; omega)
      have h2 : m + ((le 4 s).take t).length = m + t := by simp; omega
      have h3 : (le 4 s).take (t + 1) = (le 4 s).take t ++ [UInt8.ofNat (s / 256 ^ t)] := by
        rw [List.take_succ_eq_append_getElem (by simpa using ht4), le_get]
      rw [h2] at h1
      rw [h3, ← h1, bvs, bvs, List.map_set]
    rw [hsl] at hst
    have HST := Lib.hid hst
    generalize (bvs (lay bs m ((le 4 s).take t)))[m + t] = old at *
    have hx4 : (t : Int) < 4 := by omega
    have htg : 0 ≤ (t : Int) := by omega
    have htt : ((t : Int)).toNat = t := by omega
    have hit : ((m : Int) + (t : Int)).toNat = m + t := by omega
    have hig : 0 ≤ (m : Int) + (t : Int) := by omega
    have hil : (m : Int) + (t : Int) < (m : Int) + 4 := by omega
    have h8t : ((8 : Int) * (t : Int)).toNat = 8 * t := by omega
    have h8g : 0 ≤ (8 : Int) * (t : Int) := by omega
    generalize UInt8.ofNat (s / 256 ^ t) = ch at *
    clear hsl hst hll hmt HOW HOW1
    go_wp2_with fail
    go_roundg (gk - 1)
    case measure => omega
    case rel => exact ⟨t + 1, by omega, by go_num, HST.out, HO.out.set (by simp) _⟩
  · obtain rfl : t = 4 := by omega
    have htk : (le 4 s).take 4 = le 4 s := List.take_of_length_le (by simp)
    have hown := HOWN.out
    rw [htk] at hown
    have HOWN' := Lib.hid hown
    go_wp2
    go_ret
    exact ⟨rfl, by rw [HCS.out]; exact HOWN'.out, HO.out⟩
end Go.Proofs.Ytkpagiokjihmhaa
