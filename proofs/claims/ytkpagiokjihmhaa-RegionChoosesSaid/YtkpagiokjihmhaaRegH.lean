
/- Reading a region: plain definitions; reader.one, reader.slots. Printed by mkregh.py. -/
import Derived.Test.YtkpagiokjihmhaaRegG
import Derived.Test.YtkpagiokjihmhaaScrO
set_option linter.unusedVariables false
set_option linter.unusedSimpArgs false
namespace Go.Kn
open Go Go.RowKit
/-- the bits of a number as slots -/
def unbits (n P : Nat) : List Int := (List.range P).map fun i => ((n / 2 ^ i % 2 : Nat) : Int)
@[simp] theorem unbits_length (n P : Nat) : (unbits n P).length = P := by simp [unbits]
theorem unbits_succ (n P : Nat) : unbits n (P + 1) = unbits n P ++ [((n / 2 ^ P % 2 : Nat) : Int)] := by simp [unbits, List.range_succ]
def usPos (bs : List UInt8) (k : Nat) : Nat → Nat
  | 0 => k
  | j + 1 => getK bs (getK bs (usPos bs k j) 1) 4
def readUs (bs : List UInt8) (k : Nat) : Nat → List (Int × Int)
  | 0 => []
  | j + 1 => readUs bs k j ++ [(((getN bs (usPos bs k j) 1 : Nat) : Int), ((getN bs (getK bs (usPos bs k j) 1) 4 : Nat) : Int))]
@[simp] theorem readUs_length (bs : List UInt8) (k : Nat) : ∀ j, (readUs bs k j).length = j
  | 0 => rfl
  | j + 1 => by simp [readUs, readUs_length bs k j]
def rgK0 (bs : List UInt8) : Nat := takeK bs 0 2
def rgK1 (bs : List UInt8) : Nat := getK bs (rgK0 bs) 4
def rgK2 (bs : List UInt8) : Nat := getK bs (rgK1 bs) 4
def rgK3 (bs : List UInt8) : Nat := getK bs (rgK2 bs) 1
def rgK4 (bs : List UInt8) : Nat := getK bs (rgK3 bs) 4
def rgK5 (bs : List UInt8) : Nat := getK bs (rgK4 bs) 4
def rgK6 (bs : List UInt8) : Nat := getK bs (rgK5 bs) 4
def rgK7 (bs : List UInt8) : Nat := getK bs (rgK6 bs) 1
def rgK8 (bs : List UInt8) : Nat := getK bs (rgK7 bs) 1
def rgK9 (bs : List UInt8) : Nat := getK bs (rgK8 bs) 4
def rgK10 (bs : List UInt8) : Nat := getK bs (rgK9 bs) 4
def rgK11 (bs : List UInt8) : Nat := getK bs (rgK10 bs) 4
def rgK12 (bs : List UInt8) : Nat := getK bs (rgK11 bs) 1
def rgK13 (bs : List UInt8) : Nat := getK bs (rgK12 bs) 1
def rgOf (P S : Nat) (bs : List UInt8) : Rg := ⟨(getN bs (rgK0 bs) 4 : Nat), (getN bs (rgK1 bs) 4 : Nat), (getN bs (rgK2 bs) 1 : Nat), (getN bs (rgK3 bs) 4 : Nat), (getN bs (rgK4 bs) 4 : Nat), (getN bs (rgK5 bs) 4 : Nat), (getN bs (rgK6 bs) 1 : Nat), (getN bs (rgK7 bs) 1 : Nat), (getN bs (rgK8 bs) 4 : Nat), (getN bs (rgK9 bs) 4 : Nat), (getN bs (rgK10 bs) 4 : Nat), unbits (getN bs (rgK11 bs) 1) P, unbits (getN bs (rgK12 bs) 1) P, readUs bs (rgK13 bs) S⟩
def pgN (b : Int) : Nat := (pgs b).toNat
def decRg (b s l : Int) (bs : List UInt8) : Option Rg := decBy (encRg b s l) (rgOf (pgN b) s.toNat) bs
theorem shr_bit (n i : Nat) (hn : n < 4294967296) : bits .and .i64 ((n : Int) / 2 ^ i) 1 = ((n / 2 ^ i % 2 : Nat) : Int) := by
  have e1 : ((n : Int) / 2 ^ i) = ((n / 2 ^ i : Nat) : Int) := by simp
  have h1 : n / 2 ^ i ≤ n := Nat.div_le_self _ _
  rw [e1, show (1 : Int) = ((1 : Nat) : Int) from rfl, bits_and_i64_nat _ _ (by omega) (by omega), show 1 = 2 ^ 1 - 1 from rfl, Nat.and_two_pow_sub_one_eq_mod]
end Go.Kn
namespace Go.Proofs.Ytkpagiokjihmhaa
open Go Go.RowKit Go.Kn

set_option maxRecDepth 100000 in
set_option maxHeartbeats 2000000 in
theorem reader_one_any (p g k : Nat) (bs : List UInt8) (n : Int) (w : World) (h : RowAt w p g bs k) :
    Calls Try.prog 113 #[.agg #[.pointer (some ⟨p, 0, none⟩)], .int .i64 n] w fun e w' => e = .returned (.int .i64 (getN bs k n : Nat)) ∧ RowAt w' p g bs (getK bs k n) ∧ Only [p] w w' := by
  have H := Lib.hid h
  clear h
  go_enter Try.func113, Try.ntmps113
  go_wp2_with fail
  refine (get_all p g k bs n _ (by exact H.out.alloc _)).mono ?_
  rintro e w1 ⟨rfl, hr, hO⟩
  have HR := Lib.hid hr
  have HO := Lib.hid (((Only.refl [p] w).alloc (.cells #[.pointer (some ⟨p, 0, none⟩)] 161)).trans' hO)
  clear hr hO
  go_wp2
  go_ret
  exact ⟨rfl, HR.out, HO.out⟩

set_option maxRecDepth 100000 in
set_option maxHeartbeats 4000000 in
theorem reader_slots_any (p g k : Nat) (bs : List UInt8) (P : Nat) (w : World) (h : RowAt w p g bs k) (hP : P ≤ 60) :
    Calls Try.prog 114 #[.agg #[.pointer (some ⟨p, 0, none⟩)], .int .i64 (P : Nat)] w fun e w' => ∃ A c, e = .returned (.slice A P c) ∧ Ins w' A P c (unbits (getN bs k 1) P) ∧ (∀ a, A = some a → w.heap.size ≤ a.block) ∧ RowAt w' p g bs (getK bs k 1) ∧ Only [p] w w' := by
  obtain ⟨i1, hi1, hy0, hy1, hy2⟩ := info_parts Try.infoInt
  have H := Lib.hid h
  have hp0 := h.lp
  have hg0 := h.lg
  have hnlt : getN bs k 1 < 4294967296 := by
    unfold getN
    split
    · have h1 := num_lt ((bs.drop k).take (1 : Int).toNat)
      have h2 : (256 : Nat) ^ ((bs.drop k).take (1 : Int).toNat).length ≤ 256 ^ 1 := Nat.pow_le_pow_right (by decide) (by simp <;> omega)
      have h3 : (256 : Nat) ^ 1 = 256 := rfl
      omega
    · omega
  obtain ⟨n, hn⟩ : ∃ n, getN bs k 1 = n := ⟨_, rfl⟩
  obtain ⟨k1, hk1⟩ : ∃ n, getK bs k 1 = n := ⟨_, rfl⟩
  rw [hn] at hnlt ⊢
  rw [hk1]
  have HN := Lib.hid hn
  have HK1 := Lib.hid hk1
  clear hn hk1
  have hb0 := (Own.new w #[.pointer (some ⟨p, 0, none⟩)] 161)
  have hO0 := (Only.refl [p] w).alloc (.cells #[.pointer (some ⟨p, 0, none⟩)] 161)
  clear h
  go_enter Try.func114, Try.ntmps114
  go_wp2_with fail
  refine (reader_one_any p g k bs 1 _ (by exact H.out.alloc _)).mono ?_
  rintro e w1 ⟨rfl, hr, hO⟩
  rw [HK1.out] at hr
  rw [HN.out]
  have HR := Lib.hid hr
  have HO := Lib.hid (hO0.trans' hO)
  have hsz := (hO0.trans' hO).size
  clear hr hO hO0 hb0 H
  go_wp2_with fail
  go_loopg [4, 10] P (fun r v i wr => ∃ j : Nat, j + r = P ∧ i = .int .i64 j ∧ Gath wr w1.heap.size 3 v (ivs (unbits n j)) ∧ Only [] w1 wr)
  case atStart => exact ⟨0, by omega, rfl, by simpa [unbits, ivs] using Gath.nil _ _ _ (Nat.le_refl _), Only.refl _ _⟩
  obtain ⟨j, hj, rfl, hG, hO⟩ := hrel
  have hlj : (ivs (unbits n j)).length = j := by rw [ivs_length, unbits_length]
  obtain ⟨A1, c1, rfl, hr1, hA1⟩ := hG.formN hlj
  have HG := Lib.hid hG
  have HOO := Lib.hid hO
  have HR1 := Lib.hid hr1
  have HA1 := Lib.hid hA1
  have HLJ := Lib.hid hlj
  clear hG hO hr1 hA1 hlj
  by_cases hlt : j < P
  · have hlt2 : (j : Int) < (P : Int) := by omega
    have hs1 : 0 ≤ (j : Int) := by omega
    have hs3 : ((j : Int)).toNat = j := by omega
    have hbit := shr_bit n j hnlt
    have hmin : min j 64 = j := by omega
    obtain ⟨zb, hzb⟩ : ∃ z : Int, ((n / 2 ^ j % 2 : Nat) : Int) = z := ⟨_, rfl⟩
    rw [hzb] at hbit
    have HZB := Lib.hid hzb
    clear hzb
    go_wp2_with (first
      | (at_builtin; refine wpList_append_row1 rfl (.tmp 13) (.tmp 18) 36 rfl w1.heap.size 3 i1 _ 8 Try.underlying36 hi1 hy0 hy1 hy2 rfl (.slice A1 j c1) j (ivs (unbits n j)) rfl (HG.out.own ((Only.refl _ _).alloc _) HLJ.out) _ 1 1 (ivs [zb]) rfl (ins_built _ [zb] _ 1 rfl (by omega)) (ivs_one _) (by unfold maxLen; omega) (by omega) (HG.out.base_le ((Only.refl _ _).alloc _)) ?_; intro v1 w3 hown1 hgr1 hat1)
      | fail)
    go_roundg (gk - 1)
    case measure => omega
    case rel =>
      have hG7 := HG.out.keep0 ((Only.refl [] wr).alloc (.cells #[.int .i64 zb] 3))
      obtain ⟨hG9, hO9⟩ := hG7.grown (HOO.out.alloc (.cells #[.int .i64 zb] 3)) rfl hown1 (by rw [List.length_append, HLJ.out]; rfl) hgr1
      refine ⟨j + 1, by omega, by go_num, ?_, hO9⟩
      rw [unbits_succ, HZB.out]
      simpa [ivs] using hG9
  · obtain rfl : j = P := by omega
    go_wp2
    go_ret
    exact ⟨A1, c1, rfl, HR1.out, fun a ha => Nat.le_trans hsz (HA1.out a ha).1, HR.out.keep0 HOO.out, HO.out.trans HOO.out (by simp)⟩
end Go.Proofs.Ytkpagiokjihmhaa
