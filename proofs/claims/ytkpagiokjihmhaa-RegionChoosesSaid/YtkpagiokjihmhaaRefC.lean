
/- Contracts of the reference's rows: Put, One, Num. -/
import Derived.Test.YtkpagiokjihmhaaRefB
set_option linter.unusedVariables false
namespace Go.Proofs.Ytkpagiokjihmhaa
open Go Go.RowKit Go.Kn

theorem fit_dec {n : Nat} (hw : n = 1 ∨ n = 2 ∨ n = 4) (z : Int) : decide (0 ≤ z ∧ z ≤ mostF (n : Int)) = decide (0 ≤ z ∧ z < 256 ^ n) := by
  rw [most_fit hw, decide_eq_decide]
  omega

/-- what the reference keeps of a number behind t bytes -/
theorem shr_step (z t : Nat) : ((z / 256 ^ t : Nat) : Int) / 256 = ((z / 256 ^ (t + 1) : Nat) : Int) := by
  rw [Nat.pow_succ, ← Nat.div_div_eq_div_mul]
  simp
theorem and_byte (x : Nat) (h : x < 9223372036854775808) : IntKind.u8.wrap (bits .and .i64 (x : Int) 255) = ((UInt8.ofNat x).toNat : Int) := by
  rw [show (255 : Int) = ((255 : Nat) : Int) from rfl, bits_and_i64_nat _ _ h (by omega), show 255 = 2 ^ 8 - 1 from rfl, Nat.and_two_pow_sub_one_eq_mod, UInt8.toNat_ofNat', IntKind.wrap_u8]
  omega

set_option maxRecDepth 100000 in
set_option maxHeartbeats 2000000 in
theorem ref_put_anyP (p g k : Nat) (bs : List UInt8) (n : Nat) (A : Option Addr) (m c : Nat) (zs : List Int) (w : World) (h : RowAt w p g bs k) (hi : Ins w A m c zs) (hA : 0 < m → ∀ a, A = some a → a.block ≠ p ∧ a.block ≠ g)
    (hw : n = 1 ∨ n = 2 ∨ n = 4) (hn : n * m ≤ bs.length - k) (hf : Fit n zs) :
    Calls Try.prog 47 #[.pointer (some ⟨p, 0, none⟩), .int .i64 n, .slice A m c] w fun e w' => e = .returned (.bool true) ∧ RowAt w' p g (lay bs k (les n zs)) (k + n * m) ∧ Only [p, g] w w' := by
  obtain ⟨A0, c0, h0, h1, h2, h3⟩ := h.fb
  have hk := h.fk
  have hlen := hi.len
  rw [ivs_length] at hlen
  have hle := h.le
  have hmx := h.mx
  unfold maxLen at h2
  have hn4 : n ≤ 4 := by omega
  have hn1 : 1 ≤ n := by omega
  have hm : m ≤ bs.length - k := Nat.le_trans (Nat.le_mul_of_pos_left m hn1) hn
  have hmf : mostF n = 256 ^ n - 1 := most_fit hw
  have hpw : (256 : Int) ^ n - 1 ≥ 0 := by rcases hw with rfl | rfl | rfl <;> decide
  have hm1 : decide (mostF (n : Int) < 0) = false := by rw [hmf]; simp; omega
  have hcells : ∀ j (hj : j < zs.length), ∃ a o, A = some ⟨a, o, none⟩ ∧ a ≠ p ∧ a ≠ g ∧ w.cell? ⟨a, o + j, none⟩ = some (.int .i64 zs[j]) := fun j hj => by
    obtain ⟨a, o, e, hc⟩ := hi.at_ (by omega)
    have h1 := hc j (by simpa using hj)
    rw [ivs_get] at h1
    exact ⟨a, o, e, (hA (by omega) _ e).1, (hA (by omega) _ e).2, h1⟩
  have hd : decide ((bs.length : Int) < (m : Int)) = false := by simp; omega
  have hd' : decide (bs.length < m) = false := by simp; omega
  have hmn : m * n ≤ 262144 := Nat.le_trans (Nat.mul_le_mul (show m ≤ 65536 by omega) (show n ≤ 4 by omega)) (by decide)
  have hmn2 : (m : Int) * (n : Int) = ((m * n : Nat) : Int) := by simp
  have hw2 := IntWalk.i64_in ((m : Int) * (n : Int)) (by rw [hmn2]; omega)
  clear hmn2
  have hw3 := IntWalk.i64_in ((bs.length : Int) - (k : Int)) (by omega)
  have hd2 : (m : Int) * (n : Int) ≤ (bs.length : Int) - (k : Int) := by
    have e : (m : Int) * (n : Int) = ((n * m : Nat) : Int) := by simp [Int.mul_comm]
    omega
  have hd3 : decide ((bs.length : Int) - (k : Int) < (m : Int) * (n : Int)) = false := by simp; omega
  have H := Lib.hid h
  have HC := Lib.hid hcells
  have HF := Lib.hid hf
  have HL := Lib.hid hlen
  have HN : Hid (k + n * m ≤ bs.length) := Lib.hid (by omega)
  have HW := Lib.hid hw
  clear h h3 hi hA hw hn hf hcells hlen hmf hpw hmn
  go_enter Try.func47, Try.ntmps47
  go_wp2_with (first | (go_at_call 100; refine (most_any _ _).mono ?_; rintro e w' ⟨rfl, rfl⟩))
  go_quiet (fail)
  have H1 := Lib.hid (H.out.drewN nq)
  clear hw2 hw3 hd2 h0 hk
  go_wp2_with fail
  go_loopg [8] m (fun r i wr => ∃ j : Nat, j + r = m ∧ i = .int .i64 j ∧ wr = w.drewN nq)
  case atStart => exact ⟨0, by omega, rfl, rfl⟩
  obtain ⟨j, hj, rfl, rfl⟩ := hrel
  by_cases hlt : j < m
  · have hjz : j < zs.length := by rw [HL.out]; exact hlt
    obtain ⟨a, o, rfl, hap, hag, hcell⟩ := HC.out j hjz
    have hfd : decide (0 ≤ zs[j] ∧ zs[j] ≤ mostF (n : Int)) = true := by
      rw [fit_dec HW.out]; exact decide_eq_true (HF.out zs[j] (List.getElem_mem _))
    generalize zs[j] = z at *
    go_wp2_with (first | (go_at_call 60; refine (within_any _ _ _ _).mono ?_; rintro e w' ⟨rfl, rfl⟩))
    go_roundg (gk - 1)
    case measure => omega
    case rel => exact ⟨j + 1, by omega, by go_num, rfl⟩
  · obtain rfl : j = m := by omega
    clear hlt hj
    go_wp2_with fail
    go_loopg [9] j (fun r i wr => ∃ l : Nat, l + r = j ∧ i = .int .i64 l ∧ RowAt wr p g (lay bs k (les n (zs.take l))) (k + n * l) ∧ Only [p, g] w wr)
    case atStart => exact ⟨0, by omega, rfl, by simpa [lay_nil] using H.out.drewN _, (Only.refl _ _).drewN _⟩
    obtain ⟨l, hl, rfl, HR, hO⟩ := hrel
    by_cases hlt : l < j
    · have hjz : l < zs.length := by rw [HL.out]; exact hlt
      obtain ⟨a, o, rfl, hap, hag, hcell⟩ := HC.out l hjz
      obtain ⟨hz0, hz1⟩ := HF.out zs[l] (List.getElem_mem _)
      have hcell1 := hO.cell hcell (by simp [hap, hag])
      have hR := Lib.hid HR
      have HO := Lib.hid hO
      have hzb := pow_256_le hn4
      obtain ⟨z, hz⟩ := Int.eq_ofNat_of_zero_le hz0
      have hz2 : z < 4294967296 := by omega
      have HZ := Lib.hid hz
      rw [hz] at hcell1
      clear HR hO hcell hz0 hz1 hzb hz
      go_wp2_with fail
      go_loopg [10, 11] n (fun r v i wr => ∃ t : Nat, t + r = n ∧ i = .int .i64 t ∧ v = .int .i64 ((z / 256 ^ t : Nat) : Int) ∧ RowAt wr p g (mid bs k n zs l t) (k + n * l + t) ∧ Only [p, g] w wr)
      case atStart => exact ⟨0, by omega, rfl, by simp, by simpa [mid] using hR.out, HO.out⟩
      obtain ⟨t, ht, rfl, rfl, HR, hO⟩ := hrel
      have hroom := mid_room HN.out (show l < j by omega)
      have hpl := HL.out
      by_cases hlt2 : t < n
      · have hlen := mid_length (n := n) (zs := zs) (l := l) (t := t) (bs := bs) (k := k) (by rw [hpl]; exact HN.out) hjz (by omega)
        have hset := mid_set (bs := bs) (k := k) (n := n) (zs := zs) (l := l) (t := t) (by rw [hpl]; exact HN.out) hjz hlt2
        have hb := HR.byte (k + n * l + t) (UInt8.ofNat ((zs.getD l 0).toNat / 256 ^ t)) (by rw [hlen]; omega)
        rw [hset] at hb
        have ez : (zs.getD l 0).toNat = z := by simp [hjz, HZ.out]
        rw [ez] at hb
        have hb3 := hb.place (k + n * l + t + 1) (by rw [mid_length (by rw [hpl]; exact HN.out) hjz (by omega)]; omega)
        have hO2 := Lib.hid hO
        obtain ⟨old, c1, hf0, hf1, hfk, hcl, hgz⟩ := HR.facts hlen (show k + n * l + t < bs.length by omega)
        have hpz := HR.pz 1
        have hpg := HR.ne (by rw [hlen]; omega)
        have hzt : z / 256 ^ t ≤ z := Nat.div_le_self _ _
        have hbyte := and_byte (z / 256 ^ t) (by omega)
        have hstep := shr_step z t
        have hb4 := Lib.hid hb3
        have hK1 : ((k + n * l + t : Nat) : Int) + 1 = ((k + n * l + t + 1 : Nat) : Int) := by simp
        have HK1 := Lib.hid hK1
        clear hb hset hO HR hlen hpl ez hb3 hK1
        generalize (UInt8.ofNat (z / 256 ^ t)) = cc at *
        generalize hZ1 : z / 256 ^ (t + 1) = z1 at *
        have HZ1 := Lib.hid hZ1
        clear hZ1
        generalize z / 256 ^ t = zt at *
        generalize hK : k + n * l + t = K at *
        have HKK := Lib.hid hK
        clear hK
        have hx1 : 0 ≤ (K : Int) := by omega
        have hx2 : (K : Int) < (bs.length : Int) := by have := HKK.out; omega
        have hcell2 : ∀ v, (wr.setCell ⟨g, K, none⟩ v).cell? ⟨p, 1, none⟩ = some (.int .i64 (K : Int)) := fun v => cell_set_ne (by simp) hfk v
        go_wp2_with fail
        go_region
        go_wp2
        go_roundg (gk - 1)
        case measure => omega
        case rel =>
          have hb5 := hb4.out.drew
          refine ⟨t + 1, by omega, by go_num, by rw [HZ1.out], ?_, ((hO2.out.set (by simp) _).set (by simp) _).drew⟩
          have e1 : k + n * l + (t + 1) = K + 1 := by have := HKK.out; omega
          rw [e1, HK1.out]
          exact hb5
      · obtain rfl : t = n := by omega
        have hR2 := Lib.hid HR
        have hO2 := Lib.hid hO
        have hl2 := mid_next (bs := bs) (k := k) (n := t) (zs := zs) (l := l) hjz
        clear HR hO
        go_wp2
        go_roundg (j - (l + 1))
        case measure => omega
        case rel =>
          refine ⟨l + 1, by omega, by go_num, ?_, hO2.out⟩
          rw [Nat.mul_succ, ← Nat.add_assoc, ← hl2]
          exact hR2.out
    · obtain rfl : l = j := by omega
      have hR := Lib.hid HR
      have HO := Lib.hid hO
      clear HR hO
      go_wp2
      go_ret
      have := hR.out
      rw [List.take_of_length_le (by rw [HL.out]; omega)] at this
      exact ⟨rfl, this, HO.out⟩

theorem ref_put_any (p g k : Nat) (bs : List UInt8) (n : Nat) (A : Option Addr) (m c : Nat) (zs : List Int) (w : World) (h : RowAt w p g bs k) (hi : Ins w A m c zs) (hA : ∀ a, A = some a → a.block ≠ p ∧ a.block ≠ g)
    (hw : n = 1 ∨ n = 2 ∨ n = 4) (hn : n * m ≤ bs.length - k) (hf : Fit n zs) :
    Calls Try.prog 47 #[.pointer (some ⟨p, 0, none⟩), .int .i64 n, .slice A m c] w fun e w' => e = .returned (.bool true) ∧ RowAt w' p g (lay bs k (les n zs)) (k + n * m) ∧ Only [p, g] w w' :=
  ref_put_anyP p g k bs n A m c zs w h hi (fun _ => hA) hw hn hf

set_option maxRecDepth 100000 in
set_option maxHeartbeats 2000000 in
theorem ref_put_bad (p g k : Nat) (bs : List UInt8) (n : Nat) (A : Option Addr) (m c : Nat) (zs : List Int) (w : World) (h : RowAt w p g bs k) (hi : Ins w A m c zs)
    (hw : n = 1 ∨ n = 2 ∨ n = 4) (hn : n * m ≤ bs.length - k) (hf : ¬ Fit n zs) :
    Calls Try.prog 47 #[.pointer (some ⟨p, 0, none⟩), .int .i64 n, .slice A m c] w fun e w' => e = .returned (.bool false) ∧ ∃ nq, w' = w.drewN nq := by
  obtain ⟨A0, c0, h0, h1, h2, h3⟩ := h.fb
  have hk := h.fk
  have hlen := hi.len
  rw [ivs_length] at hlen
  have hle := h.le
  have hmx := h.mx
  unfold maxLen at h2
  have hn4 : n ≤ 4 := by omega
  have hn1 : 1 ≤ n := by omega
  have hm : m ≤ bs.length - k := Nat.le_trans (Nat.le_mul_of_pos_left m hn1) hn
  have hmf : mostF n = 256 ^ n - 1 := most_fit hw
  have hpw : (256 : Int) ^ n - 1 ≥ 0 := by rcases hw with rfl | rfl | rfl <;> decide
  have hm1 : decide (mostF (n : Int) < 0) = false := by rw [hmf]; simp; omega
  have hcells : ∀ j (hj : j < zs.length), ∃ a o, A = some ⟨a, o, none⟩ ∧ w.cell? ⟨a, o + j, none⟩ = some (.int .i64 zs[j]) := fun j hj => by
    obtain ⟨a, o, e, hc⟩ := hi.at_ (by omega)
    have h1 := hc j (by simpa using hj)
    rw [ivs_get] at h1
    exact ⟨a, o, e, h1⟩
  have hd : decide ((bs.length : Int) < (m : Int)) = false := by simp; omega
  have hd' : decide (bs.length < m) = false := by simp; omega
  have hmn : m * n ≤ 262144 := Nat.le_trans (Nat.mul_le_mul (show m ≤ 65536 by omega) (show n ≤ 4 by omega)) (by decide)
  have hmn2 : (m : Int) * (n : Int) = ((m * n : Nat) : Int) := by simp
  have hw2 := IntWalk.i64_in ((m : Int) * (n : Int)) (by rw [hmn2]; omega)
  clear hmn2
  have hw3 := IntWalk.i64_in ((bs.length : Int) - (k : Int)) (by omega)
  have hd2 : (m : Int) * (n : Int) ≤ (bs.length : Int) - (k : Int) := by
    have e : (m : Int) * (n : Int) = ((n * m : Nat) : Int) := by simp [Int.mul_comm]
    omega
  have hd3 : decide ((bs.length : Int) - (k : Int) < (m : Int) * (n : Int)) = false := by simp; omega
  have HC := Lib.hid hcells
  have HF := Lib.hid hf
  have HL := Lib.hid hlen
  have HW := Lib.hid hw
  clear h h3 hi hw hn hf hcells hlen hmf hpw hmn
  go_enter Try.func47, Try.ntmps47
  go_wp2_with (first | (go_at_call 100; refine (most_any _ _).mono ?_; rintro e w' ⟨rfl, rfl⟩))
  go_quiet (fail)
  clear hw2 hw3 hd2 h0 hk
  go_wp2_with fail
  go_loopg [8] m (fun r i wr => ∃ j : Nat, j + r = m ∧ i = .int .i64 j ∧ wr = w.drewN nq ∧ ∀ t (ht : t < zs.length), t < j → 0 ≤ zs[t] ∧ zs[t] < 256 ^ n)
  case atStart => exact ⟨0, by omega, rfl, rfl, fun t _ h => absurd h (by omega)⟩
  obtain ⟨j, hj, rfl, rfl, hall⟩ := hrel
  have HA := Lib.hid hall
  clear hall
  have hlt : j < m := by
    rcases Nat.lt_or_ge j m with h | h
    · exact h
    · exact absurd (fun z hz => by
        obtain ⟨i, hi, rfl⟩ := List.getElem_of_mem hz
        exact HA.out i hi (by have := HL.out; omega)) HF.out
  have hjz : j < zs.length := by rw [HL.out]; exact hlt
  obtain ⟨a, o, rfl, hcell⟩ := HC.out j hjz
  by_cases hok : 0 ≤ zs[j] ∧ zs[j] < 256 ^ n
  · have hfd : decide (0 ≤ zs[j] ∧ zs[j] ≤ mostF (n : Int)) = true := by
      rw [fit_dec HW.out]; exact decide_eq_true hok
    have HOK := Lib.hid hok
    clear hok
    generalize hzz : zs[j] = z at hcell hfd
    clear hzz
    go_wp2_with (first | (go_at_call 60; refine (within_any _ _ _ _).mono ?_; rintro e w' ⟨rfl, rfl⟩))
    go_roundg (gk - 1)
    case measure => omega
    case rel =>
      refine ⟨j + 1, by omega, by go_num, rfl, fun t ht h => ?_⟩
      by_cases e : t = j
      · subst e; exact HOK.out
      · exact HA.out t ht (by omega)
  · have hfd : decide (0 ≤ zs[j] ∧ zs[j] ≤ mostF (n : Int)) = false := by
      rw [fit_dec HW.out]; exact decide_eq_false hok
    clear hok
    generalize hzz : zs[j] = z at hcell hfd
    clear hzz
    go_wp2_with (first | (go_at_call 60; refine (within_any _ _ _ _).mono ?_; rintro e w' ⟨rfl, rfl⟩))
    go_ret
    exact ⟨rfl, _, rfl⟩

/-- one number that fits -/
theorem ref_one_any (p g k : Nat) (bs : List UInt8) (n : Nat) (z : Int) (w : World) (h : RowAt w p g bs k) (hw : n = 1 ∨ n = 2 ∨ n = 4) (hn : n ≤ bs.length - k) (hz : 0 ≤ z ∧ z < 256 ^ n) :
    Calls Try.prog 46 #[.pointer (some ⟨p, 0, none⟩), .int .i64 n, .int .i64 z] w fun e w' => e = .returned (.tuple #[]) ∧ RowAt w' p g (lay bs k (le n z.toNat)) (k + n) ∧ Only [p, g] w w' := by
  have hl := h.lp
  have hg := h.lg
  have HZ := Lib.hid (fit_one hz)
  have HW := Lib.hid hw
  have H := Lib.hid h
  clear h hw hz
  go_enter Try.func46, Try.ntmps46
  go_wp2_with fail
  refine (ref_put_any p g k bs n _ 1 1 [z] _ (by exact H.out.alloc _) (by exact Row1.of_Own (by simpa [ivs] using Own.new w #[Value.int .i64 z] 3) (by simp) (Nat.le_refl _) (by simp [maxLen])) ?_ HW.out (by omega) HZ.out).mono ?_
  · intro a ha
    injection ha with ha
    subst ha
    exact ⟨by simp; omega, by simp; omega⟩
  rintro e w1 ⟨rfl, hr, hO⟩
  rw [les_one, Nat.mul_one] at hr
  go_wp2
  go_end0
  exact ⟨rfl, hr, ((Only.refl _ _).alloc _).trans' hO⟩

theorem ref_num_any (p g k : Nat) (bs : List UInt8) (n : Nat) (w : World) (h : RowAt w p g bs k) (hw : n = 1 ∨ n = 2 ∨ n = 4) (hn : n ≤ bs.length - k) :
    Calls Try.prog 54 #[.pointer (some ⟨p, 0, none⟩), .int .i64 n] w fun e w' => e = .returned (.int .i64 (num ((bs.drop k).take n))) ∧ RowAt w' p g bs (k + n) ∧ Only [p] w w' := by
  go_enter Try.func54, Try.ntmps54
  go_wp2_with fail
  refine (ref_get_any p g k bs n _ h hw hn).mono ?_
  rintro e w1 ⟨rfl, hr, hO⟩
  go_wp2
  go_ret
  exact ⟨rfl, hr, hO⟩
theorem ref_num_none (p g k : Nat) (bs : List UInt8) (n : Int) (w : World) (h : RowAt w p g bs k) (hn : ¬ ((n = 1 ∨ n = 2 ∨ n = 4) ∧ n ≤ ((bs.length - k : Nat) : Int))) :
    Calls Try.prog 54 #[.pointer (some ⟨p, 0, none⟩), .int .i64 n] w fun e w' => e = .returned (.int .i64 0) ∧ ∃ m, w' = w.drewN m := by
  go_enter Try.func54, Try.ntmps54
  go_wp2_with fail
  refine (ref_get_none p g k bs n _ h hn).mono ?_
  rintro e w1 ⟨rfl, m, rfl⟩
  go_wp2
  go_ret
  exact ⟨rfl, _, rfl⟩
end Go.Proofs.Ytkpagiokjihmhaa
