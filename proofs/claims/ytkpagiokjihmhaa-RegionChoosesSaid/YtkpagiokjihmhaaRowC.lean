
/- Contracts of package row: Put, Lay. -/
import Derived.Test.YtkpagiokjihmhaaRowB
import Derived.BigRegion
import Derived.Deep.LoopGhost
import Derived.Deep.RegionLaw
set_option linter.unusedVariables false
namespace Go.Proofs.Ytkpagiokjihmhaa
open Go Go.RowKit Go.Kn

set_option maxRecDepth 100000 in
set_option maxHeartbeats 1000000 in
theorem put_anyP (p g k : Nat) (bs : List UInt8) (n : Nat) (A : Option Addr) (m c : Nat) (zs : List Int) (w : World) (h : RowAt w p g bs k) (hi : Ins w A m c zs) (hA : 0 < m → ∀ a, A = some a → a.block ≠ p ∧ a.block ≠ g)
    (hw : n = 1 ∨ n = 2 ∨ n = 4) (hn : n * m ≤ bs.length - k) (hf : Fit n zs) :
    Calls Try.prog 41 #[.pointer (some ⟨p, 0, none⟩), .int .i64 n, .slice A m c] w fun e w' => e = .returned (.bool true) ∧ RowAt w' p g (lay bs k (les n zs)) (k + n * m) ∧ Only [p, g] w w' := by
  have hlen := hi.len
  rw [ivs_length] at hlen
  have hle := h.le
  have hmx := h.mx
  have hn4 : n ≤ 4 := by omega
  have hn1 : 1 ≤ n := by omega
  have hm : m ≤ bs.length - k := Nat.le_trans (Nat.le_mul_of_pos_left m hn1) hn
  have hq : (bs.length - k : Nat) / n ≥ m := (Nat.le_div_iff_mul_le hn1).2 (by rw [Nat.mul_comm]; exact hn)
  have hwb : decide ((n : Int) = 1 ∨ (n : Int) = 2 ∨ (n : Int) = 4) = true := by simp; omega
  have hcells : ∀ j (hj : j < zs.length), ∃ a o, A = some ⟨a, o, none⟩ ∧ a ≠ p ∧ a ≠ g ∧ w.cell? ⟨a, o + j, none⟩ = some (.int .i64 zs[j]) := fun j hj => by
    obtain ⟨a, o, e, hc⟩ := hi.at_ (by omega)
    have h1 := hc j (by simpa using hj)
    rw [ivs_get] at h1
    exact ⟨a, o, e, (hA (by omega) _ e).1, (hA (by omega) _ e).2, h1⟩
  obtain ⟨q, hqe⟩ : ∃ q, q = (bs.length - k) / n := ⟨_, rfl⟩
  have hq2 : q ≤ 65536 := by rw [hqe]; exact Nat.le_trans (Nat.div_le_self _ _) (by omega)
  have hdiv : wrap64 (((bs.length - k : Nat) : Int) / (n : Int)) = (q : Int) := by
    have e : (((bs.length - k : Nat) : Int) / (n : Int)) = (q : Int) := by rw [hqe]; simp
    rw [e]
    unfold wrap64
    omega
  rw [← hqe] at hq
  have hdq : decide (q < m) = false := by simp; omega
  have hn0 : ((n : Int) == 0) = false := by simp; omega
  have hs1 : 0 ≤ 8 * (n : Int) := by omega
  have hs2 : 8 * (n : Int) ≤ 64 := by omega
  have hs3 : (8 * (n : Int)).toNat = 8 * n := by omega
  have H := Lib.hid h
  have HC := Lib.hid hcells
  have HF := Lib.hid hf
  have HL := Lib.hid hlen
  have HN : Hid (k + n * m ≤ bs.length) := Lib.hid (by omega)
  clear h hi hA hw hn hf hcells hlen hqe
  go_enter Try.func41, Try.ntmps41
  go_wp2_with (first | (go_at_call 97; refine (wide_any _ _).mono ?_; rintro e w' ⟨rfl, rfl⟩) | (go_at_call 98; refine (left_any p g k bs _ H.out).mono ?_; rintro e w1 ⟨rfl, nq, rfl⟩))
  simp only [hdiv]
  clear hdiv
  go_loopg [30] m (fun r i wr => ∃ j : Nat, j + r = m ∧ i = .int .i64 j ∧ wr = w.drewN nq)
  case atStart => exact ⟨0, by omega, rfl, rfl⟩
  case round =>
    obtain ⟨j, hj, rfl, rfl⟩ := hrel
    by_cases hlt : j < m
    · have hjz : j < zs.length := by rw [HL.out]; exact hlt
      obtain ⟨a, o, rfl, hap, hag, hcell⟩ := HC.out j hjz
      obtain ⟨hz0, hz1⟩ := HF.out zs[j] (List.getElem_mem _)
      have hsh := shr_zero zs[j] n hz0
      rw [decide_eq_true hz1] at hsh
      have hsh2 : (zs[j] / 2 ^ (8 * n) != 0) = false := by rw [bne, hsh]; rfl
      generalize zs[j] = z at *
      clear hz1
      go_wp2
      go_roundg (gk - 1)
      case measure => omega
      case rel => exact ⟨j + 1, by omega, by go_num, rfl⟩
    · obtain rfl : j = m := by omega
      clear hlt hj
      go_wp2
      go_loopg [46] j (fun r i wr => ∃ l : Nat, l + r = j ∧ i = .int .i64 l ∧ RowAt wr p g (lay bs k (les n (zs.take l))) (k + n * l) ∧ Only [p, g] w wr)
      case atStart => exact ⟨0, by omega, rfl, by simpa [lay_nil] using H.out.drewN _, (Only.refl _ _).drewN _⟩
      case round =>
        obtain ⟨l, hl, rfl, HR, hO⟩ := hrel
        by_cases hlt : l < j
        · have hjz : l < zs.length := by rw [HL.out]; exact hlt
          obtain ⟨a, o, rfl, hap, hag, hcell⟩ := HC.out l hjz
          obtain ⟨hz0, hz1⟩ := HF.out zs[l] (List.getElem_mem _)
          have hcell1 := hO.cell hcell (by simp [hap, hag])
          have hR := Lib.hid HR
          have HO := Lib.hid hO
          clear HR hO hcell
          go_wp2
          go_loopg [51] n (fun r i wr => ∃ t : Nat, t + r = n ∧ i = .int .i64 t ∧ RowAt wr p g (mid bs k n zs l t) (k + n * l) ∧ Only [p, g] w wr)
          case atStart => exact ⟨0, by omega, rfl, by simpa [mid] using hR.out, HO.out⟩
          case round =>
            obtain ⟨t, ht, rfl, HR, hO⟩ := hrel
            have hroom := mid_room HN.out (show l < j by omega)
            have hpl := HL.out
            by_cases hlt2 : t < n
            · have hlen := mid_length (n := n) (zs := zs) (l := l) (t := t) (bs := bs) (k := k) (by rw [hpl]; exact HN.out) hjz (by omega)
              have hset := mid_set (bs := bs) (k := k) (n := n) (zs := zs) (l := l) (t := t) (by rw [hpl]; exact HN.out) hjz hlt2
              have hb := HR.byte (k + n * l + t) (UInt8.ofNat ((zs.getD l 0).toNat / 256 ^ t)) (by rw [hlen]; omega)
              rw [hset] at hb
              have hb2 := Lib.hid hb
              have hO2 := Lib.hid hO
              obtain ⟨old, c1, hf0, hf1, hfk, hcl, hgz⟩ := HR.facts hlen (show k + n * l + t < bs.length by omega)
              have ez : zs.getD l 0 = zs[l] := by simp [hjz]
              rw [ez] at hb2
              clear hb hset hO HR hlen hpl ez
              have hbyte : IntKind.u8.wrap (bits .and .i64 (zs[l] / 2 ^ (8 * t)) 255) = ((UInt8.ofNat (zs[l].toNat / 256 ^ t)).toNat : Int) := by
                have := byte_of zs[l].toNat t (by have := pow_256_le hn4; omega)
                rwa [Int.toNat_of_nonneg hz0] at this
              have hi1 : (k : Int) + (n : Int) * (l : Int) + (t : Int) = ((k + n * l + t : Nat) : Int) := by simp
              generalize (UInt8.ofNat (zs[l].toNat / 256 ^ t)) = cc at *
              generalize zs[l] = z at *
              generalize hK : k + n * l = K at *
              clear hK
              have hw1 := IntWalk.i64_in ((K : Int) + (t : Int)) (by omega)
              have hw2 := IntWalk.i64_in (8 * (t : Int)) (by omega)
              have hx1 : 0 ≤ (K : Int) + (t : Int) := by omega
              have hx2 : (K : Int) + (t : Int) < (bs.length : Int) := by omega
              have hx3 : ((K : Int) + (t : Int)).toNat = K + t := by omega
              have hx4 : 0 ≤ 8 * (t : Int) := by omega
              have hx5 : 8 * (t : Int) ≤ 64 := by omega
              have hx6 : (8 * (t : Int)).toNat = 8 * t := by omega
              go_wp2
              go_region
              go_wp2
              go_roundg (gk - 1)
              case measure => omega
              case rel => exact ⟨t + 1, by omega, by go_num, hb2.out.drew, ((hO2.out.set (by simp) _).drew)⟩
            · obtain rfl : t = n := by omega
              have hR2 := Lib.hid HR
              have hO2 := Lib.hid hO
              have hfk := HR.fk
              have hpz := HR.pz 1
              have hl2 := mid_length (n := t) (zs := zs) (l := l) (t := t) (bs := bs) (k := k) (by rw [hpl]; exact HN.out) hjz (by omega)
              have hpl' := HR.place (k + t * l + t) (by rw [hl2]; exact hroom)
              rw [mid_next hjz] at hpl'
              have hP := Lib.hid hpl'
              have hk1 : ((k + t * l : Nat) : Int) + (t : Int) = ((k + t * l + t : Nat) : Int) := by simp
              have HK := Lib.hid hk1
              clear HR hO hpl hl2 hpl' hk1
              generalize hK : k + t * l = K at *
              have HKK := Lib.hid hK
              clear hK
              go_wp2
              go_roundg (j - (l + 1))
              case measure => omega
              case rel =>
                refine ⟨l + 1, by omega, by go_num, ?_, hO2.out.set (by simp) _⟩
                rw [HK.out, Nat.mul_succ, ← Nat.add_assoc, HKK.out]
                exact hP.out
        · obtain rfl : l = j := by omega
          have hR := Lib.hid HR
          have HO := Lib.hid hO
          clear HR hO
          go_wp2
          go_ret
          have := hR.out
          rw [List.take_of_length_le (by rw [HL.out]; omega)] at this
          exact ⟨rfl, this, HO.out⟩

theorem put_any (p g k : Nat) (bs : List UInt8) (n : Nat) (A : Option Addr) (m c : Nat) (zs : List Int) (w : World) (h : RowAt w p g bs k) (hi : Ins w A m c zs) (hA : ∀ a, A = some a → a.block ≠ p ∧ a.block ≠ g)
    (hw : n = 1 ∨ n = 2 ∨ n = 4) (hn : n * m ≤ bs.length - k) (hf : Fit n zs) :
    Calls Try.prog 41 #[.pointer (some ⟨p, 0, none⟩), .int .i64 n, .slice A m c] w fun e w' => e = .returned (.bool true) ∧ RowAt w' p g (lay bs k (les n zs)) (k + n * m) ∧ Only [p, g] w w' :=
  put_anyP p g k bs n A m c zs w h hi (fun _ => hA) hw hn hf

theorem put_nil (n : Int) (A : Option Addr) (m c : Nat) (w : World) : Calls Try.prog 41 #[.pointer none, .int .i64 n, .slice A m c] w fun e w' => e = .returned (.bool false) ∧ w = w' := by
  go_enter Try.func41, Try.ntmps41
  go_wp2
  go_ret
  exact ⟨rfl, rfl⟩

set_option maxRecDepth 100000 in
/-- no such width -/
theorem put_narrow (p g k : Nat) (bs : List UInt8) (n : Int) (A : Option Addr) (m c : Nat) (w : World) (hw : ¬ (n = 1 ∨ n = 2 ∨ n = 4)) :
    Calls Try.prog 41 #[.pointer (some ⟨p, 0, none⟩), .int .i64 n, .slice A m c] w fun e w' => e = .returned (.bool false) ∧ w = w' := by
  have hwb : decide (n = 1 ∨ n = 2 ∨ n = 4) = false := by simp [hw]
  clear hw
  go_enter Try.func41, Try.ntmps41
  go_wp2_with (first | (go_at_call 97; refine (wide_any _ _).mono ?_; rintro e w' ⟨rfl, rfl⟩))
  go_ret
  exact ⟨rfl, rfl⟩

set_option maxRecDepth 100000 in
/-- too many -/
theorem put_full (p g k : Nat) (bs : List UInt8) (n : Nat) (A : Option Addr) (m c : Nat) (w : World) (h : RowAt w p g bs k) (hw : n = 1 ∨ n = 2 ∨ n = 4) (hn : bs.length - k < n * m) (hm : m ≤ maxLen) :
    Calls Try.prog 41 #[.pointer (some ⟨p, 0, none⟩), .int .i64 n, .slice A m c] w fun e w' => e = .returned (.bool false) ∧ ∃ nq, w' = w.drewN nq := by
  unfold maxLen at hm
  have hmx := h.mx
  have hn1 : 1 ≤ n := by omega
  have hwb : decide ((n : Int) = 1 ∨ (n : Int) = 2 ∨ (n : Int) = 4) = true := by simp; omega
  obtain ⟨q, hqe⟩ : ∃ q, q = (bs.length - k) / n := ⟨_, rfl⟩
  have hq2 : q ≤ 65536 := by rw [hqe]; exact Nat.le_trans (Nat.div_le_self _ _) (by omega)
  have hq : q < m := by rw [hqe]; exact (Nat.div_lt_iff_lt_mul hn1).2 (by rw [Nat.mul_comm]; exact hn)
  have hdiv : wrap64 (((bs.length - k : Nat) : Int) / (n : Int)) = (q : Int) := by
    have e : (((bs.length - k : Nat) : Int) / (n : Int)) = (q : Int) := by rw [hqe]; simp
    rw [e]
    unfold wrap64
    omega
  have hn0 : ((n : Int) == 0) = false := by simp; omega
  have H := Lib.hid h
  clear h hw hn hqe
  go_enter Try.func41, Try.ntmps41
  go_wp2_with (first | (go_at_call 97; refine (wide_any _ _).mono ?_; rintro e w' ⟨rfl, rfl⟩) | (go_at_call 98; refine (left_any p g k bs _ H.out).mono ?_; rintro e w1 ⟨rfl, nq, rfl⟩))
  go_ret
  exact ⟨rfl, _, rfl⟩

set_option maxRecDepth 100000 in
set_option maxHeartbeats 1000000 in
/-- one that does not fit -/
theorem put_bad (p g k : Nat) (bs : List UInt8) (n : Nat) (A : Option Addr) (m c : Nat) (zs : List Int) (w : World) (h : RowAt w p g bs k) (hi : Ins w A m c zs)
    (hw : n = 1 ∨ n = 2 ∨ n = 4) (hn : n * m ≤ bs.length - k) (hf : ¬ Fit n zs) :
    Calls Try.prog 41 #[.pointer (some ⟨p, 0, none⟩), .int .i64 n, .slice A m c] w fun e w' => e = .returned (.bool false) ∧ ∃ nq, w' = w.drewN nq := by
  have hlen := hi.len
  rw [ivs_length] at hlen
  have hle := h.le
  have hmx := h.mx
  have hn4 : n ≤ 4 := by omega
  have hn1 : 1 ≤ n := by omega
  have hm : m ≤ bs.length - k := Nat.le_trans (Nat.le_mul_of_pos_left m hn1) hn
  have hq : (bs.length - k : Nat) / n ≥ m := (Nat.le_div_iff_mul_le hn1).2 (by rw [Nat.mul_comm]; exact hn)
  have hwb : decide ((n : Int) = 1 ∨ (n : Int) = 2 ∨ (n : Int) = 4) = true := by simp; omega
  have hcells : ∀ j (hj : j < zs.length), ∃ a o, A = some ⟨a, o, none⟩ ∧ w.cell? ⟨a, o + j, none⟩ = some (.int .i64 zs[j]) := fun j hj => by
    obtain ⟨a, o, e, hc⟩ := hi.at_ (by omega)
    have h1 := hc j (by simpa using hj)
    rw [ivs_get] at h1
    exact ⟨a, o, e, h1⟩
  obtain ⟨q, hqe⟩ : ∃ q, q = (bs.length - k) / n := ⟨_, rfl⟩
  have hq2 : q ≤ 65536 := by rw [hqe]; exact Nat.le_trans (Nat.div_le_self _ _) (by omega)
  have hdiv : wrap64 (((bs.length - k : Nat) : Int) / (n : Int)) = (q : Int) := by
    have e : (((bs.length - k : Nat) : Int) / (n : Int)) = (q : Int) := by rw [hqe]; simp
    rw [e]
    unfold wrap64
    omega
  rw [← hqe] at hq
  have hdq : decide (q < m) = false := by simp; omega
  have hn0 : ((n : Int) == 0) = false := by simp; omega
  have hs1 : 0 ≤ 8 * (n : Int) := by omega
  have hs2 : 8 * (n : Int) ≤ 64 := by omega
  have hs3 : (8 * (n : Int)).toNat = 8 * n := by omega
  have H := Lib.hid h
  have HC := Lib.hid hcells
  have HF := Lib.hid hf
  have HL := Lib.hid hlen
  clear h hi hw hn hf hcells hlen hqe
  go_enter Try.func41, Try.ntmps41
  go_wp2_with (first | (go_at_call 97; refine (wide_any _ _).mono ?_; rintro e w' ⟨rfl, rfl⟩) | (go_at_call 98; refine (left_any p g k bs _ H.out).mono ?_; rintro e w1 ⟨rfl, nq, rfl⟩))
  simp only [hdiv]
  clear hdiv
  go_loopg [30] m (fun r i wr => ∃ j : Nat, j + r = m ∧ i = .int .i64 j ∧ wr = w.drewN nq ∧ ∀ t (ht : t < zs.length), t < j → 0 ≤ zs[t] ∧ zs[t] < 256 ^ n)
  case atStart => exact ⟨0, by omega, rfl, rfl, fun t _ h => absurd h (by omega)⟩
  case round =>
    obtain ⟨j, hj, rfl, rfl, hall⟩ := hrel
    have HA := Lib.hid hall
    clear hall
    have hlt : j < m := by
      rcases Nat.lt_or_ge j m with h | h
      · exact h
      · exact absurd (fun z hz => by
          obtain ⟨i, hi, rfl⟩ := List.getElem_of_mem hz
          exact HA.out i hi (by have := HL.out; omega)) HF.out
    have hjz : j < zs.length := by rw [HL.out]; exact hlt
    obtain ⟨a, o, rfl, hcell⟩ := HC.out j hjz
    by_cases hneg : zs[j] < 0
    · have HZ : Hid True := Lib.hid trivial
      generalize zs[j] = z at *
      go_wp2
      go_ret
      exact ⟨rfl, _, rfl⟩
    · have hz0 : 0 ≤ zs[j] := by omega
      have hsh := shr_zero zs[j] n hz0
      by_cases hz1 : zs[j] < 256 ^ n
      · rw [decide_eq_true hz1] at hsh
        have hsh2 : (zs[j] / 2 ^ (8 * n) != 0) = false := by rw [bne, hsh]; rfl
        have HZ := Lib.hid (And.intro hz0 hz1)
        clear hneg
        have HE : ∃ z, z = zs[j] := ⟨_, rfl⟩
        obtain ⟨z, hz⟩ := HE
        rw [← hz] at hcell hz0 hsh hsh2
        have HZE := Lib.hid hz
        clear hz hz1
        go_wp2
        go_roundg (gk - 1)
        case measure => omega
        case rel =>
          refine ⟨j + 1, by omega, by go_num, rfl, fun t ht h => ?_⟩
          by_cases e : t = j
          · subst e; exact HZ.out
          · exact HA.out t ht (by omega)
      · rw [decide_eq_false hz1] at hsh
        have hsh2 : (zs[j] / 2 ^ (8 * n) != 0) = true := by rw [bne, hsh]; rfl
        clear hneg hz1
        generalize zs[j] = z at *
        go_wp2
        go_ret
        exact ⟨rfl, _, rfl⟩

set_option maxRecDepth 100000 in
set_option maxHeartbeats 1000000 in
theorem lay_any (p g k : Nat) (bs : List UInt8) (A : Option Addr) (n c : Nat) (xs : List UInt8) (w : World) (h : RowAt w p g bs k) (hi : Bys w A n c xs) (hn : n ≤ bs.length - k) :
    Calls Try.prog 140 #[.pointer (some ⟨p, 0, none⟩), .slice A n c] w fun e w' => e = .returned (.bool true) ∧ RowAt w' p g (lay bs k xs) (k + n) ∧ Only [p, g] w w' := by
  obtain ⟨A0, c0, h0, h1, h2⟩ := row_bys h
  have hlen := hi.len
  rw [bvs_length] at hlen
  have hk := h.fk
  have hle := h.le
  have hmx := h.mx
  have hc := h1.le
  have hcm := h1.cm
  unfold maxLen at hcm
  have hz := h.pz 1
  have hsl := fun w => run_slice1_lo (P := Try.prog) w 23 5 Try.underlying23 (by kernel_rfl) A0 bs.length c0 (k : Int) k (bs.length - k) .i64 rfl hle rfl
  have hw1 := IntWalk.i64_in ((k : Int) + (n : Int)) (by omega)
  have HI := Lib.hid hi
  have H := Lib.hid h
  have H2 := Lib.hid h2
  have HL := Lib.hid hlen
  clear h h1 h2 hi hlen
  go_enter Try.func140, Try.ntmps140
  go_wp2_with (first | (go_at_call 98; refine (left_any p g k bs _ H.out).mono ?_; rintro e w1 ⟨rfl, nq, rfl⟩))
  have hcut : 0 < n → cutA A0 c0 k = some ⟨g, k, none⟩ := fun h0 => by rw [H2.out (by omega)]; exact cutA_at (show k < bs.length by omega) hc
  have HCU := Lib.hid hcut
  clear hcut
  go_region_law (first
    | (refine step_copy_bys rfl (.tmp 26) (.tmp 27) 23 23 rfl 5 Try.underlying23 (by kernel_rfl) (cutA A0 c0 k) A (bs.length - k) (c0 - k) n c (by simp [Act.eval, Act.put]) (by simp [Act.eval, Act.put]) g k (bvs bs) (bvs xs) (HI.out.keep0 ((Only.refl _ _).drewN _).drew) (bvs_one _) hn (by simp; omega) HCU.out (fun h0 => H.out.own (by simpa using h0)) ?_
       intro w2 hown2 hO2 hsame
       obtain ⟨hk2, hz2⟩ : w2.cell? ⟨p, 1, none⟩ = some (.int .i64 (k : Int)) ∧ w2.frozen? ⟨p, 1, none⟩ = false := by
         rcases Nat.eq_zero_or_pos bs.length with h0 | h0
         · rw [hsame (by omega)]; exact ⟨hk, hz⟩
         · have hne := H.out.ne h0
           exact ⟨hO2.cell hk (by simpa using hne), (hO2.frozen (p := ⟨p, 1, none⟩) H.out.lp (by simpa using hne)).trans hz⟩
       have HO2 := Lib.hid hO2
       have HOW2 := Lib.hid hown2
       have HS2 := Lib.hid hsame
       clear hO2 hown2 hsame))
  all_goals
    go_wp2
    go_ret
    have e : (k : Int) + (n : Int) = ((k + n : Nat) : Int) := by omega
    rw [e]
    have hO1 : Only [p, g] w (w.drewN nq).drew := ((Only.refl _ _).drewN _).drew
    have hl : (lay bs k xs).length = bs.length := lay_length _ _ _ (by have := HL.out; omega)
    refine ⟨rfl, ?_, ((hO1.trans HO2.out (by simp)).set (by simp) _)⟩
    refine RowAt.place (k := k) ?_ _ (by rw [hl]; omega)
    rcases Nat.eq_zero_or_pos bs.length with h0 | h0
    · rw [HS2.out (by omega)]
      obtain rfl : xs = [] := List.eq_nil_of_length_eq_zero (by have := HL.out; omega)
      rw [lay_nil]
      exact (H.out.drewN _).drew
    · exact ((H.out.drewN _).drew).copied h0 HO2.out (fun _ => HOW2.out (by simpa using h0)) (bvs_lay bs k xs) hl

set_option maxRecDepth 100000 in
theorem lay_none (p g k : Nat) (bs : List UInt8) (A : Option Addr) (n c : Nat) (w : World) (h : RowAt w p g bs k) (hn : bs.length - k < n) :
    Calls Try.prog 140 #[.pointer (some ⟨p, 0, none⟩), .slice A n c] w fun e w' => e = .returned (.bool false) ∧ ∃ nq, w' = w.drewN nq := by
  have H := Lib.hid h
  clear h
  go_enter Try.func140, Try.ntmps140
  go_wp2_with (first | (go_at_call 98; refine (left_any p g k bs _ H.out).mono ?_; rintro e w1 ⟨rfl, nq, rfl⟩))
  go_ret
  exact ⟨rfl, _, rfl⟩
theorem lay_nil_row (A : Option Addr) (n c : Nat) (w : World) : Calls Try.prog 140 #[.pointer none, .slice A n c] w fun e w' => e = .returned (.bool false) ∧ w = w' := by
  go_enter Try.func140, Try.ntmps140
  go_wp2
  go_ret
  exact ⟨rfl, rfl⟩
end Go.Proofs.Ytkpagiokjihmhaa
