/- RowBytes: for every input the call returns true, and each argument reads behind the call as it read before. -/
import Derived.Test.YtcojleippbneoaaLaw1A
import Derived.Test.YtcojleippbneoaaFrame
set_option linter.unusedVariables false
namespace Go.Proofs.Ytcojleippbneoaa.rowBytes
open Go Go.RowKit Go.Kn Go.ChangeShapes Go.WideShapes Go.ChangeAt

set_option maxRecDepth 100000 in
set_option maxHeartbeats 2000000 in
theorem walk_long1 (n ahead : Int) (w : World) (hn : (Lit.int .i64 n).wf = true) (ha : (Lit.int .i64 ahead).wf = true) :
    Calls Try.prog 5 #[.int .i64 n, .int .i64 1, .int .i64 ahead] w fun e w' => e = .returned (.bool true) ∧ Only [] w w' := by
  have hshl : ∀ w, (Op.shift BinOp.shl IntKind.i64 1 IntKind.i64 (IntKind.i64.wrap 8)).run Try.prog w = .ok (.int .i64 256) w := fun _ => by kernel_rfl
  have hshl2 : ∀ w, (Op.shift BinOp.shl IntKind.i64 1 IntKind.i64 8).run Try.prog w = .ok (.int .i64 256) w := fun _ => by kernel_rfl
  have hk0 := Int.emod_nonneg ahead (show (50 : Int) ≠ 0 by decide)
  have hk1 := Int.emod_lt_of_pos ahead (show (0 : Int) < 50 by decide)
  have hm0 := Int.emod_nonneg n (show (256 : Int) ≠ 0 by decide)
  have hm1 := Int.emod_lt_of_pos n (show (0 : Int) < 256 by decide)
  obtain ⟨k, hk⟩ := Int.eq_ofNat_of_zero_le hk0
  obtain ⟨m, hm⟩ := Int.eq_ofNat_of_zero_le hm0
  have HK := Lib.hid hk
  have HM := Lib.hid hm
  have hk2 : k ≤ 49 := by omega
  have hm2 : m < 256 := by omega
  clear hk0 hk1 hm0 hm1 hk hm
  go_enter Try.func5, Try.ntmps5
  go_wp2_with fail
  refine (round_any ahead 50 _ ha (by decide) (by decide)).mono ?_
  rintro e w' ⟨rfl, rfl⟩
  rw [HK.out]
  go_wp2_with fail
  refine (round_any n 256 _ hn (by decide) (by decide)).mono ?_
  rintro e w' ⟨rfl, rfl⟩
  rw [HM.out]
  go_wp2_with fail
  refine (new_any ((k : Int) + 1) _ (by omega) (by omega)).mono ?_
  rintro e w1 ⟨p, g, rfl, hp, hg, hr1, hO1⟩
  have hzr : (List.replicate ((k : Int) + 1).toNat (0 : UInt8)).length = k + 1 := by simp <;> omega
  generalize List.replicate ((k : Int) + 1).toNat (0 : UInt8) = zr at *
  have HZR := Lib.hid hzr
  have HO1 := Lib.hid hO1
  have hR1 := Lib.hid hr1
  have hmk := make_bys k (by omega)
  clear hO1 hr1 hzr
  go_wp2_with fail
  have hmade : Own (w1.alloc (.cells (bvs (List.replicate k 0)).toArray 5)) w1.heap.size (bvs (List.replicate k 0)) := Own.new w1 _ _
  have hb1 : Bys (w1.alloc (.cells (bvs (List.replicate k 0)).toArray 5)) (some ⟨w1.heap.size, 0, none⟩) k k (List.replicate k 0) := Row1.of_Own hmade (by simp) (Nat.le_refl _) (by unfold maxLen; omega)
  refine (lay_any p g 0 zr _ k k (List.replicate k 0) _ (by exact hR1.out.alloc _) (by exact hb1) (by rw [HZR.out]; omega)).mono ?_
  rintro e w2 ⟨rfl, hr2, hO2⟩
  have hlz : (lay zr 0 (List.replicate k 0)).length = k + 1 := by rw [lay_length _ _ _ (by simp; have := HZR.out; omega)]; exact HZR.out
  generalize hZ : lay zr 0 (List.replicate k 0) = Z at *
  have HZ := Lib.hid hlz
  have hR2 := Lib.hid hr2
  have hsz := HO1.out.size
  have HO2 := Lib.hid ((HO1.out.alloc _).trans hO2 (by simp; omega) : Only [] w w2)
  clear hr2 hO2 hmade hb1 hlz hZ HO1 hR1 hmk
  go_wp2_with fail
  refine (put_any p g (0 + k) Z 1 _ 1 1 [(m : Int)] _ (by exact hR2.out.alloc _) (ins_new _ [(m : Int)] _ 1 rfl (by omega)) (ne_new hR2.out) (by decide) (by rw [HZ.out]; omega) (fit_one ⟨by omega, by show (m : Int) < 256; omega⟩)).mono ?_
  rintro e w3 ⟨rfl, hr3, hO3⟩
  have hX : (lay Z (0 + k) (les 1 [(m : Int)])).length = k + 1 := by rw [lay_length _ _ _ (by simp; have := HZ.out; omega)]; exact HZ.out
  have hXg : ∀ i (hi : i < 1) (hj : k + i < (lay Z (0 + k) (les 1 [(m : Int)])).length), (lay Z (0 + k) (les 1 [(m : Int)]))[k + i]'hj = UInt8.ofNat (m / 256 ^ i) := fun i hi hj => by
    have h1 : (Z.take k).length = k := by simp; have := HZ.out; omega
    simp only [lay, Nat.zero_add, les_one, Int.toNat_natCast]
    rw [List.getElem_append_right (by omega)]
    simp only [h1, Nat.add_sub_cancel_left]
    rw [List.getElem_append_left (by simp; omega), le_get]
  generalize lay Z (0 + k) (les 1 [(m : Int)]) = X at *
  have HX := Lib.hid hX
  have HXG := Lib.hid hXg
  have hR3 := Lib.hid hr3
  have HO3 := Lib.hid ((HO2.out.alloc _).trans hO3 (by simp; omega) : Only [] w w3)
  clear hr3 hO3 hXg HO2 hR2 hX HZ
  go_wp2_with fail
  refine (bytes_any p g _ X _ (by exact hR3.out)).mono ?_
  rintro e w4 ⟨A4, c4, rfl, hc4, hm4, hpos4, hO4⟩
  obtain ⟨g4, rfl, hg4, ho4⟩ := hpos4 (by rw [HX.out]; omega)
  have HO4 := Lib.hid (HO3.out.trans' hO4)
  have HOW := Lib.hid ho4
  clear hpos4 hO4 ho4 HO3 hR3
  have hXl := HX.out
  rw [hXl] at hc4
  rw [hXl]
  clear hXl
  unfold maxLen at hm4
  go_wp2_with fail
  go_loopg [10] 1 (fun r i wr => ∃ t : Nat, t + r = 1 ∧ i = .int .i64 t ∧ ∃ nq, wr = w4.drewN nq)
  case atStart => exact ⟨0, by omega, rfl, 0, rfl⟩
  case round =>
    obtain ⟨t, ht, rfl, nq, rfl⟩ := hrel
    by_cases hlt : t < 1
    · have hc := HOW.out.cell (k + t) (by simp; have := HX.out; omega)
      rw [bvs_get, HXG.out t hlt (by have := HX.out; omega)] at hc
      have hbyte := byte_of m t (by omega)
      have hwf : 0 ≤ (m : Int) / 2 ^ (8 * t) ∧ True := ⟨Int.ediv_nonneg (by omega) (Int.le_of_lt (Int.pow_pos (by omega))), trivial⟩
      have hand : bits .and .i64 ((m : Int) / 2 ^ (8 * t)) 255 = ((UInt8.ofNat (m / 256 ^ t)).toNat : Int) := by
        have e1 : ((m : Int) / 2 ^ (8 * t)) = ((m / 256 ^ t : Nat) : Int) := by
          rw [← pow_256]
          simp
        have h1 : m / 256 ^ t ≤ m := Nat.div_le_self _ _
        rw [e1, show (255 : Int) = ((255 : Nat) : Int) from rfl, bits_and_i64_nat _ _ (by omega) (by omega), show 255 = 2 ^ 8 - 1 from rfl, Nat.and_two_pow_sub_one_eq_mod, UInt8.toNat_ofNat']
        try simp
      have hu := (UInt8.ofNat (m / 256 ^ t)).toNat_lt
      generalize UInt8.ofNat (m / 256 ^ t) = cc at *
      have hcc : ((cc.toNat : Int) != (cc.toNat : Int)) = false := by simp
      have hw1 := IntWalk.i64_in ((k : Int) + (t : Int)) (by omega)
      have hw2 := IntWalk.i64_in (8 * (t : Int)) (by omega)
      have hw3 := IntWalk.i64_in (cc.toNat : Int) (by omega)
      have hx1 : 0 ≤ (k : Int) + (t : Int) := by omega
      have hx2 : (k : Int) + (t : Int) < ((k + 1 : Nat) : Int) := by omega
      have hx3 : ((k : Int) + (t : Int)).toNat = k + t := by omega
      have hx4 : 0 ≤ 8 * (t : Int) := by omega
      have hx5 : 8 * (t : Int) ≤ 64 := by omega
      have hx6 : (8 * (t : Int)).toNat = 8 * t := by omega
      have hu2 : (cc.toNat : Int) ≤ 255 := by omega
      clear hbyte hwf hu
      go_wp2_with fail
      go_quiet (fail)
      go_wp2
      go_roundg (gk - 1)
      case measure => omega
      case rel => exact ⟨t + 1, by omega, by go_num, _, rfl⟩
    · obtain rfl : t = 1 := by omega
      go_wp2_with fail
      refine (awake1 _).mono ?_
      rintro e w8 ⟨rfl, hO8⟩
      have HO8 := Lib.hid ((HO4.out.drewN nq).trans' hO8)
      clear hO8
      go_wp2
      go_ret
      exact ⟨rfl, HO8.out⟩

set_option maxRecDepth 100000 in
set_option maxHeartbeats 2000000 in
theorem walk_long2 (n ahead : Int) (w : World) (hn : (Lit.int .i64 n).wf = true) (ha : (Lit.int .i64 ahead).wf = true) :
    Calls Try.prog 5 #[.int .i64 n, .int .i64 2, .int .i64 ahead] w fun e w' => e = .returned (.bool true) ∧ Only [] w w' := by
  have hshl : ∀ w, (Op.shift BinOp.shl IntKind.i64 1 IntKind.i64 (IntKind.i64.wrap 16)).run Try.prog w = .ok (.int .i64 65536) w := fun _ => by kernel_rfl
  have hshl2 : ∀ w, (Op.shift BinOp.shl IntKind.i64 1 IntKind.i64 16).run Try.prog w = .ok (.int .i64 65536) w := fun _ => by kernel_rfl
  have hk0 := Int.emod_nonneg ahead (show (50 : Int) ≠ 0 by decide)
  have hk1 := Int.emod_lt_of_pos ahead (show (0 : Int) < 50 by decide)
  have hm0 := Int.emod_nonneg n (show (65536 : Int) ≠ 0 by decide)
  have hm1 := Int.emod_lt_of_pos n (show (0 : Int) < 65536 by decide)
  obtain ⟨k, hk⟩ := Int.eq_ofNat_of_zero_le hk0
  obtain ⟨m, hm⟩ := Int.eq_ofNat_of_zero_le hm0
  have HK := Lib.hid hk
  have HM := Lib.hid hm
  have hk2 : k ≤ 49 := by omega
  have hm2 : m < 65536 := by omega
  clear hk0 hk1 hm0 hm1 hk hm
  go_enter Try.func5, Try.ntmps5
  go_wp2_with fail
  refine (round_any ahead 50 _ ha (by decide) (by decide)).mono ?_
  rintro e w' ⟨rfl, rfl⟩
  rw [HK.out]
  go_wp2_with fail
  refine (round_any n 65536 _ hn (by decide) (by decide)).mono ?_
  rintro e w' ⟨rfl, rfl⟩
  rw [HM.out]
  go_wp2_with fail
  refine (new_any ((k : Int) + 2) _ (by omega) (by omega)).mono ?_
  rintro e w1 ⟨p, g, rfl, hp, hg, hr1, hO1⟩
  have hzr : (List.replicate ((k : Int) + 2).toNat (0 : UInt8)).length = k + 2 := by simp <;> omega
  generalize List.replicate ((k : Int) + 2).toNat (0 : UInt8) = zr at *
  have HZR := Lib.hid hzr
  have HO1 := Lib.hid hO1
  have hR1 := Lib.hid hr1
  have hmk := make_bys k (by omega)
  clear hO1 hr1 hzr
  go_wp2_with fail
  have hmade : Own (w1.alloc (.cells (bvs (List.replicate k 0)).toArray 5)) w1.heap.size (bvs (List.replicate k 0)) := Own.new w1 _ _
  have hb1 : Bys (w1.alloc (.cells (bvs (List.replicate k 0)).toArray 5)) (some ⟨w1.heap.size, 0, none⟩) k k (List.replicate k 0) := Row1.of_Own hmade (by simp) (Nat.le_refl _) (by unfold maxLen; omega)
  refine (lay_any p g 0 zr _ k k (List.replicate k 0) _ (by exact hR1.out.alloc _) (by exact hb1) (by rw [HZR.out]; omega)).mono ?_
  rintro e w2 ⟨rfl, hr2, hO2⟩
  have hlz : (lay zr 0 (List.replicate k 0)).length = k + 2 := by rw [lay_length _ _ _ (by simp; have := HZR.out; omega)]; exact HZR.out
  generalize hZ : lay zr 0 (List.replicate k 0) = Z at *
  have HZ := Lib.hid hlz
  have hR2 := Lib.hid hr2
  have hsz := HO1.out.size
  have HO2 := Lib.hid ((HO1.out.alloc _).trans hO2 (by simp; omega) : Only [] w w2)
  clear hr2 hO2 hmade hb1 hlz hZ HO1 hR1 hmk
  go_wp2_with fail
  refine (put_any p g (0 + k) Z 2 _ 1 1 [(m : Int)] _ (by exact hR2.out.alloc _) (ins_new _ [(m : Int)] _ 1 rfl (by omega)) (ne_new hR2.out) (by decide) (by rw [HZ.out]; omega) (fit_one ⟨by omega, by show (m : Int) < 65536; omega⟩)).mono ?_
  rintro e w3 ⟨rfl, hr3, hO3⟩
  have hX : (lay Z (0 + k) (les 2 [(m : Int)])).length = k + 2 := by rw [lay_length _ _ _ (by simp; have := HZ.out; omega)]; exact HZ.out
  have hXg : ∀ i (hi : i < 2) (hj : k + i < (lay Z (0 + k) (les 2 [(m : Int)])).length), (lay Z (0 + k) (les 2 [(m : Int)]))[k + i]'hj = UInt8.ofNat (m / 256 ^ i) := fun i hi hj => by
    have h1 : (Z.take k).length = k := by simp; have := HZ.out; omega
    simp only [lay, Nat.zero_add, les_one, Int.toNat_natCast]
    rw [List.getElem_append_right (by omega)]
    simp only [h1, Nat.add_sub_cancel_left]
    rw [List.getElem_append_left (by simp; omega), le_get]
  generalize lay Z (0 + k) (les 2 [(m : Int)]) = X at *
  have HX := Lib.hid hX
  have HXG := Lib.hid hXg
  have hR3 := Lib.hid hr3
  have HO3 := Lib.hid ((HO2.out.alloc _).trans hO3 (by simp; omega) : Only [] w w3)
  clear hr3 hO3 hXg HO2 hR2 hX HZ
  go_wp2_with fail
  refine (bytes_any p g _ X _ (by exact hR3.out)).mono ?_
  rintro e w4 ⟨A4, c4, rfl, hc4, hm4, hpos4, hO4⟩
  obtain ⟨g4, rfl, hg4, ho4⟩ := hpos4 (by rw [HX.out]; omega)
  have HO4 := Lib.hid (HO3.out.trans' hO4)
  have HOW := Lib.hid ho4
  clear hpos4 hO4 ho4 HO3 hR3
  have hXl := HX.out
  rw [hXl] at hc4
  rw [hXl]
  clear hXl
  unfold maxLen at hm4
  go_wp2_with fail
  go_loopg [10] 2 (fun r i wr => ∃ t : Nat, t + r = 2 ∧ i = .int .i64 t ∧ ∃ nq, wr = w4.drewN nq)
  case atStart => exact ⟨0, by omega, rfl, 0, rfl⟩
  case round =>
    obtain ⟨t, ht, rfl, nq, rfl⟩ := hrel
    by_cases hlt : t < 2
    · have hc := HOW.out.cell (k + t) (by simp; have := HX.out; omega)
      rw [bvs_get, HXG.out t hlt (by have := HX.out; omega)] at hc
      have hbyte := byte_of m t (by omega)
      have hwf : 0 ≤ (m : Int) / 2 ^ (8 * t) ∧ True := ⟨Int.ediv_nonneg (by omega) (Int.le_of_lt (Int.pow_pos (by omega))), trivial⟩
      have hand : bits .and .i64 ((m : Int) / 2 ^ (8 * t)) 255 = ((UInt8.ofNat (m / 256 ^ t)).toNat : Int) := by
        have e1 : ((m : Int) / 2 ^ (8 * t)) = ((m / 256 ^ t : Nat) : Int) := by
          rw [← pow_256]
          simp
        have h1 : m / 256 ^ t ≤ m := Nat.div_le_self _ _
        rw [e1, show (255 : Int) = ((255 : Nat) : Int) from rfl, bits_and_i64_nat _ _ (by omega) (by omega), show 255 = 2 ^ 8 - 1 from rfl, Nat.and_two_pow_sub_one_eq_mod, UInt8.toNat_ofNat']
        try simp
      have hu := (UInt8.ofNat (m / 256 ^ t)).toNat_lt
      generalize UInt8.ofNat (m / 256 ^ t) = cc at *
      have hcc : ((cc.toNat : Int) != (cc.toNat : Int)) = false := by simp
      have hw1 := IntWalk.i64_in ((k : Int) + (t : Int)) (by omega)
      have hw2 := IntWalk.i64_in (8 * (t : Int)) (by omega)
      have hw3 := IntWalk.i64_in (cc.toNat : Int) (by omega)
      have hx1 : 0 ≤ (k : Int) + (t : Int) := by omega
      have hx2 : (k : Int) + (t : Int) < ((k + 2 : Nat) : Int) := by omega
      have hx3 : ((k : Int) + (t : Int)).toNat = k + t := by omega
      have hx4 : 0 ≤ 8 * (t : Int) := by omega
      have hx5 : 8 * (t : Int) ≤ 64 := by omega
      have hx6 : (8 * (t : Int)).toNat = 8 * t := by omega
      have hu2 : (cc.toNat : Int) ≤ 255 := by omega
      clear hbyte hwf hu
      go_wp2_with fail
      go_quiet (fail)
      go_wp2
      go_roundg (gk - 1)
      case measure => omega
      case rel => exact ⟨t + 1, by omega, by go_num, _, rfl⟩
    · obtain rfl : t = 2 := by omega
      go_wp2_with fail
      refine (awake1 _).mono ?_
      rintro e w8 ⟨rfl, hO8⟩
      have HO8 := Lib.hid ((HO4.out.drewN nq).trans' hO8)
      clear hO8
      go_wp2
      go_ret
      exact ⟨rfl, HO8.out⟩

set_option maxRecDepth 100000 in
set_option maxHeartbeats 2000000 in
theorem walk_long4 (n ahead : Int) (w : World) (hn : (Lit.int .i64 n).wf = true) (ha : (Lit.int .i64 ahead).wf = true) :
    Calls Try.prog 5 #[.int .i64 n, .int .i64 4, .int .i64 ahead] w fun e w' => e = .returned (.bool true) ∧ Only [] w w' := by
  have hshl : ∀ w, (Op.shift BinOp.shl IntKind.i64 1 IntKind.i64 (IntKind.i64.wrap 32)).run Try.prog w = .ok (.int .i64 4294967296) w := fun _ => by kernel_rfl
  have hshl2 : ∀ w, (Op.shift BinOp.shl IntKind.i64 1 IntKind.i64 32).run Try.prog w = .ok (.int .i64 4294967296) w := fun _ => by kernel_rfl
  have hk0 := Int.emod_nonneg ahead (show (50 : Int) ≠ 0 by decide)
  have hk1 := Int.emod_lt_of_pos ahead (show (0 : Int) < 50 by decide)
  have hm0 := Int.emod_nonneg n (show (4294967296 : Int) ≠ 0 by decide)
  have hm1 := Int.emod_lt_of_pos n (show (0 : Int) < 4294967296 by decide)
  obtain ⟨k, hk⟩ := Int.eq_ofNat_of_zero_le hk0
  obtain ⟨m, hm⟩ := Int.eq_ofNat_of_zero_le hm0
  have HK := Lib.hid hk
  have HM := Lib.hid hm
  have hk2 : k ≤ 49 := by omega
  have hm2 : m < 4294967296 := by omega
  clear hk0 hk1 hm0 hm1 hk hm
  go_enter Try.func5, Try.ntmps5
  go_wp2_with fail
  refine (round_any ahead 50 _ ha (by decide) (by decide)).mono ?_
  rintro e w' ⟨rfl, rfl⟩
  rw [HK.out]
  go_wp2_with fail
  refine (round_any n 4294967296 _ hn (by decide) (by decide)).mono ?_
  rintro e w' ⟨rfl, rfl⟩
  rw [HM.out]
  go_wp2_with fail
  refine (new_any ((k : Int) + 4) _ (by omega) (by omega)).mono ?_
  rintro e w1 ⟨p, g, rfl, hp, hg, hr1, hO1⟩
  have hzr : (List.replicate ((k : Int) + 4).toNat (0 : UInt8)).length = k + 4 := by simp <;> omega
  generalize List.replicate ((k : Int) + 4).toNat (0 : UInt8) = zr at *
  have HZR := Lib.hid hzr
  have HO1 := Lib.hid hO1
  have hR1 := Lib.hid hr1
  have hmk := make_bys k (by omega)
  clear hO1 hr1 hzr
  go_wp2_with fail
  have hmade : Own (w1.alloc (.cells (bvs (List.replicate k 0)).toArray 5)) w1.heap.size (bvs (List.replicate k 0)) := Own.new w1 _ _
  have hb1 : Bys (w1.alloc (.cells (bvs (List.replicate k 0)).toArray 5)) (some ⟨w1.heap.size, 0, none⟩) k k (List.replicate k 0) := Row1.of_Own hmade (by simp) (Nat.le_refl _) (by unfold maxLen; omega)
  refine (lay_any p g 0 zr _ k k (List.replicate k 0) _ (by exact hR1.out.alloc _) (by exact hb1) (by rw [HZR.out]; omega)).mono ?_
  rintro e w2 ⟨rfl, hr2, hO2⟩
  have hlz : (lay zr 0 (List.replicate k 0)).length = k + 4 := by rw [lay_length _ _ _ (by simp; have := HZR.out; omega)]; exact HZR.out
  generalize hZ : lay zr 0 (List.replicate k 0) = Z at *
  have HZ := Lib.hid hlz
  have hR2 := Lib.hid hr2
  have hsz := HO1.out.size
  have HO2 := Lib.hid ((HO1.out.alloc _).trans hO2 (by simp; omega) : Only [] w w2)
  clear hr2 hO2 hmade hb1 hlz hZ HO1 hR1 hmk
  go_wp2_with fail
  refine (put_any p g (0 + k) Z 4 _ 1 1 [(m : Int)] _ (by exact hR2.out.alloc _) (ins_new _ [(m : Int)] _ 1 rfl (by omega)) (ne_new hR2.out) (by decide) (by rw [HZ.out]; omega) (fit_one ⟨by omega, by show (m : Int) < 4294967296; omega⟩)).mono ?_
  rintro e w3 ⟨rfl, hr3, hO3⟩
  have hX : (lay Z (0 + k) (les 4 [(m : Int)])).length = k + 4 := by rw [lay_length _ _ _ (by simp; have := HZ.out; omega)]; exact HZ.out
  have hXg : ∀ i (hi : i < 4) (hj : k + i < (lay Z (0 + k) (les 4 [(m : Int)])).length), (lay Z (0 + k) (les 4 [(m : Int)]))[k + i]'hj = UInt8.ofNat (m / 256 ^ i) := fun i hi hj => by
    have h1 : (Z.take k).length = k := by simp; have := HZ.out; omega
    simp only [lay, Nat.zero_add, les_one, Int.toNat_natCast]
    rw [List.getElem_append_right (by omega)]
    simp only [h1, Nat.add_sub_cancel_left]
    rw [List.getElem_append_left (by simp; omega), le_get]
  generalize lay Z (0 + k) (les 4 [(m : Int)]) = X at *
  have HX := Lib.hid hX
  have HXG := Lib.hid hXg
  have hR3 := Lib.hid hr3
  have HO3 := Lib.hid ((HO2.out.alloc _).trans hO3 (by simp; omega) : Only [] w w3)
  clear hr3 hO3 hXg HO2 hR2 hX HZ
  go_wp2_with fail
  refine (bytes_any p g _ X _ (by exact hR3.out)).mono ?_
  rintro e w4 ⟨A4, c4, rfl, hc4, hm4, hpos4, hO4⟩
  obtain ⟨g4, rfl, hg4, ho4⟩ := hpos4 (by rw [HX.out]; omega)
  have HO4 := Lib.hid (HO3.out.trans' hO4)
  have HOW := Lib.hid ho4
  clear hpos4 hO4 ho4 HO3 hR3
  have hXl := HX.out
  rw [hXl] at hc4
  rw [hXl]
  clear hXl
  unfold maxLen at hm4
  go_wp2_with fail
  go_loopg [10] 4 (fun r i wr => ∃ t : Nat, t + r = 4 ∧ i = .int .i64 t ∧ ∃ nq, wr = w4.drewN nq)
  case atStart => exact ⟨0, by omega, rfl, 0, rfl⟩
  case round =>
    obtain ⟨t, ht, rfl, nq, rfl⟩ := hrel
    by_cases hlt : t < 4
    · have hc := HOW.out.cell (k + t) (by simp; have := HX.out; omega)
      rw [bvs_get, HXG.out t hlt (by have := HX.out; omega)] at hc
      have hbyte := byte_of m t (by omega)
      have hwf : 0 ≤ (m : Int) / 2 ^ (8 * t) ∧ True := ⟨Int.ediv_nonneg (by omega) (Int.le_of_lt (Int.pow_pos (by omega))), trivial⟩
      have hand : bits .and .i64 ((m : Int) / 2 ^ (8 * t)) 255 = ((UInt8.ofNat (m / 256 ^ t)).toNat : Int) := by
        have e1 : ((m : Int) / 2 ^ (8 * t)) = ((m / 256 ^ t : Nat) : Int) := by
          rw [← pow_256]
          simp
        have h1 : m / 256 ^ t ≤ m := Nat.div_le_self _ _
        rw [e1, show (255 : Int) = ((255 : Nat) : Int) from rfl, bits_and_i64_nat _ _ (by omega) (by omega), show 255 = 2 ^ 8 - 1 from rfl, Nat.and_two_pow_sub_one_eq_mod, UInt8.toNat_ofNat']
        try simp
      have hu := (UInt8.ofNat (m / 256 ^ t)).toNat_lt
      generalize UInt8.ofNat (m / 256 ^ t) = cc at *
      have hcc : ((cc.toNat : Int) != (cc.toNat : Int)) = false := by simp
      have hw1 := IntWalk.i64_in ((k : Int) + (t : Int)) (by omega)
      have hw2 := IntWalk.i64_in (8 * (t : Int)) (by omega)
      have hw3 := IntWalk.i64_in (cc.toNat : Int) (by omega)
      have hx1 : 0 ≤ (k : Int) + (t : Int) := by omega
      have hx2 : (k : Int) + (t : Int) < ((k + 4 : Nat) : Int) := by omega
      have hx3 : ((k : Int) + (t : Int)).toNat = k + t := by omega
      have hx4 : 0 ≤ 8 * (t : Int) := by omega
      have hx5 : 8 * (t : Int) ≤ 64 := by omega
      have hx6 : (8 * (t : Int)).toNat = 8 * t := by omega
      have hu2 : (cc.toNat : Int) ≤ 255 := by omega
      clear hbyte hwf hu
      go_wp2_with fail
      go_quiet (fail)
      go_wp2
      go_roundg (gk - 1)
      case measure => omega
      case rel => exact ⟨t + 1, by omega, by go_num, _, rfl⟩
    · obtain rfl : t = 4 := by omega
      go_wp2_with fail
      refine (awake1 _).mono ?_
      rintro e w8 ⟨rfl, hO8⟩
      have HO8 := Lib.hid ((HO4.out.drewN nq).trans' hO8)
      clear hO8
      go_wp2
      go_ret
      exact ⟨rfl, HO8.out⟩

set_option maxRecDepth 100000 in
set_option maxHeartbeats 1000000 in
theorem walk_short (n wd ahead : Int) (w : World) (h : ¬ (wd = 1 ∨ wd = 2 ∨ wd = 4)) :
    Calls Try.prog 5 #[.int .i64 n, .int .i64 wd, .int .i64 ahead] w fun e w' => e = .returned (.bool true) ∧ Only [] w w' := by
  have h1' : (wd != 1) = true := by simp; omega
  have h2' : (wd != 2) = true := by simp; omega
  have h4' : (wd != 4) = true := by simp; omega
  clear h
  go_enter Try.func5, Try.ntmps5
  go_wp2_with (first | (go_at_call 19; refine (awake1 _).mono ?_; rintro e w1 ⟨rfl, hO1⟩))
  go_ret
  exact ⟨rfl, hO1⟩

theorem walk (a0 a1 a2 : Int) (w : World) (w0 : (Lit.int .i64 a0).wf = true) (w1 : (Lit.int .i64 a1).wf = true) (w2 : (Lit.int .i64 a2).wf = true) :
    Calls Try.prog 5 #[.int .i64 a0, .int .i64 a1, .int .i64 a2] w fun e w' => e = .returned (.bool true) ∧ Below w.heap.size w w' := by
  have done : ∀ e w', (e = .returned (.bool true) ∧ Only [] w w') → e = Ending.returned (.bool true) ∧ Below w.heap.size w w' := fun e w' h => ⟨h.1, h.2.below0⟩
  by_cases h : a1 = 1 ∨ a1 = 2 ∨ a1 = 4
  · rcases h with rfl | rfl | rfl
    · exact (walk_long1 a0 a2 w w0 w2).mono done
    · exact (walk_long2 a0 a2 w w0 w2).mono done
    · exact (walk_long4 a0 a2 w w0 w2).mono done
  · exact (walk_short a0 a1 a2 w h).mono done
-- FRAME: walk : (a0 : Int) (a1 : Int) (a2 : Int) (w : World) (w0 : (Lit.int .i64 a0).wf = true) (w1 : (Lit.int .i64 a1).wf = true) (w2 : (Lit.int .i64 a2).wf = true) : Calls Try.prog 5 #[.int .i64 a0, .int .i64 a1, .int .i64 a2] w fun e w' => e = .returned (.bool true) ∧ Below w.heap.size w w'

set_option maxRecDepth 100000 in
theorem lifted (os : Os) (started : os.Started) (H : Type) (enc : TypeId × Value → H) :
    ReturnsInHanded {} Try.checked os 5 .any (Rows.rowBytesSpec.pre6 enc Try.prog Try.f5 Rows.rowBytesRow.domain false) (Rows.rowBytesSpec.post enc Try.prog Try.f5 false true false false) := by
  refine returnsInHanded_of_change (C := Try.checked) own started (by kernel_rfl) Try.func5
    (ChangeSpec.witness6 (enc := enc) (C := Try.checked) false ⟨#[], #[.int .i64 0, .int .i64 0, .int .i64 0], []⟩ 8 (by kernel_rfl) (by kernel_rfl) (by kernel_rfl) (by kernel_rfl)) ?_
  intro W base args ds gs before hval0 hW hcnd _
  have hval : ∀ (j : Nat) t v, Try.f5.params[j]? = some t → args[j]? = some v → Value.okWide Try.prog W .any base t v := hval0
  have hW' := hW
  obtain ⟨p, q, hA0, hV, rfl, hfz, hnd⟩ := hW
  have hA : DataW.TrodAll enc Try.prog W 0 (fun _ => true) true Try.f5.params.toList args.toList ds p := hA0
  rw [Try.params5] at hA hval
  obtain ⟨v0, vs0, d0, ds0, p0, q0, hargs, rfl, rfl, h0, r0⟩ := trodAll_cons hA
  obtain ⟨v1, vs1, d1, ds1, p1, q1, rfl, rfl, rfl, h1, r1⟩ := trodAll_cons r0
  obtain ⟨v2, vs2, d2, ds2, p2, q2, rfl, rfl, rfl, h2, r2⟩ := trodAll_cons r1
  obtain ⟨rfl, rfl, rfl⟩ := trodAll_nil r2
  obtain rfl : args = #[v0, v1, v2] := by cases args; simp_all
  obtain ⟨rfl, rfl⟩ := trodVars_none hV
  obtain ⟨a0, rfl, rfl, rfl, w0⟩ := open_int Try.underlying3 (hval 0 3 v0 rfl rfl) h0
  obtain ⟨a1, rfl, rfl, rfl, w1⟩ := open_int Try.underlying3 (hval 1 3 v1 rfl rfl) h1
  obtain ⟨a2, rfl, rfl, rfl, w2⟩ := open_int Try.underlying3 (hval 2 3 v2 rfl rfl) h2
  clear hA0 hval0
  refine (walk a0 a1 a2 W w0 w1 w2).mono fun e W' ⟨he, bel⟩ => ?_
  subst he
  exact ⟨_, rfl, _, _, _, [], _, [], hW', trodAll_mk1 (shut_bool Try.underlying4 _), (trodAll_cons_mk (shut_int Try.underlying3 w0) (trodAll_cons_mk (shut_int Try.underlying3 w1) (trodAll_cons_mk (shut_int Try.underlying3 w2) trodAll_mk0))), rfl, bel.frame _, fun h => by cases h⟩

theorem over : Rows.rowBytesRow.holds Try.pinned (OpenSpec.ofChange Rows.rowBytesSpec) :=
  OpenClaim.holds_of_wide 5 Try.f5 rfl rfl rfl rfl rfl rfl rfl ⟨rfl, rfl, rfl, rfl, rfl⟩ rfl rfl rfl rfl rfl (by kernel_rfl) Try.func5 (by kernel_rfl)
    (of_decide_eq_true (by kernel_rfl)) (by unfold Func.isWrapper; first | (rw [if_pos (by decide +kernel)]; kernel_rfl) | (rw [if_neg (by decide +kernel)]; exact ⟨rfl, rfl⟩))
    (fun os started H enc _ => lifted os started H enc)

theorem proved : Rows.RowBytesSaid := over

end Go.Proofs.Ytcojleippbneoaa.rowBytes
