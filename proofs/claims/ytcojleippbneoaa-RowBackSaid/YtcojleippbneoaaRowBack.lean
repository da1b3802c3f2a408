/- RowBack: for every input the call returns true, and each argument reads behind the call as it read before. -/
import Derived.Test.YtcojleippbneoaaLaw1A
import Derived.Test.YtcojleippbneoaaFrame
set_option linter.unusedVariables false
namespace Go.Proofs.Ytcojleippbneoaa.rowBack
open Go Go.RowKit Go.Kn Go.ChangeShapes Go.WideShapes Go.ChangeAt

set_option maxRecDepth 100000 in
set_option maxHeartbeats 1000000 in
theorem walk_short (A : Option Addr) (n c : Nat) (zs : List Int) (wd : Int) (one : Bool) (w : World) (h : ¬ (n ≤ 100 ∧ (wd = 1 ∨ wd = 2 ∨ wd = 4))) (hn : n ≤ maxLen) :
    Calls Try.prog 3 #[.slice A n c, .int .i64 wd, .bool one] w fun e w' => e = .returned (.bool true) ∧ Only [] w w' := by
  unfold maxLen at hn
  by_cases h0 : n ≤ 100
  · have h1 : wd ≠ 1 := by omega
    have h2 : wd ≠ 2 := by omega
    have h4 : wd ≠ 4 := by omega
    have h1' : (wd != 1) = true := by simp [h1]
    have h2' : (wd != 2) = true := by simp [h2]
    have h4' : (wd != 4) = true := by simp [h4]
    clear h h1 h2 h4
    go_enter Try.func3, Try.ntmps3
    go_wp2_with (first | (go_at_call 19; refine (awake1 _).mono ?_; rintro e w1 ⟨rfl, hO1⟩))
    go_ret
    exact ⟨rfl, hO1⟩
  · have h1 : 100 < n := by omega
    clear h h0
    go_enter Try.func3, Try.ntmps3
    go_wp2_with (first | (go_at_call 19; refine (awake1 _).mono ?_; rintro e w1 ⟨rfl, hO1⟩))
    go_ret
    exact ⟨rfl, hO1⟩

/-- the numbers, brought into range -/
def rs (m : Int) (zs : List Int) : List Int := zs.map fun z => z % m

theorem rs_succ (m : Int) (zs : List Int) (j : Nat) (h : j < zs.length) : ivs (rs m (zs.take (j + 1))) = ivs (rs m (zs.take j)) ++ ivs [zs[j] % m] := by
  rw [List.take_succ_eq_append_getElem h]
  simp only [rs, ivs, List.map_append, List.map_cons, List.map_nil]

set_option maxRecDepth 100000 in
set_option maxHeartbeats 2000000 in
theorem walk_long1 (A : Option Addr) (n c : Nat) (zs : List Int) (wd : Nat) (one : Bool) (w : World) (hi : Ins w A n c zs) (h0 : n ≤ 100) (hw : wd = 1) (hz : ∀ z ∈ zs, (Lit.int .i64 z).wf = true) :
    Calls Try.prog 3 #[.slice A n c, .int .i64 wd, .bool one] w fun e w' => e = .returned (.bool true) ∧ Only [] w w' := by
  obtain ⟨i0, hi0, hz0, hz1, hz2⟩ := info_parts Try.infoInt
  have hlen := hi.len
  rw [ivs_length] at hlen
  have hcells : ∀ j (hj : j < zs.length), ∃ a o, A = some ⟨a, o, none⟩ ∧ w.cell? ⟨a, o + j, none⟩ = some (.int .i64 zs[j]) := fun j hj => by
    obtain ⟨a, o, e, hc⟩ := hi.at_ (by omega)
    have h1 := hc j (by simpa using hj)
    rw [ivs_get] at h1
    exact ⟨a, o, e, h1⟩
  have hd0 : decide (100 < (n : Int)) = false := by simp; omega
  have HC := Lib.hid hcells
  have HL := Lib.hid hlen
  have HZ := Lib.hid hz
  clear hcells hlen hi hz
  subst hw
  go_enter Try.func3, Try.ntmps3
  go_wp2_with fail
  go_loopg [7, 8] n (fun r v i wr => ∃ j : Nat, j + r = n ∧ i = .int .i64 j ∧ Gath wr w.heap.size 3 v (ivs (rs (256 ^ 1) (zs.take j))) ∧ Only [] w wr)
  case atStart => exact ⟨0, by omega, rfl, Gath.nil _ _ _ (Nat.le_refl _), Only.refl _ _⟩
  case round =>
    obtain ⟨j, hj, rfl, hG, hO⟩ := hrel
    have HG := Lib.hid hG
    have HO := Lib.hid hO
    obtain ⟨A1, c1, rfl, hr1, hA1⟩ := hG.formN (n := j) (by simp [rs]; have := HL.out; omega)
    have HR1 := Lib.hid hr1
    have HA1 := Lib.hid hA1
    clear hG hO hr1 hA1
    by_cases hlt : j < n
    · have hjz : j < zs.length := by rw [HL.out]; exact hlt
      obtain ⟨a, o, rfl, hcell⟩ := HC.out j hjz
      have hcell1 := HO.out.cell hcell (by simp)
      have hzw := HZ.out zs[j] (List.getElem_mem _)
      clear hcell
      generalize hzj : zs[j] = z at *
      have HZJ := Lib.hid hzj
      clear hzj
      have hshl : ∀ w, (Op.shift BinOp.shl IntKind.i64 1 IntKind.i64 (IntKind.i64.wrap 8)).run Try.prog w = .ok (.int .i64 256) w := fun _ => by kernel_rfl
      go_wp2_with fail
      have hlz : (ivs (rs (256 ^ 1) (zs.take j))).length = j := by simp [rs]; omega
      have HLZ := Lib.hid hlz
      clear hlz
      go_region_law (first
        | (refine step_append_row1 rfl (.tmp 39) (.tmp 48) 22 rfl w.heap.size 3 i0 _ 8 Try.underlying22 hi0 hz0 hz1 hz2 rfl (.slice A1 j c1) j (ivs (rs (256 ^ 1) (zs.take j))) rfl (HG.out.own ((Only.refl _ _).alloc _).drew HLZ.out) _ 1 1 (ivs [z % 256]) rfl ((ins_new _ [z % 256] _ 1 rfl (by omega)).keep0 (Only.refl _ _).drew) (ivs_one _) (by unfold maxLen; omega) (by omega) (HG.out.base_le ((Only.refl _ _).alloc _).drew) ?_; intro v1 w1 hown1 hgr1 hat1)
        | (go_simp; go_at_call 20; refine (round_any _ _ _ hzw (by decide) (by decide)).mono ?_; rintro e w' ⟨rfl, rfl⟩))
      have HGN := Lib.hid ((HG.out.keep0 (((Only.refl [] wr).alloc (.cells #[Value.int IntKind.i64 (z % 256)] 3)).drew)).grown ((HO.out.alloc _).drew) rfl hown1 (by simp [rs]; omega) hgr1)
      clear hown1 hgr1 hat1
      go_wp2
      go_roundg (gk - 1)
      case measure => omega
      case rel =>
        refine ⟨j + 1, by omega, by go_num, ?_, HGN.out.2⟩
        have := HGN.out.1
        rw [← HZJ.out] at this
        rwa [rs_succ _ _ _ hjz]
    · obtain rfl : j = n := by omega
      have hfull : zs.take j = zs := List.take_of_length_le (by rw [HL.out]; omega)
      rw [hfull] at HG
      have hlr : (rs (256 ^ 1) zs).length = j := by simp [rs]; exact HL.out
      have HLR := Lib.hid hlr
      clear hlt hj hlr
      go_wp2_with fail
      refine (new_any (j : Int) _ (by omega) (by omega)).mono ?_
      rintro e w1 ⟨p, g, rfl, hp, hg, hr1, hO1⟩
      have hswr := HO.out.size
      have hO1' : Only [] w w1 := HO.out.trans' hO1
      have HO1 := Lib.hid hO1'
      have hrl := HR1.out.keep0 hO1
      rw [hfull] at hrl
      have HRL := Lib.hid hrl
      have hR1 := Lib.hid hr1
      have hfit : Fit 1 (rs (256 ^ 1) zs) := fun x hx => by
        simp only [rs, List.mem_map] at hx
        obtain ⟨z, _, rfl⟩ := hx
        exact ⟨Int.emod_nonneg _ (by decide), Int.emod_lt_of_pos _ (by decide)⟩
      have HF := Lib.hid hfit
      have hAL : ∀ a, A1 = some a → a.block < wr.heap.size := fun a ha => (HA1.out a ha).2
      have HAL := Lib.hid hAL
      clear hO1 hO1' HO hr1 hfit HG hrl hfull HA1 hAL HR1
      generalize rs (256 ^ 1) zs = L at *
      have hz0 : (List.replicate ((j : Int)).toNat (0 : UInt8)).length = 1 * j := by simp <;> omega
      have HZ0 := Lib.hid hz0
      clear hz0
      generalize List.replicate ((j : Int)).toNat (0 : UInt8) = zr at *
      have hsz := HO1.out.size
      cases one
      · go_wp2_with fail
        refine (put_any p g 0 zr 1 A1 j c1 L _ (by exact hR1.out) (by exact HRL.out) ?_ (by decide) (by rw [HZ0.out]; exact Nat.le_refl _) HF.out).mono ?_
        · intro a ha
          have h1 := HAL.out a ha
          exact ⟨by omega, by omega⟩
        rintro e w2 ⟨rfl, hr2, hO2⟩
        have hlz : lay zr 0 (les 1 L) = les 1 L := lay_all _ _ (by rw [les_length, HLR.out, HZ0.out])
        rw [hlz] at hr2
        obtain ⟨X, hX⟩ : ∃ X, X = les 1 L := ⟨_, rfl⟩
        rw [← hX] at hr2
        have HX := Lib.hid hX
        clear hX
        have hpg : ∀ i ∈ [p, g], i ∈ ([] : List Nat) ∨ w.heap.size ≤ i := by simp; omega
        have HO2 := Lib.hid (HO1.out.trans hO2 hpg)
        have HRL2 := Lib.hid (HRL.out.keep hO2 (fun a ha => by have h1 := HAL.out a ha; simp; omega))
        have HR2 := Lib.hid hr2
        clear hr2 hO2 hlz HO1 hR1 HRL hpg HZ0
        go_wp2_with fail
        refine (bytes_any p g _ X _ (by exact HR2.out)).mono ?_
        rintro e w3 ⟨A3, c3, rfl, hc3, hm3, hpos3, hO3⟩
        have hB3 : Bys w3 A3 X.length c3 X := by
          rcases Nat.eq_zero_or_pos X.length with h0 | h0
          · exact ⟨by simp, hc3, hm3, fun h => absurd h (by omega)⟩
          · obtain ⟨g3, rfl, _, ho3⟩ := hpos3 h0
            exact Row1.of_Own ho3 (by simp) hc3 hm3
        have HB3 := Lib.hid hB3
        have HO3 := Lib.hid (HO2.out.trans' hO3)
        have HR3 := Lib.hid (HR2.out.keep0 hO3)
        have HRL3 := Lib.hid (HRL2.out.keep0 hO3)
        have hll : X.length = 1 * j := by rw [HX.out, les_length, HLR.out]
        have HLL := Lib.hid hll
        clear hpos3 hO3 hB3 HO2 HR2 HRL2 hll
        go_wp2_with fail
        refine (from_any _ _ _ X _ (by exact HB3.out) (by rw [HLL.out]; omega)).mono ?_
        rintro e w4 ⟨px, gx, rfl, hpx, hgx, hrx, hO4⟩
        have HRX4 := Lib.hid hrx
        have hsz3 := HO3.out.size
        have hlp3 := HR3.out.lp
        have hlg3 := HR3.out.lg
        have HO4 := Lib.hid (HO3.out.trans' hO4)
        have HR4 := Lib.hid (HR3.out.keep0 hO4)
        have HRL4 := Lib.hid (HRL3.out.keep0 hO4)
        have hq1 : (X.length - 1 * j : Nat) = 0 := by rw [HLL.out]; omega
        have HQ1 := Lib.hid hq1
        clear hrx hO4 HO3 HR3 HRL3 hq1 HB3
        go_wp2_with fail
        refine (left_any p g (0 + 1 * j) X _ (by exact HR4.out)).mono ?_
        rintro e w5 ⟨rfl, n5, rfl⟩
        have hq2 : (X.length - (0 + 1 * j) : Nat) = 0 := by rw [HLL.out]; omega
        rw [hq2]
        have HRX5 := Lib.hid (HRX4.out.drewN n5)
        have HO5 := Lib.hid (HO4.out.drewN n5)
        have HRL5 := Lib.hid (HRL4.out.drewN n5)
        clear HRX4 HO4 HR4 HRL4 HQ1 hq2
        go_wp2_with fail
        go_loopg [12] j (fun r i wr => ∃ t : Nat, t + r = j ∧ i = .int .i64 t ∧ RowAt wr px gx X (1 * t) ∧ Only [] w wr ∧ Row1 wr A1 j c1 (ivs L))
        case atStart => exact ⟨0, by omega, rfl, by simpa using HRX5.out, HO5.out, HRL5.out⟩
        case round =>
          obtain ⟨t, ht, rfl, hr6, hO6, hrl6⟩ := hrel
          have HR6 := Lib.hid hr6
          have HO6 := Lib.hid hO6
          have HRL6 := Lib.hid hrl6
          clear hr6 hO6 hrl6
          by_cases hlt : t < j
          · have hjz : t < L.length := by rw [HLR.out]; exact hlt
            have hlp6 := HR6.out.lp
            go_wp2_with fail
            refine (get_any px gx (1 * t) X 1 _ (by exact HR6.out) (by decide) (by rw [HLL.out]; omega)).mono ?_
            rintro e w7 ⟨rfl, hr7, hO7⟩
            have hne : ∀ a, A1 = some a → a.block ∉ [px] := fun a ha => by have := HAL.out a ha; simp; omega
            have hrl7 := HRL6.out.keep hO7 hne
            obtain ⟨a7, o7, hA7, hc7⟩ := hrl7.at_ (by omega)
            subst hA7
            have hcell := hc7 t (by simpa using hjz)
            rw [ivs_get] at hcell
            have hnum := num_les 1 L t hjz HF.out
            rw [← HX.out] at hnum
            rw [hnum]
            have hO7' : Only [] w w7 := HO6.out.trans hO7 (by simp; omega)
            have HO7 := Lib.hid hO7'
            have HRL7 := Lib.hid hrl7
            have hr7' : RowAt w7 px gx X (1 * (t + 1)) := by rw [Nat.mul_succ]; exact hr7
            have HR7 := Lib.hid hr7'
            clear hr7 hO7 hne hrl7 hc7 hnum hO7' HR6 HO6 HRL6 hr7'
            generalize hxx : L[t] = x at *
            have HXX := Lib.hid hxx
            clear hxx
            go_wp2
            go_roundg (gk - 1)
            case measure => omega
            case rel => exact ⟨t + 1, by omega, by go_num, HR7.out, HO7.out, HRL7.out⟩
          · obtain rfl : t = j := by omega
            clear hlt ht
            go_wp2_with fail
            refine (get_none px gx (1 * t) X 1 _ (by exact HR6.out) (by rw [HLL.out]; omega)).mono ?_
            rintro e w7 ⟨rfl, n7, rfl⟩
            have HO7 := Lib.hid (HO6.out.drewN n7)
            clear HO6 HR6 HRL6
            go_wp2_with fail
            refine (awake1 _).mono ?_
            rintro e w8 ⟨rfl, hO8⟩
            have HO8 := Lib.hid (HO7.out.trans' hO8)
            clear hO8
            go_wp2
            go_ret
            exact ⟨rfl, HO8.out⟩

      · go_wp2_with fail
        go_loopg [10] j (fun r i wr => ∃ t : Nat, t + r = j ∧ i = .int .i64 t ∧ RowAt wr p g (lay zr 0 (les 1 (L.take t))) (1 * t) ∧ Only [] w wr ∧ Row1 wr A1 j c1 (ivs L))
        case atStart => exact ⟨0, by omega, rfl, by simpa [lay_nil] using hR1.out, HO1.out, HRL.out⟩
        case round =>
          obtain ⟨t, ht, rfl, hr6, hO6, hrl6⟩ := hrel
          have HR6 := Lib.hid hr6
          have HO6 := Lib.hid hO6
          have HRL6 := Lib.hid hrl6
          clear hr6 hO6
          by_cases hlt : t < j
          · have hjz : t < L.length := by rw [HLR.out]; exact hlt
            obtain ⟨a7, o7, hA7, hc7⟩ := hrl6.at_ (by omega)
            subst hA7
            have hcell := hc7 t (by simpa using hjz)
            rw [ivs_get] at hcell
            have hfz := HF.out L[t] (List.getElem_mem _)
            have HFZ := Lib.hid hfz
            have hk1 : (lay zr 0 (les 1 (L.take t))).length = 1 * j := by rw [lay_length _ _ _ (by rw [les_length, HZ0.out, List.length_take, Nat.min_eq_left (by omega)]; omega), HZ0.out]
            have hk2 : lay (lay zr 0 (les 1 (L.take t))) (1 * t) (les 1 [L[t]]) = lay zr 0 (les 1 (L.take (t + 1))) := by
              have h1 := lay_lay zr 0 (les 1 (L.take t)) (les 1 [L[t]]) (by rw [les_length, les_length, HZ0.out, List.length_take, Nat.min_eq_left (by omega)]; simp; omega)
              rw [les_length, List.length_take, Nat.min_eq_left (by omega), Nat.zero_add] at h1
              rw [h1, les_take_succ _ _ _ hjz]
            have HK1 := Lib.hid hk1
            have HK2 := Lib.hid hk2
            have hlp6 := HR6.out.lp
            have hlg6 := HR6.out.lg
            clear hfz hk1 hk2 hc7 hrl6
            generalize hxx : L[t] = x at *
            go_wp2_with fail
            refine (put_any p g (1 * t) _ 1 _ 1 1 [x] _ (by exact HR6.out.alloc _) (ins_new _ [x] _ 1 rfl (by omega)) ?_ (by decide) (by rw [HK1.out]; omega) (fit_one HFZ.out)).mono ?_
            · intro a ha
              injection ha with ha
              subst ha
              exact ⟨by simp; omega, by simp; omega⟩
            rintro e w7 ⟨rfl, hr7, hO7⟩
            rw [HK2.out] at hr7
            have hpg : ∀ i ∈ [p, g], i ∈ ([] : List Nat) ∨ w.heap.size ≤ i := by simp; omega
            have HO7 := Lib.hid ((HO6.out.alloc _).trans hO7 hpg)
            have HRL7 := Lib.hid ((HRL6.out.keep0 ((Only.refl _ _).alloc _)).keep hO7 (fun a ha => by have h1 := HAL.out a ha; simp; omega))
            have HR7 := Lib.hid hr7
            clear hr7 hO7 HK1 HK2 HR6 HO6 HRL6 hpg
            go_wp2
            go_roundg (gk - 1)
            case measure => omega
            case rel => exact ⟨t + 1, by omega, by go_num, HR7.out, HO7.out, HRL7.out⟩
          · obtain rfl : t = j := by omega
            have hr2 := HR6.out
            have hlz : lay zr 0 (les 1 (L.take t)) = les 1 L := by
              rw [List.take_of_length_le (by rw [HLR.out]; omega)]
              exact lay_all _ _ (by rw [les_length, HLR.out, HZ0.out])
            rw [hlz] at hr2
            obtain ⟨X, hX⟩ : ∃ X, X = les 1 L := ⟨_, rfl⟩
            rw [← hX] at hr2
            have HX := Lib.hid hX
            clear hX
            have HO2 := HO6
            have HRL2 := HRL6
            have HR2 := Lib.hid hr2
            clear hr2 hlz HO1 hR1 HRL HZ0 hlt ht hrl6 HR6 HO6 HRL6

            obtain ⟨j, hjj⟩ : ∃ j, j = t := ⟨t, rfl⟩
            subst hjj
            go_wp2_with fail
            refine (bytes_any p g _ X _ (by exact HR2.out)).mono ?_
            rintro e w3 ⟨A3, c3, rfl, hc3, hm3, hpos3, hO3⟩
            have hB3 : Bys w3 A3 X.length c3 X := by
              rcases Nat.eq_zero_or_pos X.length with h0 | h0
              · exact ⟨by simp, hc3, hm3, fun h => absurd h (by omega)⟩
              · obtain ⟨g3, rfl, _, ho3⟩ := hpos3 h0
                exact Row1.of_Own ho3 (by simp) hc3 hm3
            have HB3 := Lib.hid hB3
            have HO3 := Lib.hid (HO2.out.trans' hO3)
            have HR3 := Lib.hid (HR2.out.keep0 hO3)
            have HRL3 := Lib.hid (HRL2.out.keep0 hO3)
            have hll : X.length = 1 * j := by rw [HX.out, les_length, HLR.out]
            have HLL := Lib.hid hll
            clear hpos3 hO3 hB3 HO2 HR2 HRL2 hll
            go_wp2_with fail
            refine (from_any _ _ _ X _ (by exact HB3.out) (by rw [HLL.out]; omega)).mono ?_
            rintro e w4 ⟨px, gx, rfl, hpx, hgx, hrx, hO4⟩
            have HRX4 := Lib.hid hrx
            have hsz3 := HO3.out.size
            have hlp3 := HR3.out.lp
            have hlg3 := HR3.out.lg
            have HO4 := Lib.hid (HO3.out.trans' hO4)
            have HR4 := Lib.hid (HR3.out.keep0 hO4)
            have HRL4 := Lib.hid (HRL3.out.keep0 hO4)
            have hq1 : (X.length - 1 * j : Nat) = 0 := by rw [HLL.out]; omega
            have HQ1 := Lib.hid hq1
            clear hrx hO4 HO3 HR3 HRL3 hq1 HB3
            go_wp2_with fail
            refine (left_any p g (1 * j) X _ (by exact HR4.out)).mono ?_
            rintro e w5 ⟨rfl, n5, rfl⟩
            have hq2 : (X.length - (1 * j) : Nat) = 0 := by rw [HLL.out]; omega
            rw [hq2]
            have HRX5 := Lib.hid (HRX4.out.drewN n5)
            have HO5 := Lib.hid (HO4.out.drewN n5)
            have HRL5 := Lib.hid (HRL4.out.drewN n5)
            clear HRX4 HO4 HR4 HRL4 HQ1 hq2
            go_wp2_with fail
            go_loopg [12] j (fun r i wr => ∃ t : Nat, t + r = j ∧ i = .int .i64 t ∧ RowAt wr px gx X (1 * t) ∧ Only [] w wr ∧ Row1 wr A1 j c1 (ivs L))
            case atStart => exact ⟨0, by omega, rfl, by simpa using HRX5.out, HO5.out, HRL5.out⟩
            case round =>
              obtain ⟨t, ht, rfl, hr6, hO6, hrl6⟩ := hrel
              have HR6 := Lib.hid hr6
              have HO6 := Lib.hid hO6
              have HRL6 := Lib.hid hrl6
              clear hr6 hO6 hrl6
              by_cases hlt : t < j
              · have hjz : t < L.length := by rw [HLR.out]; exact hlt
                have hlp6 := HR6.out.lp
                go_wp2_with fail
                refine (get_any px gx (1 * t) X 1 _ (by exact HR6.out) (by decide) (by rw [HLL.out]; omega)).mono ?_
                rintro e w7 ⟨rfl, hr7, hO7⟩
                have hne : ∀ a, A1 = some a → a.block ∉ [px] := fun a ha => by have := HAL.out a ha; simp; omega
                have hrl7 := HRL6.out.keep hO7 hne
                obtain ⟨a7, o7, hA7, hc7⟩ := hrl7.at_ (by omega)
                subst hA7
                have hcell := hc7 t (by simpa using hjz)
                rw [ivs_get] at hcell
                have hnum := num_les 1 L t hjz HF.out
                rw [← HX.out] at hnum
                rw [hnum]
                have hO7' : Only [] w w7 := HO6.out.trans hO7 (by simp; omega)
                have HO7 := Lib.hid hO7'
                have HRL7 := Lib.hid hrl7
                have hr7' : RowAt w7 px gx X (1 * (t + 1)) := by rw [Nat.mul_succ]; exact hr7
                have HR7 := Lib.hid hr7'
                clear hr7 hO7 hne hrl7 hc7 hnum hO7' HR6 HO6 HRL6 hr7'
                generalize hxx : L[t] = x at *
                have HXX := Lib.hid hxx
                clear hxx
                go_wp2
                go_roundg (gk - 1)
                case measure => omega
                case rel => exact ⟨t + 1, by omega, by go_num, HR7.out, HO7.out, HRL7.out⟩
              · obtain rfl : t = j := by omega
                clear hlt ht
                go_wp2_with fail
                refine (get_none px gx (1 * t) X 1 _ (by exact HR6.out) (by rw [HLL.out]; omega)).mono ?_
                rintro e w7 ⟨rfl, n7, rfl⟩
                have HO7 := Lib.hid (HO6.out.drewN n7)
                clear HO6 HR6 HRL6
                go_wp2_with fail
                refine (awake1 _).mono ?_
                rintro e w8 ⟨rfl, hO8⟩
                have HO8 := Lib.hid (HO7.out.trans' hO8)
                clear hO8
                go_wp2
                go_ret
                exact ⟨rfl, HO8.out⟩

set_option maxRecDepth 100000 in
set_option maxHeartbeats 2000000 in
theorem walk_long2 (A : Option Addr) (n c : Nat) (zs : List Int) (wd : Nat) (one : Bool) (w : World) (hi : Ins w A n c zs) (h0 : n ≤ 100) (hw : wd = 2) (hz : ∀ z ∈ zs, (Lit.int .i64 z).wf = true) :
    Calls Try.prog 3 #[.slice A n c, .int .i64 wd, .bool one] w fun e w' => e = .returned (.bool true) ∧ Only [] w w' := by
  obtain ⟨i0, hi0, hz0, hz1, hz2⟩ := info_parts Try.infoInt
  have hlen := hi.len
  rw [ivs_length] at hlen
  have hcells : ∀ j (hj : j < zs.length), ∃ a o, A = some ⟨a, o, none⟩ ∧ w.cell? ⟨a, o + j, none⟩ = some (.int .i64 zs[j]) := fun j hj => by
    obtain ⟨a, o, e, hc⟩ := hi.at_ (by omega)
    have h1 := hc j (by simpa using hj)
    rw [ivs_get] at h1
    exact ⟨a, o, e, h1⟩
  have hd0 : decide (100 < (n : Int)) = false := by simp; omega
  have HC := Lib.hid hcells
  have HL := Lib.hid hlen
  have HZ := Lib.hid hz
  clear hcells hlen hi hz
  subst hw
  go_enter Try.func3, Try.ntmps3
  go_wp2_with fail
  go_loopg [7, 8] n (fun r v i wr => ∃ j : Nat, j + r = n ∧ i = .int .i64 j ∧ Gath wr w.heap.size 3 v (ivs (rs (256 ^ 2) (zs.take j))) ∧ Only [] w wr)
  case atStart => exact ⟨0, by omega, rfl, Gath.nil _ _ _ (Nat.le_refl _), Only.refl _ _⟩
  case round =>
    obtain ⟨j, hj, rfl, hG, hO⟩ := hrel
    have HG := Lib.hid hG
    have HO := Lib.hid hO
    obtain ⟨A1, c1, rfl, hr1, hA1⟩ := hG.formN (n := j) (by simp [rs]; have := HL.out; omega)
    have HR1 := Lib.hid hr1
    have HA1 := Lib.hid hA1
    clear hG hO hr1 hA1
    by_cases hlt : j < n
    · have hjz : j < zs.length := by rw [HL.out]; exact hlt
      obtain ⟨a, o, rfl, hcell⟩ := HC.out j hjz
      have hcell1 := HO.out.cell hcell (by simp)
      have hzw := HZ.out zs[j] (List.getElem_mem _)
      clear hcell
      generalize hzj : zs[j] = z at *
      have HZJ := Lib.hid hzj
      clear hzj
      have hshl : ∀ w, (Op.shift BinOp.shl IntKind.i64 1 IntKind.i64 (IntKind.i64.wrap 16)).run Try.prog w = .ok (.int .i64 65536) w := fun _ => by kernel_rfl
      go_wp2_with fail
      have hlz : (ivs (rs (256 ^ 2) (zs.take j))).length = j := by simp [rs]; omega
      have HLZ := Lib.hid hlz
      clear hlz
      go_region_law (first
        | (refine step_append_row1 rfl (.tmp 39) (.tmp 48) 22 rfl w.heap.size 3 i0 _ 8 Try.underlying22 hi0 hz0 hz1 hz2 rfl (.slice A1 j c1) j (ivs (rs (256 ^ 2) (zs.take j))) rfl (HG.out.own ((Only.refl _ _).alloc _).drew HLZ.out) _ 1 1 (ivs [z % 65536]) rfl ((ins_new _ [z % 65536] _ 1 rfl (by omega)).keep0 (Only.refl _ _).drew) (ivs_one _) (by unfold maxLen; omega) (by omega) (HG.out.base_le ((Only.refl _ _).alloc _).drew) ?_; intro v1 w1 hown1 hgr1 hat1)
        | (go_simp; go_at_call 20; refine (round_any _ _ _ hzw (by decide) (by decide)).mono ?_; rintro e w' ⟨rfl, rfl⟩))
      have HGN := Lib.hid ((HG.out.keep0 (((Only.refl [] wr).alloc (.cells #[Value.int IntKind.i64 (z % 65536)] 3)).drew)).grown ((HO.out.alloc _).drew) rfl hown1 (by simp [rs]; omega) hgr1)
      clear hown1 hgr1 hat1
      go_wp2
      go_roundg (gk - 1)
      case measure => omega
      case rel =>
        refine ⟨j + 1, by omega, by go_num, ?_, HGN.out.2⟩
        have := HGN.out.1
        rw [← HZJ.out] at this
        rwa [rs_succ _ _ _ hjz]
    · obtain rfl : j = n := by omega
      have hfull : zs.take j = zs := List.take_of_length_le (by rw [HL.out]; omega)
      rw [hfull] at HG
      have hlr : (rs (256 ^ 2) zs).length = j := by simp [rs]; exact HL.out
      have HLR := Lib.hid hlr
      clear hlt hj hlr
      go_wp2_with fail
      refine (new_any (2 * (j : Int)) _ (by omega) (by omega)).mono ?_
      rintro e w1 ⟨p, g, rfl, hp, hg, hr1, hO1⟩
      have hswr := HO.out.size
      have hO1' : Only [] w w1 := HO.out.trans' hO1
      have HO1 := Lib.hid hO1'
      have hrl := HR1.out.keep0 hO1
      rw [hfull] at hrl
      have HRL := Lib.hid hrl
      have hR1 := Lib.hid hr1
      have hfit : Fit 2 (rs (256 ^ 2) zs) := fun x hx => by
        simp only [rs, List.mem_map] at hx
        obtain ⟨z, _, rfl⟩ := hx
        exact ⟨Int.emod_nonneg _ (by decide), Int.emod_lt_of_pos _ (by decide)⟩
      have HF := Lib.hid hfit
      have hAL : ∀ a, A1 = some a → a.block < wr.heap.size := fun a ha => (HA1.out a ha).2
      have HAL := Lib.hid hAL
      clear hO1 hO1' HO hr1 hfit HG hrl hfull HA1 hAL HR1
      generalize rs (256 ^ 2) zs = L at *
      have hz0 : (List.replicate ((2 * (j : Int))).toNat (0 : UInt8)).length = 2 * j := by simp <;> omega
      have HZ0 := Lib.hid hz0
      clear hz0
      generalize List.replicate ((2 * (j : Int))).toNat (0 : UInt8) = zr at *
      have hsz := HO1.out.size
      cases one
      · go_wp2_with fail
        refine (put_any p g 0 zr 2 A1 j c1 L _ (by exact hR1.out) (by exact HRL.out) ?_ (by decide) (by rw [HZ0.out]; exact Nat.le_refl _) HF.out).mono ?_
        · intro a ha
          have h1 := HAL.out a ha
          exact ⟨by omega, by omega⟩
        rintro e w2 ⟨rfl, hr2, hO2⟩
        have hlz : lay zr 0 (les 2 L) = les 2 L := lay_all _ _ (by rw [les_length, HLR.out, HZ0.out])
        rw [hlz] at hr2
        obtain ⟨X, hX⟩ : ∃ X, X = les 2 L := ⟨_, rfl⟩
        rw [← hX] at hr2
        have HX := Lib.hid hX
        clear hX
        have hpg : ∀ i ∈ [p, g], i ∈ ([] : List Nat) ∨ w.heap.size ≤ i := by simp; omega
        have HO2 := Lib.hid (HO1.out.trans hO2 hpg)
        have HRL2 := Lib.hid (HRL.out.keep hO2 (fun a ha => by have h1 := HAL.out a ha; simp; omega))
        have HR2 := Lib.hid hr2
        clear hr2 hO2 hlz HO1 hR1 HRL hpg HZ0
        go_wp2_with fail
        refine (bytes_any p g _ X _ (by exact HR2.out)).mono ?_
        rintro e w3 ⟨A3, c3, rfl, hc3, hm3, hpos3, hO3⟩
        have hB3 : Bys w3 A3 X.length c3 X := by
          rcases Nat.eq_zero_or_pos X.length with h0 | h0
          · exact ⟨by simp, hc3, hm3, fun h => absurd h (by omega)⟩
          · obtain ⟨g3, rfl, _, ho3⟩ := hpos3 h0
            exact Row1.of_Own ho3 (by simp) hc3 hm3
        have HB3 := Lib.hid hB3
        have HO3 := Lib.hid (HO2.out.trans' hO3)
        have HR3 := Lib.hid (HR2.out.keep0 hO3)
        have HRL3 := Lib.hid (HRL2.out.keep0 hO3)
        have hll : X.length = 2 * j := by rw [HX.out, les_length, HLR.out]
        have HLL := Lib.hid hll
        clear hpos3 hO3 hB3 HO2 HR2 HRL2 hll
        go_wp2_with fail
        refine (from_any _ _ _ X _ (by exact HB3.out) (by rw [HLL.out]; omega)).mono ?_
        rintro e w4 ⟨px, gx, rfl, hpx, hgx, hrx, hO4⟩
        have HRX4 := Lib.hid hrx
        have hsz3 := HO3.out.size
        have hlp3 := HR3.out.lp
        have hlg3 := HR3.out.lg
        have HO4 := Lib.hid (HO3.out.trans' hO4)
        have HR4 := Lib.hid (HR3.out.keep0 hO4)
        have HRL4 := Lib.hid (HRL3.out.keep0 hO4)
        have hq1 : (X.length - 2 * j : Nat) = 0 := by rw [HLL.out]; omega
        have HQ1 := Lib.hid hq1
        clear hrx hO4 HO3 HR3 HRL3 hq1 HB3
        go_wp2_with fail
        refine (left_any p g (0 + 2 * j) X _ (by exact HR4.out)).mono ?_
        rintro e w5 ⟨rfl, n5, rfl⟩
        have hq2 : (X.length - (0 + 2 * j) : Nat) = 0 := by rw [HLL.out]; omega
        rw [hq2]
        have HRX5 := Lib.hid (HRX4.out.drewN n5)
        have HO5 := Lib.hid (HO4.out.drewN n5)
        have HRL5 := Lib.hid (HRL4.out.drewN n5)
        clear HRX4 HO4 HR4 HRL4 HQ1 hq2
        go_wp2_with fail
        go_loopg [12] j (fun r i wr => ∃ t : Nat, t + r = j ∧ i = .int .i64 t ∧ RowAt wr px gx X (2 * t) ∧ Only [] w wr ∧ Row1 wr A1 j c1 (ivs L))
        case atStart => exact ⟨0, by omega, rfl, by simpa using HRX5.out, HO5.out, HRL5.out⟩
        case round =>
          obtain ⟨t, ht, rfl, hr6, hO6, hrl6⟩ := hrel
          have HR6 := Lib.hid hr6
          have HO6 := Lib.hid hO6
          have HRL6 := Lib.hid hrl6
          clear hr6 hO6 hrl6
          by_cases hlt : t < j
          · have hjz : t < L.length := by rw [HLR.out]; exact hlt
            have hlp6 := HR6.out.lp
            go_wp2_with fail
            refine (get_any px gx (2 * t) X 2 _ (by exact HR6.out) (by decide) (by rw [HLL.out]; omega)).mono ?_
            rintro e w7 ⟨rfl, hr7, hO7⟩
            have hne : ∀ a, A1 = some a → a.block ∉ [px] := fun a ha => by have := HAL.out a ha; simp; omega
            have hrl7 := HRL6.out.keep hO7 hne
            obtain ⟨a7, o7, hA7, hc7⟩ := hrl7.at_ (by omega)
            subst hA7
            have hcell := hc7 t (by simpa using hjz)
            rw [ivs_get] at hcell
            have hnum := num_les 2 L t hjz HF.out
            rw [← HX.out] at hnum
            rw [hnum]
            have hO7' : Only [] w w7 := HO6.out.trans hO7 (by simp; omega)
            have HO7 := Lib.hid hO7'
            have HRL7 := Lib.hid hrl7
            have hr7' : RowAt w7 px gx X (2 * (t + 1)) := by rw [Nat.mul_succ]; exact hr7
            have HR7 := Lib.hid hr7'
            clear hr7 hO7 hne hrl7 hc7 hnum hO7' HR6 HO6 HRL6 hr7'
            generalize hxx : L[t] = x at *
            have HXX := Lib.hid hxx
            clear hxx
            go_wp2
            go_roundg (gk - 1)
            case measure => omega
            case rel => exact ⟨t + 1, by omega, by go_num, HR7.out, HO7.out, HRL7.out⟩
          · obtain rfl : t = j := by omega
            clear hlt ht
            go_wp2_with fail
            refine (get_none px gx (2 * t) X 2 _ (by exact HR6.out) (by rw [HLL.out]; omega)).mono ?_
            rintro e w7 ⟨rfl, n7, rfl⟩
            have HO7 := Lib.hid (HO6.out.drewN n7)
            clear HO6 HR6 HRL6
            go_wp2_with fail
            refine (awake1 _).mono ?_
            rintro e w8 ⟨rfl, hO8⟩
            have HO8 := Lib.hid (HO7.out.trans' hO8)
            clear hO8
            go_wp2
            go_ret
            exact ⟨rfl, HO8.out⟩

      · go_wp2_with fail
        go_loopg [10] j (fun r i wr => ∃ t : Nat, t + r = j ∧ i = .int .i64 t ∧ RowAt wr p g (lay zr 0 (les 2 (L.take t))) (2 * t) ∧ Only [] w wr ∧ Row1 wr A1 j c1 (ivs L))
        case atStart => exact ⟨0, by omega, rfl, by simpa [lay_nil] using hR1.out, HO1.out, HRL.out⟩
        case round =>
          obtain ⟨t, ht, rfl, hr6, hO6, hrl6⟩ := hrel
          have HR6 := Lib.hid hr6
          have HO6 := Lib.hid hO6
          have HRL6 := Lib.hid hrl6
          clear hr6 hO6
          by_cases hlt : t < j
          · have hjz : t < L.length := by rw [HLR.out]; exact hlt
            obtain ⟨a7, o7, hA7, hc7⟩ := hrl6.at_ (by omega)
            subst hA7
            have hcell := hc7 t (by simpa using hjz)
            rw [ivs_get] at hcell
            have hfz := HF.out L[t] (List.getElem_mem _)
            have HFZ := Lib.hid hfz
            have hk1 : (lay zr 0 (les 2 (L.take t))).length = 2 * j := by rw [lay_length _ _ _ (by rw [les_length, HZ0.out, List.length_take, Nat.min_eq_left (by omega)]; omega), HZ0.out]
            have hk2 : lay (lay zr 0 (les 2 (L.take t))) (2 * t) (les 2 [L[t]]) = lay zr 0 (les 2 (L.take (t + 1))) := by
              have h1 := lay_lay zr 0 (les 2 (L.take t)) (les 2 [L[t]]) (by rw [les_length, les_length, HZ0.out, List.length_take, Nat.min_eq_left (by omega)]; simp; omega)
              rw [les_length, List.length_take, Nat.min_eq_left (by omega), Nat.zero_add] at h1
              rw [h1, les_take_succ _ _ _ hjz]
            have HK1 := Lib.hid hk1
            have HK2 := Lib.hid hk2
            have hlp6 := HR6.out.lp
            have hlg6 := HR6.out.lg
            clear hfz hk1 hk2 hc7 hrl6
            generalize hxx : L[t] = x at *
            go_wp2_with fail
            refine (put_any p g (2 * t) _ 2 _ 1 1 [x] _ (by exact HR6.out.alloc _) (ins_new _ [x] _ 1 rfl (by omega)) ?_ (by decide) (by rw [HK1.out]; omega) (fit_one HFZ.out)).mono ?_
            · intro a ha
              injection ha with ha
              subst ha
              exact ⟨by simp; omega, by simp; omega⟩
            rintro e w7 ⟨rfl, hr7, hO7⟩
            rw [HK2.out] at hr7
            have hpg : ∀ i ∈ [p, g], i ∈ ([] : List Nat) ∨ w.heap.size ≤ i := by simp; omega
            have HO7 := Lib.hid ((HO6.out.alloc _).trans hO7 hpg)
            have HRL7 := Lib.hid ((HRL6.out.keep0 ((Only.refl _ _).alloc _)).keep hO7 (fun a ha => by have h1 := HAL.out a ha; simp; omega))
            have HR7 := Lib.hid hr7
            clear hr7 hO7 HK1 HK2 HR6 HO6 HRL6 hpg
            go_wp2
            go_roundg (gk - 1)
            case measure => omega
            case rel => exact ⟨t + 1, by omega, by go_num, HR7.out, HO7.out, HRL7.out⟩
          · obtain rfl : t = j := by omega
            have hr2 := HR6.out
            have hlz : lay zr 0 (les 2 (L.take t)) = les 2 L := by
              rw [List.take_of_length_le (by rw [HLR.out]; omega)]
              exact lay_all _ _ (by rw [les_length, HLR.out, HZ0.out])
            rw [hlz] at hr2
            obtain ⟨X, hX⟩ : ∃ X, X = les 2 L := ⟨_, rfl⟩
            rw [← hX] at hr2
            have HX := Lib.hid hX
            clear hX
            have HO2 := HO6
            have HRL2 := HRL6
            have HR2 := Lib.hid hr2
            clear hr2 hlz HO1 hR1 HRL HZ0 hlt ht hrl6 HR6 HO6 HRL6

            obtain ⟨j, hjj⟩ : ∃ j, j = t := ⟨t, rfl⟩
            subst hjj
            go_wp2_with fail
            refine (bytes_any p g _ X _ (by exact HR2.out)).mono ?_
            rintro e w3 ⟨A3, c3, rfl, hc3, hm3, hpos3, hO3⟩
            have hB3 : Bys w3 A3 X.length c3 X := by
              rcases Nat.eq_zero_or_pos X.length with h0 | h0
              · exact ⟨by simp, hc3, hm3, fun h => absurd h (by omega)⟩
              · obtain ⟨g3, rfl, _, ho3⟩ := hpos3 h0
                exact Row1.of_Own ho3 (by simp) hc3 hm3
            have HB3 := Lib.hid hB3
            have HO3 := Lib.hid (HO2.out.trans' hO3)
            have HR3 := Lib.hid (HR2.out.keep0 hO3)
            have HRL3 := Lib.hid (HRL2.out.keep0 hO3)
            have hll : X.length = 2 * j := by rw [HX.out, les_length, HLR.out]
            have HLL := Lib.hid hll
            clear hpos3 hO3 hB3 HO2 HR2 HRL2 hll
            go_wp2_with fail
            refine (from_any _ _ _ X _ (by exact HB3.out) (by rw [HLL.out]; omega)).mono ?_
            rintro e w4 ⟨px, gx, rfl, hpx, hgx, hrx, hO4⟩
            have HRX4 := Lib.hid hrx
            have hsz3 := HO3.out.size
            have hlp3 := HR3.out.lp
            have hlg3 := HR3.out.lg
            have HO4 := Lib.hid (HO3.out.trans' hO4)
            have HR4 := Lib.hid (HR3.out.keep0 hO4)
            have HRL4 := Lib.hid (HRL3.out.keep0 hO4)
            have hq1 : (X.length - 2 * j : Nat) = 0 := by rw [HLL.out]; omega
            have HQ1 := Lib.hid hq1
            clear hrx hO4 HO3 HR3 HRL3 hq1 HB3
            go_wp2_with fail
            refine (left_any p g (2 * j) X _ (by exact HR4.out)).mono ?_
            rintro e w5 ⟨rfl, n5, rfl⟩
            have hq2 : (X.length - (2 * j) : Nat) = 0 := by rw [HLL.out]; omega
            rw [hq2]
            have HRX5 := Lib.hid (HRX4.out.drewN n5)
            have HO5 := Lib.hid (HO4.out.drewN n5)
            have HRL5 := Lib.hid (HRL4.out.drewN n5)
            clear HRX4 HO4 HR4 HRL4 HQ1 hq2
            go_wp2_with fail
            go_loopg [12] j (fun r i wr => ∃ t : Nat, t + r = j ∧ i = .int .i64 t ∧ RowAt wr px gx X (2 * t) ∧ Only [] w wr ∧ Row1 wr A1 j c1 (ivs L))
            case atStart => exact ⟨0, by omega, rfl, by simpa using HRX5.out, HO5.out, HRL5.out⟩
            case round =>
              obtain ⟨t, ht, rfl, hr6, hO6, hrl6⟩ := hrel
              have HR6 := Lib.hid hr6
              have HO6 := Lib.hid hO6
              have HRL6 := Lib.hid hrl6
              clear hr6 hO6 hrl6
              by_cases hlt : t < j
              · have hjz : t < L.length := by rw [HLR.out]; exact hlt
                have hlp6 := HR6.out.lp
                go_wp2_with fail
                refine (get_any px gx (2 * t) X 2 _ (by exact HR6.out) (by decide) (by rw [HLL.out]; omega)).mono ?_
                rintro e w7 ⟨rfl, hr7, hO7⟩
                have hne : ∀ a, A1 = some a → a.block ∉ [px] := fun a ha => by have := HAL.out a ha; simp; omega
                have hrl7 := HRL6.out.keep hO7 hne
                obtain ⟨a7, o7, hA7, hc7⟩ := hrl7.at_ (by omega)
                subst hA7
                have hcell := hc7 t (by simpa using hjz)
                rw [ivs_get] at hcell
                have hnum := num_les 2 L t hjz HF.out
                rw [← HX.out] at hnum
                rw [hnum]
                have hO7' : Only [] w w7 := HO6.out.trans hO7 (by simp; omega)
                have HO7 := Lib.hid hO7'
                have HRL7 := Lib.hid hrl7
                have hr7' : RowAt w7 px gx X (2 * (t + 1)) := by rw [Nat.mul_succ]; exact hr7
                have HR7 := Lib.hid hr7'
                clear hr7 hO7 hne hrl7 hc7 hnum hO7' HR6 HO6 HRL6 hr7'
                generalize hxx : L[t] = x at *
                have HXX := Lib.hid hxx
                clear hxx
                go_wp2
                go_roundg (gk - 1)
                case measure => omega
                case rel => exact ⟨t + 1, by omega, by go_num, HR7.out, HO7.out, HRL7.out⟩
              · obtain rfl : t = j := by omega
                clear hlt ht
                go_wp2_with fail
                refine (get_none px gx (2 * t) X 2 _ (by exact HR6.out) (by rw [HLL.out]; omega)).mono ?_
                rintro e w7 ⟨rfl, n7, rfl⟩
                have HO7 := Lib.hid (HO6.out.drewN n7)
                clear HO6 HR6 HRL6
                go_wp2_with fail
                refine (awake1 _).mono ?_
                rintro e w8 ⟨rfl, hO8⟩
                have HO8 := Lib.hid (HO7.out.trans' hO8)
                clear hO8
                go_wp2
                go_ret
                exact ⟨rfl, HO8.out⟩

set_option maxRecDepth 100000 in
set_option maxHeartbeats 2000000 in
theorem walk_long4 (A : Option Addr) (n c : Nat) (zs : List Int) (wd : Nat) (one : Bool) (w : World) (hi : Ins w A n c zs) (h0 : n ≤ 100) (hw : wd = 4) (hz : ∀ z ∈ zs, (Lit.int .i64 z).wf = true) :
    Calls Try.prog 3 #[.slice A n c, .int .i64 wd, .bool one] w fun e w' => e = .returned (.bool true) ∧ Only [] w w' := by
  obtain ⟨i0, hi0, hz0, hz1, hz2⟩ := info_parts Try.infoInt
  have hlen := hi.len
  rw [ivs_length] at hlen
  have hcells : ∀ j (hj : j < zs.length), ∃ a o, A = some ⟨a, o, none⟩ ∧ w.cell? ⟨a, o + j, none⟩ = some (.int .i64 zs[j]) := fun j hj => by
    obtain ⟨a, o, e, hc⟩ := hi.at_ (by omega)
    have h1 := hc j (by simpa using hj)
    rw [ivs_get] at h1
    exact ⟨a, o, e, h1⟩
  have hd0 : decide (100 < (n : Int)) = false := by simp; omega
  have HC := Lib.hid hcells
  have HL := Lib.hid hlen
  have HZ := Lib.hid hz
  clear hcells hlen hi hz
  subst hw
  go_enter Try.func3, Try.ntmps3
  go_wp2_with fail
  go_loopg [7, 8] n (fun r v i wr => ∃ j : Nat, j + r = n ∧ i = .int .i64 j ∧ Gath wr w.heap.size 3 v (ivs (rs (256 ^ 4) (zs.take j))) ∧ Only [] w wr)
  case atStart => exact ⟨0, by omega, rfl, Gath.nil _ _ _ (Nat.le_refl _), Only.refl _ _⟩
  case round =>
    obtain ⟨j, hj, rfl, hG, hO⟩ := hrel
    have HG := Lib.hid hG
    have HO := Lib.hid hO
    obtain ⟨A1, c1, rfl, hr1, hA1⟩ := hG.formN (n := j) (by simp [rs]; have := HL.out; omega)
    have HR1 := Lib.hid hr1
    have HA1 := Lib.hid hA1
    clear hG hO hr1 hA1
    by_cases hlt : j < n
    · have hjz : j < zs.length := by rw [HL.out]; exact hlt
      obtain ⟨a, o, rfl, hcell⟩ := HC.out j hjz
      have hcell1 := HO.out.cell hcell (by simp)
      have hzw := HZ.out zs[j] (List.getElem_mem _)
      clear hcell
      generalize hzj : zs[j] = z at *
      have HZJ := Lib.hid hzj
      clear hzj
      have hshl : ∀ w, (Op.shift BinOp.shl IntKind.i64 1 IntKind.i64 (IntKind.i64.wrap 32)).run Try.prog w = .ok (.int .i64 4294967296) w := fun _ => by kernel_rfl
      go_wp2_with fail
      have hlz : (ivs (rs (256 ^ 4) (zs.take j))).length = j := by simp [rs]; omega
      have HLZ := Lib.hid hlz
      clear hlz
      go_region_law (first
        | (refine step_append_row1 rfl (.tmp 39) (.tmp 48) 22 rfl w.heap.size 3 i0 _ 8 Try.underlying22 hi0 hz0 hz1 hz2 rfl (.slice A1 j c1) j (ivs (rs (256 ^ 4) (zs.take j))) rfl (HG.out.own ((Only.refl _ _).alloc _).drew HLZ.out) _ 1 1 (ivs [z % 4294967296]) rfl ((ins_new _ [z % 4294967296] _ 1 rfl (by omega)).keep0 (Only.refl _ _).drew) (ivs_one _) (by unfold maxLen; omega) (by omega) (HG.out.base_le ((Only.refl _ _).alloc _).drew) ?_; intro v1 w1 hown1 hgr1 hat1)
        | (go_simp; go_at_call 20; refine (round_any _ _ _ hzw (by decide) (by decide)).mono ?_; rintro e w' ⟨rfl, rfl⟩))
      have HGN := Lib.hid ((HG.out.keep0 (((Only.refl [] wr).alloc (.cells #[Value.int IntKind.i64 (z % 4294967296)] 3)).drew)).grown ((HO.out.alloc _).drew) rfl hown1 (by simp [rs]; omega) hgr1)
      clear hown1 hgr1 hat1
      go_wp2
      go_roundg (gk - 1)
      case measure => omega
      case rel =>
        refine ⟨j + 1, by omega, by go_num, ?_, HGN.out.2⟩
        have := HGN.out.1
        rw [← HZJ.out] at this
        rwa [rs_succ _ _ _ hjz]
    · obtain rfl : j = n := by omega
      have hfull : zs.take j = zs := List.take_of_length_le (by rw [HL.out]; omega)
      rw [hfull] at HG
      have hlr : (rs (256 ^ 4) zs).length = j := by simp [rs]; exact HL.out
      have HLR := Lib.hid hlr
      clear hlt hj hlr
      go_wp2_with fail
      refine (new_any (4 * (j : Int)) _ (by omega) (by omega)).mono ?_
      rintro e w1 ⟨p, g, rfl, hp, hg, hr1, hO1⟩
      have hswr := HO.out.size
      have hO1' : Only [] w w1 := HO.out.trans' hO1
      have HO1 := Lib.hid hO1'
      have hrl := HR1.out.keep0 hO1
      rw [hfull] at hrl
      have HRL := Lib.hid hrl
      have hR1 := Lib.hid hr1
      have hfit : Fit 4 (rs (256 ^ 4) zs) := fun x hx => by
        simp only [rs, List.mem_map] at hx
        obtain ⟨z, _, rfl⟩ := hx
        exact ⟨Int.emod_nonneg _ (by decide), Int.emod_lt_of_pos _ (by decide)⟩
      have HF := Lib.hid hfit
      have hAL : ∀ a, A1 = some a → a.block < wr.heap.size := fun a ha => (HA1.out a ha).2
      have HAL := Lib.hid hAL
      clear hO1 hO1' HO hr1 hfit HG hrl hfull HA1 hAL HR1
      generalize rs (256 ^ 4) zs = L at *
      have hz0 : (List.replicate ((4 * (j : Int))).toNat (0 : UInt8)).length = 4 * j := by simp <;> omega
      have HZ0 := Lib.hid hz0
      clear hz0
      generalize List.replicate ((4 * (j : Int))).toNat (0 : UInt8) = zr at *
      have hsz := HO1.out.size
      cases one
      · go_wp2_with fail
        refine (put_any p g 0 zr 4 A1 j c1 L _ (by exact hR1.out) (by exact HRL.out) ?_ (by decide) (by rw [HZ0.out]; exact Nat.le_refl _) HF.out).mono ?_
        · intro a ha
          have h1 := HAL.out a ha
          exact ⟨by omega, by omega⟩
        rintro e w2 ⟨rfl, hr2, hO2⟩
        have hlz : lay zr 0 (les 4 L) = les 4 L := lay_all _ _ (by rw [les_length, HLR.out, HZ0.out])
        rw [hlz] at hr2
        obtain ⟨X, hX⟩ : ∃ X, X = les 4 L := ⟨_, rfl⟩
        rw [← hX] at hr2
        have HX := Lib.hid hX
        clear hX
        have hpg : ∀ i ∈ [p, g], i ∈ ([] : List Nat) ∨ w.heap.size ≤ i := by simp; omega
        have HO2 := Lib.hid (HO1.out.trans hO2 hpg)
        have HRL2 := Lib.hid (HRL.out.keep hO2 (fun a ha => by have h1 := HAL.out a ha; simp; omega))
        have HR2 := Lib.hid hr2
        clear hr2 hO2 hlz HO1 hR1 HRL hpg HZ0
        go_wp2_with fail
        refine (bytes_any p g _ X _ (by exact HR2.out)).mono ?_
        rintro e w3 ⟨A3, c3, rfl, hc3, hm3, hpos3, hO3⟩
        have hB3 : Bys w3 A3 X.length c3 X := by
          rcases Nat.eq_zero_or_pos X.length with h0 | h0
          · exact ⟨by simp, hc3, hm3, fun h => absurd h (by omega)⟩
          · obtain ⟨g3, rfl, _, ho3⟩ := hpos3 h0
            exact Row1.of_Own ho3 (by simp) hc3 hm3
        have HB3 := Lib.hid hB3
        have HO3 := Lib.hid (HO2.out.trans' hO3)
        have HR3 := Lib.hid (HR2.out.keep0 hO3)
        have HRL3 := Lib.hid (HRL2.out.keep0 hO3)
        have hll : X.length = 4 * j := by rw [HX.out, les_length, HLR.out]
        have HLL := Lib.hid hll
        clear hpos3 hO3 hB3 HO2 HR2 HRL2 hll
        go_wp2_with fail
        refine (from_any _ _ _ X _ (by exact HB3.out) (by rw [HLL.out]; omega)).mono ?_
        rintro e w4 ⟨px, gx, rfl, hpx, hgx, hrx, hO4⟩
        have HRX4 := Lib.hid hrx
        have hsz3 := HO3.out.size
        have hlp3 := HR3.out.lp
        have hlg3 := HR3.out.lg
        have HO4 := Lib.hid (HO3.out.trans' hO4)
        have HR4 := Lib.hid (HR3.out.keep0 hO4)
        have HRL4 := Lib.hid (HRL3.out.keep0 hO4)
        have hq1 : (X.length - 4 * j : Nat) = 0 := by rw [HLL.out]; omega
        have HQ1 := Lib.hid hq1
        clear hrx hO4 HO3 HR3 HRL3 hq1 HB3
        go_wp2_with fail
        refine (left_any p g (0 + 4 * j) X _ (by exact HR4.out)).mono ?_
        rintro e w5 ⟨rfl, n5, rfl⟩
        have hq2 : (X.length - (0 + 4 * j) : Nat) = 0 := by rw [HLL.out]; omega
        rw [hq2]
        have HRX5 := Lib.hid (HRX4.out.drewN n5)
        have HO5 := Lib.hid (HO4.out.drewN n5)
        have HRL5 := Lib.hid (HRL4.out.drewN n5)
        clear HRX4 HO4 HR4 HRL4 HQ1 hq2
        go_wp2_with fail
        go_loopg [12] j (fun r i wr => ∃ t : Nat, t + r = j ∧ i = .int .i64 t ∧ RowAt wr px gx X (4 * t) ∧ Only [] w wr ∧ Row1 wr A1 j c1 (ivs L))
        case atStart => exact ⟨0, by omega, rfl, by simpa using HRX5.out, HO5.out, HRL5.out⟩
        case round =>
          obtain ⟨t, ht, rfl, hr6, hO6, hrl6⟩ := hrel
          have HR6 := Lib.hid hr6
          have HO6 := Lib.hid hO6
          have HRL6 := Lib.hid hrl6
          clear hr6 hO6 hrl6
          by_cases hlt : t < j
          · have hjz : t < L.length := by rw [HLR.out]; exact hlt
            have hlp6 := HR6.out.lp
            go_wp2_with fail
            refine (get_any px gx (4 * t) X 4 _ (by exact HR6.out) (by decide) (by rw [HLL.out]; omega)).mono ?_
            rintro e w7 ⟨rfl, hr7, hO7⟩
            have hne : ∀ a, A1 = some a → a.block ∉ [px] := fun a ha => by have := HAL.out a ha; simp; omega
            have hrl7 := HRL6.out.keep hO7 hne
            obtain ⟨a7, o7, hA7, hc7⟩ := hrl7.at_ (by omega)
            subst hA7
            have hcell := hc7 t (by simpa using hjz)
            rw [ivs_get] at hcell
            have hnum := num_les 4 L t hjz HF.out
            rw [← HX.out] at hnum
            rw [hnum]
            have hO7' : Only [] w w7 := HO6.out.trans hO7 (by simp; omega)
            have HO7 := Lib.hid hO7'
            have HRL7 := Lib.hid hrl7
            have hr7' : RowAt w7 px gx X (4 * (t + 1)) := by rw [Nat.mul_succ]; exact hr7
            have HR7 := Lib.hid hr7'
            clear hr7 hO7 hne hrl7 hc7 hnum hO7' HR6 HO6 HRL6 hr7'
            generalize hxx : L[t] = x at *
            have HXX := Lib.hid hxx
            clear hxx
            go_wp2
            go_roundg (gk - 1)
            case measure => omega
            case rel => exact ⟨t + 1, by omega, by go_num, HR7.out, HO7.out, HRL7.out⟩
          · obtain rfl : t = j := by omega
            clear hlt ht
            go_wp2_with fail
            refine (get_none px gx (4 * t) X 4 _ (by exact HR6.out) (by rw [HLL.out]; omega)).mono ?_
            rintro e w7 ⟨rfl, n7, rfl⟩
            have HO7 := Lib.hid (HO6.out.drewN n7)
            clear HO6 HR6 HRL6
            go_wp2_with fail
            refine (awake1 _).mono ?_
            rintro e w8 ⟨rfl, hO8⟩
            have HO8 := Lib.hid (HO7.out.trans' hO8)
            clear hO8
            go_wp2
            go_ret
            exact ⟨rfl, HO8.out⟩

      · go_wp2_with fail
        go_loopg [10] j (fun r i wr => ∃ t : Nat, t + r = j ∧ i = .int .i64 t ∧ RowAt wr p g (lay zr 0 (les 4 (L.take t))) (4 * t) ∧ Only [] w wr ∧ Row1 wr A1 j c1 (ivs L))
        case atStart => exact ⟨0, by omega, rfl, by simpa [lay_nil] using hR1.out, HO1.out, HRL.out⟩
        case round =>
          obtain ⟨t, ht, rfl, hr6, hO6, hrl6⟩ := hrel
          have HR6 := Lib.hid hr6
          have HO6 := Lib.hid hO6
          have HRL6 := Lib.hid hrl6
          clear hr6 hO6
          by_cases hlt : t < j
          · have hjz : t < L.length := by rw [HLR.out]; exact hlt
            obtain ⟨a7, o7, hA7, hc7⟩ := hrl6.at_ (by omega)
            subst hA7
            have hcell := hc7 t (by simpa using hjz)
            rw [ivs_get] at hcell
            have hfz := HF.out L[t] (List.getElem_mem _)
            have HFZ := Lib.hid hfz
            have hk1 : (lay zr 0 (les 4 (L.take t))).length = 4 * j := by rw [lay_length _ _ _ (by rw [les_length, HZ0.out, List.length_take, Nat.min_eq_left (by omega)]; omega), HZ0.out]
            have hk2 : lay (lay zr 0 (les 4 (L.take t))) (4 * t) (les 4 [L[t]]) = lay zr 0 (les 4 (L.take (t + 1))) := by
              have h1 := lay_lay zr 0 (les 4 (L.take t)) (les 4 [L[t]]) (by rw [les_length, les_length, HZ0.out, List.length_take, Nat.min_eq_left (by omega)]; simp; omega)
              rw [les_length, List.length_take, Nat.min_eq_left (by omega), Nat.zero_add] at h1
              rw [h1, les_take_succ _ _ _ hjz]
            have HK1 := Lib.hid hk1
            have HK2 := Lib.hid hk2
            have hlp6 := HR6.out.lp
            have hlg6 := HR6.out.lg
            clear hfz hk1 hk2 hc7 hrl6
            generalize hxx : L[t] = x at *
            go_wp2_with fail
            refine (put_any p g (4 * t) _ 4 _ 1 1 [x] _ (by exact HR6.out.alloc _) (ins_new _ [x] _ 1 rfl (by omega)) ?_ (by decide) (by rw [HK1.out]; omega) (fit_one HFZ.out)).mono ?_
            · intro a ha
              injection ha with ha
              subst ha
              exact ⟨by simp; omega, by simp; omega⟩
            rintro e w7 ⟨rfl, hr7, hO7⟩
            rw [HK2.out] at hr7
            have hpg : ∀ i ∈ [p, g], i ∈ ([] : List Nat) ∨ w.heap.size ≤ i := by simp; omega
            have HO7 := Lib.hid ((HO6.out.alloc _).trans hO7 hpg)
            have HRL7 := Lib.hid ((HRL6.out.keep0 ((Only.refl _ _).alloc _)).keep hO7 (fun a ha => by have h1 := HAL.out a ha; simp; omega))
            have HR7 := Lib.hid hr7
            clear hr7 hO7 HK1 HK2 HR6 HO6 HRL6 hpg
            go_wp2
            go_roundg (gk - 1)
            case measure => omega
            case rel => exact ⟨t + 1, by omega, by go_num, HR7.out, HO7.out, HRL7.out⟩
          · obtain rfl : t = j := by omega
            have hr2 := HR6.out
            have hlz : lay zr 0 (les 4 (L.take t)) = les 4 L := by
              rw [List.take_of_length_le (by rw [HLR.out]; omega)]
              exact lay_all _ _ (by rw [les_length, HLR.out, HZ0.out])
            rw [hlz] at hr2
            obtain ⟨X, hX⟩ : ∃ X, X = les 4 L := ⟨_, rfl⟩
            rw [← hX] at hr2
            have HX := Lib.hid hX
            clear hX
            have HO2 := HO6
            have HRL2 := HRL6
            have HR2 := Lib.hid hr2
            clear hr2 hlz HO1 hR1 HRL HZ0 hlt ht hrl6 HR6 HO6 HRL6

            obtain ⟨j, hjj⟩ : ∃ j, j = t := ⟨t, rfl⟩
            subst hjj
            go_wp2_with fail
            refine (bytes_any p g _ X _ (by exact HR2.out)).mono ?_
            rintro e w3 ⟨A3, c3, rfl, hc3, hm3, hpos3, hO3⟩
            have hB3 : Bys w3 A3 X.length c3 X := by
              rcases Nat.eq_zero_or_pos X.length with h0 | h0
              · exact ⟨by simp, hc3, hm3, fun h => absurd h (by omega)⟩
              · obtain ⟨g3, rfl, _, ho3⟩ := hpos3 h0
                exact Row1.of_Own ho3 (by simp) hc3 hm3
            have HB3 := Lib.hid hB3
            have HO3 := Lib.hid (HO2.out.trans' hO3)
            have HR3 := Lib.hid (HR2.out.keep0 hO3)
            have HRL3 := Lib.hid (HRL2.out.keep0 hO3)
            have hll : X.length = 4 * j := by rw [HX.out, les_length, HLR.out]
            have HLL := Lib.hid hll
            clear hpos3 hO3 hB3 HO2 HR2 HRL2 hll
            go_wp2_with fail
            refine (from_any _ _ _ X _ (by exact HB3.out) (by rw [HLL.out]; omega)).mono ?_
            rintro e w4 ⟨px, gx, rfl, hpx, hgx, hrx, hO4⟩
            have HRX4 := Lib.hid hrx
            have hsz3 := HO3.out.size
            have hlp3 := HR3.out.lp
            have hlg3 := HR3.out.lg
            have HO4 := Lib.hid (HO3.out.trans' hO4)
            have HR4 := Lib.hid (HR3.out.keep0 hO4)
            have HRL4 := Lib.hid (HRL3.out.keep0 hO4)
            have hq1 : (X.length - 4 * j : Nat) = 0 := by rw [HLL.out]; omega
            have HQ1 := Lib.hid hq1
            clear hrx hO4 HO3 HR3 HRL3 hq1 HB3
            go_wp2_with fail
            refine (left_any p g (4 * j) X _ (by exact HR4.out)).mono ?_
            rintro e w5 ⟨rfl, n5, rfl⟩
            have hq2 : (X.length - (4 * j) : Nat) = 0 := by rw [HLL.out]; omega
            rw [hq2]
            have HRX5 := Lib.hid (HRX4.out.drewN n5)
            have HO5 := Lib.hid (HO4.out.drewN n5)
            have HRL5 := Lib.hid (HRL4.out.drewN n5)
            clear HRX4 HO4 HR4 HRL4 HQ1 hq2
            go_wp2_with fail
            go_loopg [12] j (fun r i wr => ∃ t : Nat, t + r = j ∧ i = .int .i64 t ∧ RowAt wr px gx X (4 * t) ∧ Only [] w wr ∧ Row1 wr A1 j c1 (ivs L))
            case atStart => exact ⟨0, by omega, rfl, by simpa using HRX5.out, HO5.out, HRL5.out⟩
            case round =>
              obtain ⟨t, ht, rfl, hr6, hO6, hrl6⟩ := hrel
              have HR6 := Lib.hid hr6
              have HO6 := Lib.hid hO6
              have HRL6 := Lib.hid hrl6
              clear hr6 hO6 hrl6
              by_cases hlt : t < j
              · have hjz : t < L.length := by rw [HLR.out]; exact hlt
                have hlp6 := HR6.out.lp
                go_wp2_with fail
                refine (get_any px gx (4 * t) X 4 _ (by exact HR6.out) (by decide) (by rw [HLL.out]; omega)).mono ?_
                rintro e w7 ⟨rfl, hr7, hO7⟩
                have hne : ∀ a, A1 = some a → a.block ∉ [px] := fun a ha => by have := HAL.out a ha; simp; omega
                have hrl7 := HRL6.out.keep hO7 hne
                obtain ⟨a7, o7, hA7, hc7⟩ := hrl7.at_ (by omega)
                subst hA7
                have hcell := hc7 t (by simpa using hjz)
                rw [ivs_get] at hcell
                have hnum := num_les 4 L t hjz HF.out
                rw [← HX.out] at hnum
                rw [hnum]
                have hO7' : Only [] w w7 := HO6.out.trans hO7 (by simp; omega)
                have HO7 := Lib.hid hO7'
                have HRL7 := Lib.hid hrl7
                have hr7' : RowAt w7 px gx X (4 * (t + 1)) := by rw [Nat.mul_succ]; exact hr7
                have HR7 := Lib.hid hr7'
                clear hr7 hO7 hne hrl7 hc7 hnum hO7' HR6 HO6 HRL6 hr7'
                generalize hxx : L[t] = x at *
                have HXX := Lib.hid hxx
                clear hxx
                go_wp2
                go_roundg (gk - 1)
                case measure => omega
                case rel => exact ⟨t + 1, by omega, by go_num, HR7.out, HO7.out, HRL7.out⟩
              · obtain rfl : t = j := by omega
                clear hlt ht
                go_wp2_with fail
                refine (get_none px gx (4 * t) X 4 _ (by exact HR6.out) (by rw [HLL.out]; omega)).mono ?_
                rintro e w7 ⟨rfl, n7, rfl⟩
                have HO7 := Lib.hid (HO6.out.drewN n7)
                clear HO6 HR6 HRL6
                go_wp2_with fail
                refine (awake1 _).mono ?_
                rintro e w8 ⟨rfl, hO8⟩
                have HO8 := Lib.hid (HO7.out.trans' hO8)
                clear hO8
                go_wp2
                go_ret
                exact ⟨rfl, HO8.out⟩

theorem walk (a0 : Option Addr) (len0 cap0 : Nat) (z0 : List Int) (a1 : Int) (a2 : Bool) (w : World) (w0 : IsRow .i64 w a0 len0 cap0 z0) (w1 : (Lit.int .i64 a1).wf = true) :
    Calls Try.prog 3 #[.slice a0 len0 cap0, .int .i64 a1, .bool a2] w fun e w' => e = .returned (.bool true) ∧ Below w.heap.size w w' := by
  have done : ∀ e w', (e = .returned (.bool true) ∧ Only [] w w') → e = Ending.returned (.bool true) ∧ Below w.heap.size w w' := fun e w' h => ⟨h.1, h.2.below0⟩
  by_cases h : len0 ≤ 100 ∧ (a1 = 1 ∨ a1 = 2 ∨ a1 = 4)
  · obtain ⟨h1, rfl | rfl | rfl⟩ := h
    · exact (walk_long1 a0 len0 cap0 _ 1 a2 w w0.ins h1 rfl w0.wf).mono done
    · exact (walk_long2 a0 len0 cap0 _ 2 a2 w w0.ins h1 rfl w0.wf).mono done
    · exact (walk_long4 a0 len0 cap0 _ 4 a2 w w0.ins h1 rfl w0.wf).mono done
  · exact (walk_short a0 len0 cap0 z0 a1 a2 w h w0.le_max).mono done
-- FRAME: walk : (a0 : Option Addr) (len0 cap0 : Nat) (z0 : List Int) (a1 : Int) (a2 : Bool) (w : World) (w0 : IsRow .i64 w a0 len0 cap0 z0) (w1 : (Lit.int .i64 a1).wf = true) : Calls Try.prog 3 #[.slice a0 len0 cap0, .int .i64 a1, .bool a2] w fun e w' => e = .returned (.bool true) ∧ Below w.heap.size w w'

set_option maxRecDepth 100000 in
theorem lifted (os : Os) (started : os.Started) (H : Type) (enc : TypeId × Value → H) :
    ReturnsInHanded {} Try.checked os 3 .any (Rows.rowBackSpec.pre6 enc Try.prog Try.f3 Rows.rowBackRow.domain false) (Rows.rowBackSpec.post enc Try.prog Try.f3 false true false false) := by
  refine returnsInHanded_of_change (C := Try.checked) own started (by kernel_rfl) Try.func3
    (ChangeSpec.witness6 (enc := enc) (C := Try.checked) false ⟨#[], #[.slice none 0 0, .int .i64 0, .bool false], []⟩ 8 (by kernel_rfl) (by kernel_rfl) (by kernel_rfl) (by kernel_rfl)) ?_
  intro W base args ds gs before hval0 hW hcnd _
  have hval : ∀ (j : Nat) t v, Try.f3.params[j]? = some t → args[j]? = some v → Value.okWide Try.prog W .any base t v := hval0
  have hW' := hW
  obtain ⟨p, q, hA0, hV, rfl, hfz, hnd⟩ := hW
  have hA : DataW.TrodAll enc Try.prog W 0 (fun _ => true) true Try.f3.params.toList args.toList ds p := hA0
  rw [Try.params3] at hA hval
  obtain ⟨v0, vs0, d0, ds0, p0, q0, hargs, rfl, rfl, h0, r0⟩ := trodAll_cons hA
  obtain ⟨v1, vs1, d1, ds1, p1, q1, rfl, rfl, rfl, h1, r1⟩ := trodAll_cons r0
  obtain ⟨v2, vs2, d2, ds2, p2, q2, rfl, rfl, rfl, h2, r2⟩ := trodAll_cons r1
  obtain ⟨rfl, rfl, rfl⟩ := trodAll_nil r2
  obtain rfl : args = #[v0, v1, v2] := by cases args; simp_all
  obtain ⟨rfl, rfl⟩ := trodVars_none hV
  obtain ⟨a0, len0, cap0, rfl⟩ := okWide_slice Try.underlying22 (hval 0 22 v0 rfl rfl)
  have k0 := h0
  have lt0 : ∀ x ∈ p0, x.block < W.heap.size := by obtain ⟨m, hm⟩ := k0; exact DataW.trod_lt m _ _ _ hm
  obtain ⟨z0, w0⟩ : ∃ zs, IsRow .i64 W a0 len0 cap0 zs := by
    obtain ⟨fuel, hf⟩ := h0
    rcases open_ints Try.underlying22 Try.underlying3 (by kernel_rfl) hf with ⟨hcs, _⟩ | ⟨x, l, c, zs, hcs, _, hl, hm, hz, _, hcell, hwz⟩
    · simp [Value.cells] at hcs
      obtain ⟨rfl, rfl, rfl⟩ := hcs
      exact ⟨[], .inl ⟨rfl, rfl, rfl, rfl⟩⟩
    · simp [Value.cells] at hcs
      obtain ⟨rfl, rfl, rfl⟩ := hcs
      exact ⟨zs, .inr ⟨_, rfl, hl, hm, by simpa using hz, hcell, hwz⟩⟩
  obtain ⟨a1, rfl, rfl, rfl, w1⟩ := open_int Try.underlying3 (hval 1 3 v1 rfl rfl) h1
  obtain ⟨a2, rfl, rfl, rfl⟩ := open_bool Try.underlying4 (hval 2 4 v2 rfl rfl) h2
  clear hA0 hval0
  refine (walk a0 len0 cap0 z0 a1 a2 W w0 w1).mono fun e W' ⟨he, bel⟩ => ?_
  subst he
  exact ⟨_, rfl, _, _, _, [], _, [], hW', trodAll_mk1 (shut_bool Try.underlying4 _), (trodAll_cons_mk (Below.trod laidOut (by kernel_rfl) (of_decide_eq_true (by kernel_rfl)) k0 bel lt0) (trodAll_cons_mk (shut_int Try.underlying3 w1) (trodAll_cons_mk (shut_bool Try.underlying4 _) trodAll_mk0))), rfl, bel.frame _, fun h => by cases h⟩

theorem over : Rows.rowBackRow.holds Try.pinned (OpenSpec.ofChange Rows.rowBackSpec) :=
  OpenClaim.holds_of_wide 3 Try.f3 rfl rfl rfl rfl rfl rfl rfl ⟨rfl, rfl, rfl, rfl, rfl⟩ rfl rfl rfl rfl rfl (by kernel_rfl) Try.func3 (by kernel_rfl)
    (of_decide_eq_true (by kernel_rfl)) (by unfold Func.isWrapper; first | (rw [if_pos (by decide +kernel)]; kernel_rfl) | (rw [if_neg (by decide +kernel)]; exact ⟨rfl, rfl⟩))
    (fun os started H enc _ => lifted os started H enc)

theorem proved : Rows.RowBackSaid := over

end Go.Proofs.Ytcojleippbneoaa.rowBack
