/- RowSpoilt: for every input the call returns true, and each argument reads behind the call as it read before. -/
import Derived.Test.YtcojleippbneoaaLaw1A
import Derived.Test.YtcojleippbneoaaFrame
set_option linter.unusedVariables false
namespace Go.Proofs.Ytcojleippbneoaa.rowSpoilt
open Go Go.RowKit Go.Kn Go.ChangeShapes Go.WideShapes Go.ChangeAt

/-- 0, 1, .. -/
def iota (p : Nat) : List Int := (List.range p).map fun i : Nat => (i : Int)
theorem iota_length (p : Nat) : (iota p).length = p := by simp [iota]
theorem iota_succ (p : Nat) : iota (p + 1) = iota p ++ [(p : Int)] := by simp [iota, List.range_succ]
theorem ivs_append (a b : List Int) : ivs (a ++ b) = ivs a ++ ivs b := by simp [ivs]
theorem iota_fit {p : Nat} (h : p ≤ 20) : Fit 1 (iota p) := by
  intro z hz
  simp only [iota, List.mem_map, List.mem_range] at hz
  obtain ⟨i, hi, rfl⟩ := hz
  exact ⟨by omega, by show (i : Int) < 256; omega⟩
theorem iota_get (p i : Nat) (h : i < (iota p).length) : (iota p)[i] = (i : Int) := by simp [iota]
theorem bytes_get (N p i : Nat) (hp : p ≤ N) (h : i < (lay (List.replicate N 0) 0 (les 1 (iota p))).length) :
    (lay (List.replicate N 0) 0 (les 1 (iota p)))[i]'h = if i < p then UInt8.ofNat i else 0 := by
  have hl : (les 1 (iota p)).length = p := by rw [les_length, iota_length]; omega
  simp only [lay, List.take_zero, List.nil_append, Nat.zero_add, hl]
  by_cases hip : i < p
  · rw [if_pos hip, List.getElem_append_left (by omega)]
    have hi2 : i < (iota p).length := by rw [iota_length]; exact hip
    have h1 := les_take_drop 1 (iota p) i hi2
    have h2 : (les 1 (iota p))[i]'(by omega) = (le 1 (iota p)[i].toNat)[0]'(by simp) := by
      have h3 : (((les 1 (iota p)).drop (1 * i)).take 1)[0]? = (le 1 (iota p)[i].toNat)[0]? := by rw [h1]
      rw [List.getElem?_take, if_pos (by omega), List.getElem?_drop, Nat.one_mul, Nat.add_zero, List.getElem?_eq_getElem (by omega), List.getElem?_eq_getElem (by simp)] at h3
      injection h3
    rw [h2, le_get, iota_get]
    simp
  · rw [if_neg hip, List.getElem_append_right (by omega), List.getElem_drop, List.getElem_replicate]

set_option maxRecDepth 100000 in
set_option maxHeartbeats 2000000 in
theorem walk_bad (x y bad : Int) (w : World) (hx : (Lit.int .i64 x).wf = true) (hy : (Lit.int .i64 y).wf = true) (hb : bad < 0 ∨ 255 < bad) :
    Calls Try.prog 4 #[.int .i64 x, .int .i64 y, .int .i64 bad] w fun e w' => e = .returned (.bool true) ∧ Only [] w w' := by
  obtain ⟨i0, hi0, hz0, hz1, hz2⟩ := info_parts Try.infoInt
  have hk0 := Int.emod_nonneg x (show (20 : Int) ≠ 0 by decide)
  have hk1 := Int.emod_lt_of_pos x (show (0 : Int) < 20 by decide)
  have hm0 := Int.emod_nonneg y (show (20 : Int) ≠ 0 by decide)
  have hm1 := Int.emod_lt_of_pos y (show (0 : Int) < 20 by decide)
  obtain ⟨P, hk⟩ := Int.eq_ofNat_of_zero_le hk0
  obtain ⟨q, hm⟩ := Int.eq_ofNat_of_zero_le hm0
  have HK := Lib.hid hk
  have HM := Lib.hid hm
  have hp2 : P ≤ 19 := by omega
  have hq2 : q ≤ 19 := by omega
  have hfb : ¬ Fit 1 (iota P ++ [bad] ++ iota q) := fun h => by
    have := h bad (by simp)
    have h2 : bad < 256 := this.2
    omega
  have HFB := Lib.hid hfb
  have HF := Lib.hid (iota_fit (show P ≤ 20 by omega))
  clear hk0 hk1 hm0 hm1 hk hm hfb
  have hdd : (decide (0 ≤ bad) = false) ∨ (decide (0 ≤ bad) = true ∧ decide (bad ≤ 255) = false) := by simp; omega
  have hbb : Hid (bad < 0 ∨ 255 < bad) := hb
  clear hb
  rcases hdd with hd1 | ⟨hd1, hd2⟩
  all_goals
    go_enter Try.func4, Try.ntmps4
    go_wp2_with fail
    refine (round_any x 20 _ hx (by decide) (by decide)).mono ?_
    rintro e w' ⟨rfl, rfl⟩
    rw [HK.out]
    go_wp2_with fail
    refine (round_any y 20 _ hy (by decide) (by decide)).mono ?_
    rintro e w' ⟨rfl, rfl⟩
    rw [HM.out]
    go_wp2_with fail
    go_loopg [9, 10] P (fun r v i wr => ∃ j : Nat, j + r = P ∧ i = .int .i64 j ∧ Gath wr w.heap.size 3 v (ivs (iota j)) ∧ Only [] w wr)
    case atStart => exact ⟨0, by omega, rfl, Gath.nil _ _ _ (Nat.le_refl _), Only.refl _ _⟩
    obtain ⟨j, hj, rfl, hG, hO⟩ := hrel
    have HG := Lib.hid hG
    have HO := Lib.hid hO
    obtain ⟨A1, c1, rfl, hr1, hA1⟩ := hG.formN (n := j) (by simp [iota])
    have HLZ := Lib.hid (show (ivs (iota j)).length = j by simp [iota])
    clear hG hO hr1 hA1
    by_cases hlt : j < P
    · go_wp2_with (first
        | (at_builtin; refine wpList_append_row1 rfl (.tmp 31) (.tmp 33) 22 rfl w.heap.size 3 i0 _ 8 Try.underlying22 hi0 hz0 hz1 hz2 rfl (.slice A1 j c1) j (ivs (iota j)) rfl (HG.out.own ((Only.refl _ _).alloc _) HLZ.out) _ 1 1 (ivs [(j : Int)]) rfl (ins_new _ [(j : Int)] _ 1 rfl (by omega)) (ivs_one _) (by unfold maxLen; omega) (by omega) (HG.out.base_le ((Only.refl _ _).alloc _)) ?_; intro v1 w1 hown1 hgr1 hat1; have HW1 := Lib.hid (And.intro hown1 hgr1); clear hown1 hgr1 hat1))
      go_roundg (gk - 1)
      case measure => omega
      case rel =>
        have HGN := (HG.out.keep0 ((Only.refl [] wr).alloc (.cells #[Value.int IntKind.i64 (j : Int)] 3))).grown (HO.out.alloc _) rfl HW1.out.1 (by simp [iota]) HW1.out.2
        rw [← ivs_append, ← iota_succ] at HGN
        exact ⟨j + 1, by omega, by go_num, HGN.1, HGN.2⟩
    · obtain rfl : j = P := by omega
      clear hlt hj
      go_wp2_with (first
        | (at_builtin; refine wpList_append_row1 rfl (.tmp 35) (.tmp 37) 22 rfl w.heap.size 3 i0 _ 8 Try.underlying22 hi0 hz0 hz1 hz2 rfl (.slice A1 j c1) j (ivs (iota j)) rfl (HG.out.own ((Only.refl _ _).alloc _) HLZ.out) _ 1 1 (ivs [bad]) rfl (ins_new _ [bad] _ 1 rfl (by omega)) (ivs_one _) (by unfold maxLen; omega) (by omega) (HG.out.base_le ((Only.refl _ _).alloc _)) ?_; intro v1 w1 hown1 hgr1 hat1; have HW1 := Lib.hid (And.intro hown1 hgr1); clear hown1 hgr1 hat1))
      have HGN := (HG.out.keep0 ((Only.refl [] wr).alloc (.cells #[Value.int IntKind.i64 bad] 3))).grown (HO.out.alloc _) rfl HW1.out.1 (by simp [iota]) HW1.out.2
      rw [← ivs_append] at HGN
      have HG1 := Lib.hid HGN.1
      have HO1 := Lib.hid HGN.2
      clear HGN HG HO HW1 HLZ
      go_loopg [9, 11] q (fun r v i wr => ∃ t : Nat, t + r = q ∧ i = .int .i64 t ∧ Gath wr w.heap.size 3 v (ivs (iota j ++ [bad] ++ iota t)) ∧ Only [] w wr)
      case atStart => exact ⟨0, by omega, rfl, by simpa [iota] using HG1.out, HO1.out⟩
      obtain ⟨t, ht, rfl, hG, hO⟩ := hrel
      have HG := Lib.hid hG
      have HO := Lib.hid hO
      have hlz : (ivs (iota j ++ [bad] ++ iota t)).length = j + 1 + t := by simp [iota]; omega
      obtain ⟨A2, c2, rfl, hr2, hA2⟩ := hG.formN hlz
      have HLZ := Lib.hid hlz
      have HR2 := Lib.hid hr2
      have HA2 := Lib.hid hA2
      clear hG hO hr2 hA2 hlz HG1 HO1
      by_cases hlt : t < q
      · go_wp2_with (first
          | (at_builtin; refine wpList_append_row1 rfl (.tmp 44) (.tmp 46) 22 rfl w.heap.size 3 i0 _ 8 Try.underlying22 hi0 hz0 hz1 hz2 rfl (.slice A2 (j + 1 + t) c2) (j + 1 + t) (ivs (iota j ++ [bad] ++ iota t)) rfl (HG.out.own ((Only.refl _ _).alloc _) HLZ.out) _ 1 1 (ivs [(t : Int)]) rfl (ins_new _ [(t : Int)] _ 1 rfl (by omega)) (ivs_one _) (by unfold maxLen; omega) (by omega) (HG.out.base_le ((Only.refl _ _).alloc _)) ?_; intro v1 w1 hown1 hgr1 hat1; have HW1 := Lib.hid (And.intro hown1 hgr1); clear hown1 hgr1 hat1))
        go_roundg (gk - 1)
        case measure => omega
        case rel =>
          have HGN := (HG.out.keep0 ((Only.refl [] wr).alloc (.cells #[Value.int IntKind.i64 (t : Int)] 3))).grown (HO.out.alloc _) rfl HW1.out.1 (by simp [iota]; omega) HW1.out.2
          rw [← ivs_append, List.append_assoc (iota j ++ [bad]), ← iota_succ] at HGN
          exact ⟨t + 1, by omega, by go_num, HGN.1, HGN.2⟩
      · obtain rfl : t = q := by omega
        clear hlt ht
        go_wp2_with fail
        refine (new_any 100 _ (by decide) (by decide)).mono ?_
        rintro e w1 ⟨p, g, rfl, hp, hg, hr1, hO1⟩
        obtain ⟨zr, hzr⟩ : ∃ zr : List UInt8, zr = List.replicate (Int.toNat 100) 0 := ⟨_, rfl⟩
        rw [← hzr] at hr1
        have HZE := Lib.hid hzr
        have HZL : Hid (zr.length = 100) := Lib.hid (by rw [hzr, List.length_replicate]; rfl)
        have hR1 := Lib.hid hr1
        have HO1 := Lib.hid (HO.out.trans' hO1)
        have HRL := Lib.hid (HR2.out.keep0 hO1)
        have hswr := HO.out.size
        have hAL : ∀ a, A2 = some a → a.block < wr.heap.size := fun a ha => (HA2.out a ha).2
        have HAL := Lib.hid hAL
        have hc2 := HRL.out.le
        have hcm2 := HRL.out.cm
        unfold maxLen at hcm2
        clear hzr hr1 hO1 HG HO HR2 HA2 hAL
        go_wp2_with fail
        refine (put_bad p g 0 zr 1 A2 (j + 1 + t) c2 _ _ (by exact hR1.out) (by exact HRL.out) (by decide) (by rw [HZL.out]; omega) HFB.out).mono ?_
        rintro e w2 ⟨rfl, n2, rfl⟩
        have hR2 := Lib.hid (hR1.out.drewN n2)
        have HO2 := Lib.hid (HO1.out.drewN n2)
        have HRL2 := Lib.hid (HRL.out.drewN n2)
        clear hR1 HO1 HRL
        go_wp2_with fail
        refine (left_any p g 0 zr _ (by exact hR2.out)).mono ?_
        rintro e w3 ⟨rfl, n3, rfl⟩
        have hq2 : ((zr.length - 0 : Nat) : Int) = 100 := by rw [HZL.out]; rfl
        simp only [hq2]
        have hR3 := Lib.hid (hR2.out.drewN n3)
        have HO3 := Lib.hid (HO2.out.drewN n3)
        have HRL3 := Lib.hid (HRL2.out.drewN n3)
        rw [World.drewN_drewN] at hR3 HO3 HRL3
        clear hR2 HO2 HRL2 hq2
        go_wp2_with fail
        have hcut : Ins (w1.drewN (n2 + n3)) A2 j c2 (iota j) := by
          have := HRL3.out
          refine ⟨by simp [iota], by omega, by unfold maxLen; omega, fun h0 => ?_⟩
          obtain ⟨ga, oa, e, hc⟩ := this.at_ (by omega)
          refine ⟨ga, oa, e, fun i hi => ?_⟩
          have hi' : i < j := by simpa [iota] using hi
          have := hc i (by simp [iota]; omega)
          rw [this]
          simp only [ivs_get]
          rw [List.getElem_append_left (by simp [iota]; omega), List.getElem_append_left (by simp [iota]; omega)]
        have HCUT := Lib.hid hcut
        have hlp := hR3.out.lp
        clear hcut
        refine (put_any p g 0 zr 1 A2 j c2 (iota j) _ (by exact hR3.out) (by exact HCUT.out) (fun a ha => by have h1 := HAL.out a ha; exact ⟨by omega, by omega⟩) (by decide) (by rw [HZL.out]; omega) HF.out).mono ?_
        rintro e w4 ⟨rfl, hr4, hO4⟩
        have hX : (lay zr 0 (les 1 (iota j))).length = 100 := by rw [lay_length _ _ _ (by rw [les_length, iota_length, HZL.out]; omega)]; exact HZL.out
        have hXg : ∀ i (h : i < (lay zr 0 (les 1 (iota j))).length), (lay zr 0 (les 1 (iota j)))[i]'h = if i < j then UInt8.ofNat i else 0 := by
          rw [HZE.out]
          exact fun i h => bytes_get (Int.toNat 100) j i (by omega) h
        generalize lay zr 0 (les 1 (iota j)) = X at *
        have HX := Lib.hid hX
        have HXG := Lib.hid hXg
        have hR4 := Lib.hid hr4
        have hsz := HO3.out.size
        have HO4 := Lib.hid (HO3.out.trans hO4 (by simp; omega) : Only [] w w4)
        clear hr4 hO4 hX hXg HO3 hR3 HRL3 HCUT
        go_wp2_with fail
        refine (left_any p g _ X _ (by exact hR4.out)).mono ?_
        rintro e w5 ⟨rfl, n5, rfl⟩
        have hq2 : ((X.length - (0 + 1 * j) : Nat) : Int) = 100 - (j : Int) := by rw [HX.out]; omega
        simp only [hq2]
        have hR5 := Lib.hid (hR4.out.drewN n5)
        have HO5 := Lib.hid (HO4.out.drewN n5)
        clear hR4 HO4 hq2
        go_wp2_with fail
        refine (bytes_any p g _ X _ (by exact hR5.out)).mono ?_
        rintro e w6 ⟨A6, c6, rfl, hc6, hm6, hpos6, hO6⟩
        obtain ⟨g6, rfl, hg6, ho6⟩ := hpos6 (by rw [HX.out]; omega)
        have HO6 := Lib.hid (HO5.out.trans' hO6)
        have HOW := Lib.hid ho6
        have hXl := HX.out
        rw [hXl] at hc6
        rw [hXl]
        clear hpos6 hO6 ho6 HO5 hR5 hXl
        unfold maxLen at hm6
        go_wp2_with fail
        go_loopg [14] 100 (fun r i wr => ∃ t : Nat, t + r = 100 ∧ i = .int .i64 t ∧ wr = w6)
        case atStart => exact ⟨0, by omega, rfl, rfl⟩
        obtain ⟨u, hu, rfl, rfl⟩ := hrel
        by_cases hlt : u < 100
        · have hc := HOW.out.cell u (by simp; have := HX.out; omega)
          rw [bvs_get, HXG.out u (by have := HX.out; omega)] at hc
          by_cases huj : u < j
          · rw [if_pos huj] at hc
            have e1 : (((UInt8.ofNat u).toNat : Nat) : Int) = (u : Int) := by rw [UInt8.toNat_ofNat']; omega
            rw [e1] at hc
            have hd5 : ((u : Int) != (u : Int)) = false := by simp
            clear e1
            go_wp2
            go_roundg (gk - 1)
            case measure => omega
            case rel => exact ⟨u + 1, by omega, by go_num, rfl⟩
          · rw [if_neg huj] at hc
            have e1 : (((0 : UInt8).toNat : Nat) : Int) = 0 := rfl
            rw [e1] at hc
            clear e1
            have hge : (j : Int) ≤ (u : Int) := by omega
            go_wp2
            go_roundg (gk - 1)
            case measure => omega
            case rel => exact ⟨u + 1, by omega, by go_num, rfl⟩
        · obtain rfl : u = 100 := by omega
          clear hlt hu
          go_wp2_with fail
          refine (awake1 _).mono ?_
          rintro e w8 ⟨rfl, hO8⟩
          have HO8 := Lib.hid (HO6.out.trans' hO8)
          clear hO8
          go_wp2
          go_ret
          exact ⟨rfl, HO8.out⟩

set_option maxRecDepth 100000 in
set_option maxHeartbeats 1000000 in
theorem walk_short (x y bad : Int) (w : World) (hx : (Lit.int .i64 x).wf = true) (hy : (Lit.int .i64 y).wf = true) (h0 : 0 ≤ bad) (h1 : bad ≤ 255) :
    Calls Try.prog 4 #[.int .i64 x, .int .i64 y, .int .i64 bad] w fun e w' => e = .returned (.bool true) ∧ Only [] w w' := by
  go_enter Try.func4, Try.ntmps4
  go_wp2_with fail
  refine (round_any x 20 _ hx (by decide) (by decide)).mono ?_
  rintro e w' ⟨rfl, rfl⟩
  go_wp2_with fail
  refine (round_any y 20 _ hy (by decide) (by decide)).mono ?_
  rintro e w' ⟨rfl, rfl⟩
  go_wp2_with fail
  refine (awake1 _).mono ?_
  rintro e w8 ⟨rfl, hO8⟩
  go_wp2
  go_ret
  exact ⟨rfl, hO8⟩

theorem walk (a0 a1 a2 : Int) (w : World) (w0 : (Lit.int .i64 a0).wf = true) (w1 : (Lit.int .i64 a1).wf = true) (w2 : (Lit.int .i64 a2).wf = true) :
    Calls Try.prog 4 #[.int .i64 a0, .int .i64 a1, .int .i64 a2] w fun e w' => e = .returned (.bool true) ∧ Below w.heap.size w w' := by
  have done : ∀ e w', (e = .returned (.bool true) ∧ Only [] w w') → e = Ending.returned (.bool true) ∧ Below w.heap.size w w' := fun e w' h => ⟨h.1, h.2.below0⟩
  by_cases h : 0 ≤ a2 ∧ a2 ≤ 255
  · exact (walk_short a0 a1 a2 w w0 w1 h.1 h.2).mono done
  · exact (walk_bad a0 a1 a2 w w0 w1 (by omega)).mono done
-- FRAME: walk : (a0 : Int) (a1 : Int) (a2 : Int) (w : World) (w0 : (Lit.int .i64 a0).wf = true) (w1 : (Lit.int .i64 a1).wf = true) (w2 : (Lit.int .i64 a2).wf = true) : Calls Try.prog 4 #[.int .i64 a0, .int .i64 a1, .int .i64 a2] w fun e w' => e = .returned (.bool true) ∧ Below w.heap.size w w'

set_option maxRecDepth 100000 in
theorem lifted (os : Os) (started : os.Started) (H : Type) (enc : TypeId × Value → H) :
    ReturnsInHanded {} Try.checked os 4 .any (Rows.rowSpoiltSpec.pre6 enc Try.prog Try.f4 Rows.rowSpoiltRow.domain false) (Rows.rowSpoiltSpec.post enc Try.prog Try.f4 false true false false) := by
  refine returnsInHanded_of_change (C := Try.checked) own started (by kernel_rfl) Try.func4
    (ChangeSpec.witness6 (enc := enc) (C := Try.checked) false ⟨#[], #[.int .i64 0, .int .i64 0, .int .i64 0], []⟩ 8 (by kernel_rfl) (by kernel_rfl) (by kernel_rfl) (by kernel_rfl)) ?_
  intro W base args ds gs before hval0 hW hcnd _
  have hval : ∀ (j : Nat) t v, Try.f4.params[j]? = some t → args[j]? = some v → Value.okWide Try.prog W .any base t v := hval0
  have hW' := hW
  obtain ⟨p, q, hA0, hV, rfl, hfz, hnd⟩ := hW
  have hA : DataW.TrodAll enc Try.prog W 0 (fun _ => true) true Try.f4.params.toList args.toList ds p := hA0
  rw [Try.params4] at hA hval
  obtain ⟨v0, vs0, d0, ds0, p0, q0, hargs, rfl, rfl, h0, r0⟩ := trodAll_cons hA
  obtain ⟨v1, vs1, d1, ds1, p1, q1, rfl, rfl, rfl, h1, r1⟩ := trodAll_cons r0
  obtain ⟨v2, vs2, d2, ds2, p2, q2, rfl, rfl, rfl, h2, r2⟩ := trodAll_cons r1
  obtain ⟨rfl, rfl, rfl⟩ := trodAll_nil r2
  obtain rfl : args = #[v0, v1, v2] := by cases args; simp_all
  obtain ⟨rfl, rfl⟩ := trodVars_none hV
  obtain ⟨a0, rfl, rfl, rfl, w0⟩ := open_int Try.underlying3 (hval 0 3 v0 rfl rfl) h0
  obtain ⟨a1, rfl, rfl, rfl, w1⟩ := open_int Try.underlying3 (hval 1 3 v1 rfl rfl) h1
  obtain ⟨a2, rfl, rfl, rfl, w2⟩ := open_int Try.underlying3 (hval 2 3 v2 rfl rfl) h2
  clear hA0 hval0
  refine (walk a0 a1 a2 W w0 w1 w2).mono fun e W' ⟨he, bel⟩ => ?_
  subst he
  exact ⟨_, rfl, _, _, _, [], _, [], hW', trodAll_mk1 (shut_bool Try.underlying4 _), (trodAll_cons_mk (shut_int Try.underlying3 w0) (trodAll_cons_mk (shut_int Try.underlying3 w1) (trodAll_cons_mk (shut_int Try.underlying3 w2) trodAll_mk0))), rfl, bel.frame _, fun h => by cases h⟩

theorem over : Rows.rowSpoiltRow.holds Try.pinned (OpenSpec.ofChange Rows.rowSpoiltSpec) :=
  OpenClaim.holds_of_wide 4 Try.f4 rfl rfl rfl rfl rfl rfl rfl ⟨rfl, rfl, rfl, rfl, rfl⟩ rfl rfl rfl rfl rfl (by kernel_rfl) Try.func4 (by kernel_rfl)
    (of_decide_eq_true (by kernel_rfl)) (by unfold Func.isWrapper; first | (rw [if_pos (by decide +kernel)]; kernel_rfl) | (rw [if_neg (by decide +kernel)]; exact ⟨rfl, rfl⟩))
    (fun os started H enc _ => lifted os started H enc)

theorem proved : Rows.RowSpoiltSaid := over

end Go.Proofs.Ytcojleippbneoaa.rowSpoilt
