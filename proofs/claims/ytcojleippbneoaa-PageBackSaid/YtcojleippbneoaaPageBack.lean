/- Claim PageBack. -/
import Derived.Test.YtcojleippbneoaaLaw10A
import Derived.Test.YtcojleippbneoaaPageR
import Derived.Test.YtcojleippbneoaaTurnW
import Derived.Test.YtcojleippbneoaaFrame
set_option linter.unusedVariables false
namespace Go.Kn
open Go Go.RowKit
/-- a ref that may be, of a number -/
def mkRef (z : Int) : Int := z % 4097 - 1
theorem mkRefs_may (zs : List Int) : (zs.map mkRef).all refMay = true := by
  rw [List.all_eq_true]
  intro x hx
  obtain ⟨z, _, rfl⟩ := List.mem_map.1 hx
  unfold refMay mkRef
  simp
  omega
end Go.Kn
namespace Go.Proofs.Ytcojleippbneoaa.pageBack
open Go Go.RowKit Go.Kn Go.ChangeShapes Go.WideShapes Go.ChangeAt

set_option maxRecDepth 100000 in
set_option maxHeartbeats 4000000 in
theorem back (A : Option Addr) (n c : Nat) (zs : List Int) (at_ : Int) (pat : Nat) (w : World) (hi : Ins w A n c zs) (hwf : ∀ z ∈ zs, (Lit.int .i64 z).wf = true) (ha : (Lit.int .i64 at_).wf = true) (hp : pat < 4294967296) :
    Calls Try.prog 12 #[.slice A n c, .int .i64 at_, .int .u32 pat] w fun e w' => e = .returned (.bool true) ∧ Only [] w w' := by
  obtain ⟨i0, hi0, hz0, hz1, hz2⟩ := info_parts Try.infoInt
  have hlen := hi.len
  rw [ivs_length] at hlen
  have hcm := hi.cm
  have hcl := hi.le
  unfold maxLen at hcm
  have HI := Lib.hid hi
  have HL := Lib.hid hlen
  have HWF := Lib.hid hwf
  clear hi hlen hwf
  by_cases h15 : n ≤ 15
  · have hd15 : decide (15 < (n : Int)) = false := by simp; omega
    go_enter Try.func12, Try.ntmps12
    go_wp2_with fail
    go_loopg [7, 8] n (fun r v i wr => ∃ j : Nat, j + r = n ∧ i = .int .i64 j ∧ Gath wr w.heap.size 3 v (ivs ((zs.take j).map mkRef)) ∧ Only [] w wr)
    case atStart => exact ⟨0, by omega, rfl, Gath.nil _ _ _ (Nat.le_refl _), Only.refl _ _⟩
    obtain ⟨j, hj, rfl, hG, hO⟩ := hrel
    have hlj : (ivs ((zs.take j).map mkRef)).length = j := by simp; rw [HL.out]; omega
    obtain ⟨Al, cl, rfl, hits, hown⟩ := hG.formN (n := j) hlj
    have HG := Lib.hid hG
    have HO := Lib.hid hO
    have HITS := Lib.hid hits
    have HLJ := Lib.hid hlj
    clear hG hO hits hown hlj
    by_cases hlt : j < n
    · have hjz : j < zs.length := by rw [HL.out]; exact hlt
      obtain ⟨a, o, rfl, hc⟩ := HI.out.at_ (by omega)
      have q0 := hc j (by simpa using hjz)
      rw [ivs_get] at q0
      have c0 := HO.out.cell q0 (by simp)
      have HZW := Lib.hid (HWF.out zs[j] (List.getElem_mem _))
      have hsn : (zs.take (j + 1)).map mkRef = (zs.take j).map mkRef ++ [zs[j] % 4097 - 1] := by rw [List.take_succ_eq_append_getElem hjz, List.map_append]; rfl
      have HSN := Lib.hid hsn
      have hx2 : (j : Int) < (n : Int) := by omega
      have hx1 : 0 ≤ (j : Int) := by omega
      have htn : ((j : Int)).toNat = j := by omega
      clear hc q0 hsn
      generalize zs[j] = z at *
      generalize (zs.take j).map mkRef = l at *
      go_wp2_with fail
      refine (round_any z 4097 _ HZW.out (by decide) (by decide)).mono ?_
      rintro e w' ⟨rfl, rfl⟩
      have hm0 : 0 ≤ z % 4097 := Int.emod_nonneg _ (by decide)
      have hm1 : z % 4097 < 4097 := Int.emod_lt_of_pos _ (by decide)
      generalize z % 4097 = m at *
      go_wp2_with (first
        | (at_builtin; refine wpList_append_row1 rfl (.tmp 29) (.tmp 36) 22 rfl w.heap.size 3 i0 _ 8 Try.underlying22 hi0 hz0 hz1 hz2 rfl (.slice Al j cl) j (ivs l) rfl (HG.out.own ((Only.refl _ _).alloc _) HLJ.out) _ 1 1 (ivs [m - 1]) rfl (ins_built _ [m - 1] _ 1 rfl (by omega)) (ivs_one _) (by unfold maxLen; omega) (by omega) (HG.out.base_le ((Only.refl _ _).alloc _)) ?_; intro v1 w3 hown1 hgr1 hat1)
        | fail)
      go_roundg (gk - 1)
      case measure => omega
      case rel =>
        have hG7 := HG.out.keep0 ((Only.refl [] wr).alloc (.cells #[.int .i64 (m - 1)] 3))
        obtain ⟨hG9, hO9⟩ := hG7.grown (HO.out.alloc (.cells #[.int .i64 (m - 1)] 3)) rfl hown1 (by rw [List.length_append, HLJ.out, ivs_length]; rfl) hgr1
        rw [← ivs_snoc] at hG9
        exact ⟨j + 1, by omega, by go_num, by rw [HSN.out]; exact hG9, hO9⟩
    · obtain rfl : j = n := by omega
      have htk : zs.take j = zs := List.take_of_length_le (by rw [HL.out]; omega)
      obtain ⟨b, hb1, hb2, hb3, hb4⟩ := page_back (l := zs.map mkRef) (by rw [List.length_map, HL.out]; exact h15) (mkRefs_may zs)
      have hits := HITS.out
      rw [htk] at hits
      have hpl : (padR (zs.map mkRef)).length = 15 := padR_length (by rw [List.length_map, HL.out]; exact h15)
      have HPG := Lib.hid (fun i hi => padR_get (l := zs.map mkRef) (by rw [List.length_map, HL.out]; exact h15) i hi)
      have hll : (zs.map mkRef).length = j := by rw [List.length_map, HL.out]
      generalize zs.map mkRef = l at *
      have HITS := Lib.hid hits
      have HLL := Lib.hid hll
      have HPL := Lib.hid hpl
      have HB1 := Lib.hid hb1
      have HB2 := Lib.hid hb2
      have HB3 := Lib.hid hb3
      have HB4 := Lib.hid hb4
      clear hits hll hpl hb1 hb2 hb3 hb4 htk HG HLJ
      go_wp2_with fail
      refine (page_enc_any Al j cl l _ (by exact HITS.out)).mono ?_
      rintro e w2 ⟨A2, c2, rfl, hbb, _, hO2⟩
      rw [HB1.out] at hbb
      rw [HB1.out]
      simp only [Option.getD_some, Option.isSome_some, if_true, HB2.out] at hbb ⊢
      have HX2 := Lib.hid hbb
      have HO2 := Lib.hid (HO.out.trans' hO2)
      have HI2 := Lib.hid (HITS.out.keep0 hO2)
      clear hbb hO2
      go_wp2_with fail
      refine (page_dec_any A2 64 c2 b _ (by exact HX2.out) (by decide)).mono ?_
      rintro e w3 ⟨A3, c3, rfl, hb3, hO3⟩
      rw [HB4.out] at hb3
      rw [HB4.out]
      simp only [Option.getD_some, Option.isSome_some, if_true, HPL.out] at hb3 ⊢
      have HX3 := Lib.hid hb3
      have HX23 := Lib.hid (HX2.out.keep0 hO3)
      have HI3 := Lib.hid (HI2.out.keep0 hO3)
      have HO3 := Lib.hid (HO2.out.trans' hO3)
      clear hb3 hO3
      go_wp2_with fail
      go_loopg [13] 15 (fun r i wr => ∃ t : Nat, t + r = 15 ∧ i = .int .i64 t ∧ wr = w3)
      case atStart => exact ⟨0, by omega, rfl, rfl⟩
      obtain ⟨t, ht, rfl, rfl⟩ := hrel
      by_cases ht15 : t < 15
      · obtain ⟨g3, o3, e3, hc3⟩ := HX3.out.at_ (by omega)
        have q0 := hc3 t (by rw [ivs_length, HPL.out]; exact ht15)
        have hpg := HPG.out t ht15
        obtain ⟨u, hu⟩ : ∃ u, (padR l)[t]? = some u := ⟨_, hpg⟩
        have q1 : wr.cell? ⟨g3, o3 + t, none⟩ = some (.int .i64 u) := by
          rw [q0]
          have := (List.getElem?_eq_some_iff.1 hu).2
          simp [this]
        rw [hu] at hpg
        injection hpg with hpg
        subst e3
        have hx2 : (t : Int) < 15 := by omega
        have hx1 : 0 ≤ (t : Int) := by omega
        have htn : ((t : Int)).toNat = t := by omega
        by_cases htj : t < j
        · obtain ⟨gl, ol, el, hcl2⟩ := HI3.out.at_ (by omega)
          have q2 := hcl2 t (by rw [ivs_length, HLL.out]; exact htj)
          rw [ivs_get] at q2
          rw [if_pos (by rw [HLL.out]; exact htj), List.getD_eq_getElem?_getD, List.getElem?_eq_getElem (by rw [HLL.out]; exact htj), Option.getD_some] at hpg
          rw [← hpg] at q2
          subst el
          have hx3 : (t : Int) < (j : Int) := by omega
          clear hpg hu q0 hc3 hcl2 HPG
          go_wp2_with fail
          go_roundg (gk - 1)
          case measure => omega
          case rel => exact ⟨t + 1, by omega, by go_num, rfl⟩
        · rw [if_neg (by rw [HLL.out]; exact htj)] at hpg
          subst hpg
          have hx3 : ¬ (t : Int) < (j : Int) := by omega
          clear hu q0 hc3 HPG
          go_wp2_with fail
          go_roundg (gk - 1)
          case measure => omega
          case rel => exact ⟨t + 1, by omega, by go_num, rfl⟩
      · obtain rfl : t = 15 := by omega
        have hf : at_ % ((8 * 60 : Nat) : Int) = (at_ % 480).toNat := by
          have h0 : 0 ≤ at_ % 480 := Int.emod_nonneg _ (by decide)
          have h1 : ((8 * 60 : Nat) : Int) = 480 := rfl
          rw [h1]
          omega
        generalize (at_ % 480).toNat = first at *
        have HF := Lib.hid hf
        clear hf HPG
        go_wp2_with fail
        refine (turned_any A2 64 c2 b 60 at_ first pat _ (by exact HX23.out) (by decide) (by decide) (by decide) ha HF.out hp).mono ?_
        rintro e w4 ⟨g4, rfl, hg4, ho4, hO4⟩
        have HT : Hid (Bys w4 (some ⟨g4, 0, none⟩) 64 64 (turnB b first (8 * 60) pat 32)) := Lib.hid (Row1.of_Own ho4 (by rw [bvs_length, turnB_length]; exact HB2.out) (Nat.le_refl _) (by unfold maxLen; omega))
        have HO4 := Lib.hid (HO3.out.trans' hO4)
        clear ho4 hO4
        cases hany : turnA first (8 * 60) pat 32
        · have hY := turnB_none b first (8 * 60) pat 32 hany
          have HD : Hid (decPage (turnB b first (8 * 60) pat 32) = some (padR l)) := Lib.hid (by rw [hY]; exact HB4.out)
          clear hY
          generalize turnB b first (8 * 60) pat 32 = Y at *
          go_wp2_with fail
          refine (page_dec_any _ 64 64 Y _ (by exact HT.out) (by decide)).mono ?_
          rintro e w5 ⟨A5, c5, rfl, _, hO5⟩
          rw [HD.out]
          simp only [Option.getD_some, Option.isSome_some, if_true]
          have HO5 := Lib.hid (HO4.out.trans' hO5)
          clear hO5
          go_wp2_with fail
          refine (awake10 _).mono ?_
          rintro e w7 ⟨rfl, hO7⟩
          have HO7 := Lib.hid (HO5.out.trans' hO7)
          go_wp2
          go_ret
          exact ⟨rfl, HO7.out⟩
        · have HD : Hid (decPage (turnB b first (8 * 60) pat 32) = none) := Lib.hid (page_turned HB2.out HB3.out hany)
          generalize turnB b first (8 * 60) pat 32 = Y at *
          go_wp2_with fail
          refine (page_dec_any _ 64 64 Y _ (by exact HT.out) (by decide)).mono ?_
          rintro e w5 ⟨A5, c5, rfl, _, hO5⟩
          rw [HD.out]
          simp only [Option.getD_none, Option.isSome_none, List.length_nil]
          have HO5 := Lib.hid (HO4.out.trans' hO5)
          clear hO5
          go_wp2_with fail
          refine (awake10 _).mono ?_
          rintro e w7 ⟨rfl, hO7⟩
          have HO7 := Lib.hid (HO5.out.trans' hO7)
          go_wp2
          go_ret
          exact ⟨rfl, HO7.out⟩
  · have hd15 : decide (15 < (n : Int)) = true := by simp; omega
    go_enter Try.func12, Try.ntmps12
    go_wp2_with fail
    refine (awake10 _).mono ?_
    rintro e w7 ⟨rfl, hO7⟩
    go_wp2
    go_ret
    exact ⟨rfl, hO7⟩

theorem walk (a0 : Option Addr) (len0 cap0 : Nat) (z0 : List Int) (a1 : Int) (a2 : Int) (w : World) (w0 : IsRow .i64 w a0 len0 cap0 z0) (w1 : (Lit.int .i64 a1).wf = true) (w2 : (Lit.int .u32 a2).wf = true) : Calls Try.prog 12 #[.slice a0 len0 cap0, .int .i64 a1, .int .u32 a2] w fun e w' => e = .returned (.bool true) ∧ Below w.heap.size w w' := by
  have hx : 0 ≤ a2 ∧ a2 ≤ 4294967295 := by simpa [Lit.wf, IntKind.min, IntKind.max, IntKind.signed, IntKind.bits] using w2
  obtain ⟨p, rfl⟩ : ∃ p : Nat, a2 = p := ⟨a2.toNat, by omega⟩
  refine (back a0 len0 cap0 (z0.take len0) a1 p w w0.ins w0.wf w1 (by omega)).mono ?_
  rintro e w' ⟨rfl, hO⟩
  exact ⟨rfl, hO.below0⟩
-- FRAME: walk : (a0 : Option Addr) (len0 cap0 : Nat) (z0 : List Int) (a1 : Int) (a2 : Int) (w : World) (w0 : IsRow .i64 w a0 len0 cap0 z0) (w1 : (Lit.int .i64 a1).wf = true) (w2 : (Lit.int .u32 a2).wf = true) : Calls Try.prog 12 #[.slice a0 len0 cap0, .int .i64 a1, .int .u32 a2] w fun e w' => e = .returned (.bool true) ∧ Below w.heap.size w w'

set_option maxRecDepth 100000 in
theorem lifted (os : Os) (started : os.Started) (H : Type) (enc : TypeId × Value → H) :
    ReturnsInHanded {} Try.checked os 12 .any (Rows.pageBackSpec.pre6 enc Try.prog Try.f12 Rows.pageBackRow.domain false) (Rows.pageBackSpec.post enc Try.prog Try.f12 false true false false) := by
  refine returnsInHanded_of_change (C := Try.checked) own started (by kernel_rfl) Try.func12
    (ChangeSpec.witness6 (enc := enc) (C := Try.checked) false ⟨#[], #[.slice none 0 0, .int .i64 0, .int .u32 0], []⟩ 8 (by kernel_rfl) (by kernel_rfl) (by kernel_rfl) (by kernel_rfl)) ?_
  intro W base args ds gs before hval0 hW hcnd _
  have hval : ∀ (j : Nat) t v, Try.f12.params[j]? = some t → args[j]? = some v → Value.okWide Try.prog W .any base t v := hval0
  have hW' := hW
  obtain ⟨p, q, hA0, hV, rfl, hfz, hnd⟩ := hW
  have hA : DataW.TrodAll enc Try.prog W 0 (fun _ => true) true Try.f12.params.toList args.toList ds p := hA0
  rw [Try.params12] at hA hval
  obtain ⟨v0, vs0, d0, ds0, p0, q0, hargs, rfl, rfl, h0, r0⟩ := trodAll_cons hA
  obtain ⟨v1, vs1, d1, ds1, p1, q1, rfl, rfl, rfl, h1, r1⟩ := trodAll_cons r0
  obtain ⟨v2, vs2, d2, ds2, p2, q2, rfl, rfl, rfl, h2, r2⟩ := trodAll_cons r1
  obtain ⟨rfl, rfl, rfl⟩ := trodAll_nil r2
  obtain rfl : args = #[v0, v1, v2] := by cases args; simp_all
  obtain ⟨rfl, rfl⟩ := trodVars_none hV
  obtain ⟨a0, len0, cap0, rfl⟩ := okWide_slice Try.underlying22 (hval 0 22 v0 rfl rfl)
  have k0 := h0
  have lt0 : ∀ x ∈ p0, x.block < W.heap.size := by obtain ⟨m, hm⟩ := k0; exact DataW.trod_lt m _ _ _ hm
  obtain ⟨z0, w0⟩ : ∃ zs, IsRow .i64 W a0 len0 cap0 zs := by
    obtain ⟨fuel, hf⟩ := h0
    rcases open_ints Try.underlying22 Try.underlying3 (by kernel_rfl) hf with ⟨hcs, _⟩ | ⟨x, l, c, zs, hcs, _, hl, hm, hz, _, hcell, hwz⟩
    · simp [Value.cells] at hcs
      obtain ⟨rfl, rfl, rfl⟩ := hcs
      exact ⟨[], .inl ⟨rfl, rfl, rfl, rfl⟩⟩
    · simp [Value.cells] at hcs
      obtain ⟨rfl, rfl, rfl⟩ := hcs
      exact ⟨zs, .inr ⟨_, rfl, hl, hm, by simpa using hz, hcell, hwz⟩⟩
  obtain ⟨a1, rfl, rfl, rfl, w1⟩ := open_int Try.underlying3 (hval 1 3 v1 rfl rfl) h1
  obtain ⟨a2, rfl, rfl, rfl, w2⟩ := open_int Try.underlying78 (hval 2 78 v2 rfl rfl) h2
  clear hA0 hval0
  refine (walk a0 len0 cap0 z0 a1 a2 W w0 w1 w2).mono fun e W' ⟨he, bel⟩ => ?_
  subst he
  exact ⟨_, rfl, _, _, _, [], _, [], hW', trodAll_mk1 (shut_bool Try.underlying4 _), (trodAll_cons_mk (Below.trod laidOut (by kernel_rfl) (of_decide_eq_true (by kernel_rfl)) k0 bel lt0) (trodAll_cons_mk (shut_int Try.underlying3 w1) (trodAll_cons_mk (shut_int Try.underlying78 w2) trodAll_mk0))), rfl, bel.frame _, fun h => by cases h⟩

theorem over : Rows.pageBackRow.holds Try.pinned (OpenSpec.ofChange Rows.pageBackSpec) :=
  OpenClaim.holds_of_wide 12 Try.f12 rfl rfl rfl rfl rfl rfl rfl ⟨rfl, rfl, rfl, rfl, rfl⟩ rfl rfl rfl rfl rfl (by kernel_rfl) Try.func12 (by kernel_rfl)
    (of_decide_eq_true (by kernel_rfl)) (by unfold Func.isWrapper; first | (rw [if_pos (by decide +kernel)]; kernel_rfl) | (rw [if_neg (by decide +kernel)]; exact ⟨rfl, rfl⟩))
    (fun os started H enc _ => lifted os started H enc)

theorem proved : Rows.PageBackSaid := over

end Go.Proofs.Ytcojleippbneoaa.pageBack
