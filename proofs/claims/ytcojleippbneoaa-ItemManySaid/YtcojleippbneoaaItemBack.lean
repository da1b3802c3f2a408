/- Claim ItemBack. -/
import Derived.Test.YtcojleippbneoaaLaw6B
import Derived.Test.YtcojleippbneoaaItemR
import Derived.Test.YtcojleippbneoaaFrameQ
set_option linter.unusedVariables false
namespace Go.Kn
open Go Go.RowKit
/-- the items made of quads -/
def mades (l : List It) : List It := l.map fun i => madeIt i.k i.b i.c i.v
@[simp] theorem mades_length (l : List It) : (mades l).length = l.length := by simp [mades]
theorem mades_may (l : List It) : (mades l).all It.may = true := by
  simp only [mades, List.all_map, List.all_eq_true]
  intro i _
  exact madeIt_may _ _ _ _
theorem mades_succ {l : List It} {j : Nat} (h : j < l.length) : (mades l).take (j + 1) = (mades l).take j ++ [madeIt l[j].k l[j].b l[j].c l[j].v] := by
  rw [List.take_succ_eq_append_getElem (by simpa using h)]
  simp [mades]
theorem Row1.pre {w : World} {A : Option Addr} {n c k : Nat} {xs : List Value} (h : Row1 w A n c xs) (hk : k ≤ n) : Row1 w A k c (xs.take k) := by
  have hl := h.len
  refine ⟨by rw [List.length_take]; omega, Nat.le_trans hk h.le, h.cm, fun h0 => ?_⟩
  obtain ⟨g, o, e, hc⟩ := h.at_ (by omega)
  refine ⟨g, o, e, fun i hi => ?_⟩
  rw [List.length_take] at hi
  rw [List.getElem_take]
  exact hc i (by omega)
theorem Its.pre {w : World} {A : Option Addr} {n c k : Nat} {xs : List It} (h : Its w A n c xs) (hk : k ≤ n) : Its w A k c (xs.take k) := by
  have hl := h.len
  refine ⟨by rw [List.length_take]; omega, Nat.le_trans hk h.le, h.cm, fun h0 => ?_⟩
  obtain ⟨g, o, e, hc⟩ := h.at_ (by omega)
  refine ⟨g, o, e, fun i hi => ?_⟩
  rw [List.length_take] at hi
  rw [List.getElem_take]
  exact hc i (by omega)
theorem itsV_take_one (i : It) : itsV [i] = i.vals.toList := by simp [itsV]
end Go.Kn
namespace Go.Proofs.Ytcojleippbneoaa.itemBack
open Go Go.RowKit Go.Kn Go.ChangeShapes Go.WideShapes Go.ChangeAt

set_option maxRecDepth 100000 in
set_option maxHeartbeats 4000000 in
theorem back (A : Option Addr) (n c : Nat) (l : List It) (cut : Int) (w : World) (hi : Its w A n c l) (hwf : ∀ i (hi : i < l.length), Wf4 l[i]) (hcw : (Lit.int .i64 cut).wf = true) :
    Calls Try.prog 9 #[.slice A n c, .int .i64 cut] w fun e w' => e = .returned (.bool true) ∧ Only [] w w' := by
  obtain ⟨i0, hi0, hz0, hz1, hz2⟩ := info_parts Try.infoItem
  have hle := hi.le
  have hcm := hi.cm
  have hlen := hi.len
  unfold maxLen at hcm
  have HI := Lib.hid hi
  have HL := Lib.hid hlen
  have HW := Lib.hid hwf
  clear hi hlen hwf
  by_cases h20 : n ≤ 6
  · have hd20 : decide (6 < (n : Int)) = false := by simp; omega
    go_enter Try.func9, Try.ntmps9
    go_wp2_with fail
    go_loopg [5, 6] n (fun r v i wr => ∃ j : Nat, j + r = n ∧ i = .int .i64 j ∧ GathN wr w.heap.size 53 4 v j (itsV ((mades l).take j)) ∧ Only [] w wr)
    case atStart => exact ⟨0, by omega, rfl, GathN.nil _ _ _ _ (Nat.le_refl _), Only.refl _ _⟩
    obtain ⟨j, hj, rfl, hG, hO⟩ := hrel
    have HG := Lib.hid hG
    have HO := Lib.hid hO
    clear hG hO
    by_cases hlt : j < n
    · have hjz : j < l.length := by rw [HL.out]; exact hlt
      obtain ⟨Al, cl, rfl, hits, hown⟩ := HG.out.its (by simp; omega)
      obtain ⟨a, o, rfl, hc⟩ := HI.out.at_ (by omega)
      obtain ⟨q0, q1, q2, q3⟩ := hc j hjz
      have c0 := HO.out.cell q0 (by simp)
      have c1 := HO.out.cell q1 (by simp)
      have c2 := HO.out.cell q2 (by simp)
      have c3 := HO.out.cell q3 (by simp)
      have HSU := Lib.hid (mades_succ hjz)
      have hwj := HW.out j hjz
      have HWJ := Lib.hid hwj
      clear hc q0 q1 q2 q3 hwj hits hown
      unfold Wf4 at HWJ
      generalize l[j].k = z0 at *
      generalize l[j].b = z1 at *
      generalize l[j].c = z2 at *
      generalize l[j].v = z3 at *
      have hlt2 : (j : Int) < (n : Int) := by omega
      have hge : 0 ≤ (j : Int) := by omega
      have htn : ((j : Int)).toNat = j := by omega
      go_wp2_with fail
      refine (made_any z0 z1 z2 z3 _ HWJ.out.1 HWJ.out.2.1 HWJ.out.2.2.1 HWJ.out.2.2.2).mono ?_
      rintro e w3 ⟨rfl, hO3⟩
      have HO3 := Lib.hid (HO.out.trans' hO3)
      have HG3 := Lib.hid (HG.out.keep0 hO3)
      clear hO3 HO HG c0 c1 c2 c3
      generalize madeIt z0 z1 z2 z3 = it at *
      obtain ⟨x0, x1, x2, x3⟩ := it
      simp only [It.vals]
      have hnw := news_new w3 #[.int .i64 x0, .int .i64 x1, .int .i64 x2, .int .i64 x3] 53 (by simp [maxLen])
      have hone := itsV_one [⟨x0, x1, x2, x3⟩]
      have hbase := HO3.out.size
      go_wp2_with (first
        | (at_builtin; refine wpList_append_own_at _ rfl (.tmp 24) (.tmp 30) 50 rfl w.heap.size 53 i0 _ 4 32 Try.underlying50 hi0 hz0 hz1 hz2 rfl (by decide) (.slice Al j cl) j (itsV ((mades l).take j)) rfl ((HG3.out.keep0 ((Only.refl _ _).alloc _)).1) ⟨w3.heap.size, 0, none⟩ 1 1 (itsV [⟨x0, x1, x2, x3⟩]) rfl rfl hnw hone (by unfold maxLen; omega) (by omega) (by simp; omega) ?_; intro v' w9 hown hgrow _ hat)
        | fail)
      go_roundg (gk - 1)
      case measure => omega
      case rel =>
        have hO7 : Only [] w (w3.alloc (.cells #[.int .i64 x0, .int .i64 x1, .int .i64 x2, .int .i64 x3] 53)) := HO3.out.alloc _
        have hG7 := HG3.out.keep0 ((Only.refl _ w3).alloc (.cells #[.int .i64 x0, .int .i64 x1, .int .i64 x2, .int .i64 x3] 53))
        obtain ⟨hG9, hO9⟩ := hG7.grown hO7 rfl hown hgrow
        rw [← itsV_append, ← HSU.out] at hG9
        exact ⟨j + 1, by omega, by go_num, hG9, hO9⟩
    · obtain rfl : j = n := by omega
      have htk : (mades l).take j = mades l := List.take_of_length_le (by simp; have := HL.out; omega)
      have hg := HG.out
      rw [htk] at hg
      obtain ⟨Al, cl, rfl, hits, hown⟩ := hg.its (by simp; exact HL.out)
      have hm6 : (mades l).length ≤ 6 := by simp; have := HL.out; omega
      have hml : (mades l).length = j := by simp; exact HL.out
      have HENC := Lib.hid (enc_good (mades l) hm6 (mades_may l))
      have HDEC := Lib.hid (dec_enc (mades l) hm6 (mades_may l))
      have HPART := Lib.hid (dec_part (mades l) hm6 (mades_may l))
      have HIT := Lib.hid hits
      have HML := Lib.hid hml
      have hbl := itsB_length (mades l)
      rw [hml] at hbl
      have HBL := Lib.hid hbl
      generalize hbs : itsB (mades l) = bs at *
      clear hg hits hown HG htk hm6 hml hbs hbl
      generalize mades l = M at *
      go_wp2_with fail
      refine (item_enc_any Al j cl M _ (by exact HIT.out)).mono ?_
      rintro e w3 ⟨A3, c3, rfl, hb3, hn3, hO3⟩
      rw [HENC.out] at hb3
      rw [HENC.out]
      simp only [Option.getD_some, Option.isSome_some, if_true] at hb3 ⊢
      rw [HBL.out] at hb3 ⊢
      have HO3 := Lib.hid (HO.out.trans' hO3)
      have HB3 := Lib.hid hb3
      have HIT3 := Lib.hid (HIT.out.keep0 hO3)
      clear hO3 hb3 hn3 HO HIT
      go_wp2_with fail
      refine (item_dec_all A3 (7 * j) c3 bs _ (by exact HB3.out)).mono ?_
      rintro e w4 ⟨A4, c4, rfl, hb4, hn4, hO4⟩
      rw [HDEC.out] at hb4
      rw [HDEC.out]
      simp only [Option.getD_some, Option.isSome_some, if_true] at hb4 ⊢
      rw [HML.out] at hb4 ⊢
      have HO4 := Lib.hid (HO3.out.trans' hO4)
      have HB4 := Lib.hid (HB3.out.keep0 hO4)
      have HX4 := Lib.hid hb4
      have HIT4 := Lib.hid (HIT3.out.keep0 hO4)
      clear hO4 hb4 hn4 HO3 HIT3 HB3
      go_wp2_with fail
      refine (alike_items_any A4 j c4 M Al j cl M _ (by exact HX4.out) (by exact HIT4.out)).mono ?_
      rintro e w5 ⟨rfl, k5, rfl⟩
      have hdd : decide (M = M) = true := by simp
      rw [hdd]
      clear hdd
      go_wp2_with fail
      refine (round_any cut (7 * (j : Int) + 1) _ hcw (by omega) (by omega)).mono ?_
      rintro e w' ⟨rfl, rfl⟩
      have hk0 : 0 ≤ cut % (7 * (j : Int) + 1) := Int.emod_nonneg _ (by omega)
      have hk1 : cut % (7 * (j : Int) + 1) < 7 * (j : Int) + 1 := Int.emod_lt_of_pos _ (by omega)
      generalize cut % (7 * (j : Int) + 1) = kz at *
      obtain ⟨k, rfl⟩ : ∃ k : Nat, kz = k := ⟨kz.toNat, by omega⟩
      have hkn : k ≤ 7 * j := by omega
      have hk3 : k ≤ c3 := by have := HB4.out.le; omega
      go_wp2_with fail
      have hbk : Bys (w4.drewN k5) A3 k c3 (bs.take k) := by
        have := (HB4.out.drewN k5).pre hkn
        unfold Bys
        rw [bvs, List.map_take]
        exact this
      have hdp := HPART.out k (by rw [HML.out]; exact hkn)
      have HDP := Lib.hid hdp
      clear hdp HPART
      refine (item_dec_all A3 k c3 (bs.take k) _ (by exact hbk)).mono ?_
      rintro e w6 ⟨A6, c6, rfl, hb6, hn6, hO6⟩
      have HO6 := Lib.hid ((HO4.out.drewN k5).trans' hO6)
      have HIT6 := Lib.hid ((HIT4.out.keep0 ((Only.refl _ _).drewN k5)).keep0 hO6)
      rw [HDP.out] at hb6
      rw [HDP.out]
      clear hbk hO6 hn6 HO4 HIT4 HB4 HX4
      by_cases hk7 : k % 7 = 0
      · obtain ⟨q, rfl⟩ : ∃ q, k = 7 * q := ⟨k / 7, by omega⟩
        rw [if_pos hk7] at hb6
        rw [if_pos hk7]
        rw [show 7 * q / 7 = q from by omega] at hb6 ⊢
        simp only [Option.getD_some, Option.isSome_some, if_true] at hb6 ⊢
        have hlq : (M.take q).length = q := by rw [List.length_take, HML.out]; omega
        rw [hlq] at hb6 ⊢
        have HB6 := Lib.hid hb6
        clear hb6 hlq
        have ht : ((7 * q : Nat) : Int).tmod 7 = 0 := by rw [Int.tmod_eq_emod_of_nonneg (by omega)]; omega
        have htd : ((7 * q : Nat) : Int).tdiv 7 = (q : Int) := by rw [Int.tdiv_eq_ediv_of_nonneg (by omega)]; omega
        have hqj : q ≤ j := by omega
        have hcl := HIT6.out.le
        go_wp2_with fail
        refine (alike_items_any A6 q c6 (M.take q) Al q cl (M.take q) _ (by exact HB6.out) (by exact HIT6.out.pre hqj)).mono ?_
        rintro e w7 ⟨rfl, k7, rfl⟩
        have hdd : decide (M.take q = M.take q) = true := by simp
        rw [hdd]
        clear hdd
        go_wp2_with fail
        refine (awake6 _).mono ?_
        rintro e w8 ⟨rfl, hO8⟩
        have HO8 := Lib.hid ((HO6.out.drewN k7).trans' hO8)
        go_wp2
        go_ret
        exact ⟨rfl, HO8.out⟩
      · rw [if_neg hk7] at hb6
        rw [if_neg hk7]
        clear hb6
        have ht : ¬ ((k : Nat) : Int).tmod 7 = 0 := by rw [Int.tmod_eq_emod_of_nonneg (by omega)]; omega
        have ht2 : (((k : Nat) : Int).tmod 7 != 0) = true := by simpa using ht
        simp only [Option.getD_none, Option.isSome_none, List.length_nil]
        go_wp2_with fail
        refine (awake6 _).mono ?_
        rintro e w8 ⟨rfl, hO8⟩
        have HO8 := Lib.hid (HO6.out.trans' hO8)
        go_wp2
        go_ret
        exact ⟨rfl, HO8.out⟩
  · have hd20 : decide (6 < (n : Int)) = true := by simp; omega
    go_enter Try.func9, Try.ntmps9
    go_wp2_with fail
    refine (awake6 _).mono ?_
    rintro e w6 ⟨rfl, hO6⟩
    go_wp2
    go_ret
    exact ⟨rfl, hO6⟩

theorem walk (a0 : Option Addr) (len0 cap0 : Nat) (l0 : List It) (a1 : Int) (w : World) (w0 : Its w a0 len0 cap0 l0 ∧ ∀ i (hi : i < l0.length), Wf4 l0[i]) (w1 : (Lit.int .i64 a1).wf = true) : Calls Try.prog 9 #[.slice a0 len0 cap0, .int .i64 a1] w fun e w' => e = .returned (.bool true) ∧ Below w.heap.size w w' := by
  refine (back a0 len0 cap0 l0 a1 w w0.1 w0.2 w1).mono ?_
  rintro e w' ⟨rfl, hO⟩
  exact ⟨rfl, hO.below0⟩
-- FRAME: walk : (a0 : Option Addr) (len0 cap0 : Nat) (l0 : List It) (a1 : Int) (w : World) (w0 : Its w a0 len0 cap0 l0 ∧ ∀ i (hi : i < l0.length), Wf4 l0[i]) (w1 : (Lit.int .i64 a1).wf = true) : Calls Try.prog 9 #[.slice a0 len0 cap0, .int .i64 a1] w fun e w' => e = .returned (.bool true) ∧ Below w.heap.size w w'

set_option maxRecDepth 100000 in
theorem lifted (os : Os) (started : os.Started) (H : Type) (enc : TypeId × Value → H) :
    ReturnsInHanded {} Try.checked os 9 .any (Rows.itemBackSpec.pre6 enc Try.prog Try.f9 Rows.itemBackRow.domain false) (Rows.itemBackSpec.post enc Try.prog Try.f9 false true false false) := by
  refine returnsInHanded_of_change (C := Try.checked) own started (by kernel_rfl) Try.func9
    (ChangeSpec.witness6 (enc := enc) (C := Try.checked) false ⟨#[], #[.slice none 0 0, .int .i64 0], []⟩ 8 (by kernel_rfl) (by kernel_rfl) (by kernel_rfl) (by kernel_rfl)) ?_
  intro W base args ds gs before hval0 hW hcnd _
  have hval : ∀ (j : Nat) t v, Try.f9.params[j]? = some t → args[j]? = some v → Value.okWide Try.prog W .any base t v := hval0
  have hW' := hW
  obtain ⟨p, q, hA0, hV, rfl, hfz, hnd⟩ := hW
  have hA : DataW.TrodAll enc Try.prog W 0 (fun _ => true) true Try.f9.params.toList args.toList ds p := hA0
  rw [Try.params9] at hA hval
  obtain ⟨v0, vs0, d0, ds0, p0, q0, hargs, rfl, rfl, h0, r0⟩ := trodAll_cons hA
  obtain ⟨v1, vs1, d1, ds1, p1, q1, rfl, rfl, rfl, h1, r1⟩ := trodAll_cons r0
  obtain ⟨rfl, rfl, rfl⟩ := trodAll_nil r1
  obtain rfl : args = #[v0, v1] := by cases args; simp_all
  obtain ⟨rfl, rfl⟩ := trodVars_none hV
  obtain ⟨a0, len0, cap0, rfl⟩ := okWide_slice Try.underlying65 (hval 0 65 v0 rfl rfl)
  have k0 := h0
  have lt0 : ∀ x ∈ p0, x.block < W.heap.size := by obtain ⟨m, hm⟩ := k0; exact DataW.trod_lt m _ _ _ hm
  obtain ⟨l0, w0⟩ : ∃ l, Its W a0 len0 cap0 l ∧ ∀ i (hi : i < l.length), Wf4 l[i] := by
    obtain ⟨fuel, hf⟩ := h0
    exact open_quads hf
  obtain ⟨a1, rfl, rfl, rfl, w1⟩ := open_int Try.underlying3 (hval 1 3 v1 rfl rfl) h1
  clear hA0 hval0
  refine (walk a0 len0 cap0 l0 a1 W w0 w1).mono fun e W' ⟨he, bel⟩ => ?_
  subst he
  exact ⟨_, rfl, _, _, _, [], _, [], hW', trodAll_mk1 (shut_bool Try.underlying4 _), (trodAll_cons_mk (Below.trod laidOut (by kernel_rfl) (of_decide_eq_true (by kernel_rfl)) k0 bel lt0) (trodAll_cons_mk (shut_int Try.underlying3 w1) trodAll_mk0)), rfl, bel.frame _, fun h => by cases h⟩

theorem over : Rows.itemBackRow.holds Try.pinned (OpenSpec.ofChange Rows.itemBackSpec) :=
  OpenClaim.holds_of_wide 9 Try.f9 rfl rfl rfl rfl rfl rfl rfl ⟨rfl, rfl, rfl, rfl, rfl⟩ rfl rfl rfl rfl rfl (by kernel_rfl) Try.func9 (by kernel_rfl)
    (of_decide_eq_true (by kernel_rfl)) (by unfold Func.isWrapper; first | (rw [if_pos (by decide +kernel)]; kernel_rfl) | (rw [if_neg (by decide +kernel)]; exact ⟨rfl, rfl⟩))
    (fun os started H enc _ => lifted os started H enc)

theorem proved : Rows.ItemBackSaid := over

end Go.Proofs.Ytcojleippbneoaa.itemBack
