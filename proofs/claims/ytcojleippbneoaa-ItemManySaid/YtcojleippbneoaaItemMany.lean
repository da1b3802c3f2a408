/- Claim ItemMany. -/
import Derived.Test.YtcojleippbneoaaItemBack
import Derived.Test.YtcojleippbneoaaFrameS
set_option linter.unusedVariables false
namespace Go.Kn
open Go Go.RowKit
theorem enc_many {l : List It} (h : 6 < l.length) : encItems l = none := by
  unfold encItems
  rw [if_neg (by omega)]
theorem enc_set {l : List It} {k : Nat} {x : It} (hk : k < l.length) (hx : x.may = false) : encItems (l.set k x) = none := by
  unfold encItems
  rw [if_neg]
  rintro ⟨_, h⟩
  have := List.all_eq_true.1 h x (List.mem_iff_getElem.2 ⟨k, by simpa using hk, by simp⟩)
  rw [hx] at this
  cases this
end Go.Kn
namespace Go.Proofs.Ytcojleippbneoaa.itemMany
open Go Go.RowKit Go.Kn Go.ChangeShapes Go.WideShapes Go.ChangeAt

set_option maxRecDepth 100000 in
set_option maxHeartbeats 4000000 in
theorem many (A : Option Addr) (n c : Nat) (l : List It) (b : It) (w : World) (hi : Its w A n c l) (hwf : ∀ i (hi : i < l.length), Wf4 l[i]) :
    Calls Try.prog 10 #[.slice A n c, .agg b.vals] w fun e w' => e = .returned (.bool true) ∧ Only [] w w' := by
  obtain ⟨i0, hi0, hz0, hz1, hz2⟩ := info_parts Try.infoItem
  have hle := hi.le
  have hcm := hi.cm
  have hlen := hi.len
  unfold maxLen at hcm
  have HI := Lib.hid hi
  have HL := Lib.hid hlen
  have HW := Lib.hid hwf
  clear hi hlen hwf
  obtain ⟨b0, b1, b2, b3⟩ := b
  simp only [It.vals]
  have done : ∀ (w1 : World), Only [] w w1 → Calls Try.prog 36 #[] w1 fun e w' => e = .returned (.bool true) ∧ Only [] w w' := fun w1 h => (awake6 w1).mono fun e w' ⟨h1, h2⟩ => ⟨h1, h.trans' h2⟩
  by_cases h1 : 1 ≤ n
  · by_cases h6 : n ≤ 6
    · have hd1 : decide ((n : Int) < 1) = false := by simp; omega
      have hd6 : decide (6 < (n : Int)) = false := by simp; omega
      go_enter Try.func10, Try.ntmps10
      go_wp2_with fail
      refine (item_may_any b0 b1 b2 b3 _).mono ?_
      rintro e w1 ⟨rfl, hO1⟩
      have hx0 := hO1.cell (p := ⟨w.heap.size, 0, none⟩) (v := .int .i64 b0) (by simp) (by simp)
      have hx1 := hO1.cell (p := ⟨w.heap.size, 1, none⟩) (v := .int .i64 b1) (by simp) (by simp)
      have hx2 := hO1.cell (p := ⟨w.heap.size, 2, none⟩) (v := .int .i64 b2) (by simp) (by simp)
      have hx3 := hO1.cell (p := ⟨w.heap.size, 3, none⟩) (v := .int .i64 b3) (by simp) (by simp)
      have HO1 := Lib.hid (((Only.refl [] w).alloc (.cells #[.int .i64 b0, .int .i64 b1, .int .i64 b2, .int .i64 b3] 53)).trans' hO1)
      have hs1 := hO1.size
      have hs1' : w.heap.size < w1.heap.size := by simp at hs1; omega
      generalize hB : w.heap.size = B at *
      clear hO1 hs1
      cases hm : It.may ⟨b0, b1, b2, b3⟩
      · have HBM := Lib.hid hm
        clear hm
        go_wp2_with fail
        go_loopg [5, 7] n (fun r v i wr => ∃ j : Nat, j + r = n ∧ i = .int .i64 j ∧ GathN wr w1.heap.size 53 4 v j (itsV ((mades l).take j)) ∧ Only [] w1 wr)
        case atStart => exact ⟨0, by omega, rfl, GathN.nil _ _ _ _ (Nat.le_refl _), Only.refl _ _⟩
        obtain ⟨j, hj, rfl, hG, hO⟩ := hrel
        have HG := Lib.hid hG
        have HO := Lib.hid hO
        clear hG hO
        by_cases hlt : j < n
        · clear hx0 hx1 hx2 hx3
          have hjz : j < l.length := by rw [HL.out]; exact hlt
          obtain ⟨Al, cl, rfl, hits, hown⟩ := HG.out.its (by simp; omega)
          obtain ⟨a, o, rfl, hc⟩ := HI.out.at_ (by omega)
          obtain ⟨q0, q1, q2, q3⟩ := hc j hjz
          have HO10 := Lib.hid (HO1.out.trans' HO.out)
          have c0 := HO10.out.cell q0 (by simp)
          have c1 := HO10.out.cell q1 (by simp)
          have c2 := HO10.out.cell q2 (by simp)
          have c3 := HO10.out.cell q3 (by simp)
          have HSU := Lib.hid (mades_succ hjz)
          have hwj := HW.out j hjz
          have HWJ := Lib.hid hwj
          clear hc q0 q1 q2 q3 hwj hits hown
          unfold Wf4 at HWJ
          generalize l[j].k = z0 at *
          generalize l[j].b = z1 at *
          generalize l[j].c = z2 at *
          generalize l[j].v = z3 at *
          have hlt2 : (j : Int) < (n : Int) := by omega
          have hge : 0 ≤ (j : Int) := by omega
          have htn : ((j : Int)).toNat = j := by omega
          go_wp2_with fail
          refine (made_any z0 z1 z2 z3 _ HWJ.out.1 HWJ.out.2.1 HWJ.out.2.2.1 HWJ.out.2.2.2).mono ?_
          rintro e w3 ⟨rfl, hO3⟩
          have HO3 := Lib.hid (HO.out.trans' hO3)
          have HG3 := Lib.hid (HG.out.keep0 hO3)
          clear hO3 HO HG c0 c1 c2 c3
          generalize madeIt z0 z1 z2 z3 = it at *
          obtain ⟨x0, x1, x2, x3⟩ := it
          simp only [It.vals]
          have hnw := news_new w3 #[.int .i64 x0, .int .i64 x1, .int .i64 x2, .int .i64 x3] 53 (by simp [maxLen])
          have hone := itsV_one [⟨x0, x1, x2, x3⟩]
          have hbase := HO3.out.size
          go_wp2_with (first
            | (at_builtin; refine wpList_append_own_at _ rfl (.tmp 32) (.tmp 38) 50 rfl w1.heap.size 53 i0 _ 4 32 Try.underlying50 hi0 hz0 hz1 hz2 rfl (by decide) (.slice Al j cl) j (itsV ((mades l).take j)) rfl ((HG3.out.keep0 ((Only.refl _ _).alloc _)).1) ⟨w3.heap.size, 0, none⟩ 1 1 (itsV [⟨x0, x1, x2, x3⟩]) rfl rfl hnw hone (by unfold maxLen; omega) (by omega) (by simp; omega) ?_; intro v' w9 hown hgrow _ hat)
            | fail)
          go_roundg (gk - 1)
          case measure => omega
          case rel =>
            have hO7 : Only [] w1 (w3.alloc (.cells #[.int .i64 x0, .int .i64 x1, .int .i64 x2, .int .i64 x3] 53)) := HO3.out.alloc _
            have hG7 := HG3.out.keep0 ((Only.refl _ w3).alloc (.cells #[.int .i64 x0, .int .i64 x1, .int .i64 x2, .int .i64 x3] 53))
            obtain ⟨hG9, hO9⟩ := hG7.grown hO7 rfl hown hgrow
            rw [← itsV_append, ← HSU.out] at hG9
            exact ⟨j + 1, by omega, by go_num, hG9, hO9⟩
        · obtain rfl : j = n := by omega
          have htk : (mades l).take j = mades l := List.take_of_length_le (by simp; have := HL.out; omega)
          have hg := HG.out
          rw [htk] at hg
          obtain ⟨g, cl, rfl, hgB, hfz⟩ := hg.own (by omega)
          obtain ⟨Al, cl', he, hits, hown⟩ := hg.its (by simp; exact HL.out)
          injection he with he1 he2 he3
          subst he1 he3
          have hml : (mades l).length = j := by simp; exact HL.out
          have HML := Lib.hid hml
          have HIT := Lib.hid hits
          have HFZ := Lib.hid hfz
          clear htk hg hits hown hfz hml HG
          generalize mades l = M at *
          replace hx0 := HO.out.cell hx0 (by simp)
          replace hx1 := HO.out.cell hx1 (by simp)
          replace hx2 := HO.out.cell hx2 (by simp)
          replace hx3 := HO.out.cell hx3 (by simp)
          have hgr : g < wr.heap.size := HIT.out.block_lt (by omega) _ rfl
          have HOW := Lib.hid (HO1.out.trans' HO.out)
          clear HO HO1
          obtain ⟨m, rfl⟩ : ∃ m, j = m + 1 := ⟨j - 1, by omega⟩
          rename World => w2
          clear hj hlt
          go_wp2_with fail
          go_loopg [6, 8] 7 (fun r v i ws => ∃ (t : Nat) (L : List It), t + r = 7 ∧ i = .int .i64 t ∧ L.length = t ∧ GathN ws w2.heap.size 53 4 v t (itsV L) ∧ Only [] w2 ws)
          case atStart => exact ⟨0, [], by omega, rfl, rfl, GathN.nil _ _ _ _ (Nat.le_refl _), Only.refl _ _⟩
          obtain ⟨t, L, ht, rfl, hLt, hG, hO⟩ := hrel
          have HG := Lib.hid hG
          have HO := Lib.hid hO
          have HLT := Lib.hid hLt
          obtain ⟨Am, cm, rfl, hitm, hown⟩ := hG.its hLt
          have HITM := Lib.hid hitm
          clear hG hO hLt hitm hown
          by_cases htt : t < 7
          · clear hx0 hx1 hx2 hx3
            have htt2 : (t : Int) < 7 := by omega
            obtain ⟨ga, oa, he, hc⟩ := HIT.out.at_ (by omega)
            injection he with he
            injection he with he1 he3
            subst he1 he3
            have hM0 : 0 < M.length := by rw [HML.out]; omega
            obtain ⟨q0, q1, q2, q3⟩ := hc 0 hM0
            have c0 := HO.out.cell q0 (by simp)
            have c1 := HO.out.cell q1 (by simp)
            have c2 := HO.out.cell q2 (by simp)
            have c3 := HO.out.cell q3 (by simp)
            simp only [Nat.zero_mul, Nat.zero_add] at c0 c1 c2 c3
            clear hc q0 q1 q2 q3
            generalize M[0].k = x0 at *
            generalize M[0].b = x1 at *
            generalize M[0].c = x2 at *
            generalize M[0].v = x3 at *
            have hnw := news_new wr #[.int .i64 x0, .int .i64 x1, .int .i64 x2, .int .i64 x3] 53 (by simp [maxLen])
            have hone := itsV_one [⟨x0, x1, x2, x3⟩]
            have hbase := HO.out.size
            go_wp2_with (first
              | (at_builtin; refine wpList_append_own_at _ rfl (.tmp 44) (.tmp 48) 50 rfl w2.heap.size 53 i0 _ 4 32 Try.underlying50 hi0 hz0 hz1 hz2 rfl (by decide) (.slice Am t cm) t (itsV L) rfl ((HG.out.keep0 ((Only.refl _ _).alloc _)).1) ⟨wr.heap.size, 0, none⟩ 1 1 (itsV [⟨x0, x1, x2, x3⟩]) rfl rfl hnw hone (by unfold maxLen; omega) (by omega) (by simp; omega) ?_; intro v' w9 hown hgrow _ hat)
              | fail)
            go_roundg (gk - 1)
            case measure => omega
            case rel =>
              have hO7 : Only [] w2 (wr.alloc (.cells #[.int .i64 x0, .int .i64 x1, .int .i64 x2, .int .i64 x3] 53)) := HO.out.alloc _
              have hG7 := HG.out.keep0 ((Only.refl _ wr).alloc (.cells #[.int .i64 x0, .int .i64 x1, .int .i64 x2, .int .i64 x3] 53))
              obtain ⟨hG9, hO9⟩ := hG7.grown hO7 rfl hown hgrow
              rw [← itsV_append] at hG9
              exact ⟨t + 1, L ++ [⟨x0, x1, x2, x3⟩], by omega, by go_num, by simp [HLT.out], hG9, hO9⟩
          · obtain rfl : t = 7 := by omega
            have htt2 : ¬ ((7 : Nat) : Int) < 7 := by omega
            have hen : encItems L = none := enc_many (by rw [HLT.out]; omega)
            have hen2 : encItems (M.set m ⟨b0, b1, b2, b3⟩) = none := enc_set (by rw [HML.out]; omega) HBM.out
            go_wp2_with fail
            refine (item_enc_any Am 7 cm L _ (by exact HITM.out)).mono ?_
            rintro e w3 ⟨A3, c3, rfl, _, _, hO3⟩
            rw [hen]
            simp only [Option.getD_none, Option.isSome_none, List.length_nil]
            have hO23 := HO.out.trans' hO3
            replace hx0 := hO23.cell hx0 (by simp)
            replace hx1 := hO23.cell hx1 (by simp)
            replace hx2 := hO23.cell hx2 (by simp)
            replace hx3 := hO23.cell hx3 (by simp)
            have hit3 := HIT.out.keep0 hO23
            have hfz3 : ∀ i, w3.frozen? ⟨g, i, none⟩ = false := fun i => (hO23.frozen (p := ⟨g, i, none⟩) hgr (by simp)).trans (HFZ.out i)
            have HO3 := Lib.hid (HOW.out.trans' hO23)
            have hit4 := hit3.put m (by omega) ⟨b0, b1, b2, b3⟩
            obtain ⟨ga, oa, he, hc⟩ := hit3.at_ (by omega)
            injection he with he
            injection he with he1 he3
            subst he1 he3
            obtain ⟨q0, q1, q2, q3⟩ := hc m (by rw [HML.out]; omega)
            have f0 := hfz3 (m * 4)
            have f1 := hfz3 (m * 4 + 1)
            have f2 := hfz3 (m * 4 + 2)
            have f3 := hfz3 (m * 4 + 3)
            simp only [Nat.zero_add] at q0 q1 q2 q3 hit4
            have hO4 : Only [] w ((((w3.setCell ⟨g, m * 4, none⟩ (.int .i64 b0)).setCell ⟨g, m * 4 + 1, none⟩ (.int .i64 b1)).setCell ⟨g, m * 4 + 2, none⟩ (.int .i64 b2)).setCell ⟨g, m * 4 + 3, none⟩ (.int .i64 b3)) := by
              have hgw : w.heap.size ≤ g := by omega
              exact (((HO3.out.set (.inr hgw) _).set (.inr hgw) _).set (.inr hgw) _).set (.inr hgw) _
            have HIT4 := Lib.hid hit4
            have HO4 := Lib.hid hO4
            have HEN2 := Lib.hid hen2
            clear hc hO4 hit4 hit3 hfz3 hO23 hO3 hen hen2
            have hmx : ((m + 1 : Nat) : Int) - 1 = (m : Int) := by omega
            have hmt : (m : Int).toNat = m := by omega
            have hmg : 0 ≤ (m : Int) := by omega
            have hml : (m : Int) < (m : Int) + 1 := by omega
            go_wp2_with fail
            refine (item_enc_any _ (m + 1) cl (M.set m ⟨b0, b1, b2, b3⟩) _ (by exact HIT4.out)).mono ?_
            rintro e w5 ⟨A5, c5, rfl, _, _, hO5⟩
            rw [HEN2.out]
            simp only [Option.getD_none, Option.isSome_none, List.length_nil]
            have HO5 := Lib.hid (HO4.out.trans' hO5)
            clear hO5
            go_wp2_with fail
            refine (done _ HO5.out).mono ?_
            rintro e w6 ⟨rfl, hO6⟩
            go_wp2
            go_ret
            exact ⟨rfl, hO6⟩
      · go_wp2_with fail
        refine (done _ HO1.out).mono ?_
        rintro e w6 ⟨rfl, hO6⟩
        go_wp2
        go_ret
        exact ⟨rfl, hO6⟩
    · have hd1 : decide ((n : Int) < 1) = false := by simp; omega
      have hd6 : decide (6 < (n : Int)) = true := by simp; omega
      go_enter Try.func10, Try.ntmps10
      go_wp2_with fail
      refine (done _ ((Only.refl _ _).alloc _)).mono ?_
      rintro e w6 ⟨rfl, hO6⟩
      go_wp2
      go_ret
      exact ⟨rfl, hO6⟩
  · have hd1 : decide ((n : Int) < 1) = true := by simp; omega
    go_enter Try.func10, Try.ntmps10
    go_wp2_with fail
    refine (done _ ((Only.refl _ _).alloc _)).mono ?_
    rintro e w6 ⟨rfl, hO6⟩
    go_wp2
    go_ret
    exact ⟨rfl, hO6⟩

theorem walk (a0 : Option Addr) (len0 cap0 : Nat) (l0 : List It) (b1 : It) (w : World) (w0 : Its w a0 len0 cap0 l0 ∧ ∀ i (hi : i < l0.length), Wf4 l0[i]) : Calls Try.prog 10 #[.slice a0 len0 cap0, .agg b1.vals] w fun e w' => e = .returned (.bool true) ∧ Below w.heap.size w w' := by
  refine (many a0 len0 cap0 l0 b1 w w0.1 w0.2).mono ?_
  rintro e w' ⟨rfl, hO⟩
  exact ⟨rfl, hO.below0⟩
-- FRAME: walk : (a0 : Option Addr) (len0 cap0 : Nat) (l0 : List It) (b1 : It) (w : World) (w0 : Its w a0 len0 cap0 l0 ∧ ∀ i (hi : i < l0.length), Wf4 l0[i]) : Calls Try.prog 10 #[.slice a0 len0 cap0, .agg b1.vals] w fun e w' => e = .returned (.bool true) ∧ Below w.heap.size w w'

set_option maxRecDepth 100000 in
theorem lifted (os : Os) (started : os.Started) (H : Type) (enc : TypeId × Value → H) :
    ReturnsInHanded {} Try.checked os 10 .any (Rows.itemManySpec.pre6 enc Try.prog Try.f10 Rows.itemManyRow.domain false) (Rows.itemManySpec.post enc Try.prog Try.f10 false true false false) := by
  refine returnsInHanded_of_change (C := Try.checked) own started (by kernel_rfl) Try.func10
    (ChangeSpec.witness6 (enc := enc) (C := Try.checked) false ⟨#[], #[.slice none 0 0, .agg #[.int .i64 0, .int .i64 0, .int .i64 0, .int .i64 0]], []⟩ 8 (by kernel_rfl) (by kernel_rfl) (by kernel_rfl) (by kernel_rfl)) ?_
  intro W base args ds gs before hval0 hW hcnd _
  have hval : ∀ (j : Nat) t v, Try.f10.params[j]? = some t → args[j]? = some v → Value.okWide Try.prog W .any base t v := hval0
  have hW' := hW
  obtain ⟨p, q, hA0, hV, rfl, hfz, hnd⟩ := hW
  have hA : DataW.TrodAll enc Try.prog W 0 (fun _ => true) true Try.f10.params.toList args.toList ds p := hA0
  rw [Try.params10] at hA hval
  obtain ⟨v0, vs0, d0, ds0, p0, q0, hargs, rfl, rfl, h0, r0⟩ := trodAll_cons hA
  obtain ⟨v1, vs1, d1, ds1, p1, q1, rfl, rfl, rfl, h1, r1⟩ := trodAll_cons r0
  obtain ⟨rfl, rfl, rfl⟩ := trodAll_nil r1
  obtain rfl : args = #[v0, v1] := by cases args; simp_all
  obtain ⟨rfl, rfl⟩ := trodVars_none hV
  obtain ⟨a0, len0, cap0, rfl⟩ := okWide_slice Try.underlying65 (hval 0 65 v0 rfl rfl)
  have k0 := h0
  have lt0 : ∀ x ∈ p0, x.block < W.heap.size := by obtain ⟨m, hm⟩ := k0; exact DataW.trod_lt m _ _ _ hm
  obtain ⟨l0, w0⟩ : ∃ l, Its W a0 len0 cap0 l ∧ ∀ i (hi : i < l.length), Wf4 l[i] := by
    obtain ⟨fuel, hf⟩ := h0
    exact open_quads hf
  have k1 := h1
  have lt1 : ∀ x ∈ p1, x.block < W.heap.size := by obtain ⟨m, hm⟩ := k1; exact DataW.trod_lt m _ _ _ hm
  obtain ⟨b1, rfl, _⟩ := open_item (okWide_struct Try.underlying53 (hval 1 53 v1 rfl rfl)) h1
  clear hA0 hval0
  refine (walk a0 len0 cap0 l0 b1 W w0).mono fun e W' ⟨he, bel⟩ => ?_
  subst he
  exact ⟨_, rfl, _, _, _, [], _, [], hW', trodAll_mk1 (shut_bool Try.underlying4 _), (trodAll_cons_mk (Below.trod laidOut (by kernel_rfl) (of_decide_eq_true (by kernel_rfl)) k0 bel lt0) (trodAll_cons_mk (Below.trod laidOut (by kernel_rfl) (of_decide_eq_true (by kernel_rfl)) k1 bel lt1) trodAll_mk0)), rfl, bel.frame _, fun h => by cases h⟩

theorem over : Rows.itemManyRow.holds Try.pinned (OpenSpec.ofChange Rows.itemManySpec) :=
  OpenClaim.holds_of_wide 10 Try.f10 rfl rfl rfl rfl rfl rfl rfl ⟨rfl, rfl, rfl, rfl, rfl⟩ rfl rfl rfl rfl rfl (by kernel_rfl) Try.func10 (by kernel_rfl)
    (of_decide_eq_true (by kernel_rfl)) (by unfold Func.isWrapper; first | (rw [if_pos (by decide +kernel)]; kernel_rfl) | (rw [if_neg (by decide +kernel)]; exact ⟨rfl, rfl⟩))
    (fun os started H enc _ => lifted os started H enc)

theorem proved : Rows.ItemManySaid := over

end Go.Proofs.Ytcojleippbneoaa.itemMany
