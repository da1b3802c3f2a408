/- Claim ScriptLimits. -/
import Derived.Test.YtjmbhknokobnpaaEnter
import Derived.Test.YtjmbhknokobnpaaLaw30B
import Derived.Test.YtjmbhknokobnpaaRefA
import Derived.Test.YtjmbhknokobnpaaFrameU
set_option linter.unusedVariables false
set_option linter.unusedSimpArgs false
namespace Go.Kn
open Go Go.RowKit
def limPs (i k : Nat) : List Int := (List.range k).map fun j => (((i + j) % 192 : Nat) : Int)
def limEv (kd : Int) (k i : Nat) : Ev := ⟨kd, 0, 0, 0, limPs i k⟩
def limL (kd : Int) (k n : Nat) : List Ev := (List.range n).map (limEv kd k)
@[simp] theorem limPs_length (i k : Nat) : (limPs i k).length = k := by simp [limPs]
@[simp] theorem limL_length (kd : Int) (k n : Nat) : (limL kd k n).length = n := by simp [limL]
theorem limPs_succ (i k : Nat) : limPs i (k + 1) = limPs i k ++ [(((i + k) % 192 : Nat) : Int)] := by simp [limPs, List.range_succ]
theorem limL_succ (kd : Int) (k n : Nat) : limL kd k (n + 1) = limL kd k n ++ [limEv kd k n] := by simp [limL, List.range_succ]
theorem limL_wid (kd : Int) (k : Nat) : ∀ n, evsW (limL kd k n) = n * (12 + k)
  | 0 => by simp [limL, evsW]
  | n + 1 => by
    rw [limL_succ, evsW_snoc, limL_wid kd k n]
    simp only [limEv, limPs_length]
    rw [Nat.succ_mul]
theorem limL_may {kd : Int} {k n : Nat} (hk : 1 ≤ kd ∧ kd ≤ 19) (h : k ≤ 100) : (limL kd k n).all Ev.may = true := by
  rw [List.all_eq_true]
  intro e he
  simp only [limL, List.mem_map] at he
  obtain ⟨i, _, rfl⟩ := he
  unfold Ev.may limEv
  simp only [Bool.and_eq_true, decide_eq_true_eq, List.all_eq_true, limPs_length]
  refine ⟨?_, by omega, by omega, by omega, by omega, h⟩
  intro z hz
  simp only [limPs, List.mem_map] at hz
  obtain ⟨j, _, rfl⟩ := hz
  omega
theorem limL_bad {kd : Int} {k n : Nat} (hn : 0 < n) (h : 100 < k) : encEvs (limL kd k n) = none := by
  refine encEvs_bad (j := 0) (by simpa using hn) ?_
  have e : (limL kd k n)[0]'(by simpa using hn) = limEv kd k 0 := by simp [limL]
  rw [e]
  cases hm : (limEv kd k 0).may with
  | false => rfl
  | true =>
    have := (Ev.may_bounds hm).2.2.2.2.2
    simp only [limEv, limPs_length] at this
    omega
end Go.Kn
namespace Go.Proofs.Ytjmbhknokobnpaa.scriptLimits
open Go Go.RowKit Go.Kn Go.ChangeShapes Go.WideShapes Go.ChangeAt

set_option maxRecDepth 100000 in
set_option maxHeartbeats 16000000 in
theorem main (z0 z1 z2 : Int) (w : World) (h0 : (Lit.int .i64 z0).wf = true) (h1 : (Lit.int .i64 z1).wf = true) (h2 : (Lit.int .i64 z2).wf = true) :
    Calls Try.prog 9 #[.int .i64 z0, .int .i64 z1, .int .i64 z2] w fun e w' => e = .returned (.bool true) ∧ Only [] w w' := by
  obtain ⟨i1, hi1, hy0, hy1, hy2⟩ := info_parts Try.infoInt
  obtain ⟨i0, hi0, hz0, hz1, hz2⟩ := info_parts Try.infoEvent
  have H0 := Lib.hid h0
  have H1 := Lib.hid h1
  have H2 := Lib.hid h2
  obtain ⟨n, hn⟩ : ∃ n : Nat, z0 % 403 = (n : Int) := ⟨(z0 % 403).toNat, by omega⟩
  obtain ⟨k, hk⟩ : ∃ k : Nat, z1 % 103 = (k : Int) := ⟨(z1 % 103).toNat, by omega⟩
  obtain ⟨kd, hkd⟩ : ∃ kd : Int, 1 + z2 % 19 = kd := ⟨_, rfl⟩
  have hn4 : n ≤ 402 := by omega
  have hk4 : k ≤ 102 := by omega
  have hk5 : 1 ≤ kd ∧ kd ≤ 19 := by omega
  have hkw := IntWalk.i64_in (1 + z2 % 19) (by omega)
  have HN := Lib.hid hn
  have HK := Lib.hid hk
  have HK5 := Lib.hid hk5
  clear h0 h1 h2 hn hk hk5
  go_enter Try.func9, Try.ntmps9
  go_wp2_with fail
  refine (round_any z0 403 _ H0.out (by decide) (by decide)).mono ?_
  rintro e w1 ⟨rfl, rfl⟩
  rw [HN.out]
  go_wp2_with fail
  refine (round_any z1 103 _ H1.out (by decide) (by decide)).mono ?_
  rintro e w1 ⟨rfl, rfl⟩
  rw [HK.out]
  go_wp2_with fail
  go_loopg [9, 10] n (fun r v i wr => ∃ (j : Nat) (xs : List (Ev × Sl)), j + r = n ∧ i = .int .i64 j ∧ GathE wr w.heap.size 54 v (limL kd k j) xs ∧ Only [] w wr)
  case atStart => exact ⟨0, [], by omega, rfl, by simpa [limL] using GathE.nil _ _ _ (Nat.le_refl _), Only.refl _ _⟩
  obtain ⟨j, xs, hj, rfl, hG, hO⟩ := hrel
  have HG := Lib.hid hG
  have HO := Lib.hid hO
  obtain ⟨Al, cl, rfl, hevs, hown⟩ := hG.formN (limL_length kd k j)
  have HEVS := Lib.hid hevs
  have HOWN := Lib.hid hown
  clear hG hO hevs hown
  by_cases hlt : j < n
  · have HM6 := Lib.hid (MidF.start (f := wr.heap.size) HO.out HG.out ((Only.refl _ _).alloc (.cells #[.int .i64 kd, .int .i64 0, .int .i64 0, .int .i64 0, .slice none 0 0] 54)) (Own.new _ #[.int .i64 kd, .int .i64 0, .int .i64 0, .int .i64 0, .slice none 0 0] _) (Nat.le_refl _))
    have hlt2 : (j : Int) < (n : Int) := by omega
    go_wp2_with fail
    refine (round_any z2 19 _ H2.out (by decide) (by decide)).mono ?_
    rintro e w1 ⟨rfl, rfl⟩
    go_upto_region 7 with (fail)
    try rw [hkd]
    generalize hf : wr.heap.size = f at *
    generalize hwc : wr.alloc (.cells #[.int .i64 kd, .int .i64 0, .int .i64 0, .int .i64 0, .slice none 0 0] 54) = wc at *
    clear HO HG hf hwc
    go_wp2_with fail
    go_loopg [12] k (fun r i wr => ∃ (t : Nat) (A4 : Option Addr) (c4 : Nat), t + r = k ∧ i = .int .i64 t ∧ MidF w wr f 54 (.slice Al j cl) (limL kd k j) xs [.int .i64 kd, .int .i64 0, .int .i64 0, .int .i64 0, .slice A4 t c4] ∧
      Gath wr wc.heap.size 3 (.slice A4 t c4) (ivs (limPs j t)))
    case atStart => exact ⟨0, none, 0, by omega, rfl, HM6.out, by simpa [ivs, limPs] using Gath.nil _ _ _ (Nat.le_refl _)⟩
    obtain ⟨t, A4, c4, ht, rfl, hm, hG4⟩ := hrel
    have HMT := Lib.hid hm
    have HG4 := Lib.hid hG4
    have hsz5 := HM6.out.only.size
    clear hm hG4
    by_cases hlt3 : t < k
    · have hlt4 : (t : Int) < (k : Int) := by omega
      have x4 := HMT.out.box.cell 4 (by simp)
      simp only [List.getElem_cons_zero, List.getElem_cons_succ] at x4
      have z4 := HMT.out.box.frozen 4
      have hfq := HMT.out.box.lt
      have HLZ := Lib.hid (show (ivs (limPs j t)).length = t by rw [ivs_length, limPs_length])
      obtain ⟨zb, hzb⟩ : ∃ zb : Int, (((j + t) % 192 : Nat) : Int) = zb := ⟨_, rfl⟩
      have hrem : ((j : Int) + (t : Int)).tmod 192 = zb := by
        rw [← hzb, Int.tmod_eq_emod_of_nonneg (by omega)]
        omega
      have HZB := Lib.hid hzb
      clear hzb
      go_wp2_with (first
        | (at_builtin; refine wpList_append_row1 rfl (.tmp 36) (.tmp 41) 52 rfl wc.heap.size 3 i1 _ 8 Try.underlying52 hi1 hy0 hy1 hy2 rfl (.slice A4 t c4) t (ivs (limPs j t)) rfl (HG4.out.own ((Only.refl _ _).alloc _) HLZ.out) _ 1 1 (ivs [zb]) rfl (ins_built _ [zb] _ 1 rfl (by omega)) (ivs_one _) (by unfold maxLen; omega) (by omega) (HG4.out.base_le ((Only.refl _ _).alloc _)) ?_
           intro u1 wa hown1 hgr1 hat1
           have hS : Only ((Value.slice A4 t c4).ownBlock.toList) (wr.alloc (.cells #[.int .i64 zb] 3)) wa := (Only.refl _ _).grown hgr1 fun q hq => .inl (by rw [hq]; simp)
           have hSb : ∀ q ∈ (Value.slice A4 t c4).ownBlock.toList, wc.heap.size ≤ q := fun q hq => (HG4.out.1.lt q (by simpa using hq)).1
           have hM7 := (HMT.out.keep0 ((Only.refl _ _).alloc (.cells #[.int .i64 zb] 3))).high HM6.out hS hSb
           have hl5 : (ivs (limPs j (t + 1))).length = t + 1 := by rw [ivs_length, limPs_length]
           have hG5 : Gath wa wc.heap.size 3 u1 (ivs (limPs j (t + 1))) := by
             refine ⟨?_, Nat.le_trans (HG4.out.base_le ((Only.refl _ _).alloc (.cells #[.int .i64 zb] 3))) hS.size⟩
             rw [hl5, limPs_succ, HZB.out]
             simpa [ivs] using hown1
           obtain ⟨A5, c5, rfl, _, _⟩ := hG5.formN hl5
           have x4b := hM7.box.cell 4 (by simp)
           simp only [List.getElem_cons_zero, List.getElem_cons_succ] at x4b
           have z4b := hM7.box.frozen 4
           have HM7 := Lib.hid hM7
           have HG5 := Lib.hid hG5
           clear hS hSb hM7 hl5 hG5 hown1 hgr1 hat1 x4 z4)
        | fail)
      go_roundg (gk - 1)
      case measure => omega
      case rel =>
        have hM8 := HM7.out.put 4 (.slice A5 (t + 1) c5)
        simp only [List.set_cons_zero, List.set_cons_succ] at hM8
        have hf5 := HM6.out.box.lt
        have hO8 : Only [f] wa (wa.setCell ⟨f, 4, none⟩ (.slice A5 (t + 1) c5)) := (Only.refl _ _).set (by simp) _
        refine ⟨t + 1, A5, c5, by omega, by go_num, hM8, HG5.out.keep hO8 (fun q hq => ?_)⟩
        have := (HG5.out.1.lt q hq).1
        simp
        omega
    · obtain rfl : t = k := by omega
      have hiz : (ivs (limPs j t)).length = t := by rw [ivs_length, limPs_length]
      obtain ⟨_, _, hsl, hins, hA4⟩ := HG4.out.formN hiz
      injection hsl with e1 e2 e3
      subst e1 e3
      have HINS := Lib.hid hins
      have HA4 := Lib.hid hA4
      have hgn := HMT.out.gath.2.1
      rw [limL_length] at hgn
      have HGN := Lib.hid hgn
      have y0 := HMT.out.box.cell 0 (by simp)
      have y1 := HMT.out.box.cell 1 (by simp)
      have y2 := HMT.out.box.cell 2 (by simp)
      have y3 := HMT.out.box.cell 3 (by simp)
      have y4 := HMT.out.box.cell 4 (by simp)
      simp only [List.getElem_cons_zero, List.getElem_cons_succ] at y0 y1 y2 y3 y4
      have hnw := news_new wr #[.int .i64 kd, .int .i64 0, .int .i64 0, .int .i64 0, .slice A4 t c4] 54 (by simp [maxLen])
      have hone := evsV_one [(⟨kd, 0, 0, 0, limPs j t⟩, (A4, t, c4))]
      have hbase := HMT.out.only.size
      clear hiz hins hA4 hgn
      go_wp2_with (first
        | (at_builtin; refine wpList_append_own_at _ rfl (.tmp 44) (.tmp 46) 42 rfl w.heap.size 54 i0 _ 5 56 Try.underlying42 hi0 hz0 hz1 hz2 rfl (by decide) (.slice Al j cl) j (evsV xs) rfl ((HGN.out.keep0 ((Only.refl _ _).alloc _)).1) ⟨wr.heap.size, 0, none⟩ 1 1 (evsV [(⟨kd, 0, 0, 0, limPs j t⟩, (A4, t, c4))]) rfl rfl hnw hone (by unfold maxLen; omega) (by omega) (by simp; omega) ?_; intro v' w8 hown hgrow _ hat)
        | fail)
      go_roundg (n - (j + 1))
      case measure => omega
      case rel =>
        have hm7 := HMT.out.keep0 ((Only.refl _ _).alloc (.cells #[.int .i64 kd, .int .i64 0, .int .i64 0, .int .i64 0, .slice A4 t c4] 54))
        obtain ⟨g1, g2⟩ := hm7.append (ev := ⟨kd, 0, 0, 0, limPs j t⟩) (HINS.out.keep0 ((Only.refl _ _).alloc _)) (fun hm a ha => by
          have h1 := (HA4.out a ha).1
          obtain ⟨_, _, _, _, h3⟩ := HM6.out.gath.form
          exact fun hq => by have := (h3 _ hq).2; omega) (by rw [limL_length]) hown hgrow hat
        have he : limL kd t (j + 1) = limL kd t j ++ [⟨kd, 0, 0, 0, limPs j t⟩] := limL_succ kd t j
        rw [← he] at g1
        exact ⟨j + 1, _, by omega, by go_num, g1, g2⟩
  · obtain rfl : j = n := by omega
    clear HG HOWN hlt hj
    by_cases hbad : 400 < j ∨ (0 < j ∧ 100 < k)
    · have hen : encEvs (limL kd k j) = none := by
        rcases hbad with h | ⟨h, h'⟩
        · exact encEvs_many (by simpa using h)
        · exact limL_bad h h'
      have HEN := Lib.hid hen
      clear hen
      go_wp2_with fail
      refine (script_enc_any Al j cl (limL kd k j) _ (by exact HEVS.out)).mono ?_
      rintro e w3 ⟨A3, c3, rfl, _, _, hO3⟩
      rw [HEN.out]
      simp only [Option.getD_none, Option.isSome_none, Bool.false_eq_true, if_false, List.length_nil]
      have HO3 := Lib.hid (HO.out.trans' hO3)
      clear hO3
      have hb2 : (400 < (j : Int)) ∨ (¬ (400 < (j : Int)) ∧ 0 < (j : Int) ∧ 100 < (k : Int)) := by omega
      clear hbad
      rcases hb2 with hb2 | ⟨hb2, hb3, hb4⟩
      all_goals
        go_wp2_with fail
        refine (awake30 _).mono ?_
        rintro e w4 ⟨rfl, hO4⟩
        have HO4 := Lib.hid (HO3.out.trans' hO4)
        go_wp2
        go_ret
        exact ⟨rfl, HO4.out⟩
    · have hj4 : j ≤ 400 := by omega
      have hjk : j = 0 ∨ k ≤ 100 := by omega
      have hmay : (limL kd k j).all Ev.may = true := by
        rcases hjk with h | h
        · subst h
          simp [limL]
        · exact limL_may HK5.out h
      obtain ⟨P, hP⟩ : ∃ P, j * (12 + k) = P := ⟨_, rfl⟩
      have hP2 : P ≤ 400 * 114 := by rw [← hP]; exact Nat.mul_le_mul hj4 (by omega)
      have hP3 : (j : Int) * (12 + (k : Int)) = (P : Int) := by rw [← hP]; simp
      obtain ⟨bs, hbs⟩ : ∃ bs, scrBytes (limL kd k j) = bs := ⟨_, rfl⟩
      have hlb : bs.length = 8 + P := by rw [← hbs, scrBytes_length, limL_wid, hP]
      have HLB := Lib.hid hlb
      have HEN : Hid (encEvs (limL kd k j) = some bs) := Lib.hid (by rw [← hbs]; exact encEvs_good (by simpa using hj4) hmay)
      have HDE : Hid (decEvs bs = some (limL kd k j)) := Lib.hid (by rw [← hbs]; exact evs_back (by simpa using hj4) hmay)
      clear hmay hP hbs hlb
      go_wp2_with fail
      refine (script_enc_any Al j cl (limL kd k j) _ (by exact HEVS.out)).mono ?_
      rintro e w3 ⟨A3, c3, rfl, hb3, _, hO3⟩
      rw [HEN.out] at hb3
      rw [HEN.out]
      simp only [Option.getD_some, Option.isSome_some, if_true, HLB.out] at hb3 ⊢
      have HB3 := Lib.hid hb3
      have HE3 := Lib.hid (HEVS.out.keep0 hO3)
      have HO3 := Lib.hid (HO.out.trans' hO3)
      clear hO3 hb3
      have hq1 : ¬ (400 < (j : Int)) := by omega
      have hq2 : ¬ (0 < (j : Int)) ∨ (0 < (j : Int) ∧ ¬ (100 < (k : Int))) := by omega
      clear hbad hjk
      rcases hq2 with hq2 | ⟨hq2, hq3⟩
      all_goals
        go_wp2_with fail
        refine (script_dec_any A3 (8 + P) c3 bs _ (by exact HB3.out) (by omega)).mono ?_
        rintro e w4 ⟨A4, c4, rfl, hb4, hO4⟩
        rw [HDE.out] at hb4
        rw [HDE.out]
        simp only [Option.getD_some, Option.isSome_some, if_true, limL_length] at hb4 ⊢
        have HB4 := Lib.hid hb4
        have HE4 := Lib.hid (HE3.out.keep0 hO4)
        have HO4 := Lib.hid (HO3.out.trans' hO4)
        clear hO4 hb4
        go_wp2_with fail
        refine (alike_events_any A4 j c4 (limL kd k j) Al j cl (limL kd k j) _ (by exact HB4.out) (by exact HE4.out)).mono ?_
        rintro e w5 ⟨rfl, k5, rfl⟩
        have hdd : decide (limL kd k j = limL kd k j) = true := by simp
        rw [hdd]
        clear hdd
        go_wp2_with fail
        refine (awake30 _).mono ?_
        rintro e w6 ⟨rfl, hO6⟩
        have HO6 := Lib.hid ((HO4.out.drewN k5).trans' hO6)
        go_wp2
        go_ret
        exact ⟨rfl, HO6.out⟩

theorem walk (a0 : Int) (a1 : Int) (a2 : Int) (w : World) (w0 : (Lit.int .i64 a0).wf = true) (w1 : (Lit.int .i64 a1).wf = true) (w2 : (Lit.int .i64 a2).wf = true) : Calls Try.prog 9 #[.int .i64 a0, .int .i64 a1, .int .i64 a2] w fun e w' => e = .returned (.bool true) ∧ Below w.heap.size w w' := by
  refine (main a0 a1 a2 w w0 w1 w2).mono ?_
  rintro e w' ⟨rfl, hO⟩
  exact ⟨rfl, hO.below0⟩

set_option maxRecDepth 100000 in
theorem lifted (os : Os) (started : os.Started) (H : Type) (enc : TypeId × Value → H) :
    ReturnsInHanded {} Try.checked os 9 .any (Rows.scriptLimitsSpec.pre6 enc Try.prog Try.f9 Rows.scriptLimitsRow.domain false) (Rows.scriptLimitsSpec.post enc Try.prog Try.f9 false true false false) := by
  refine returnsInHanded_of_change (C := Try.checked) own started (by kernel_rfl) Try.func9
    (ChangeSpec.witness6 (enc := enc) (C := Try.checked) false ⟨#[], #[.int .i64 0, .int .i64 0, .int .i64 0], []⟩ 8 (by kernel_rfl) (by kernel_rfl) (by kernel_rfl) (by kernel_rfl)) ?_
  intro W base args ds gs before hval0 hW hcnd _
  have hval : ∀ (j : Nat) t v, Try.f9.params[j]? = some t → args[j]? = some v → Value.okWide Try.prog W .any base t v := hval0
  have hW' := hW
  obtain ⟨p, q, hA0, hV, rfl, hfz, hnd⟩ := hW
  have hA : DataW.TrodAll enc Try.prog W 0 (fun _ => true) true Try.f9.params.toList args.toList ds p := hA0
  rw [Try.params9] at hA hval
  obtain ⟨v0, vs0, d0, ds0, p0, q0, hargs, rfl, rfl, h0, r0⟩ := trodAll_cons hA
  obtain ⟨v1, vs1, d1, ds1, p1, q1, rfl, rfl, rfl, h1, r1⟩ := trodAll_cons r0
  obtain ⟨v2, vs2, d2, ds2, p2, q2, rfl, rfl, rfl, h2, r2⟩ := trodAll_cons r1
  obtain ⟨rfl, rfl, rfl⟩ := trodAll_nil r2
  obtain rfl : args = #[v0, v1, v2] := by cases args; simp_all
  obtain ⟨rfl, rfl⟩ := trodVars_none hV
  obtain ⟨a0, rfl, rfl, rfl, w0⟩ := open_int Try.underlying3 (hval 0 3 v0 rfl rfl) h0
  obtain ⟨a1, rfl, rfl, rfl, w1⟩ := open_int Try.underlying3 (hval 1 3 v1 rfl rfl) h1
  obtain ⟨a2, rfl, rfl, rfl, w2⟩ := open_int Try.underlying3 (hval 2 3 v2 rfl rfl) h2
  clear hA0 hval0
  refine (walk a0 a1 a2 W w0 w1 w2).mono fun e W' ⟨he, bel⟩ => ?_
  subst he
  exact ⟨_, rfl, _, _, _, [], _, [], hW', trodAll_mk1 (shut_bool Try.underlying4 _), (trodAll_cons_mk (shut_int Try.underlying3 w0) (trodAll_cons_mk (shut_int Try.underlying3 w1) (trodAll_cons_mk (shut_int Try.underlying3 w2) trodAll_mk0))), rfl, bel.frame _, fun h => by cases h⟩

set_option maxRecDepth 100000 in
theorem closed : joinedFacts Try.pinned.checked.prog 9 Try.f9 Rows.scriptLimitsSpec Rows.scriptLimitsRow = true := by
  show joinedFacts Try.prog 9 Try.f9 Rows.scriptLimitsSpec Rows.scriptLimitsRow = true
  unfold joinedFacts
  simp only [enter_may, enter_lifts, enter_make]
  kernel_rfl

theorem over : Rows.scriptLimitsRow.holds Try.pinned (OpenSpec.ofChange Rows.scriptLimitsSpec) :=
  OpenClaim.holds_of_wide 9 Try.f9 rfl rfl rfl rfl rfl rfl rfl ⟨rfl, rfl, rfl, rfl, rfl⟩ rfl rfl rfl rfl rfl (by kernel_rfl) Try.func9 closed
    (of_decide_eq_true (by kernel_rfl)) (by unfold Func.isWrapper; first | (rw [if_pos (by decide +kernel)]; kernel_rfl) | (rw [if_neg (by decide +kernel)]; exact ⟨rfl, rfl⟩))
    (fun os started H enc _ => lifted os started H enc)

theorem proved : Rows.ScriptLimitsSaid := over

end Go.Proofs.Ytjmbhknokobnpaa.scriptLimits
