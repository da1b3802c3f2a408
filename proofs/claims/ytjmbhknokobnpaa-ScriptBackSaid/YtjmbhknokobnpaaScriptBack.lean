/- Claim ScriptBack. -/
import Derived.Test.YtjmbhknokobnpaaEnter
import Derived.Test.YtjmbhknokobnpaaLaw30B
import Derived.Test.YtjmbhknokobnpaaRefA
import Derived.Test.YtjmbhknokobnpaaFrameU
set_option linter.unusedVariables false
set_option linter.unusedSimpArgs false
namespace Go.Proofs.Ytjmbhknokobnpaa.scriptBack
open Go Go.RowKit Go.Kn Go.ChangeShapes Go.WideShapes Go.ChangeAt

set_option maxRecDepth 100000 in
set_option maxHeartbeats 16000000 in
theorem main (A : Option Addr) (n c : Nat) (l : List Ev) (B : Option Addr) (m d : Nat) (k : List Ev) (cut : Int) (w : World) (hi : Evs w A n c l) (hw : ∀ e ∈ l, WfE e) (hj : Evs w B m d k) (hv : ∀ e ∈ k, WfE e) (ha : (Lit.int .i64 cut).wf = true) :
    Calls Try.prog 6 #[.slice A n c, .slice B m d, .int .i64 cut] w fun e w' => e = .returned (.bool true) ∧ Only [] w w' := by
  have hlen := hi.len
  have hcm := hi.cm
  have hcl := hi.le
  have hlem := hj.len
  have hdm := hj.cm
  have hdl := hj.le
  unfold maxLen at hcm hdm
  have HI := Lib.hid hi
  have HW := Lib.hid hw
  have HJ := Lib.hid hj
  have HV := Lib.hid hv
  clear hi hw hj hv
  by_cases hnn : 400 < n
  · clear hlen hlem
    go_enter Try.func6, Try.ntmps6
    go_wp2_with fail
    refine (awake30 _).mono ?_
    rintro e w6 ⟨rfl, hO6⟩
    go_wp2
    go_ret
    exact ⟨rfl, hO6⟩
  by_cases hmm : 400 < m
  · clear hlen hlem
    go_enter Try.func6, Try.ntmps6
    go_wp2_with fail
    refine (awake30 _).mono ?_
    rintro e w6 ⟨rfl, hO6⟩
    go_wp2
    go_ret
    exact ⟨rfl, hO6⟩
  cases hf : fewB l with
  | false =>
    have HF := Lib.hid hf
    clear hf
    go_enter Try.func6, Try.ntmps6
    go_wp2_with fail
    refine (few_any A n c l _ (by exact HI.out)).mono ?_
    rintro e w1 ⟨rfl, rfl⟩
    rw [HF.out]
    go_wp2_with fail
    refine (awake30 _).mono ?_
    rintro e w6 ⟨rfl, hO6⟩
    go_wp2
    go_ret
    exact ⟨rfl, hO6⟩
  | true =>
  have HF := Lib.hid hf
  clear hf
  cases hf : fewB k with
  | false =>
    have HF2 := Lib.hid hf
    clear hf
    go_enter Try.func6, Try.ntmps6
    go_wp2_with fail
    refine (few_any A n c l _ (by exact HI.out)).mono ?_
    rintro e w1 ⟨rfl, rfl⟩
    rw [HF.out]
    go_wp2_with fail
    refine (few_any B m d k _ (by exact HJ.out)).mono ?_
    rintro e w1 ⟨rfl, rfl⟩
    rw [HF2.out]
    go_wp2_with fail
    refine (awake30 _).mono ?_
    rintro e w6 ⟨rfl, hO6⟩
    go_wp2
    go_ret
    exact ⟨rfl, hO6⟩
  | true =>
    have HF2 := Lib.hid hf
    clear hf
    obtain ⟨X, hX⟩ : ∃ X, l.map madeEv = X := ⟨_, rfl⟩
    obtain ⟨Y, hY⟩ : ∃ Y, k.map madeEv = Y := ⟨_, rfl⟩
    have hXl : X.length = n := by rw [← hX, List.length_map, hlen]
    have hYl : Y.length = m := by rw [← hY, List.length_map, hlem]
    have hXm : X.all Ev.may = true := by rw [← hX]; exact madeEvs_may l
    have hYm : Y.all Ev.may = true := by rw [← hY]; exact madeEvs_may k
    have HX := Lib.hid hX
    have HY := Lib.hid hY
    have HXL := Lib.hid hXl
    have HYL := Lib.hid hYl
    have HXM := Lib.hid hXm
    have HYM := Lib.hid hYm
    obtain ⟨E1, hE1⟩ : ∃ E, evsW X = E := ⟨_, rfl⟩
    obtain ⟨E2, hE2⟩ : ∃ E, evsW Y = E := ⟨_, rfl⟩
    have hl1 := evsW_le hXm
    have hl2 := evsW_le hYm
    rw [hE1, hXl] at hl1
    rw [hE2, hYl] at hl2
    obtain ⟨bs, hbs⟩ : ∃ bs, scrBytes X = bs := ⟨_, rfl⟩
    obtain ⟨cs, hcs⟩ : ∃ cs, scrBytes Y = cs := ⟨_, rfl⟩
    have hlb : bs.length = 8 + E1 := by rw [← hbs, scrBytes_length, hE1]
    have hlc : cs.length = 8 + E2 := by rw [← hcs, scrBytes_length, hE2]
    have HLB := Lib.hid hlb
    have HLC := Lib.hid hlc
    have HXE : Hid (encEvs X = some bs) := Lib.hid (by rw [← hbs]; exact encEvs_good (by omega) hXm)
    have HYE : Hid (encEvs Y = some cs) := Lib.hid (by rw [← hcs]; exact encEvs_good (by omega) hYm)
    have HXD : Hid (decEvs bs = some X) := Lib.hid (by rw [← hbs]; exact evs_back (by omega) hXm)
    have HSAME : Hid (decide (bs = cs) = decide (X = Y)) := Lib.hid (by
      rw [← hbs, ← hcs]
      rw [Bool.eq_iff_iff]
      simp only [decide_eq_true_eq]
      exact ⟨fun h => evs_inj (by omega) hXm (by omega) hYm h, fun h => by rw [h]⟩)
    obtain ⟨r, hr⟩ : ∃ r : Nat, cut % (8 + (E1 : Int)) = (r : Int) := ⟨(cut % (8 + (E1 : Int))).toNat, by have := Int.emod_nonneg cut (show 8 + (E1 : Int) ≠ 0 by omega); omega⟩
    have hrl : r < 8 + E1 := by have := Int.emod_lt_of_pos cut (show (0 : Int) < 8 + (E1 : Int) by omega); omega
    have HR := Lib.hid hr
    have HCUT : Hid (decEvs (bs.take r) = none) := Lib.hid (by rw [← hbs]; exact evs_cut (by omega) hXm r (by rw [hbs, hlb]; exact hrl))
    obtain ⟨z, hz⟩ : ∃ z : UInt8, cut % 256 = ((z.toNat : Nat) : Int) := ⟨UInt8.ofNat (cut % 256).toNat, by rw [UInt8.toNat_ofNat']; omega⟩
    have hzb := z.toNat_lt
    obtain ⟨zi, hzi⟩ : ∃ zi : Int, ((z.toNat : Nat) : Int) = zi := ⟨_, rfl⟩
    rw [hzi] at hz
    have hz0 : 0 ≤ zi := by omega
    have hz256 : zi < 256 := by omega
    have HZ := Lib.hid hz
    have HZI := Lib.hid hzi
    obtain ⟨bq, hbq⟩ : ∃ bq, decide (X = Y) = bq := ⟨_, rfl⟩
    have HBQ := Lib.hid hbq
    have HLONG : Hid (decEvs (bs ++ [z]) = none) := Lib.hid (by rw [← hbs]; exact evs_long (by omega) hXm [z] (by simp))
    have HAA := Lib.hid ha
    clear hX hY hXl hYl hXm hYm hE1 hE2 hbs hcs hlb hlc hr hz hzi hzb hbq hlen hlem ha
    obtain ⟨i0, hi0, hy0, hy1, hy2⟩ := info_parts Try.infoU8
    go_enter Try.func6, Try.ntmps6
    go_wp2_with fail
    refine (few_any A n c l _ (by exact HI.out)).mono ?_
    rintro e w1 ⟨rfl, rfl⟩
    rw [HF.out]
    go_wp2_with fail
    refine (few_any B m d k _ (by exact HJ.out)).mono ?_
    rintro e w1 ⟨rfl, rfl⟩
    rw [HF2.out]
    go_wp2_with fail
    refine (made30_any A n c l _ (by exact HI.out) HW.out (by omega)).mono ?_
    rintro e w1 ⟨A1, c1, rfl, hev1, hO1⟩
    rw [HX.out] at hev1
    have HE1 := Lib.hid hev1
    have HO1 := Lib.hid hO1
    clear hev1 hO1
    go_wp2_with fail
    refine (made30_any B m d k _ (by exact HJ.out.keep0 HO1.out) HV.out (by omega)).mono ?_
    rintro e w2 ⟨A2, c2, rfl, hev2, hO2⟩
    rw [HY.out] at hev2
    have HE2 := Lib.hid hev2
    have HE12 := Lib.hid (HE1.out.keep0 hO2)
    have HO2 := Lib.hid (HO1.out.trans' hO2)
    clear hev2 hO2 HO1 HE1
    go_wp2_with fail
    refine (script_enc_own A1 n c1 X _ (by exact HE12.out)).mono ?_
    intro e w3 he
    rw [HXE.out] at he
    obtain ⟨g, cg, rfl, hc, hmg, hg, ho, hO3⟩ := he.of_some
    rw [HLB.out] at hc ⊢
    have HG := Lib.hid ho
    have HE1 := Lib.hid (HE12.out.keep0 hO3)
    have HE23 := Lib.hid (HE2.out.keep0 hO3)
    have HO3 := Lib.hid (HO2.out.trans' hO3)
    clear he ho hO3 HE12 HE2 HO2 hg
    go_wp2_with fail
    refine (script_enc_any A2 m c2 Y _ (by exact HE23.out)).mono ?_
    rintro e w4 ⟨A4, c4, rfl, hb4, _, hO4⟩
    rw [HYE.out] at hb4
    rw [HYE.out]
    simp only [Option.getD_some, Option.isSome_some, if_true, HLC.out] at hb4 ⊢
    have HB4 := Lib.hid hb4
    have HG4 := Lib.hid (HG.out.keep0 hO4)
    have HE14 := Lib.hid (HE1.out.keep0 hO4)
    have HE24 := Lib.hid (HE23.out.keep0 hO4)
    have HO4 := Lib.hid (HO3.out.trans' hO4)
    clear hb4 hO4 HG HE1 HE23 HO3
    go_wp2_with fail
    refine (script_dec_any (some ⟨g, 0, none⟩) (8 + E1) cg bs _ (by exact Row1.of_Own HG4.out (by simp [HLB.out]) hc hmg) (by omega)).mono ?_
    rintro e w5 ⟨A5, c5, rfl, hb5, hO5⟩
    rw [HXD.out] at hb5
    rw [HXD.out]
    simp only [Option.getD_some, Option.isSome_some, if_true, HXL.out] at hb5 ⊢
    have HZ5 := Lib.hid hb5
    have HB5 := Lib.hid (HB4.out.keep0 hO5)
    have HG5 := Lib.hid (HG4.out.keep0 hO5)
    have HE15 := Lib.hid (HE14.out.keep0 hO5)
    have HE25 := Lib.hid (HE24.out.keep0 hO5)
    have HO5 := Lib.hid (HO4.out.trans' hO5)
    have hmg' := hmg
    unfold maxLen at hmg'
    clear hb5 hO5 HG4 HE14 HE24 HO4 HB4
    have hr0 : 0 ≤ (r : Int) := by omega
    have hr1 : (r : Int) ≤ (cg : Int) := by omega
    have hr2 : ((r : Int)).toNat = r := by omega
    have hr3 : r ≤ cg := by omega
    go_wp2_with fail
    refine (round_any cut (8 + (E1 : Int)) _ HAA.out (by omega) (by omega)).mono ?_
    rintro e w6 ⟨rfl, rfl⟩
    rw [HR.out]
    go_wp2_with fail
    refine (script_dec_any (some ⟨g, 0, none⟩) r cg (bs.take r) _ (by have h1 := HG5.out.take r; rw [show (bvs bs).take r = bvs (bs.take r) from by simp [bvs, List.map_take]] at h1; exact Row1.of_Own h1 (by rw [bvs_length, List.length_take, HLB.out]; omega) (by omega) hmg) (by omega)).mono ?_
    rintro e w7 ⟨A7, c7, rfl, _, hO7⟩
    rw [HCUT.out]
    simp only [Option.getD_none, Option.isSome_none, Bool.false_eq_true, if_false, List.length_nil]
    have HZ7 := Lib.hid (HZ5.out.keep0 hO7)
    have HB7 := Lib.hid (HB5.out.keep0 hO7)
    have HG7 := Lib.hid (HG5.out.keep0 hO7)
    have HE17 := Lib.hid (HE15.out.keep0 hO7)
    have HE27 := Lib.hid (HE25.out.keep0 hO7)
    have HO7 := Lib.hid (HO5.out.trans' hO7)
    clear hO7 HZ5 HB5 HG5 HE15 HE25 HO5 hr0 hr1 hr2 hr3
    go_upto_region 10 with (fail)
    have HRW := Lib.hid (Row1.of_Own HG7.out (by simp [HLB.out]) hc hmg : Bys w7 (some ⟨g, 0, none⟩) (8 + E1) cg bs)
    have HE := Lib.hid (Gath.empty w7 5)
    have HOE := Lib.hid ((Only.refl [] w7).alloc (.cells #[] 5))
    have HLV : Hid ((bvs bs).length = 8 + E1) := Lib.hid (by simp [HLB.out])
    go_wp2_with (first
      | (at_builtin; refine wpList_append_row1 rfl (.tmp 79) (.tmp 80) 24 rfl w7.heap.size 5 i0 _ 1 Try.underlying24 hi0 hy0 hy1 hy2 rfl (.slice (some ⟨w7.heap.size, 0, none⟩) 0 0) 0 [] rfl (by first | exact HE.out.1 | exact HE.out.drew.1) (some ⟨g, 0, none⟩) (8 + E1) cg (bvs bs) rfl (by first | exact HRW.out.alloc _ | exact (HRW.out.alloc _).drew) (bvs_one _) (by unfold maxLen; omega) (by omega) (by simp) ?_
         intro v1 w8 hown1 hgr1 hat1
         have hG1 : Gath w8 w7.heap.size 5 v1 (bvs bs) ∧ Only [] w7 w8 := by
           first
             | exact HE.out.grown HOE.out rfl hown1 (by simp [HLB.out]) hgr1
             | exact HE.out.drew.grown HOE.out.drew rfl hown1 (by simp [HLB.out]) hgr1
         obtain ⟨A8, c8, rfl, hrow8, hb8⟩ := hG1.1.formN HLV.out
         have HG1 := Lib.hid hG1
         clear hG1 hown1 hgr1 hat1 hrow8 hb8)
      | (go_at_call 40; refine (round_any cut 256 _ HAA.out (by decide) (by decide)).mono ?_
         rintro e w9 ⟨rfl, rfl⟩
         rw [HZ.out])
      | (at_builtin; refine wpList_append_row1 rfl (.tmp 81) (.tmp 85) 24 rfl w7.heap.size 5 i0 _ 1 Try.underlying24 hi0 hy0 hy1 hy2 rfl (.slice A8 (8 + E1) c8) (8 + E1) (bvs bs) rfl (HG1.out.1.own ((Only.refl _ _).alloc _) HLV.out) _ 1 1 (bvs [z]) rfl (by have h := Own.new w8 #[.int .u8 zi] 5; rw [← HZI.out] at h ⊢; exact Row1.of_Own h rfl (Nat.le_refl _) (by unfold maxLen; omega)) (bvs_one _) (by unfold maxLen; omega) (by omega) (HG1.out.1.base_le ((Only.refl _ _).alloc _)) ?_
         intro v2 w9 hown2 hgr2 hat2
         have hG2 := (HG1.out.1.alloc (.cells #[.int .u8 zi] 5)).grown (HG1.out.2.alloc (.cells #[.int .u8 zi] 5)) rfl hown2 (by rw [List.length_append, HLV.out]; rfl) hgr2
         have hb65 : (bvs bs ++ bvs [z]).length = 8 + E1 + 1 := by rw [List.length_append, HLV.out]; rfl
         obtain ⟨A9, c9, rfl, hrow9, hb9⟩ := hG2.1.formN hb65
         have hbv : bvs bs ++ bvs [z] = bvs (bs ++ [z]) := by simp [bvs]
         rw [hbv] at hrow9
         have HR9 := Lib.hid hrow9
         have HZ9 := Lib.hid (HZ7.out.keep0 hG2.2)
         have HB9 := Lib.hid (HB7.out.keep0 hG2.2)
         have HG9 := Lib.hid (HRW.out.keep0 hG2.2)
         have HE19 := Lib.hid (HE17.out.keep0 hG2.2)
         have HE29 := Lib.hid (HE27.out.keep0 hG2.2)
         have HO9 := Lib.hid (HO7.out.trans' hG2.2)
         clear hG2 hown2 hgr2 hat2 hrow9 hb9 hbv hb65)
      | fail)
    refine (script_dec_any A9 (8 + E1 + 1) c9 (bs ++ [z]) _ (by exact HR9.out) (by omega)).mono ?_
    rintro e w10 ⟨A10, c10, rfl, _, hO10⟩
    rw [HLONG.out]
    simp only [Option.getD_none, Option.isSome_none, Bool.false_eq_true, if_false, List.length_nil]
    have HZ10 := Lib.hid (HZ9.out.keep0 hO10)
    have HB10 := Lib.hid (HB9.out.keep0 hO10)
    have HG10 := Lib.hid (HG9.out.keep0 hO10)
    have HE110 := Lib.hid (HE19.out.keep0 hO10)
    have HE210 := Lib.hid (HE29.out.keep0 hO10)
    have HO10 := Lib.hid (HO9.out.trans' hO10)
    clear hO10 HZ9 HB9 HG9 HE19 HE29 HO9 HR9 HZ7 HB7 HG7 HE17 HE27 HO7 HRW HE HOE HG1
    go_wp2_with fail
    refine (alike_events_any A5 n c5 X A1 n c1 X _ (by exact HZ10.out) (by exact HE110.out)).mono ?_
    rintro e w11 ⟨rfl, k1, rfl⟩
    have hdd : decide (X = X) = true := by simp
    rw [hdd]
    clear hdd
    go_wp2_with fail
    refine (alike_bytes_any (some ⟨g, 0, none⟩) (8 + E1) cg bs A4 (8 + E2) c4 cs _ (by exact HG10.out.keep0 ((Only.refl _ _).drewN _)) (by exact HB10.out.keep0 ((Only.refl _ _).drewN _))).mono ?_
    rintro e w12 ⟨rfl, k2, rfl⟩
    rw [HSAME.out, HBQ.out]
    go_wp2_with fail
    refine (alike_events_any A1 n c1 X A2 m c2 Y _ (by exact HE110.out.keep0 ((Only.refl _ _).drewN _)) (by exact HE210.out.keep0 ((Only.refl _ _).drewN _))).mono ?_
    rintro e w13 ⟨rfl, k3, rfl⟩
    rw [HBQ.out]
    have hqq : (bq == bq) = true := by simp
    go_wp2_with fail
    refine (awake30 _).mono ?_
    rintro e w14 ⟨rfl, hO14⟩
    have HO14 := Lib.hid ((HO10.out.drewN _).trans' hO14)
    go_wp2
    go_ret
    exact ⟨rfl, HO14.out⟩

theorem walk (a0 : Option Addr) (len0 cap0 : Nat) (l0 : List Ev) (a1 : Option Addr) (len1 cap1 : Nat) (l1 : List Ev) (a2 : Int) (w : World) (w0 : Evs w a0 len0 cap0 l0 ∧ ∀ e ∈ l0, WfE e) (w1 : Evs w a1 len1 cap1 l1 ∧ ∀ e ∈ l1, WfE e) (w2 : (Lit.int .i64 a2).wf = true) : Calls Try.prog 6 #[.slice a0 len0 cap0, .slice a1 len1 cap1, .int .i64 a2] w fun e w' => e = .returned (.bool true) ∧ Below w.heap.size w w' := by
  refine (main a0 len0 cap0 l0 a1 len1 cap1 l1 a2 w w0.1 w0.2 w1.1 w1.2 w2).mono ?_
  rintro e w' ⟨rfl, hO⟩
  exact ⟨rfl, hO.below0⟩

set_option maxRecDepth 100000 in
theorem lifted (os : Os) (started : os.Started) (H : Type) (enc : TypeId × Value → H) :
    ReturnsInHanded {} Try.checked os 6 .any (Rows.scriptBackSpec.pre6 enc Try.prog Try.f6 Rows.scriptBackRow.domain false) (Rows.scriptBackSpec.post enc Try.prog Try.f6 false true false false) := by
  refine returnsInHanded_of_change (C := Try.checked) own started (by kernel_rfl) Try.func6
    (ChangeSpec.witness6 (enc := enc) (C := Try.checked) false ⟨#[], #[.slice none 0 0, .slice none 0 0, .int .i64 0], []⟩ 8 (by kernel_rfl) (by kernel_rfl) (by kernel_rfl) (by kernel_rfl)) ?_
  intro W base args ds gs before hval0 hW hcnd _
  have hval : ∀ (j : Nat) t v, Try.f6.params[j]? = some t → args[j]? = some v → Value.okWide Try.prog W .any base t v := hval0
  have hW' := hW
  obtain ⟨p, q, hA0, hV, rfl, hfz, hnd⟩ := hW
  have hA : DataW.TrodAll enc Try.prog W 0 (fun _ => true) true Try.f6.params.toList args.toList ds p := hA0
  rw [Try.params6] at hA hval
  obtain ⟨v0, vs0, d0, ds0, p0, q0, hargs, rfl, rfl, h0, r0⟩ := trodAll_cons hA
  obtain ⟨v1, vs1, d1, ds1, p1, q1, rfl, rfl, rfl, h1, r1⟩ := trodAll_cons r0
  obtain ⟨v2, vs2, d2, ds2, p2, q2, rfl, rfl, rfl, h2, r2⟩ := trodAll_cons r1
  obtain ⟨rfl, rfl, rfl⟩ := trodAll_nil r2
  obtain rfl : args = #[v0, v1, v2] := by cases args; simp_all
  obtain ⟨rfl, rfl⟩ := trodVars_none hV
  obtain ⟨a0, len0, cap0, rfl⟩ := okWide_slice Try.underlying42 (hval 0 42 v0 rfl rfl)
  have k0 := h0
  have lt0 : ∀ x ∈ p0, x.block < W.heap.size := by obtain ⟨m, hm⟩ := k0; exact DataW.trod_lt m _ _ _ hm
  obtain ⟨l0, w0⟩ : ∃ l, Evs W a0 len0 cap0 l ∧ ∀ e ∈ l, WfE e := by
    obtain ⟨fuel, hf⟩ := h0
    exact open_events hf
  obtain ⟨a1, len1, cap1, rfl⟩ := okWide_slice Try.underlying42 (hval 1 42 v1 rfl rfl)
  have k1 := h1
  have lt1 : ∀ x ∈ p1, x.block < W.heap.size := by obtain ⟨m, hm⟩ := k1; exact DataW.trod_lt m _ _ _ hm
  obtain ⟨l1, w1⟩ : ∃ l, Evs W a1 len1 cap1 l ∧ ∀ e ∈ l, WfE e := by
    obtain ⟨fuel, hf⟩ := h1
    exact open_events hf
  obtain ⟨a2, rfl, rfl, rfl, w2⟩ := open_int Try.underlying3 (hval 2 3 v2 rfl rfl) h2
  clear hA0 hval0
  refine (walk a0 len0 cap0 l0 a1 len1 cap1 l1 a2 W w0 w1 w2).mono fun e W' ⟨he, bel⟩ => ?_
  subst he
  exact ⟨_, rfl, _, _, _, [], _, [], hW', trodAll_mk1 (shut_bool Try.underlying4 _), (trodAll_cons_mk (Below.trod laidOut (by kernel_rfl) (of_decide_eq_true (by kernel_rfl)) k0 bel lt0) (trodAll_cons_mk (Below.trod laidOut (by kernel_rfl) (of_decide_eq_true (by kernel_rfl)) k1 bel lt1) (trodAll_cons_mk (shut_int Try.underlying3 w2) trodAll_mk0))), rfl, bel.frame _, fun h => by cases h⟩

set_option maxRecDepth 100000 in
theorem closed : joinedFacts Try.pinned.checked.prog 6 Try.f6 Rows.scriptBackSpec Rows.scriptBackRow = true := by
  show joinedFacts Try.prog 6 Try.f6 Rows.scriptBackSpec Rows.scriptBackRow = true
  unfold joinedFacts
  simp only [enter_may, enter_lifts, enter_make]
  kernel_rfl

theorem over : Rows.scriptBackRow.holds Try.pinned (OpenSpec.ofChange Rows.scriptBackSpec) :=
  OpenClaim.holds_of_wide 6 Try.f6 rfl rfl rfl rfl rfl rfl rfl ⟨rfl, rfl, rfl, rfl, rfl⟩ rfl rfl rfl rfl rfl (by kernel_rfl) Try.func6 closed
    (of_decide_eq_true (by kernel_rfl)) (by unfold Func.isWrapper; first | (rw [if_pos (by decide +kernel)]; kernel_rfl) | (rw [if_neg (by decide +kernel)]; exact ⟨rfl, rfl⟩))
    (fun os started H enc _ => lifted os started H enc)

theorem proved : Rows.ScriptBackSaid := over

end Go.Proofs.Ytjmbhknokobnpaa.scriptBack
