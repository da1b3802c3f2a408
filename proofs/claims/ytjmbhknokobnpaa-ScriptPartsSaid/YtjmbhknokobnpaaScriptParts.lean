/- Claim ScriptParts. -/
import Derived.Test.YtjmbhknokobnpaaEnter
import Derived.Test.YtjmbhknokobnpaaLaw30B
import Derived.Test.YtjmbhknokobnpaaRefA
import Derived.Test.YtjmbhknokobnpaaFrameU
import Derived.Deep.RegionLaw
set_option linter.unusedVariables false
set_option linter.unusedSimpArgs false
namespace Go.Kn
open Go Go.RowKit
/-- 'append(s, x...)', s a row of the call's own, x whatever reads as elements of so many cells -/
theorem run_append_rowN {P : Program} (w : World) (base : Nat) (t ty e : TypeId) (i : TypeInfo) (z : Value) (size bytes : Nat) (ht : P.underlying t = some (.slice e)) (hi : P.info? e = some i) (hz : i.zero = some z)
    (hsize : i.size = size) (hby : i.bytes = bytes) (hzs : z.cells.size = size) (hsz : 0 < size)
    (v : Value) (n : Nat) (xs : List Value) (hown : w.ownsRow base e size v n xs)
    (A : Option Addr) (m c : Nat) (news : List Value) (hl : news.length = m * size) (hnews : ∀ ad, A = some ad → ∀ j u, news[j]? = some u → w.cell? (ad.add j) = some u) (hA : A = none → m = 0) (h1 : ∀ u ∈ news, u.oneCell' = true)
    (h63 : n + m ≤ maxLen) (hbytes : (n + m) * bytes ≤ 140737488355328) (hbase : base ≤ w.heap.size) :
    ∃ v' w', (Builtin.append_ #[t, t] ty #[v, .slice A m c]).run P w = .ok v' w' ∧ w'.ownsRow base e size v' (n + m) (xs ++ news) ∧ w.grownBy w' v.ownBlock ∧
      (v'.ownBlock = v.ownBlock ∨ v'.ownBlock = some w.heap.size) := by
  rcases A with _ | ad
  · have hm := hA rfl
    subst hm
    have hn : news = [] := List.eq_nil_of_length_eq_zero (by omega)
    subst hn
    refine ⟨v, w, ?_, by simpa using hown, World.grownBy.refl w _, .inl rfl⟩
    rcases hown.2 with ⟨rfl, rfl⟩ | ⟨g, cap, cur, rfl, _, _, hnc, _⟩
    · simp [Builtin.append_, run_underlying ht, sizeOf, typeInfo, hi, Builtin.lenOf, Builtin.firstCells]
    · simp [Builtin.append_, run_underlying ht, sizeOf, typeInfo, hi, Builtin.lenOf, Builtin.firstCells, hnc, storeCells]
  · obtain ⟨v', w', hrun, h2, h3, _, h5⟩ := run_append_own_at (P := P) w base t ty e i z size bytes ht hi hz hsize hby hzs hsz v n xs hown ad m c news hl (hnews ad rfl) h1 h63 hbytes hbase
    exact ⟨v', w', hrun, h2, h3, h5⟩
theorem wpList_append_rowN {P : Program} {w : World} {ops : Array Oper} {rest : List Oper} {o : Oper} {a : Act} {Q : Exit → Act → World → Prop} (hgd : o.guard = none) (s x : Operand) (t : TypeId)
    (ho : o.op = .call { callee := .builtin .append, args := #[s, x], argTypes := #[t, t] })
    (base : Nat) (e : TypeId) (i : TypeInfo) (z : Value) (size bytes : Nat) (ht : P.underlying t = some (.slice e)) (hi : P.info? e = some i) (hz : i.zero = some z)
    (hsize : i.size = size) (hby : i.bytes = bytes) (hzs : z.cells.size = size) (hsz : 0 < size)
    (v : Value) (n : Nat) (xs : List Value) (hs : a.eval s = v) (hown : w.ownsRow base e size v n xs)
    (A : Option Addr) (m c : Nat) (news : List Value) (hx : a.eval x = .slice A m c) (hl : news.length = m * size) (hnews : ∀ ad, A = some ad → ∀ j u, news[j]? = some u → w.cell? (ad.add j) = some u) (hA : A = none → m = 0) (h1 : ∀ u ∈ news, u.oneCell' = true)
    (h63 : n + m ≤ maxLen) (hbytes : (n + m) * bytes ≤ 140737488355328) (hbase : base ≤ w.heap.size)
    (h : ∀ v' w', w'.ownsRow base e size v' (n + m) (xs ++ news) → w.grownBy w' v.ownBlock → (v'.ownBlock = v.ownBlock ∨ v'.ownBlock = some w.heap.size) → wpList P ops Q rest (a.put o.dst v') w') : wpList P ops Q (o :: rest) a w := by
  refine wpList_plain hgd fun K hK => ?_
  obtain ⟨v', w', hrun, h2, h3, h4⟩ := run_append_rowN (P := P) w base t o.type e i z size bytes ht hi hz hsize hby hzs hsz v n xs hown A m c news hl hnews hA h1 h63 hbytes hbase
  unfold Oper.wp execOp
  simp only [ho, resolve, invoke, builtin, Sem.run_bind, Sem.run_pure, Result.andThen_ok, List.map_toArray, List.map_cons, List.map_nil, hs, hx, hrun]
  exact hK _ _ (h v' w' h2 h3 h4)
/-- the cells of a slice of events -/
theorem Evs.cells {w : World} {A : Option Addr} {n c : Nat} {l : List Ev} (h : Evs w A n c l) : ∃ xs : List (Ev × Sl), xs.map (·.1) = l ∧ (∀ ad, A = some ad → ∀ j u, (evsV xs)[j]? = some u → w.cell? (ad.add j) = some u) ∧ (∀ x ∈ xs, Ins w x.2.1 x.2.2.1 x.2.2.2 x.1.ps) ∧ (A = none → n = 0) := by
  rcases Nat.eq_zero_or_pos n with h0 | h0
  · have hl : l = [] := List.eq_nil_of_length_eq_zero (by rw [h.len]; exact h0)
    subst hl
    exact ⟨[], rfl, by simp [evsV], by simp, fun _ => h0⟩
  · obtain ⟨g, o, rfl, _⟩ := h.at_ h0
    obtain ⟨xs, h1, h2, h3⟩ := h.list h0
    refine ⟨xs, h1, fun ad ha j u hj => ?_, h3, fun h => by cases h⟩
    injection ha with ha
    subst ha
    exact h2 j u hj
theorem GathE.empty (w : World) (e : Nat) : GathE (w.alloc (.cells #[] e)) w.heap.size e (.slice (some ⟨w.heap.size, 0, none⟩) 0 0) [] [] :=
  ⟨rfl, ⟨⟨by simp [evsV], .inr ⟨w.heap.size, 0, #[], rfl, Nat.le_refl _, heap_alloc_new w _, Nat.le_refl _, by simp [maxLen], by simp, by simp [evsV]⟩⟩, by simp⟩, by simp⟩
/-- picks that lay below cannot lie in the block that is gathered -/
theorem picks_below {w0 w : World} {e : Nat} {v : Value} {l : List Ev} {xs ys : List (Ev × Sl)} (h : GathE w w0.heap.size e v l xs) (hO : Only [] w0 w) (hy : ∀ y ∈ ys, Ins w0 y.2.1 y.2.2.1 y.2.2.2 y.1.ps) : ∀ y ∈ ys, PickAt w v y := fun y hm =>
  ⟨(hy y hm).keep0 hO, fun hn a ha hq => by
    have h1 := (hy y hm).block_lt hn a ha
    have h2 := (h.2.1.1.lt _ hq).1
    omega⟩
theorem scr_both (X Y : List Ev) : ((scrBytes (X ++ Y)).drop 4).take ((scrBytes (X ++ Y)).length - 8) = ((scrBytes X).drop 4).take ((scrBytes X).length - 8) ++ ((scrBytes Y).drop 4).take ((scrBytes Y).length - 8) := by
  rw [scrBytes_mid, scrBytes_mid, scrBytes_mid, List.flatMap_append, cat_append]
end Go.Kn
namespace Go.Proofs.Ytjmbhknokobnpaa.scriptParts
open Go Go.RowKit Go.Kn Go.ChangeShapes Go.WideShapes Go.ChangeAt

set_option maxRecDepth 100000 in
set_option maxHeartbeats 16000000 in
theorem main (A : Option Addr) (n c : Nat) (l : List Ev) (B : Option Addr) (m d : Nat) (k : List Ev) (w : World) (hi : Evs w A n c l) (hw : ∀ e ∈ l, WfE e) (hj : Evs w B m d k) (hv : ∀ e ∈ k, WfE e) :
    Calls Try.prog 8 #[.slice A n c, .slice B m d] w fun e w' => e = .returned (.bool true) ∧ Only [] w w' := by
  have hlen := hi.len
  have hcm := hi.cm
  have hcl := hi.le
  have hlem := hj.len
  have hdm := hj.cm
  have hdl := hj.le
  unfold maxLen at hcm hdm
  have HI := Lib.hid hi
  have HW := Lib.hid hw
  have HJ := Lib.hid hj
  have HV := Lib.hid hv
  clear hi hw hj hv
  by_cases hnn : 150 < n
  · clear hlen hlem
    go_enter Try.func8, Try.ntmps8
    go_wp2_with fail
    refine (awake30 _).mono ?_
    rintro e w6 ⟨rfl, hO6⟩
    go_wp2
    go_ret
    exact ⟨rfl, hO6⟩
  by_cases hmm : 150 < m
  · clear hlen hlem
    go_enter Try.func8, Try.ntmps8
    go_wp2_with fail
    refine (awake30 _).mono ?_
    rintro e w6 ⟨rfl, hO6⟩
    go_wp2
    go_ret
    exact ⟨rfl, hO6⟩
  cases hf : fewB l with
  | false =>
    have HF := Lib.hid hf
    clear hf
    go_enter Try.func8, Try.ntmps8
    go_wp2_with fail
    refine (few_any A n c l _ (by exact HI.out)).mono ?_
    rintro e w1 ⟨rfl, rfl⟩
    rw [HF.out]
    go_wp2_with fail
    refine (awake30 _).mono ?_
    rintro e w6 ⟨rfl, hO6⟩
    go_wp2
    go_ret
    exact ⟨rfl, hO6⟩
  | true =>
  have HF := Lib.hid hf
  clear hf
  cases hf : fewB k with
  | false =>
    have HF2 := Lib.hid hf
    clear hf
    go_enter Try.func8, Try.ntmps8
    go_wp2_with fail
    refine (few_any A n c l _ (by exact HI.out)).mono ?_
    rintro e w1 ⟨rfl, rfl⟩
    rw [HF.out]
    go_wp2_with fail
    refine (few_any B m d k _ (by exact HJ.out)).mono ?_
    rintro e w1 ⟨rfl, rfl⟩
    rw [HF2.out]
    go_wp2_with fail
    refine (awake30 _).mono ?_
    rintro e w6 ⟨rfl, hO6⟩
    go_wp2
    go_ret
    exact ⟨rfl, hO6⟩
  | true =>
    have HF2 := Lib.hid hf
    clear hf
    obtain ⟨X, hX⟩ : ∃ X, l.map madeEv = X := ⟨_, rfl⟩
    obtain ⟨Y, hY⟩ : ∃ Y, k.map madeEv = Y := ⟨_, rfl⟩
    have hXl : X.length = n := by rw [← hX, List.length_map, hlen]
    have hYl : Y.length = m := by rw [← hY, List.length_map, hlem]
    have hXm : X.all Ev.may = true := by rw [← hX]; exact madeEvs_may l
    have hYm : Y.all Ev.may = true := by rw [← hY]; exact madeEvs_may k
    have HX := Lib.hid hX
    have HY := Lib.hid hY
    have HXL := Lib.hid hXl
    have HYL := Lib.hid hYl
    have HXM := Lib.hid hXm
    have HYM := Lib.hid hYm
    obtain ⟨E1, hE1⟩ : ∃ E, evsW X = E := ⟨_, rfl⟩
    obtain ⟨E2, hE2⟩ : ∃ E, evsW Y = E := ⟨_, rfl⟩
    have hl1 := evsW_le hXm
    have hl2 := evsW_le hYm
    rw [hE1, hXl] at hl1
    rw [hE2, hYl] at hl2
    obtain ⟨bs, hbs⟩ : ∃ bs, scrBytes X = bs := ⟨_, rfl⟩
    obtain ⟨cs, hcs⟩ : ∃ cs, scrBytes Y = cs := ⟨_, rfl⟩
    obtain ⟨ds, hds⟩ : ∃ ds, scrBytes (X ++ Y) = ds := ⟨_, rfl⟩
    have hXYm : (X ++ Y).all Ev.may = true := by rw [List.all_append, hXm, hYm]; rfl
    have hXYl : (X ++ Y).length = n + m := by rw [List.length_append, hXl, hYl]
    obtain ⟨E3, hE3⟩ : ∃ E3, E1 + E2 = E3 := ⟨_, rfl⟩
    have hlb : bs.length = 8 + E1 := by rw [← hbs, scrBytes_length, hE1]
    have hlc : cs.length = 8 + E2 := by rw [← hcs, scrBytes_length, hE2]
    have hld : ds.length = 8 + E3 := by rw [← hds, scrBytes_length, evsW_append, hE1, hE2, hE3]
    have HLB := Lib.hid hlb
    have HLC := Lib.hid hlc
    have HLD := Lib.hid hld
    have HXYL := Lib.hid hXYl
    have HXE : Hid (encEvs X = some bs) := Lib.hid (by rw [← hbs]; exact encEvs_good (by omega) hXm)
    have HYE : Hid (encEvs Y = some cs) := Lib.hid (by rw [← hcs]; exact encEvs_good (by omega) hYm)
    have HZE : Hid (encEvs (X ++ Y) = some ds) := Lib.hid (by rw [← hds]; exact encEvs_good (by omega) hXYm)
    have HZD : Hid (decEvs ds = some (X ++ Y)) := Lib.hid (by rw [← hds]; exact evs_back (by omega) hXYm)
    have HMID : Hid ((ds.drop 4).take E3 = (bs.drop 4).take E1 ++ (cs.drop 4).take E2) := Lib.hid (by
      have h := scr_both X Y
      rw [hbs, hcs, hds, hlb, hlc, hld] at h
      rwa [show 8 + E3 - 8 = E3 by omega, show 8 + E1 - 8 = E1 by omega, show 8 + E2 - 8 = E2 by omega] at h)
    have HE3' := Lib.hid hE3
    clear hX hY hXl hYl hXm hYm hE1 hE2 hbs hcs hds hlb hlc hld hXYm hXYl hlen hlem
    obtain ⟨i0, hi0, hy0, hy1, hy2⟩ := info_parts Try.infoU8
    obtain ⟨i1, hi1, hz0, hz1, hz2⟩ := info_parts Try.infoEvent
    go_enter Try.func8, Try.ntmps8
    go_wp2_with fail
    refine (few_any A n c l _ (by exact HI.out)).mono ?_
    rintro e w1 ⟨rfl, rfl⟩
    rw [HF.out]
    go_wp2_with fail
    refine (few_any B m d k _ (by exact HJ.out)).mono ?_
    rintro e w1 ⟨rfl, rfl⟩
    rw [HF2.out]
    go_wp2_with fail
    refine (made30_any A n c l _ (by exact HI.out) HW.out (by omega)).mono ?_
    rintro e w1 ⟨A1, c1, rfl, hev1, hO1⟩
    rw [HX.out] at hev1
    have HE1 := Lib.hid hev1
    have HO1 := Lib.hid hO1
    clear hev1 hO1
    go_wp2_with fail
    refine (made30_any B m d k _ (by exact HJ.out.keep0 HO1.out) HV.out (by omega)).mono ?_
    rintro e w2 ⟨A2, c2, rfl, hev2, hO2⟩
    rw [HY.out] at hev2
    have HE2 := Lib.hid hev2
    have HE12 := Lib.hid (HE1.out.keep0 hO2)
    have HO2 := Lib.hid (HO1.out.trans' hO2)
    clear hev2 hO2 HO1 HE1
    go_upto_region 4 with (fail)
    obtain ⟨xs, hx1, hx2, hx3, hx4⟩ := HE12.out.cells
    obtain ⟨ys, hy1', hy2', hy3', hy4'⟩ := HE2.out.cells
    have hxl : xs.length = n := by have := congrArg List.length hx1; simpa [HXL.out] using this
    have hyl : ys.length = m := by have := congrArg List.length hy1'; simpa [HYL.out] using this
    have HX1 := Lib.hid hx1
    have HX2 := Lib.hid hx2
    have HX3 := Lib.hid hx3
    have HX4 := Lib.hid hx4
    have HY1 := Lib.hid hy1'
    have HY2 := Lib.hid hy2'
    have HY3 := Lib.hid hy3'
    have HY4 := Lib.hid hy4'
    have HXN := Lib.hid hxl
    have HYN := Lib.hid hyl
    have HG0 := Lib.hid (GathE.empty w2 54)
    have hO0 := (Only.refl [] w2).alloc (.cells #[] 54)
    have HO0 := Lib.hid hO0
    have HC1 : Hid (∀ ad, A1 = some ad → ∀ j u, (evsV xs)[j]? = some u → (w2.alloc (.cells #[] 54)).cell? (ad.add j) = some u) := Lib.hid (fun ad ha j u hj => hO0.cell (hx2 ad ha j u hj) (by simp))
    clear hx1 hx2 hx3 hx4 hy1' hy2' hy3' hy4' hxl hyl hO0
    go_wp2_with (first
      | (at_builtin; refine wpList_append_rowN rfl (.tmp 40) (.tmp 41) 42 rfl w2.heap.size 54 i1 _ 5 56 Try.underlying42 hi1 hz0 hz1 hz2 rfl (by decide) (.slice (some ⟨w2.heap.size, 0, none⟩) 0 0) 0 (evsV []) rfl (by exact HG0.out.2.1.1) A1 n c1 (evsV xs) rfl (by rw [evsV_length, HXN.out]) HC1.out HX4.out (evsV_one _) (by unfold maxLen; omega) (by omega) (by simp) ?_
         intro v1 w8 hown1 hgr1 hat1
         obtain ⟨hG1, hO8⟩ := HG0.out.grow (ys := xs) HO0.out rfl (by simp [HXN.out]) hown1 hgr1 hat1 (picks_below HG0.out HO0.out HX3.out)
         rw [List.nil_append, List.nil_append, HX1.out] at hG1
         obtain ⟨A8, c8, rfl, _, _⟩ := hG1.formN HXL.out
         have HG1 := Lib.hid hG1
         have hgn := hG1.2.1
         rw [HXL.out] at hgn
         have HGN1 := Lib.hid hgn
         have HC2 : Hid (∀ ad, A2 = some ad → ∀ j u, (evsV ys)[j]? = some u → w8.cell? (ad.add j) = some u) := Lib.hid (fun ad ha j u hj => hO8.cell (HY2.out ad ha j u hj) (by simp))
         have HO8 := Lib.hid hO8
         clear hown1 hgr1 hat1 hG1 hO8 hgn)
      | (at_builtin; refine wpList_append_rowN rfl (.tmp 42) (.tmp 43) 42 rfl w2.heap.size 54 i1 _ 5 56 Try.underlying42 hi1 hz0 hz1 hz2 rfl (by decide) (.slice A8 n c8) n (evsV xs) rfl (by exact HGN1.out.1) A2 m c2 (evsV ys) rfl (by rw [evsV_length, HYN.out]) HC2.out HY4.out (evsV_one _) (by unfold maxLen; omega) (by omega) HGN1.out.2 ?_
         intro v2 w9 hown2 hgr2 hat2
         obtain ⟨hG2, hO9⟩ := HG1.out.grow (ys := ys) HO8.out rfl (by rw [HXL.out, HYN.out]) hown2 hgr2 hat2 (picks_below HG1.out HO8.out HY3.out)
         rw [HY1.out] at hG2
         obtain ⟨A9, c9, rfl, hev9, _⟩ := hG2.formN HXYL.out
         have HE3 := Lib.hid hev9
         have HE13 := Lib.hid (HE12.out.keep0 hO9)
         have HE23 := Lib.hid (HE2.out.keep0 hO9)
         have HO3 := Lib.hid (HO2.out.trans' hO9)
         clear hown2 hgr2 hat2 hG2 hO9 hev9)
      | fail)
    clear HG0 HO0 HC1 HG1 HGN1 HC2 HO8 HX1 HX2 HX3 HX4 HY1 HY2 HY3 HY4 HXN HYN HE12 HE2 HO2
    refine (script_enc_own A1 n c1 X _ (by exact HE13.out)).mono ?_
    intro e w3 he
    rw [HXE.out] at he
    obtain ⟨g, cg, rfl, hc, hmg, hg, ho, hO3⟩ := he.of_some
    rw [HLB.out] at hc ⊢
    have HG := Lib.hid ho
    have HE4 := Lib.hid (HE3.out.keep0 hO3)
    have HE24 := Lib.hid (HE23.out.keep0 hO3)
    have HO4 := Lib.hid (HO3.out.trans' hO3)
    clear he ho hO3 HE13 HE3 HE23 HO3 hg
    go_wp2_with fail
    refine (script_enc_own A2 m c2 Y _ (by exact HE24.out)).mono ?_
    intro e w4 he
    rw [HYE.out] at he
    obtain ⟨g2, cg2, rfl, hc2, hmg2, hg2, ho, hO4⟩ := he.of_some
    rw [HLC.out] at hc2 ⊢
    have HGB := Lib.hid ho
    have HGA := Lib.hid (HG.out.keep0 hO4)
    have HE5 := Lib.hid (HE4.out.keep0 hO4)
    have HO5 := Lib.hid (HO4.out.trans' hO4)
    clear he ho hO4 HG HE4 HE24 HO4 hg2
    go_wp2_with fail
    refine (script_enc_own A9 (n + m) c9 (X ++ Y) _ (by exact HE5.out)).mono ?_
    intro e w5 he
    rw [HZE.out] at he
    obtain ⟨g3, cg3, rfl, hc3, hmg3, hg3, ho, hO5⟩ := he.of_some
    rw [HLD.out] at hc3 ⊢
    have HG3 := Lib.hid ho
    have HG1 := Lib.hid (HGA.out.keep0 hO5)
    have HG2 := Lib.hid (HGB.out.keep0 hO5)
    have HE6 := Lib.hid (HE5.out.keep0 hO5)
    have HO6 := Lib.hid (HO5.out.trans' hO5)
    have hmg' := hmg
    have hmg2' := hmg2
    have hmg3' := hmg3
    unfold maxLen at hmg' hmg2' hmg3'
    clear he ho hO5 HGA HGB HE5 HO5 hg3
    have hp1 : (4 : Int) ≤ 4 + (E3 : Int) := by omega
    have hp2 : 4 + (E3 : Int) ≤ (cg3 : Int) := by omega
    have hp3 : (4 + (E3 : Int)).toNat = 4 + E3 := by omega
    have hp4 : ¬ (cg3 = 4) := by omega
    have hw3 := IntWalk.i64_in (4 + (E3 : Int)) (by omega)
    have hm3 : (4 : Int) ≤ max (4 + (E3 : Int)) 0 := by omega
    have hv3 : (0 : Int) ≤ 4 + (E3 : Int) := by omega
    have hq3 : 4 + E3 - 4 = E3 := by omega
    have hu3 : (8 + (E3 : Int)) - 4 = 4 + (E3 : Int) := by omega
    have hs0 : (4 : Int) ≤ 4 + (E1 : Int) := by omega
    have hs1 : 4 + (E1 : Int) ≤ (cg : Int) := by omega
    have hs2 : (4 + (E1 : Int)).toNat = 4 + E1 := by omega
    have hs3 : 4 + E1 ≤ cg := by omega
    have hs4 : ¬ (cg = 4) := by omega
    have ht0 : (4 : Int) ≤ 4 + (E2 : Int) := by omega
    have ht1 : 4 + (E2 : Int) ≤ (cg2 : Int) := by omega
    have ht2 : (4 + (E2 : Int)).toNat = 4 + E2 := by omega
    have ht3 : 4 + E2 ≤ cg2 := by omega
    have ht4 : ¬ (cg2 = 4) := by omega
    have hw1 := IntWalk.i64_in (4 + (E1 : Int)) (by omega)
    have hw2 := IntWalk.i64_in (4 + (E2 : Int)) (by omega)
    have hm1 : (4 : Int) ≤ max (4 + (E1 : Int)) 0 := by omega
    have hm2 : (4 : Int) ≤ max (4 + (E2 : Int)) 0 := by omega
    have hv1 : (0 : Int) ≤ 4 + (E1 : Int) := by omega
    have hv2 : (0 : Int) ≤ 4 + (E2 : Int) := by omega
    have hq1 : 4 + E1 - 4 = E1 := by omega
    have hq2 : 4 + E2 - 4 = E2 := by omega
    have hu1 : (8 + (E1 : Int)) - 4 = 4 + (E1 : Int) := by omega
    have hu2 : (8 + (E2 : Int)) - 4 = 4 + (E2 : Int) := by omega
    have HR1 : Hid (Bys w5 (some ⟨g, 4, none⟩) E1 (cg - 4) ((bs.drop 4).take E1)) := Lib.hid (by
      have h := (Row1.of_Own HG1.out (by simp [HLB.out]) hc hmg : Bys w5 (some ⟨g, 0, none⟩) (8 + E1) cg bs).cut (l := 4) (m := E1) (by omega)
      rwa [cutA_at (k := 4) (n := 8 + E1) (by omega) hc, bvs_cut] at h)
    have HR2 : Hid (Bys w5 (some ⟨g2, 4, none⟩) E2 (cg2 - 4) ((cs.drop 4).take E2)) := Lib.hid (by
      have h := (Row1.of_Own HG2.out (by simp [HLC.out]) hc2 hmg2 : Bys w5 (some ⟨g2, 0, none⟩) (8 + E2) cg2 cs).cut (l := 4) (m := E2) (by omega)
      rwa [cutA_at (k := 4) (n := 8 + E2) (by omega) hc2, bvs_cut] at h)
    have HR3 : Hid (Bys w5 (some ⟨g3, 4, none⟩) E3 (cg3 - 4) ((ds.drop 4).take E3)) := Lib.hid (by
      have h := (Row1.of_Own HG3.out (by simp [HLD.out]) hc3 hmg3 : Bys w5 (some ⟨g3, 0, none⟩) (8 + E3) cg3 ds).cut (l := 4) (m := E3) (by omega)
      rwa [cutA_at (k := 4) (n := 8 + E3) (by omega) hc3, bvs_cut] at h)
    have HE := Lib.hid (Gath.empty w5 5)
    have HOE := Lib.hid ((Only.refl [] w5).alloc (.cells #[] 5))
    have HLV : Hid ((bvs ((bs.drop 4).take E1)).length = E1) := Lib.hid (by rw [bvs_length, List.length_take, List.length_drop, HLB.out]; omega)
    have HLW : Hid ((bvs ((cs.drop 4).take E2)).length = E2) := Lib.hid (by rw [bvs_length, List.length_take, List.length_drop, HLC.out]; omega)
    go_wp2_with fail
    go_region_law (first
      | (refine step_append_row1 rfl (.tmp 85) (.tmp 90) 24 rfl w5.heap.size 5 i0 _ 1 Try.underlying24 hi0 hy0 hy1 hy2 rfl (.slice (some ⟨w5.heap.size, 0, none⟩) 0 0) 0 [] rfl HE.out.drew.1 (some ⟨g, 4, none⟩) E1 (cg - 4) (bvs ((bs.drop 4).take E1)) rfl (by exact (HR1.out.alloc _).drew) (bvs_one _) (by unfold maxLen; omega) (by omega) (by simp) ?_
         intro v1 w8 hown1 hgr1 hat1
         have hG1 : Gath w8 w5.heap.size 5 v1 (bvs ((bs.drop 4).take E1)) ∧ Only [] w5 w8 := HE.out.drew.grown HOE.out.drew rfl hown1 (by rw [HLV.out]; omega) hgr1
         obtain ⟨A8, c8, rfl, hrow8, hb8⟩ := hG1.1.formN HLV.out
         have HGP := Lib.hid hG1
         clear hG1 hown1 hgr1 hat1 hrow8 hb8)
      | (refine step_append_row1 rfl (.tmp 91) (.tmp 96) 24 rfl w5.heap.size 5 i0 _ 1 Try.underlying24 hi0 hy0 hy1 hy2 rfl (.slice A8 E1 c8) E1 (bvs ((bs.drop 4).take E1)) rfl (HGP.out.1.own (Only.refl _ _) HLV.out) (some ⟨g2, 4, none⟩) E2 (cg2 - 4) (bvs ((cs.drop 4).take E2)) rfl (by exact HR2.out.keep0 HGP.out.2) (bvs_one _) (by unfold maxLen; omega) (by omega) HGP.out.1.2 ?_
         intro v2 w9 hown2 hgr2 hat2
         have hG2 := HGP.out.1.grown HGP.out.2 rfl hown2 (by rw [List.length_append, HLV.out, HLW.out]) hgr2
         have hlen2 : (bvs ((bs.drop 4).take E1) ++ bvs ((cs.drop 4).take E2)).length = E3 := by rw [List.length_append, HLV.out, HLW.out, HE3'.out]
         obtain ⟨A9', c9', rfl, hrow9, hb9⟩ := hG2.1.formN hlen2
         have hbv : bvs ((bs.drop 4).take E1) ++ bvs ((cs.drop 4).take E2) = bvs ((ds.drop 4).take E3) := by rw [HMID.out]; simp [bvs]
         rw [hbv] at hrow9
         have HP := Lib.hid hrow9
         have HR39 := Lib.hid (HR3.out.keep0 hG2.2)
         have HG39 := Lib.hid (HG3.out.keep0 hG2.2)
         have HE9 := Lib.hid (HE6.out.keep0 hG2.2)
         have HO9 := Lib.hid (HO6.out.trans' hG2.2)
         clear hG2 hown2 hgr2 hat2 hrow9 hb9 hbv hlen2))
    all_goals
      clear HE HOE HGP HR1 HR2 HR3 HG1 HG2 HG3 HE6 HO6
      go_wp2_with fail
      refine (script_dec_any (some ⟨g3, 0, none⟩) (8 + E3) cg3 ds _ (by exact Row1.of_Own HG39.out (by simp [HLD.out]) hc3 hmg3) (by omega)).mono ?_
      rintro e w10 ⟨A10, c10, rfl, hb10, hO10⟩
      rw [HZD.out] at hb10
      rw [HZD.out]
      simp only [Option.getD_some, Option.isSome_some, if_true, HXYL.out] at hb10 ⊢
      have HZ10 := Lib.hid hb10
      have HP10 := Lib.hid (HP.out.keep0 hO10)
      have HR10 := Lib.hid (HR39.out.keep0 hO10)
      have HE10 := Lib.hid (HE9.out.keep0 hO10)
      have HO10 := Lib.hid (HO9.out.trans' hO10)
      clear hb10 hO10 HP HR39 HE9 HO9 HG39
      go_wp2_with fail
      refine (alike_bytes_any (some ⟨g3, 4, none⟩) E3 (cg3 - 4) ((ds.drop 4).take E3) A9' E3 c9' ((ds.drop 4).take E3) _ (by exact HR10.out) (by exact HP10.out)).mono ?_
      rintro e w11 ⟨rfl, k1, rfl⟩
      have hdd : decide ((ds.drop 4).take E3 = (ds.drop 4).take E3) = true := by simp
      rw [hdd]
      clear hdd
      go_wp2_with fail
      refine (alike_events_any A10 (n + m) c10 (X ++ Y) A9 (n + m) c9 (X ++ Y) _ (by exact HZ10.out.keep0 ((Only.refl _ _).drewN _)) (by exact HE10.out.keep0 ((Only.refl _ _).drewN _))).mono ?_
      rintro e w12 ⟨rfl, k2, rfl⟩
      have hdd : decide (X ++ Y = X ++ Y) = true := by simp
      rw [hdd]
      clear hdd
      go_wp2_with fail
      refine (awake30 _).mono ?_
      rintro e w13 ⟨rfl, hO13⟩
      have HO13 := Lib.hid ((HO10.out.drewN _).trans' hO13)
      go_wp2
      go_ret
      exact ⟨rfl, HO13.out⟩

theorem walk (a0 : Option Addr) (len0 cap0 : Nat) (l0 : List Ev) (a1 : Option Addr) (len1 cap1 : Nat) (l1 : List Ev) (w : World) (w0 : Evs w a0 len0 cap0 l0 ∧ ∀ e ∈ l0, WfE e) (w1 : Evs w a1 len1 cap1 l1 ∧ ∀ e ∈ l1, WfE e) : Calls Try.prog 8 #[.slice a0 len0 cap0, .slice a1 len1 cap1] w fun e w' => e = .returned (.bool true) ∧ Below w.heap.size w w' := by
  refine (main a0 len0 cap0 l0 a1 len1 cap1 l1 w w0.1 w0.2 w1.1 w1.2).mono ?_
  rintro e w' ⟨rfl, hO⟩
  exact ⟨rfl, hO.below0⟩

set_option maxRecDepth 100000 in
theorem lifted (os : Os) (started : os.Started) (H : Type) (enc : TypeId × Value → H) :
    ReturnsInHanded {} Try.checked os 8 .any (Rows.scriptPartsSpec.pre6 enc Try.prog Try.f8 Rows.scriptPartsRow.domain false) (Rows.scriptPartsSpec.post enc Try.prog Try.f8 false true false false) := by
  refine returnsInHanded_of_change (C := Try.checked) own started (by kernel_rfl) Try.func8
    (ChangeSpec.witness6 (enc := enc) (C := Try.checked) false ⟨#[], #[.slice none 0 0, .slice none 0 0], []⟩ 8 (by kernel_rfl) (by kernel_rfl) (by kernel_rfl) (by kernel_rfl)) ?_
  intro W base args ds gs before hval0 hW hcnd _
  have hval : ∀ (j : Nat) t v, Try.f8.params[j]? = some t → args[j]? = some v → Value.okWide Try.prog W .any base t v := hval0
  have hW' := hW
  obtain ⟨p, q, hA0, hV, rfl, hfz, hnd⟩ := hW
  have hA : DataW.TrodAll enc Try.prog W 0 (fun _ => true) true Try.f8.params.toList args.toList ds p := hA0
  rw [Try.params8] at hA hval
  obtain ⟨v0, vs0, d0, ds0, p0, q0, hargs, rfl, rfl, h0, r0⟩ := trodAll_cons hA
  obtain ⟨v1, vs1, d1, ds1, p1, q1, rfl, rfl, rfl, h1, r1⟩ := trodAll_cons r0
  obtain ⟨rfl, rfl, rfl⟩ := trodAll_nil r1
  obtain rfl : args = #[v0, v1] := by cases args; simp_all
  obtain ⟨rfl, rfl⟩ := trodVars_none hV
  obtain ⟨a0, len0, cap0, rfl⟩ := okWide_slice Try.underlying42 (hval 0 42 v0 rfl rfl)
  have k0 := h0
  have lt0 : ∀ x ∈ p0, x.block < W.heap.size := by obtain ⟨m, hm⟩ := k0; exact DataW.trod_lt m _ _ _ hm
  obtain ⟨l0, w0⟩ : ∃ l, Evs W a0 len0 cap0 l ∧ ∀ e ∈ l, WfE e := by
    obtain ⟨fuel, hf⟩ := h0
    exact open_events hf
  obtain ⟨a1, len1, cap1, rfl⟩ := okWide_slice Try.underlying42 (hval 1 42 v1 rfl rfl)
  have k1 := h1
  have lt1 : ∀ x ∈ p1, x.block < W.heap.size := by obtain ⟨m, hm⟩ := k1; exact DataW.trod_lt m _ _ _ hm
  obtain ⟨l1, w1⟩ : ∃ l, Evs W a1 len1 cap1 l ∧ ∀ e ∈ l, WfE e := by
    obtain ⟨fuel, hf⟩ := h1
    exact open_events hf
  clear hA0 hval0
  refine (walk a0 len0 cap0 l0 a1 len1 cap1 l1 W w0 w1).mono fun e W' ⟨he, bel⟩ => ?_
  subst he
  exact ⟨_, rfl, _, _, _, [], _, [], hW', trodAll_mk1 (shut_bool Try.underlying4 _), (trodAll_cons_mk (Below.trod laidOut (by kernel_rfl) (of_decide_eq_true (by kernel_rfl)) k0 bel lt0) (trodAll_cons_mk (Below.trod laidOut (by kernel_rfl) (of_decide_eq_true (by kernel_rfl)) k1 bel lt1) trodAll_mk0)), rfl, bel.frame _, fun h => by cases h⟩

set_option maxRecDepth 100000 in
theorem closed : joinedFacts Try.pinned.checked.prog 8 Try.f8 Rows.scriptPartsSpec Rows.scriptPartsRow = true := by
  show joinedFacts Try.prog 8 Try.f8 Rows.scriptPartsSpec Rows.scriptPartsRow = true
  unfold joinedFacts
  simp only [enter_may, enter_lifts, enter_make]
  kernel_rfl

theorem over : Rows.scriptPartsRow.holds Try.pinned (OpenSpec.ofChange Rows.scriptPartsSpec) :=
  OpenClaim.holds_of_wide 8 Try.f8 rfl rfl rfl rfl rfl rfl rfl ⟨rfl, rfl, rfl, rfl, rfl⟩ rfl rfl rfl rfl rfl (by kernel_rfl) Try.func8 closed
    (of_decide_eq_true (by kernel_rfl)) (by unfold Func.isWrapper; first | (rw [if_pos (by decide +kernel)]; kernel_rfl) | (rw [if_neg (by decide +kernel)]; exact ⟨rfl, rfl⟩))
    (fun os started H enc _ => lifted os started H enc)

theorem proved : Rows.ScriptPartsSaid := over

end Go.Proofs.Ytjmbhknokobnpaa.scriptParts
