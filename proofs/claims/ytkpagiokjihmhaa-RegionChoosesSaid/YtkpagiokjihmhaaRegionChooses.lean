
/- Claim RegionChooses. Printed by mkrchooses.py. -/
import Derived.Test.YtkpagiokjihmhaaFrame9
import Derived.Test.YtkpagiokjihmhaaLaw9
import Derived.Test.YtkpagiokjihmhaaItemQ
import Derived.Deep.RegionHeld3
import Derived.Deep.RegionLaw
import Derived.Deep.DeepCutAuto
import Derived.Deep.RegionLaw
set_option linter.unusedVariables false
namespace Go.Kn
open Go Go.RowKit
theorem run_storeAt_part {P : Program} (w : World) (t : TypeId) (b i : Nat) (olds vs : List Value) (hs : (P.info? t).map (·.size) = some vs.length) (ho : Own w b olds) (hl : i + vs.length ≤ olds.length) (h1 : ∀ v ∈ vs, v.oneCell' = true) :
    ∃ w', (Instr.storeAt t (.pointer (some ⟨b, i, none⟩)) (.agg vs.toArray)).run P w = .ok () w' ∧ Own w' b (olds.take i ++ vs ++ olds.drop (i + vs.length)) ∧ Only [b] w w' := by
  obtain ⟨cur, ty, hc, ht⟩ := ho
  have hcl : olds.length ≤ cur.size := by
    have : (cur.toList.take olds.length).length = olds.length := by rw [ht]
    simp at this
    omega
  cases hq : P.info? t with
  | none => simp [hq] at hs
  | some inf =>
    simp [hq] at hs
    have hrun := run_storeCells_at (P := P) b i ty vs 0 cur w hc (by omega) h1
    refine ⟨w.setRow b (cur.toList.take (i + 0) ++ vs ++ cur.toList.drop (i + 0 + vs.length)).toArray, ?_, ⟨_, ty, setRow_heap w b cur _ ty _ hc, ?_⟩, ⟨rfl, rfl, rfl, by simp [World.setRow], fun k _ hk => setRow_other w b k _ (by simpa using hk)⟩⟩
    · have hq2 : (Instr.sureAddr (Value.pointer (some ⟨b, i, none⟩))).run P w = .ok ⟨b, i, none⟩ w := rfl
      simp only [Nat.add_zero] at hrun ⊢
      unfold Instr.storeAt storeVar
      simp [sizeOf, typeInfo, hq, hs, Value.cells, hq2, Result.andThen, hrun]
    · have e1 : cur.toList.take i = olds.take i := by rw [← ht, List.take_take, Nat.min_eq_left (by omega)]
      have e2 : (cur.toList.drop (i + vs.length)).take (olds.length - (i + vs.length)) = olds.drop (i + vs.length) := by rw [← List.drop_take, ht]
      have e3 : (olds.take i ++ vs ++ olds.drop (i + vs.length)).length = olds.length := by simp; omega
      have e4 : (olds.take i ++ vs).length = i + vs.length := by simp; omega
      simp only [Nat.add_zero]
      rw [e3, e1, List.take_append, e4, List.take_of_length_le (by omega), e2]
theorem run_storeAt_own {P : Program} (w : World) (t : TypeId) (b : Nat) (olds vs : List Value) (hs : (P.info? t).map (·.size) = some vs.length) (ho : Own w b olds) (hl : olds.length = vs.length) (h1 : ∀ v ∈ vs, v.oneCell' = true) :
    ∃ w', (Instr.storeAt t (.pointer (some ⟨b, 0, none⟩)) (.agg vs.toArray)).run P w = .ok () w' ∧ Own w' b vs ∧ Only [b] w w' := by
  obtain ⟨w', h2, h3, h4⟩ := run_storeAt_part (P := P) w t b 0 olds vs hs ho (by omega) h1
  refine ⟨w', h2, ?_, h4⟩
  have e : olds.take 0 ++ vs ++ olds.drop (0 + vs.length) = vs := by
    rw [List.take_zero, List.nil_append, List.drop_of_length_le (by omega), List.append_nil]
  rwa [e] at h3
theorem step_store_own {P : Program} {w : World} {ops : Array Oper} {o : Oper} {a : Act} {K : Act → World → Prop} {Q : Exit → Act → World → Prop} {E : Prop} (hgd : o.guard = none) (t : TypeId) (x y : Operand)
    (hop : o.op = .store t x y) (b : Nat) (olds vs : List Value) (hs : (P.info? t).map (·.size) = some vs.length) (hx : a.eval x = .pointer (some ⟨b, 0, none⟩)) (hy : a.eval y = .agg vs.toArray) (ho : Own w b olds) (hl : olds.length = vs.length) (h1 : ∀ v ∈ vs, v.oneCell' = true)
    (h : ∀ w', Own w' b vs → Only [b] w w' → K (a.put o.dst undef) w') :
    if Region.wanted o (yielded ops a.tmps) = true then Oper.wp P o a w K Q else E := by
  have hw : Region.wanted o (yielded ops a.tmps) = true := by simp [Region.wanted, hgd]
  rw [if_pos hw]
  obtain ⟨w', hrun, h2, h3⟩ := run_storeAt_own (P := P) w t b olds vs hs ho hl h1
  unfold Oper.wp execOp
  simp only [hop, Sem.run_bind, Sem.run_pure, Result.andThen_ok, hx, hy, hrun]
  exact h w' h2 h3
end Go.Kn
set_option linter.unusedVariables false
set_option linter.unusedSimpArgs false
namespace Go.Proofs.Ytkpagiokjihmhaa.regionChooses
open Go Go.RowKit Go.Kn Go.ChangeShapes Go.WideShapes Go.ChangeAt

set_option maxRecDepth 100000 in
set_option maxHeartbeats 32000000 in
theorem chooses (z0 z1 z2 sp : Int) (A : Option Addr) (n c : Nat) (zs : List Int) (B : Option Addr) (m d : Nat) (ys : List Int) (w : World) (h0 : (Lit.int .i64 z0).wf = true) (h1 : (Lit.int .i64 z1).wf = true) (h2 : (Lit.int .i64 z2).wf = true) (hi : Ins w A n c zs) (hw : ∀ z ∈ zs, (Lit.int .i64 z).wf = true) (hj : Ins w B m d ys) (hv : ∀ z ∈ ys, (Lit.int .i64 z).wf = true) :
    Calls Try.prog 4 #[.agg #[.int .i64 z0, .int .i64 z1, .int .i64 z2], .slice A n c, .slice B m d, .int .i64 sp] w fun en w' => en = .returned (.bool true) ∧ Only [] w w' := by
  obtain ⟨b, hb⟩ : ∃ b, 1 + z0 % 64 = b := ⟨_, rfl⟩
  obtain ⟨s, hs⟩ : ∃ b, 8 + z1 % 25 = b := ⟨_, rfl⟩
  obtain ⟨l, hl⟩ : ∃ b, 24 + z2 % 41 = b := ⟨_, rfl⟩
  have hcf := cf_ok z0 z1 z2
  rw [hb, hs, hl] at hcf
  have HC := Lib.hid hcf
  have HK : Hid (∀ W : World, Calls Try.prog 17 #[.agg #[.int .i64 z0, .int .i64 z1, .int .i64 z2]] W fun e w' => ∃ p, e = .returned (.tuple #[.agg #[.int .i64 b, .int .i64 s, .int .i64 l], .pointer (some ⟨p, 0, none⟩), .bool true]) ∧ GeoAt w' p b s l ∧ W.heap.size ≤ p ∧ Only [] W w') := Lib.hid fun W => by
    have h := kept9_any z0 z1 z2 W h0 h1 h2
    rw [hb, hs, hl] at h
    exact h
  obtain ⟨hk1, hk2, hk3, _⟩ := rlN_eq hcf
  obtain ⟨T, hTe⟩ : ∃ x, rgT s = x := ⟨_, rfl⟩
  have hT1 : 128 ≤ T := by rw [← hTe]; unfold rgT; omega
  have hT2 : T ≤ 256 := by rw [← hTe]; unfold rgT; omega
  clear hk1 hk2 hk3
  obtain ⟨xr, hxr⟩ : ∃ r, madeRg b s l zs 1 = r := ⟨_, rfl⟩
  have hxmay : rgMay b s l xr = true := by rw [← hxr]; exact madeRg_may hcf zs 1
  have HMDx : Hid (∀ W : World, Only [] w W → Calls Try.prog 18 #[.agg #[.int .i64 z0, .int .i64 z1, .int .i64 z2], .slice A n c, .int .i64 1] W (Made9 W xr)) := Lib.hid fun W hW => by
    have h := made9_any z0 z1 z2 1 A n c zs W h0 h1 h2 (by decide) (hi.keep0 hW) hw
    rw [hb, hs, hl, hxr] at h
    exact h
  obtain ⟨hxE, hxD⟩ := rg_back hcf hxmay
  have hxN := encRg_len hcf hxE
  have hxC := encRg_closed hcf hxE
  obtain ⟨xbs, hxb⟩ : ∃ x, rgBytes s xr = x := ⟨_, rfl⟩
  rw [hxb] at hxE hxD hxN hxC
  rw [hTe] at hxN
  have HxE := Lib.hid hxE
  have HxD := Lib.hid hxD
  have HxN := Lib.hid hxN
  have HxC := Lib.hid hxC
  clear hxr hxmay hxE hxD hxN hxC hxb
  obtain ⟨yr, hyr⟩ : ∃ r, madeRg b s l ys 2 = r := ⟨_, rfl⟩
  have hymay : rgMay b s l yr = true := by rw [← hyr]; exact madeRg_may hcf ys 2
  have HMDy : Hid (∀ W : World, Only [] w W → Calls Try.prog 18 #[.agg #[.int .i64 z0, .int .i64 z1, .int .i64 z2], .slice B m d, .int .i64 2] W (Made9 W yr)) := Lib.hid fun W hW => by
    have h := made9_any z0 z1 z2 2 B m d ys W h0 h1 h2 (by decide) (hj.keep0 hW) hv
    rw [hb, hs, hl, hyr] at h
    exact h
  obtain ⟨hyE, hyD⟩ := rg_back hcf hymay
  have hyN := encRg_len hcf hyE
  have hyC := encRg_closed hcf hyE
  obtain ⟨ybs, hyb⟩ : ∃ x, rgBytes s yr = x := ⟨_, rfl⟩
  rw [hyb] at hyE hyD hyN hyC
  rw [hTe] at hyN
  have HyE := Lib.hid hyE
  have HyD := Lib.hid hyD
  have HyN := Lib.hid hyN
  have HyC := Lib.hid hyC
  clear hyr hymay hyE hyD hyN hyC hyb
  obtain ⟨xg, xv, xm, xe, xq, xd, xs, xo, xl, xp, xt, xbase, xover, xsegs, rfl⟩ : ∃ (a0 a1 a2 a3 a4 a5 a6 a7 a8 a9 a10 : Int) (b0 b1 : List Int) (b2 : List (Int × Int)), xr = ⟨a0, a1, a2, a3, a4, a5, a6, a7, a8, a9, a10, b0, b1, b2⟩ := ⟨_, _, _, _, _, _, _, _, _, _, _, _, _, _, rfl⟩
  obtain ⟨yg, yv, ym, ye, yq, yd, ys, yo, yl, yp, yt, ybase, yover, ysegs, rfl⟩ : ∃ (a0 a1 a2 a3 a4 a5 a6 a7 a8 a9 a10 : Int) (b0 b1 : List Int) (b2 : List (Int × Int)), yr = ⟨a0, a1, a2, a3, a4, a5, a6, a7, a8, a9, a10, b0, b1, b2⟩ := ⟨_, _, _, _, _, _, _, _, _, _, _, _, _, _, rfl⟩
  have ha1 := bits_and9 sp 1 (by decide)
  have ha2 := bits_and9 sp 2 (by decide)
  have ha3 := bits_and9 sp 3 (by decide)
  rw [show ((1 : Nat) : Int) = 1 from rfl] at ha1
  rw [show ((2 : Nat) : Int) = 2 from rfl] at ha2
  rw [show ((3 : Nat) : Int) = 3 from rfl] at ha3
  have hsp : (sp % 4).toNat = 0 ∨ (sp % 4).toNat = 1 ∨ (sp % 4).toNat = 2 ∨ (sp % 4).toNat = 3 := by omega
  have HSP := Lib.hid hsp
  have HA1 := Lib.hid ha1
  have HA2 := Lib.hid ha2
  have HA3 := Lib.hid ha3
  clear hb hs hl hTe h0 h1 h2 hi hw hj hv hsp ha1 ha2 ha3 hcf
  have HD0 : Hid (Wd w w [] [] []) := Lib.hid (Wd.start w)
  have HD1 : Hid (Wd w (World.alloc w (.cells #[.int .i64 z0, .int .i64 z1, .int .i64 z2] 42)) [] [] [(fun W => Own W w.heap.size [.int .i64 z0, .int .i64 z1, .int .i64 z2])]) := Lib.hid (HD0.out.newF #[.int .i64 z0, .int .i64 z1, .int .i64 z2] 42 rfl)
  clear HD0
  go_enter Try.func4, Try.ntmps4
  go_wp2_with fail
  generalize hwa : w.alloc (.cells #[.int .i64 z0, .int .i64 z1, .int .i64 z2] 42) = w0 at *
  clear hwa
  refine (HK.out _).mono ?_
  rintro en w1 ⟨p, rfl, hg, hpf, hO⟩
  have HD2 : Hid (Wd w w1 [] [] [(fun W => GeoAt W p b s l), (fun W => Own W w.heap.size [.int .i64 z0, .int .i64 z1, .int .i64 z2])]) := Lib.hid ((HD1.out.keep0 hO).fact0 (hg.fx (by simp)))
  clear HD1
  clear hg hpf hO
  have HD3 : Hid (Wd w (World.alloc w1 (.cells #[.int .i64 b, .int .i64 s, .int .i64 l] 44)) [] [] [(fun W => Own W w1.heap.size [.int .i64 b, .int .i64 s, .int .i64 l]), (fun W => GeoAt W p b s l), (fun W => Own W w.heap.size [.int .i64 z0, .int .i64 z1, .int .i64 z2])]) := Lib.hid (HD2.out.newF #[.int .i64 b, .int .i64 s, .int .i64 l] 44 rfl)
  clear HD2
  go_upto_region 4 with (fail)
  generalize hwa : w1.alloc (.cells #[.int .i64 b, .int .i64 s, .int .i64 l] 44) = w2 at *
  clear hwa
  generalize w1.heap.size = cb at *
  go_cut [12, 13] (fun s12 s13 wz => ∃ (ab bb : Nat) (xA : Option Addr) (xn xc : Nat) (xB : Option Addr) (xk xh : Nat) (xC : Option Addr) (xj xi : Nat) (yA : Option Addr) (yn yc : Nat) (yB : Option Addr) (yk yh : Nat) (yC : Option Addr) (yj yi : Nat), s12 = .pointer (some ⟨ab, 0, none⟩) ∧ s13 = .pointer (some ⟨bb, 0, none⟩) ∧ Wd w wz [] [] [(fun W => Own W bb [.int .i64 yg, .int .i64 yv, .int .i64 ym, .int .i64 ye, .int .i64 yq, .int .i64 yd, .int .i64 ys, .int .i64 yo, .int .i64 yl, .int .i64 yp, .int .i64 yt, .slice yA yn yc, .slice yB yk yh, .slice yC yj yi]), (fun W => Own W ab [.int .i64 xg, .int .i64 xv, .int .i64 xm, .int .i64 xe, .int .i64 xq, .int .i64 xd, .int .i64 xs, .int .i64 xo, .int .i64 xl, .int .i64 xp, .int .i64 xt, .slice xA xn xc, .slice xB xk xh, .slice xC xj xi]), (fun W => RgAt W ⟨yg, yv, ym, ye, yq, yd, ys, yo, yl, yp, yt, ybase, yover, ysegs⟩ (yA, yn, yc) (yB, yk, yh) (yC, yj, yi)), (fun W => RgAt W ⟨xg, xv, xm, xe, xq, xd, xs, xo, xl, xp, xt, xbase, xover, xsegs⟩ (xA, xn, xc) (xB, xk, xh) (xC, xj, xi)), (fun W => Own W cb [.int .i64 b, .int .i64 s, .int .i64 l]), (fun W => GeoAt W p b s l), (fun W => Own W w.heap.size [.int .i64 z0, .int .i64 z1, .int .i64 z2])])
  case first =>
    have HDd : Hid (Wd w w2.drew [] [] [(fun W => Own W cb [.int .i64 b, .int .i64 s, .int .i64 l]), (fun W => GeoAt W p b s l), (fun W => Own W w.heap.size [.int .i64 z0, .int .i64 z1, .int .i64 z2])]) := Lib.hid (HD3.out.drew)
    clear HD3

    refine wp_region_held_drew (S := (fun w' => w'.cell? ⟨w.heap.size, 0, none⟩ = some (.int .i64 z0) ∧ w'.cell? ⟨w.heap.size, 1, none⟩ = some (.int .i64 z1) ∧ w'.cell? ⟨w.heap.size, 2, none⟩ = some (.int .i64 z2))) (by kernel_rfl) ⟨Own.cell (HDd.out.fi 2 rfl) 0 (by simp), Own.cell (HDd.out.fi 2 rfl) 1 (by simp), Own.cell (HDd.out.fi 2 rfl) 2 (by simp)⟩ (fun hSw0 => ?_)
    generalize w2.drew = wd at *
    refine wpAnyH_take (i := 0) (oi := ⟨some 29, _, _, _, _, _⟩) (v := ?_) rfl (by kernel_rfl) (by kernel_rfl) (by kernel_rfl) (fun _ _ _ h => h) (Or.inl ⟨by rfl, ?_⟩) (by assumption) ?_
    rotate_left
    · intro w hSw
      obtain ⟨hS1, hS2, hS3⟩ := hSw
      go_simp
      all_goals (try with_reducible rfl)
    (try simp only [Act.put, List.setIfInBounds_toArray, List.set_cons_zero, List.set_cons_succ])
    refine wpAnyH_take (i := 1) (oi := ⟨some 30, _, _, _, _, _⟩) (v := ?_) rfl (by kernel_rfl) (by kernel_rfl) (by kernel_rfl) (fun _ _ _ h => h) (Or.inl ⟨by rfl, ?_⟩) (by assumption) ?_
    rotate_left
    · intro w hSw
      obtain ⟨hS1, hS2, hS3⟩ := hSw
      go_simp
      all_goals (try with_reducible rfl)
    (try simp only [Act.put, List.setIfInBounds_toArray, List.set_cons_zero, List.set_cons_succ])
    refine wpAnyH_take (i := 3) (oi := ⟨some 32, _, _, _, _, _⟩) (v := ?_) rfl (by kernel_rfl) (by kernel_rfl) (by kernel_rfl) (fun _ _ _ h => h) (Or.inl ⟨by rfl, ?_⟩) (by assumption) ?_
    rotate_left
    · intro w hSw
      obtain ⟨hS1, hS2, hS3⟩ := hSw
      go_simp
      all_goals (try with_reducible rfl)
    (try simp only [Act.put, List.setIfInBounds_toArray, List.set_cons_zero, List.set_cons_succ])
    refine wpAnyH_take (i := 4) (oi := ⟨some 33, _, _, _, _, _⟩) (v := ?_) rfl (by kernel_rfl) (by kernel_rfl) (by kernel_rfl) (fun _ _ _ h => h) (Or.inl ⟨by rfl, ?_⟩) (by assumption) ?_
    rotate_left
    · intro w hSw
      obtain ⟨hS1, hS2, hS3⟩ := hSw
      go_simp
      all_goals (try with_reducible rfl)
    (try simp only [Act.put, List.setIfInBounds_toArray, List.set_cons_zero, List.set_cons_succ])
    refine wpAnyH_ready (rs := [2, 6, 7]) (by kernel_rfl) (by simp) ?_
    refine AllReadyH.cons (o := ⟨some 31, _, _, _, _, _⟩) rfl (fun K hK => ?_) ?_
    · as_aux_lemma =>
      go_simp
      refine (HMDx.out _ HDd.out.only).mono ?_
      rintro en wk0 ⟨⟨xA, xn, xc⟩, ⟨xB, xk, xh⟩, ⟨xC, xj, xi⟩, rfl, hr, hf, hO⟩
      simp only [Rg.cells] at hr ⊢
      dsimp only at hf
      have HDk0 : Hid (Wd w wk0 [] [] [(fun W => RgAt W ⟨xg, xv, xm, xe, xq, xd, xs, xo, xl, xp, xt, xbase, xover, xsegs⟩ (xA, xn, xc) (xB, xk, xh) (xC, xj, xi)), (fun W => Own W cb [.int .i64 b, .int .i64 s, .int .i64 l]), (fun W => GeoAt W p b s l), (fun W => Own W w.heap.size [.int .i64 z0, .int .i64 z1, .int .i64 z2])]) := Lib.hid (HDd.out.addFx hO (hr.fx (fun a ha => by have := hf.1 a ha; omega) (fun a ha => by have := hf.2.1 a ha; omega) (fun a ha => by have := hf.2.2 a ha; omega)))
      clear HDd
      clear hr hf hO
      refine hK.out _ _ ⟨Own.cell (HDk0.out.fi 3 rfl) 0 (by simp), Own.cell (HDk0.out.fi 3 rfl) 1 (by simp), Own.cell (HDk0.out.fi 3 rfl) 2 (by simp)⟩ (fun hSn => ?_)
      clear hK K hSw0
      have hSw0 := hSn
      clear hSn
      (try simp only [Act.put, List.setIfInBounds_toArray, List.set_cons_zero, List.set_cons_succ])
      refine wpAnyH_ready (rs := [5, 6, 7]) (by kernel_rfl) (by simp) ?_
      refine AllReadyH.cons (o := ⟨some 34, _, _, _, _, _⟩) rfl (fun K hK => ?_) ?_
      · as_aux_lemma =>
        go_simp
        refine (HMDy.out _ HDk0.out.only).mono ?_
        rintro en wk1 ⟨⟨yA, yn, yc⟩, ⟨yB, yk, yh⟩, ⟨yC, yj, yi⟩, rfl, hr, hf, hO⟩
        simp only [Rg.cells] at hr ⊢
        dsimp only at hf
        have HDk1 : Hid (Wd w wk1 [] [] [(fun W => RgAt W ⟨yg, yv, ym, ye, yq, yd, ys, yo, yl, yp, yt, ybase, yover, ysegs⟩ (yA, yn, yc) (yB, yk, yh) (yC, yj, yi)), (fun W => RgAt W ⟨xg, xv, xm, xe, xq, xd, xs, xo, xl, xp, xt, xbase, xover, xsegs⟩ (xA, xn, xc) (xB, xk, xh) (xC, xj, xi)), (fun W => Own W cb [.int .i64 b, .int .i64 s, .int .i64 l]), (fun W => GeoAt W p b s l), (fun W => Own W w.heap.size [.int .i64 z0, .int .i64 z1, .int .i64 z2])]) := Lib.hid (HDk0.out.addFx hO (hr.fx (fun a ha => by have := hf.1 a ha; omega) (fun a ha => by have := hf.2.1 a ha; omega) (fun a ha => by have := hf.2.2 a ha; omega)))
        clear HDk0
        clear hr hf hO
        refine hK.out _ _ ⟨Own.cell (HDk1.out.fi 4 rfl) 0 (by simp), Own.cell (HDk1.out.fi 4 rfl) 1 (by simp), Own.cell (HDk1.out.fi 4 rfl) 2 (by simp)⟩ (fun hSn => ?_)
        clear hK K hSw0
        have hSw0 := hSn
        clear hSn
        (try simp only [Act.put, List.setIfInBounds_toArray, List.set_cons_zero, List.set_cons_succ])
        refine wpAnyH_ready (rs := [6, 7]) (by kernel_rfl) (by simp) ?_
        refine AllReadyH.cons (o := ⟨some 12, _, _, _, _, _⟩) rfl (fun K hK => ?_) ?_
        · as_aux_lemma =>
          go_simp
          have HDk2 : Hid (Wd w (World.alloc wk1 (.cells #[.int .i64 0, .int .i64 0, .int .i64 0, .int .i64 0, .int .i64 0, .int .i64 0, .int .i64 0, .int .i64 0, .int .i64 0, .int .i64 0, .int .i64 0, .slice none 0 0, .slice none 0 0, .slice none 0 0] 52)) [(wk1.heap.size, [.int .i64 0, .int .i64 0, .int .i64 0, .int .i64 0, .int .i64 0, .int .i64 0, .int .i64 0, .int .i64 0, .int .i64 0, .int .i64 0, .int .i64 0, .slice none 0 0, .slice none 0 0, .slice none 0 0])] [] [(fun W => RgAt W ⟨yg, yv, ym, ye, yq, yd, ys, yo, yl, yp, yt, ybase, yover, ysegs⟩ (yA, yn, yc) (yB, yk, yh) (yC, yj, yi)), (fun W => RgAt W ⟨xg, xv, xm, xe, xq, xd, xs, xo, xl, xp, xt, xbase, xover, xsegs⟩ (xA, xn, xc) (xB, xk, xh) (xC, xj, xi)), (fun W => Own W cb [.int .i64 b, .int .i64 s, .int .i64 l]), (fun W => GeoAt W p b s l), (fun W => Own W w.heap.size [.int .i64 z0, .int .i64 z1, .int .i64 z2])]) := Lib.hid (HDk1.out.newB #[.int .i64 0, .int .i64 0, .int .i64 0, .int .i64 0, .int .i64 0, .int .i64 0, .int .i64 0, .int .i64 0, .int .i64 0, .int .i64 0, .int .i64 0, .slice none 0 0, .slice none 0 0, .slice none 0 0] 52 (b := wk1.heap.size) rfl)
          clear HDk1
          generalize hwa : World.alloc wk1 (.cells #[.int .i64 0, .int .i64 0, .int .i64 0, .int .i64 0, .int .i64 0, .int .i64 0, .int .i64 0, .int .i64 0, .int .i64 0, .int .i64 0, .int .i64 0, .slice none 0 0, .slice none 0 0, .slice none 0 0] 52) = wk2 at *
          clear hwa
          generalize wk1.heap.size = ab at *
          refine hK.out _ _ ⟨Own.cell (HDk2.out.fi 4 rfl) 0 (by simp), Own.cell (HDk2.out.fi 4 rfl) 1 (by simp), Own.cell (HDk2.out.fi 4 rfl) 2 (by simp)⟩ (fun hSn => ?_)
          clear hK K hSw0
          have hSw0 := hSn
          clear hSn
          (try simp only [Act.put, List.setIfInBounds_toArray, List.set_cons_zero, List.set_cons_succ])
          refine wpAnyH_ready (rs := [7]) (by kernel_rfl) (by simp) ?_
          refine AllReadyH.cons (o := ⟨some 13, _, _, _, _, _⟩) rfl (fun K hK => ?_) AllReadyH.nil
          go_simp
          have HDk3 : Hid (Wd w (World.alloc wk2 (.cells #[.int .i64 0, .int .i64 0, .int .i64 0, .int .i64 0, .int .i64 0, .int .i64 0, .int .i64 0, .int .i64 0, .int .i64 0, .int .i64 0, .int .i64 0, .slice none 0 0, .slice none 0 0, .slice none 0 0] 52)) [(wk2.heap.size, [.int .i64 0, .int .i64 0, .int .i64 0, .int .i64 0, .int .i64 0, .int .i64 0, .int .i64 0, .int .i64 0, .int .i64 0, .int .i64 0, .int .i64 0, .slice none 0 0, .slice none 0 0, .slice none 0 0]), (ab, [.int .i64 0, .int .i64 0, .int .i64 0, .int .i64 0, .int .i64 0, .int .i64 0, .int .i64 0, .int .i64 0, .int .i64 0, .int .i64 0, .int .i64 0, .slice none 0 0, .slice none 0 0, .slice none 0 0])] [] [(fun W => RgAt W ⟨yg, yv, ym, ye, yq, yd, ys, yo, yl, yp, yt, ybase, yover, ysegs⟩ (yA, yn, yc) (yB, yk, yh) (yC, yj, yi)), (fun W => RgAt W ⟨xg, xv, xm, xe, xq, xd, xs, xo, xl, xp, xt, xbase, xover, xsegs⟩ (xA, xn, xc) (xB, xk, xh) (xC, xj, xi)), (fun W => Own W cb [.int .i64 b, .int .i64 s, .int .i64 l]), (fun W => GeoAt W p b s l), (fun W => Own W w.heap.size [.int .i64 z0, .int .i64 z1, .int .i64 z2])]) := Lib.hid (HDk2.out.newB #[.int .i64 0, .int .i64 0, .int .i64 0, .int .i64 0, .int .i64 0, .int .i64 0, .int .i64 0, .int .i64 0, .int .i64 0, .int .i64 0, .int .i64 0, .slice none 0 0, .slice none 0 0, .slice none 0 0] 52 (b := wk2.heap.size) rfl)
          clear HDk2
          generalize hwa : World.alloc wk2 (.cells #[.int .i64 0, .int .i64 0, .int .i64 0, .int .i64 0, .int .i64 0, .int .i64 0, .int .i64 0, .int .i64 0, .int .i64 0, .int .i64 0, .int .i64 0, .slice none 0 0, .slice none 0 0, .slice none 0 0] 52) = wk3 at *
          clear hwa
          generalize wk2.heap.size = bb at *
          refine hK.out _ _ ⟨Own.cell (HDk3.out.fi 4 rfl) 0 (by simp), Own.cell (HDk3.out.fi 4 rfl) 1 (by simp), Own.cell (HDk3.out.fi 4 rfl) 2 (by simp)⟩ (fun hSn => ?_)
          clear hK K hSw0
          have hSw0 := hSn
          clear hSn
          (try simp only [Act.put, List.setIfInBounds_toArray, List.set_cons_zero, List.set_cons_succ])
          refine wpAnyH_ready (rs := [8]) (by kernel_rfl) (by simp) ?_
          refine AllReadyH.cons (o := ⟨none, _, _, _, _, _⟩) rfl (fun K hK => ?_) AllReadyH.nil
          refine step_store_own rfl 52 (.tmp 12) (.tmp 31) rfl ab [.int .i64 0, .int .i64 0, .int .i64 0, .int .i64 0, .int .i64 0, .int .i64 0, .int .i64 0, .int .i64 0, .int .i64 0, .int .i64 0, .int .i64 0, .slice none 0 0, .slice none 0 0, .slice none 0 0] [.int .i64 xg, .int .i64 xv, .int .i64 xm, .int .i64 xe, .int .i64 xq, .int .i64 xd, .int .i64 xs, .int .i64 xo, .int .i64 xl, .int .i64 xp, .int .i64 xt, .slice xA xn xc, .slice xB xk xh, .slice xC xj xi] (by kernel_rfl) rfl rfl (HDk3.out.boxi 1 rfl) rfl (by intro u hu; simp at hu; rcases hu with rfl | rfl | rfl | rfl | rfl | rfl | rfl | rfl | rfl | rfl | rfl | rfl | rfl | rfl <;> rfl) ?_
          intro wk4 ho hO
          have HDk4 : Hid (Wd w wk4 [(bb, [.int .i64 0, .int .i64 0, .int .i64 0, .int .i64 0, .int .i64 0, .int .i64 0, .int .i64 0, .int .i64 0, .int .i64 0, .int .i64 0, .int .i64 0, .slice none 0 0, .slice none 0 0, .slice none 0 0]), (ab, [.int .i64 xg, .int .i64 xv, .int .i64 xm, .int .i64 xe, .int .i64 xq, .int .i64 xd, .int .i64 xs, .int .i64 xo, .int .i64 xl, .int .i64 xp, .int .i64 xt, .slice xA xn xc, .slice xB xk xh, .slice xC xj xi])] [] [(fun W => RgAt W ⟨yg, yv, ym, ye, yq, yd, ys, yo, yl, yp, yt, ybase, yover, ysegs⟩ (yA, yn, yc) (yB, yk, yh) (yC, yj, yi)), (fun W => RgAt W ⟨xg, xv, xm, xe, xq, xd, xs, xo, xl, xp, xt, xbase, xover, xsegs⟩ (xA, xn, xc) (xB, xk, xh) (xC, xj, xi)), (fun W => Own W cb [.int .i64 b, .int .i64 s, .int .i64 l]), (fun W => GeoAt W p b s l), (fun W => Own W w.heap.size [.int .i64 z0, .int .i64 z1, .int .i64 z2])]) := Lib.hid (HDk3.out.call1 1 rfl ho hO)
          clear HDk3
          clear ho hO
          refine hK.out _ _ ⟨Own.cell (HDk4.out.fi 4 rfl) 0 (by simp), Own.cell (HDk4.out.fi 4 rfl) 1 (by simp), Own.cell (HDk4.out.fi 4 rfl) 2 (by simp)⟩ (fun hSn => ?_)
          clear hK K hSw0
          have hSw0 := hSn
          clear hSn
          (try simp only [Act.put, List.setIfInBounds_toArray, List.set_cons_zero, List.set_cons_succ])
          refine wpAnyH_ready (rs := [9]) (by kernel_rfl) (by simp) ?_
          refine AllReadyH.cons (o := ⟨none, _, _, _, _, _⟩) rfl (fun K hK => ?_) AllReadyH.nil
          refine step_store_own rfl 52 (.tmp 13) (.tmp 34) rfl bb [.int .i64 0, .int .i64 0, .int .i64 0, .int .i64 0, .int .i64 0, .int .i64 0, .int .i64 0, .int .i64 0, .int .i64 0, .int .i64 0, .int .i64 0, .slice none 0 0, .slice none 0 0, .slice none 0 0] [.int .i64 yg, .int .i64 yv, .int .i64 ym, .int .i64 ye, .int .i64 yq, .int .i64 yd, .int .i64 ys, .int .i64 yo, .int .i64 yl, .int .i64 yp, .int .i64 yt, .slice yA yn yc, .slice yB yk yh, .slice yC yj yi] (by kernel_rfl) rfl rfl (HDk4.out.boxi 0 rfl) rfl (by intro u hu; simp at hu; rcases hu with rfl | rfl | rfl | rfl | rfl | rfl | rfl | rfl | rfl | rfl | rfl | rfl | rfl | rfl <;> rfl) ?_
          intro wk5 ho hO
          have HDk5 : Hid (Wd w wk5 [(bb, [.int .i64 yg, .int .i64 yv, .int .i64 ym, .int .i64 ye, .int .i64 yq, .int .i64 yd, .int .i64 ys, .int .i64 yo, .int .i64 yl, .int .i64 yp, .int .i64 yt, .slice yA yn yc, .slice yB yk yh, .slice yC yj yi]), (ab, [.int .i64 xg, .int .i64 xv, .int .i64 xm, .int .i64 xe, .int .i64 xq, .int .i64 xd, .int .i64 xs, .int .i64 xo, .int .i64 xl, .int .i64 xp, .int .i64 xt, .slice xA xn xc, .slice xB xk xh, .slice xC xj xi])] [] [(fun W => RgAt W ⟨yg, yv, ym, ye, yq, yd, ys, yo, yl, yp, yt, ybase, yover, ysegs⟩ (yA, yn, yc) (yB, yk, yh) (yC, yj, yi)), (fun W => RgAt W ⟨xg, xv, xm, xe, xq, xd, xs, xo, xl, xp, xt, xbase, xover, xsegs⟩ (xA, xn, xc) (xB, xk, xh) (xC, xj, xi)), (fun W => Own W cb [.int .i64 b, .int .i64 s, .int .i64 l]), (fun W => GeoAt W p b s l), (fun W => Own W w.heap.size [.int .i64 z0, .int .i64 z1, .int .i64 z2])]) := Lib.hid (HDk4.out.call1 0 rfl ho hO)
          clear HDk4
          clear ho hO
          refine hK.out _ _ ⟨Own.cell (HDk5.out.fi 4 rfl) 0 (by simp), Own.cell (HDk5.out.fi 4 rfl) 1 (by simp), Own.cell (HDk5.out.fi 4 rfl) 2 (by simp)⟩ (fun hSn => ?_)
          clear hK K hSw0
          have hSw0 := hSn
          clear hSn
          (try simp only [Act.put, List.setIfInBounds_toArray, List.set_cons_zero, List.set_cons_succ])
          refine wpAnyH_done (by kernel_rfl) ?_ _
          clear hSw0
          go_wp2
          go_meet
          case rel => exact ⟨ab, bb, xA, xn, xc, xB, xk, xh, xC, xj, xi, yA, yn, yc, yB, yk, yh, yC, yj, yi, rfl, rfl, (HDk5.out.drop.fact0 (Own.fx (HDk5.out.boxi 1 rfl) (by simp))).fact0 (Own.fx (HDk5.out.boxi 0 rfl) (by simp))⟩
        refine AllReadyH.cons (o := ⟨some 13, _, _, _, _, _⟩) rfl (fun K hK => ?_) ?_
        · as_aux_lemma =>
          go_simp
          have HDk2 : Hid (Wd w (World.alloc wk1 (.cells #[.int .i64 0, .int .i64 0, .int .i64 0, .int .i64 0, .int .i64 0, .int .i64 0, .int .i64 0, .int .i64 0, .int .i64 0, .int .i64 0, .int .i64 0, .slice none 0 0, .slice none 0 0, .slice none 0 0] 52)) [(wk1.heap.size, [.int .i64 0, .int .i64 0, .int .i64 0, .int .i64 0, .int .i64 0, .int .i64 0, .int .i64 0, .int .i64 0, .int .i64 0, .int .i64 0, .int .i64 0, .slice none 0 0, .slice none 0 0, .slice none 0 0])] [] [(fun W => RgAt W ⟨yg, yv, ym, ye, yq, yd, ys, yo, yl, yp, yt, ybase, yover, ysegs⟩ (yA, yn, yc) (yB, yk, yh) (yC, yj, yi)), (fun W => RgAt W ⟨xg, xv, xm, xe, xq, xd, xs, xo, xl, xp, xt, xbase, xover, xsegs⟩ (xA, xn, xc) (xB, xk, xh) (xC, xj, xi)), (fun W => Own W cb [.int .i64 b, .int .i64 s, .int .i64 l]), (fun W => GeoAt W p b s l), (fun W => Own W w.heap.size [.int .i64 z0, .int .i64 z1, .int .i64 z2])]) := Lib.hid (HDk1.out.newB #[.int .i64 0, .int .i64 0, .int .i64 0, .int .i64 0, .int .i64 0, .int .i64 0, .int .i64 0, .int .i64 0, .int .i64 0, .int .i64 0, .int .i64 0, .slice none 0 0, .slice none 0 0, .slice none 0 0] 52 (b := wk1.heap.size) rfl)
          clear HDk1
          generalize hwa : World.alloc wk1 (.cells #[.int .i64 0, .int .i64 0, .int .i64 0, .int .i64 0, .int .i64 0, .int .i64 0, .int .i64 0, .int .i64 0, .int .i64 0, .int .i64 0, .int .i64 0, .slice none 0 0, .slice none 0 0, .slice none 0 0] 52) = wk2 at *
          clear hwa
          generalize wk1.heap.size = bb at *
          refine hK.out _ _ ⟨Own.cell (HDk2.out.fi 4 rfl) 0 (by simp), Own.cell (HDk2.out.fi 4 rfl) 1 (by simp), Own.cell (HDk2.out.fi 4 rfl) 2 (by simp)⟩ (fun hSn => ?_)
          clear hK K hSw0
          have hSw0 := hSn
          clear hSn
          (try simp only [Act.put, List.setIfInBounds_toArray, List.set_cons_zero, List.set_cons_succ])
          refine wpAnyH_ready (rs := [6]) (by kernel_rfl) (by simp) ?_
          refine AllReadyH.cons (o := ⟨some 12, _, _, _, _, _⟩) rfl (fun K hK => ?_) AllReadyH.nil
          go_simp
          have HDk3 : Hid (Wd w (World.alloc wk2 (.cells #[.int .i64 0, .int .i64 0, .int .i64 0, .int .i64 0, .int .i64 0, .int .i64 0, .int .i64 0, .int .i64 0, .int .i64 0, .int .i64 0, .int .i64 0, .slice none 0 0, .slice none 0 0, .slice none 0 0] 52)) [(wk2.heap.size, [.int .i64 0, .int .i64 0, .int .i64 0, .int .i64 0, .int .i64 0, .int .i64 0, .int .i64 0, .int .i64 0, .int .i64 0, .int .i64 0, .int .i64 0, .slice none 0 0, .slice none 0 0, .slice none 0 0]), (bb, [.int .i64 0, .int .i64 0, .int .i64 0, .int .i64 0, .int .i64 0, .int .i64 0, .int .i64 0, .int .i64 0, .int .i64 0, .int .i64 0, .int .i64 0, .slice none 0 0, .slice none 0 0, .slice none 0 0])] [] [(fun W => RgAt W ⟨yg, yv, ym, ye, yq, yd, ys, yo, yl, yp, yt, ybase, yover, ysegs⟩ (yA, yn, yc) (yB, yk, yh) (yC, yj, yi)), (fun W => RgAt W ⟨xg, xv, xm, xe, xq, xd, xs, xo, xl, xp, xt, xbase, xover, xsegs⟩ (xA, xn, xc) (xB, xk, xh) (xC, xj, xi)), (fun W => Own W cb [.int .i64 b, .int .i64 s, .int .i64 l]), (fun W => GeoAt W p b s l), (fun W => Own W w.heap.size [.int .i64 z0, .int .i64 z1, .int .i64 z2])]) := Lib.hid (HDk2.out.newB #[.int .i64 0, .int .i64 0, .int .i64 0, .int .i64 0, .int .i64 0, .int .i64 0, .int .i64 0, .int .i64 0, .int .i64 0, .int .i64 0, .int .i64 0, .slice none 0 0, .slice none 0 0, .slice none 0 0] 52 (b := wk2.heap.size) rfl)
          clear HDk2
          generalize hwa : World.alloc wk2 (.cells #[.int .i64 0, .int .i64 0, .int .i64 0, .int .i64 0, .int .i64 0, .int .i64 0, .int .i64 0, .int .i64 0, .int .i64 0, .int .i64 0, .int .i64 0, .slice none 0 0, .slice none 0 0, .slice none 0 0] 52) = wk3 at *
          clear hwa
          generalize wk2.heap.size = ab at *
          refine hK.out _ _ ⟨Own.cell (HDk3.out.fi 4 rfl) 0 (by simp), Own.cell (HDk3.out.fi 4 rfl) 1 (by simp), Own.cell (HDk3.out.fi 4 rfl) 2 (by simp)⟩ (fun hSn => ?_)
          clear hK K hSw0
          have hSw0 := hSn
          clear hSn
          (try simp only [Act.put, List.setIfInBounds_toArray, List.set_cons_zero, List.set_cons_succ])
          refine wpAnyH_ready (rs := [8]) (by kernel_rfl) (by simp) ?_
          refine AllReadyH.cons (o := ⟨none, _, _, _, _, _⟩) rfl (fun K hK => ?_) AllReadyH.nil
          refine step_store_own rfl 52 (.tmp 12) (.tmp 31) rfl ab [.int .i64 0, .int .i64 0, .int .i64 0, .int .i64 0, .int .i64 0, .int .i64 0, .int .i64 0, .int .i64 0, .int .i64 0, .int .i64 0, .int .i64 0, .slice none 0 0, .slice none 0 0, .slice none 0 0] [.int .i64 xg, .int .i64 xv, .int .i64 xm, .int .i64 xe, .int .i64 xq, .int .i64 xd, .int .i64 xs, .int .i64 xo, .int .i64 xl, .int .i64 xp, .int .i64 xt, .slice xA xn xc, .slice xB xk xh, .slice xC xj xi] (by kernel_rfl) rfl rfl (HDk3.out.boxi 0 rfl) rfl (by intro u hu; simp at hu; rcases hu with rfl | rfl | rfl | rfl | rfl | rfl | rfl | rfl | rfl | rfl | rfl | rfl | rfl | rfl <;> rfl) ?_
          intro wk4 ho hO
          have HDk4 : Hid (Wd w wk4 [(ab, [.int .i64 xg, .int .i64 xv, .int .i64 xm, .int .i64 xe, .int .i64 xq, .int .i64 xd, .int .i64 xs, .int .i64 xo, .int .i64 xl, .int .i64 xp, .int .i64 xt, .slice xA xn xc, .slice xB xk xh, .slice xC xj xi]), (bb, [.int .i64 0, .int .i64 0, .int .i64 0, .int .i64 0, .int .i64 0, .int .i64 0, .int .i64 0, .int .i64 0, .int .i64 0, .int .i64 0, .int .i64 0, .slice none 0 0, .slice none 0 0, .slice none 0 0])] [] [(fun W => RgAt W ⟨yg, yv, ym, ye, yq, yd, ys, yo, yl, yp, yt, ybase, yover, ysegs⟩ (yA, yn, yc) (yB, yk, yh) (yC, yj, yi)), (fun W => RgAt W ⟨xg, xv, xm, xe, xq, xd, xs, xo, xl, xp, xt, xbase, xover, xsegs⟩ (xA, xn, xc) (xB, xk, xh) (xC, xj, xi)), (fun W => Own W cb [.int .i64 b, .int .i64 s, .int .i64 l]), (fun W => GeoAt W p b s l), (fun W => Own W w.heap.size [.int .i64 z0, .int .i64 z1, .int .i64 z2])]) := Lib.hid (HDk3.out.call1 0 rfl ho hO)
          clear HDk3
          clear ho hO
          refine hK.out _ _ ⟨Own.cell (HDk4.out.fi 4 rfl) 0 (by simp), Own.cell (HDk4.out.fi 4 rfl) 1 (by simp), Own.cell (HDk4.out.fi 4 rfl) 2 (by simp)⟩ (fun hSn => ?_)
          clear hK K hSw0
          have hSw0 := hSn
          clear hSn
          (try simp only [Act.put, List.setIfInBounds_toArray, List.set_cons_zero, List.set_cons_succ])
          refine wpAnyH_ready (rs := [9]) (by kernel_rfl) (by simp) ?_
          refine AllReadyH.cons (o := ⟨none, _, _, _, _, _⟩) rfl (fun K hK => ?_) AllReadyH.nil
          refine step_store_own rfl 52 (.tmp 13) (.tmp 34) rfl bb [.int .i64 0, .int .i64 0, .int .i64 0, .int .i64 0, .int .i64 0, .int .i64 0, .int .i64 0, .int .i64 0, .int .i64 0, .int .i64 0, .int .i64 0, .slice none 0 0, .slice none 0 0, .slice none 0 0] [.int .i64 yg, .int .i64 yv, .int .i64 ym, .int .i64 ye, .int .i64 yq, .int .i64 yd, .int .i64 ys, .int .i64 yo, .int .i64 yl, .int .i64 yp, .int .i64 yt, .slice yA yn yc, .slice yB yk yh, .slice yC yj yi] (by kernel_rfl) rfl rfl (HDk4.out.boxi 1 rfl) rfl (by intro u hu; simp at hu; rcases hu with rfl | rfl | rfl | rfl | rfl | rfl | rfl | rfl | rfl | rfl | rfl | rfl | rfl | rfl <;> rfl) ?_
          intro wk5 ho hO
          have HDk5 : Hid (Wd w wk5 [(ab, [.int .i64 xg, .int .i64 xv, .int .i64 xm, .int .i64 xe, .int .i64 xq, .int .i64 xd, .int .i64 xs, .int .i64 xo, .int .i64 xl, .int .i64 xp, .int .i64 xt, .slice xA xn xc, .slice xB xk xh, .slice xC xj xi]), (bb, [.int .i64 yg, .int .i64 yv, .int .i64 ym, .int .i64 ye, .int .i64 yq, .int .i64 yd, .int .i64 ys, .int .i64 yo, .int .i64 yl, .int .i64 yp, .int .i64 yt, .slice yA yn yc, .slice yB yk yh, .slice yC yj yi])] [] [(fun W => RgAt W ⟨yg, yv, ym, ye, yq, yd, ys, yo, yl, yp, yt, ybase, yover, ysegs⟩ (yA, yn, yc) (yB, yk, yh) (yC, yj, yi)), (fun W => RgAt W ⟨xg, xv, xm, xe, xq, xd, xs, xo, xl, xp, xt, xbase, xover, xsegs⟩ (xA, xn, xc) (xB, xk, xh) (xC, xj, xi)), (fun W => Own W cb [.int .i64 b, .int .i64 s, .int .i64 l]), (fun W => GeoAt W p b s l), (fun W => Own W w.heap.size [.int .i64 z0, .int .i64 z1, .int .i64 z2])]) := Lib.hid (HDk4.out.call1 1 rfl ho hO)
          clear HDk4
          clear ho hO
          refine hK.out _ _ ⟨Own.cell (HDk5.out.fi 4 rfl) 0 (by simp), Own.cell (HDk5.out.fi 4 rfl) 1 (by simp), Own.cell (HDk5.out.fi 4 rfl) 2 (by simp)⟩ (fun hSn => ?_)
          clear hK K hSw0
          have hSw0 := hSn
          clear hSn
          (try simp only [Act.put, List.setIfInBounds_toArray, List.set_cons_zero, List.set_cons_succ])
          refine wpAnyH_done (by kernel_rfl) ?_ _
          clear hSw0
          go_wp2
          go_meet
          case rel => exact ⟨ab, bb, xA, xn, xc, xB, xk, xh, xC, xj, xi, yA, yn, yc, yB, yk, yh, yC, yj, yi, rfl, rfl, (HDk5.out.drop.fact0 (Own.fx (HDk5.out.boxi 0 rfl) (by simp))).fact0 (Own.fx (HDk5.out.boxi 1 rfl) (by simp))⟩
        exact AllReadyH.nil
      refine AllReadyH.cons (o := ⟨some 12, _, _, _, _, _⟩) rfl (fun K hK => ?_) ?_
      · as_aux_lemma =>
        go_simp
        have HDk1 : Hid (Wd w (World.alloc wk0 (.cells #[.int .i64 0, .int .i64 0, .int .i64 0, .int .i64 0, .int .i64 0, .int .i64 0, .int .i64 0, .int .i64 0, .int .i64 0, .int .i64 0, .int .i64 0, .slice none 0 0, .slice none 0 0, .slice none 0 0] 52)) [(wk0.heap.size, [.int .i64 0, .int .i64 0, .int .i64 0, .int .i64 0, .int .i64 0, .int .i64 0, .int .i64 0, .int .i64 0, .int .i64 0, .int .i64 0, .int .i64 0, .slice none 0 0, .slice none 0 0, .slice none 0 0])] [] [(fun W => RgAt W ⟨xg, xv, xm, xe, xq, xd, xs, xo, xl, xp, xt, xbase, xover, xsegs⟩ (xA, xn, xc) (xB, xk, xh) (xC, xj, xi)), (fun W => Own W cb [.int .i64 b, .int .i64 s, .int .i64 l]), (fun W => GeoAt W p b s l), (fun W => Own W w.heap.size [.int .i64 z0, .int .i64 z1, .int .i64 z2])]) := Lib.hid (HDk0.out.newB #[.int .i64 0, .int .i64 0, .int .i64 0, .int .i64 0, .int .i64 0, .int .i64 0, .int .i64 0, .int .i64 0, .int .i64 0, .int .i64 0, .int .i64 0, .slice none 0 0, .slice none 0 0, .slice none 0 0] 52 (b := wk0.heap.size) rfl)
        clear HDk0
        generalize hwa : World.alloc wk0 (.cells #[.int .i64 0, .int .i64 0, .int .i64 0, .int .i64 0, .int .i64 0, .int .i64 0, .int .i64 0, .int .i64 0, .int .i64 0, .int .i64 0, .int .i64 0, .slice none 0 0, .slice none 0 0, .slice none 0 0] 52) = wk1 at *
        clear hwa
        generalize wk0.heap.size = ab at *
        refine hK.out _ _ ⟨Own.cell (HDk1.out.fi 3 rfl) 0 (by simp), Own.cell (HDk1.out.fi 3 rfl) 1 (by simp), Own.cell (HDk1.out.fi 3 rfl) 2 (by simp)⟩ (fun hSn => ?_)
        clear hK K hSw0
        have hSw0 := hSn
        clear hSn
        (try simp only [Act.put, List.setIfInBounds_toArray, List.set_cons_zero, List.set_cons_succ])
        refine wpAnyH_ready (rs := [5, 7]) (by kernel_rfl) (by simp) ?_
        refine AllReadyH.cons (o := ⟨some 34, _, _, _, _, _⟩) rfl (fun K hK => ?_) ?_
        · as_aux_lemma =>
          go_simp
          refine (HMDy.out _ HDk1.out.only).mono ?_
          rintro en wk2 ⟨⟨yA, yn, yc⟩, ⟨yB, yk, yh⟩, ⟨yC, yj, yi⟩, rfl, hr, hf, hO⟩
          simp only [Rg.cells] at hr ⊢
          dsimp only at hf
          have HDk2 : Hid (Wd w wk2 [(ab, [.int .i64 0, .int .i64 0, .int .i64 0, .int .i64 0, .int .i64 0, .int .i64 0, .int .i64 0, .int .i64 0, .int .i64 0, .int .i64 0, .int .i64 0, .slice none 0 0, .slice none 0 0, .slice none 0 0])] [] [(fun W => RgAt W ⟨yg, yv, ym, ye, yq, yd, ys, yo, yl, yp, yt, ybase, yover, ysegs⟩ (yA, yn, yc) (yB, yk, yh) (yC, yj, yi)), (fun W => RgAt W ⟨xg, xv, xm, xe, xq, xd, xs, xo, xl, xp, xt, xbase, xover, xsegs⟩ (xA, xn, xc) (xB, xk, xh) (xC, xj, xi)), (fun W => Own W cb [.int .i64 b, .int .i64 s, .int .i64 l]), (fun W => GeoAt W p b s l), (fun W => Own W w.heap.size [.int .i64 z0, .int .i64 z1, .int .i64 z2])]) := Lib.hid (HDk1.out.addFx hO (hr.fx (fun a ha => by have := hf.1 a ha; omega) (fun a ha => by have := hf.2.1 a ha; omega) (fun a ha => by have := hf.2.2 a ha; omega)))
          clear HDk1
          clear hr hf hO
          refine hK.out _ _ ⟨Own.cell (HDk2.out.fi 4 rfl) 0 (by simp), Own.cell (HDk2.out.fi 4 rfl) 1 (by simp), Own.cell (HDk2.out.fi 4 rfl) 2 (by simp)⟩ (fun hSn => ?_)
          clear hK K hSw0
          have hSw0 := hSn
          clear hSn
          (try simp only [Act.put, List.setIfInBounds_toArray, List.set_cons_zero, List.set_cons_succ])
          refine wpAnyH_ready (rs := [7]) (by kernel_rfl) (by simp) ?_
          refine AllReadyH.cons (o := ⟨some 13, _, _, _, _, _⟩) rfl (fun K hK => ?_) AllReadyH.nil
          go_simp
          have HDk3 : Hid (Wd w (World.alloc wk2 (.cells #[.int .i64 0, .int .i64 0, .int .i64 0, .int .i64 0, .int .i64 0, .int .i64 0, .int .i64 0, .int .i64 0, .int .i64 0, .int .i64 0, .int .i64 0, .slice none 0 0, .slice none 0 0, .slice none 0 0] 52)) [(wk2.heap.size, [.int .i64 0, .int .i64 0, .int .i64 0, .int .i64 0, .int .i64 0, .int .i64 0, .int .i64 0, .int .i64 0, .int .i64 0, .int .i64 0, .int .i64 0, .slice none 0 0, .slice none 0 0, .slice none 0 0]), (ab, [.int .i64 0, .int .i64 0, .int .i64 0, .int .i64 0, .int .i64 0, .int .i64 0, .int .i64 0, .int .i64 0, .int .i64 0, .int .i64 0, .int .i64 0, .slice none 0 0, .slice none 0 0, .slice none 0 0])] [] [(fun W => RgAt W ⟨yg, yv, ym, ye, yq, yd, ys, yo, yl, yp, yt, ybase, yover, ysegs⟩ (yA, yn, yc) (yB, yk, yh) (yC, yj, yi)), (fun W => RgAt W ⟨xg, xv, xm, xe, xq, xd, xs, xo, xl, xp, xt, xbase, xover, xsegs⟩ (xA, xn, xc) (xB, xk, xh) (xC, xj, xi)), (fun W => Own W cb [.int .i64 b, .int .i64 s, .int .i64 l]), (fun W => GeoAt W p b s l), (fun W => Own W w.heap.size [.int .i64 z0, .int .i64 z1, .int .i64 z2])]) := Lib.hid (HDk2.out.newB #[.int .i64 0, .int .i64 0, .int .i64 0, .int .i64 0, .int .i64 0, .int .i64 0, .int .i64 0, .int .i64 0, .int .i64 0, .int .i64 0, .int .i64 0, .slice none 0 0, .slice none 0 0, .slice none 0 0] 52 (b := wk2.heap.size) rfl)
          clear HDk2
          generalize hwa : World.alloc wk2 (.cells #[.int .i64 0, .int .i64 0, .int .i64 0, .int .i64 0, .int .i64 0, .int .i64 0, .int .i64 0, .int .i64 0, .int .i64 0, .int .i64 0, .int .i64 0, .slice none 0 0, .slice none 0 0, .slice none 0 0] 52) = wk3 at *
          clear hwa
          generalize wk2.heap.size = bb at *
          refine hK.out _ _ ⟨Own.cell (HDk3.out.fi 4 rfl) 0 (by simp), Own.cell (HDk3.out.fi 4 rfl) 1 (by simp), Own.cell (HDk3.out.fi 4 rfl) 2 (by simp)⟩ (fun hSn => ?_)
          clear hK K hSw0
          have hSw0 := hSn
          clear hSn
          (try simp only [Act.put, List.setIfInBounds_toArray, List.set_cons_zero, List.set_cons_succ])
          refine wpAnyH_ready (rs := [8]) (by kernel_rfl) (by simp) ?_
          refine AllReadyH.cons (o := ⟨none, _, _, _, _, _⟩) rfl (fun K hK => ?_) AllReadyH.nil
          refine step_store_own rfl 52 (.tmp 12) (.tmp 31) rfl ab [.int .i64 0, .int .i64 0, .int .i64 0, .int .i64 0, .int .i64 0, .int .i64 0, .int .i64 0, .int .i64 0, .int .i64 0, .int .i64 0, .int .i64 0, .slice none 0 0, .slice none 0 0, .slice none 0 0] [.int .i64 xg, .int .i64 xv, .int .i64 xm, .int .i64 xe, .int .i64 xq, .int .i64 xd, .int .i64 xs, .int .i64 xo, .int .i64 xl, .int .i64 xp, .int .i64 xt, .slice xA xn xc, .slice xB xk xh, .slice xC xj xi] (by kernel_rfl) rfl rfl (HDk3.out.boxi 1 rfl) rfl (by intro u hu; simp at hu; rcases hu with rfl | rfl | rfl | rfl | rfl | rfl | rfl | rfl | rfl | rfl | rfl | rfl | rfl | rfl <;> rfl) ?_
          intro wk4 ho hO
          have HDk4 : Hid (Wd w wk4 [(bb, [.int .i64 0, .int .i64 0, .int .i64 0, .int .i64 0, .int .i64 0, .int .i64 0, .int .i64 0, .int .i64 0, .int .i64 0, .int .i64 0, .int .i64 0, .slice none 0 0, .slice none 0 0, .slice none 0 0]), (ab, [.int .i64 xg, .int .i64 xv, .int .i64 xm, .int .i64 xe, .int .i64 xq, .int .i64 xd, .int .i64 xs, .int .i64 xo, .int .i64 xl, .int .i64 xp, .int .i64 xt, .slice xA xn xc, .slice xB xk xh, .slice xC xj xi])] [] [(fun W => RgAt W ⟨yg, yv, ym, ye, yq, yd, ys, yo, yl, yp, yt, ybase, yover, ysegs⟩ (yA, yn, yc) (yB, yk, yh) (yC, yj, yi)), (fun W => RgAt W ⟨xg, xv, xm, xe, xq, xd, xs, xo, xl, xp, xt, xbase, xover, xsegs⟩ (xA, xn, xc) (xB, xk, xh) (xC, xj, xi)), (fun W => Own W cb [.int .i64 b, .int .i64 s, .int .i64 l]), (fun W => GeoAt W p b s l), (fun W => Own W w.heap.size [.int .i64 z0, .int .i64 z1, .int .i64 z2])]) := Lib.hid (HDk3.out.call1 1 rfl ho hO)
          clear HDk3
          clear ho hO
          refine hK.out _ _ ⟨Own.cell (HDk4.out.fi 4 rfl) 0 (by simp), Own.cell (HDk4.out.fi 4 rfl) 1 (by simp), Own.cell (HDk4.out.fi 4 rfl) 2 (by simp)⟩ (fun hSn => ?_)
          clear hK K hSw0
          have hSw0 := hSn
          clear hSn
          (try simp only [Act.put, List.setIfInBounds_toArray, List.set_cons_zero, List.set_cons_succ])
          refine wpAnyH_ready (rs := [9]) (by kernel_rfl) (by simp) ?_
          refine AllReadyH.cons (o := ⟨none, _, _, _, _, _⟩) rfl (fun K hK => ?_) AllReadyH.nil
          refine step_store_own rfl 52 (.tmp 13) (.tmp 34) rfl bb [.int .i64 0, .int .i64 0, .int .i64 0, .int .i64 0, .int .i64 0, .int .i64 0, .int .i64 0, .int .i64 0, .int .i64 0, .int .i64 0, .int .i64 0, .slice none 0 0, .slice none 0 0, .slice none 0 0] [.int .i64 yg, .int .i64 yv, .int .i64 ym, .int .i64 ye, .int .i64 yq, .int .i64 yd, .int .i64 ys, .int .i64 yo, .int .i64 yl, .int .i64 yp, .int .i64 yt, .slice yA yn yc, .slice yB yk yh, .slice yC yj yi] (by kernel_rfl) rfl rfl (HDk4.out.boxi 0 rfl) rfl (by intro u hu; simp at hu; rcases hu with rfl | rfl | rfl | rfl | rfl | rfl | rfl | rfl | rfl | rfl | rfl | rfl | rfl | rfl <;> rfl) ?_
          intro wk5 ho hO
          have HDk5 : Hid (Wd w wk5 [(bb, [.int .i64 yg, .int .i64 yv, .int .i64 ym, .int .i64 ye, .int .i64 yq, .int .i64 yd, .int .i64 ys, .int .i64 yo, .int .i64 yl, .int .i64 yp, .int .i64 yt, .slice yA yn yc, .slice yB yk yh, .slice yC yj yi]), (ab, [.int .i64 xg, .int .i64 xv, .int .i64 xm, .int .i64 xe, .int .i64 xq, .int .i64 xd, .int .i64 xs, .int .i64 xo, .int .i64 xl, .int .i64 xp, .int .i64 xt, .slice xA xn xc, .slice xB xk xh, .slice xC xj xi])] [] [(fun W => RgAt W ⟨yg, yv, ym, ye, yq, yd, ys, yo, yl, yp, yt, ybase, yover, ysegs⟩ (yA, yn, yc) (yB, yk, yh) (yC, yj, yi)), (fun W => RgAt W ⟨xg, xv, xm, xe, xq, xd, xs, xo, xl, xp, xt, xbase, xover, xsegs⟩ (xA, xn, xc) (xB, xk, xh) (xC, xj, xi)), (fun W => Own W cb [.int .i64 b, .int .i64 s, .int .i64 l]), (fun W => GeoAt W p b s l), (fun W => Own W w.heap.size [.int .i64 z0, .int .i64 z1, .int .i64 z2])]) := Lib.hid (HDk4.out.call1 0 rfl ho hO)
          clear HDk4
          clear ho hO
          refine hK.out _ _ ⟨Own.cell (HDk5.out.fi 4 rfl) 0 (by simp), Own.cell (HDk5.out.fi 4 rfl) 1 (by simp), Own.cell (HDk5.out.fi 4 rfl) 2 (by simp)⟩ (fun hSn => ?_)
          clear hK K hSw0
          have hSw0 := hSn
          clear hSn
          (try simp only [Act.put, List.setIfInBounds_toArray, List.set_cons_zero, List.set_cons_succ])
          refine wpAnyH_done (by kernel_rfl) ?_ _
          clear hSw0
          go_wp2
          go_meet
          case rel => exact ⟨ab, bb, xA, xn, xc, xB, xk, xh, xC, xj, xi, yA, yn, yc, yB, yk, yh, yC, yj, yi, rfl, rfl, (HDk5.out.drop.fact0 (Own.fx (HDk5.out.boxi 1 rfl) (by simp))).fact0 (Own.fx (HDk5.out.boxi 0 rfl) (by simp))⟩
        refine AllReadyH.cons (o := ⟨some 13, _, _, _, _, _⟩) rfl (fun K hK => ?_) ?_
        · as_aux_lemma =>
          go_simp
          have HDk2 : Hid (Wd w (World.alloc wk1 (.cells #[.int .i64 0, .int .i64 0, .int .i64 0, .int .i64 0, .int .i64 0, .int .i64 0, .int .i64 0, .int .i64 0, .int .i64 0, .int .i64 0, .int .i64 0, .slice none 0 0, .slice none 0 0, .slice none 0 0] 52)) [(wk1.heap.size, [.int .i64 0, .int .i64 0, .int .i64 0, .int .i64 0, .int .i64 0, .int .i64 0, .int .i64 0, .int .i64 0, .int .i64 0, .int .i64 0, .int .i64 0, .slice none 0 0, .slice none 0 0, .slice none 0 0]), (ab, [.int .i64 0, .int .i64 0, .int .i64 0, .int .i64 0, .int .i64 0, .int .i64 0, .int .i64 0, .int .i64 0, .int .i64 0, .int .i64 0, .int .i64 0, .slice none 0 0, .slice none 0 0, .slice none 0 0])] [] [(fun W => RgAt W ⟨xg, xv, xm, xe, xq, xd, xs, xo, xl, xp, xt, xbase, xover, xsegs⟩ (xA, xn, xc) (xB, xk, xh) (xC, xj, xi)), (fun W => Own W cb [.int .i64 b, .int .i64 s, .int .i64 l]), (fun W => GeoAt W p b s l), (fun W => Own W w.heap.size [.int .i64 z0, .int .i64 z1, .int .i64 z2])]) := Lib.hid (HDk1.out.newB #[.int .i64 0, .int .i64 0, .int .i64 0, .int .i64 0, .int .i64 0, .int .i64 0, .int .i64 0, .int .i64 0, .int .i64 0, .int .i64 0, .int .i64 0, .slice none 0 0, .slice none 0 0, .slice none 0 0] 52 (b := wk1.heap.size) rfl)
          clear HDk1
          generalize hwa : World.alloc wk1 (.cells #[.int .i64 0, .int .i64 0, .int .i64 0, .int .i64 0, .int .i64 0, .int .i64 0, .int .i64 0, .int .i64 0, .int .i64 0, .int .i64 0, .int .i64 0, .slice none 0 0, .slice none 0 0, .slice none 0 0] 52) = wk2 at *
          clear hwa
          generalize wk1.heap.size = bb at *
          refine hK.out _ _ ⟨Own.cell (HDk2.out.fi 3 rfl) 0 (by simp), Own.cell (HDk2.out.fi 3 rfl) 1 (by simp), Own.cell (HDk2.out.fi 3 rfl) 2 (by simp)⟩ (fun hSn => ?_)
          clear hK K hSw0
          have hSw0 := hSn
          clear hSn
          (try simp only [Act.put, List.setIfInBounds_toArray, List.set_cons_zero, List.set_cons_succ])
          refine wpAnyH_ready (rs := [5]) (by kernel_rfl) (by simp) ?_
          refine AllReadyH.cons (o := ⟨some 34, _, _, _, _, _⟩) rfl (fun K hK => ?_) AllReadyH.nil
          go_simp
          refine (HMDy.out _ HDk2.out.only).mono ?_
          rintro en wk3 ⟨⟨yA, yn, yc⟩, ⟨yB, yk, yh⟩, ⟨yC, yj, yi⟩, rfl, hr, hf, hO⟩
          simp only [Rg.cells] at hr ⊢
          dsimp only at hf
          have HDk3 : Hid (Wd w wk3 [(bb, [.int .i64 0, .int .i64 0, .int .i64 0, .int .i64 0, .int .i64 0, .int .i64 0, .int .i64 0, .int .i64 0, .int .i64 0, .int .i64 0, .int .i64 0, .slice none 0 0, .slice none 0 0, .slice none 0 0]), (ab, [.int .i64 0, .int .i64 0, .int .i64 0, .int .i64 0, .int .i64 0, .int .i64 0, .int .i64 0, .int .i64 0, .int .i64 0, .int .i64 0, .int .i64 0, .slice none 0 0, .slice none 0 0, .slice none 0 0])] [] [(fun W => RgAt W ⟨yg, yv, ym, ye, yq, yd, ys, yo, yl, yp, yt, ybase, yover, ysegs⟩ (yA, yn, yc) (yB, yk, yh) (yC, yj, yi)), (fun W => RgAt W ⟨xg, xv, xm, xe, xq, xd, xs, xo, xl, xp, xt, xbase, xover, xsegs⟩ (xA, xn, xc) (xB, xk, xh) (xC, xj, xi)), (fun W => Own W cb [.int .i64 b, .int .i64 s, .int .i64 l]), (fun W => GeoAt W p b s l), (fun W => Own W w.heap.size [.int .i64 z0, .int .i64 z1, .int .i64 z2])]) := Lib.hid (HDk2.out.addFx hO (hr.fx (fun a ha => by have := hf.1 a ha; omega) (fun a ha => by have := hf.2.1 a ha; omega) (fun a ha => by have := hf.2.2 a ha; omega)))
          clear HDk2
          clear hr hf hO
          refine hK.out _ _ ⟨Own.cell (HDk3.out.fi 4 rfl) 0 (by simp), Own.cell (HDk3.out.fi 4 rfl) 1 (by simp), Own.cell (HDk3.out.fi 4 rfl) 2 (by simp)⟩ (fun hSn => ?_)
          clear hK K hSw0
          have hSw0 := hSn
          clear hSn
          (try simp only [Act.put, List.setIfInBounds_toArray, List.set_cons_zero, List.set_cons_succ])
          refine wpAnyH_ready (rs := [8]) (by kernel_rfl) (by simp) ?_
          refine AllReadyH.cons (o := ⟨none, _, _, _, _, _⟩) rfl (fun K hK => ?_) AllReadyH.nil
          refine step_store_own rfl 52 (.tmp 12) (.tmp 31) rfl ab [.int .i64 0, .int .i64 0, .int .i64 0, .int .i64 0, .int .i64 0, .int .i64 0, .int .i64 0, .int .i64 0, .int .i64 0, .int .i64 0, .int .i64 0, .slice none 0 0, .slice none 0 0, .slice none 0 0] [.int .i64 xg, .int .i64 xv, .int .i64 xm, .int .i64 xe, .int .i64 xq, .int .i64 xd, .int .i64 xs, .int .i64 xo, .int .i64 xl, .int .i64 xp, .int .i64 xt, .slice xA xn xc, .slice xB xk xh, .slice xC xj xi] (by kernel_rfl) rfl rfl (HDk3.out.boxi 1 rfl) rfl (by intro u hu; simp at hu; rcases hu with rfl | rfl | rfl | rfl | rfl | rfl | rfl | rfl | rfl | rfl | rfl | rfl | rfl | rfl <;> rfl) ?_
          intro wk4 ho hO
          have HDk4 : Hid (Wd w wk4 [(bb, [.int .i64 0, .int .i64 0, .int .i64 0, .int .i64 0, .int .i64 0, .int .i64 0, .int .i64 0, .int .i64 0, .int .i64 0, .int .i64 0, .int .i64 0, .slice none 0 0, .slice none 0 0, .slice none 0 0]), (ab, [.int .i64 xg, .int .i64 xv, .int .i64 xm, .int .i64 xe, .int .i64 xq, .int .i64 xd, .int .i64 xs, .int .i64 xo, .int .i64 xl, .int .i64 xp, .int .i64 xt, .slice xA xn xc, .slice xB xk xh, .slice xC xj xi])] [] [(fun W => RgAt W ⟨yg, yv, ym, ye, yq, yd, ys, yo, yl, yp, yt, ybase, yover, ysegs⟩ (yA, yn, yc) (yB, yk, yh) (yC, yj, yi)), (fun W => RgAt W ⟨xg, xv, xm, xe, xq, xd, xs, xo, xl, xp, xt, xbase, xover, xsegs⟩ (xA, xn, xc) (xB, xk, xh) (xC, xj, xi)), (fun W => Own W cb [.int .i64 b, .int .i64 s, .int .i64 l]), (fun W => GeoAt W p b s l), (fun W => Own W w.heap.size [.int .i64 z0, .int .i64 z1, .int .i64 z2])]) := Lib.hid (HDk3.out.call1 1 rfl ho hO)
          clear HDk3
          clear ho hO
          refine hK.out _ _ ⟨Own.cell (HDk4.out.fi 4 rfl) 0 (by simp), Own.cell (HDk4.out.fi 4 rfl) 1 (by simp), Own.cell (HDk4.out.fi 4 rfl) 2 (by simp)⟩ (fun hSn => ?_)
          clear hK K hSw0
          have hSw0 := hSn
          clear hSn
          (try simp only [Act.put, List.setIfInBounds_toArray, List.set_cons_zero, List.set_cons_succ])
          refine wpAnyH_ready (rs := [9]) (by kernel_rfl) (by simp) ?_
          refine AllReadyH.cons (o := ⟨none, _, _, _, _, _⟩) rfl (fun K hK => ?_) AllReadyH.nil
          refine step_store_own rfl 52 (.tmp 13) (.tmp 34) rfl bb [.int .i64 0, .int .i64 0, .int .i64 0, .int .i64 0, .int .i64 0, .int .i64 0, .int .i64 0, .int .i64 0, .int .i64 0, .int .i64 0, .int .i64 0, .slice none 0 0, .slice none 0 0, .slice none 0 0] [.int .i64 yg, .int .i64 yv, .int .i64 ym, .int .i64 ye, .int .i64 yq, .int .i64 yd, .int .i64 ys, .int .i64 yo, .int .i64 yl, .int .i64 yp, .int .i64 yt, .slice yA yn yc, .slice yB yk yh, .slice yC yj yi] (by kernel_rfl) rfl rfl (HDk4.out.boxi 0 rfl) rfl (by intro u hu; simp at hu; rcases hu with rfl | rfl | rfl | rfl | rfl | rfl | rfl | rfl | rfl | rfl | rfl | rfl | rfl | rfl <;> rfl) ?_
          intro wk5 ho hO
          have HDk5 : Hid (Wd w wk5 [(bb, [.int .i64 yg, .int .i64 yv, .int .i64 ym, .int .i64 ye, .int .i64 yq, .int .i64 yd, .int .i64 ys, .int .i64 yo, .int .i64 yl, .int .i64 yp, .int .i64 yt, .slice yA yn yc, .slice yB yk yh, .slice yC yj yi]), (ab, [.int .i64 xg, .int .i64 xv, .int .i64 xm, .int .i64 xe, .int .i64 xq, .int .i64 xd, .int .i64 xs, .int .i64 xo, .int .i64 xl, .int .i64 xp, .int .i64 xt, .slice xA xn xc, .slice xB xk xh, .slice xC xj xi])] [] [(fun W => RgAt W ⟨yg, yv, ym, ye, yq, yd, ys, yo, yl, yp, yt, ybase, yover, ysegs⟩ (yA, yn, yc) (yB, yk, yh) (yC, yj, yi)), (fun W => RgAt W ⟨xg, xv, xm, xe, xq, xd, xs, xo, xl, xp, xt, xbase, xover, xsegs⟩ (xA, xn, xc) (xB, xk, xh) (xC, xj, xi)), (fun W => Own W cb [.int .i64 b, .int .i64 s, .int .i64 l]), (fun W => GeoAt W p b s l), (fun W => Own W w.heap.size [.int .i64 z0, .int .i64 z1, .int .i64 z2])]) := Lib.hid (HDk4.out.call1 0 rfl ho hO)
          clear HDk4
          clear ho hO
          refine hK.out _ _ ⟨Own.cell (HDk5.out.fi 4 rfl) 0 (by simp), Own.cell (HDk5.out.fi 4 rfl) 1 (by simp), Own.cell (HDk5.out.fi 4 rfl) 2 (by simp)⟩ (fun hSn => ?_)
          clear hK K hSw0
          have hSw0 := hSn
          clear hSn
          (try simp only [Act.put, List.setIfInBounds_toArray, List.set_cons_zero, List.set_cons_succ])
          refine wpAnyH_done (by kernel_rfl) ?_ _
          clear hSw0
          go_wp2
          go_meet
          case rel => exact ⟨ab, bb, xA, xn, xc, xB, xk, xh, xC, xj, xi, yA, yn, yc, yB, yk, yh, yC, yj, yi, rfl, rfl, (HDk5.out.drop.fact0 (Own.fx (HDk5.out.boxi 1 rfl) (by simp))).fact0 (Own.fx (HDk5.out.boxi 0 rfl) (by simp))⟩
        exact AllReadyH.nil
      refine AllReadyH.cons (o := ⟨some 13, _, _, _, _, _⟩) rfl (fun K hK => ?_) ?_
      · as_aux_lemma =>
        go_simp
        have HDk1 : Hid (Wd w (World.alloc wk0 (.cells #[.int .i64 0, .int .i64 0, .int .i64 0, .int .i64 0, .int .i64 0, .int .i64 0, .int .i64 0, .int .i64 0, .int .i64 0, .int .i64 0, .int .i64 0, .slice none 0 0, .slice none 0 0, .slice none 0 0] 52)) [(wk0.heap.size, [.int .i64 0, .int .i64 0, .int .i64 0, .int .i64 0, .int .i64 0, .int .i64 0, .int .i64 0, .int .i64 0, .int .i64 0, .int .i64 0, .int .i64 0, .slice none 0 0, .slice none 0 0, .slice none 0 0])] [] [(fun W => RgAt W ⟨xg, xv, xm, xe, xq, xd, xs, xo, xl, xp, xt, xbase, xover, xsegs⟩ (xA, xn, xc) (xB, xk, xh) (xC, xj, xi)), (fun W => Own W cb [.int .i64 b, .int .i64 s, .int .i64 l]), (fun W => GeoAt W p b s l), (fun W => Own W w.heap.size [.int .i64 z0, .int .i64 z1, .int .i64 z2])]) := Lib.hid (HDk0.out.newB #[.int .i64 0, .int .i64 0, .int .i64 0, .int .i64 0, .int .i64 0, .int .i64 0, .int .i64 0, .int .i64 0, .int .i64 0, .int .i64 0, .int .i64 0, .slice none 0 0, .slice none 0 0, .slice none 0 0] 52 (b := wk0.heap.size) rfl)
        clear HDk0
        generalize hwa : World.alloc wk0 (.cells #[.int .i64 0, .int .i64 0, .int .i64 0, .int .i64 0, .int .i64 0, .int .i64 0, .int .i64 0, .int .i64 0, .int .i64 0, .int .i64 0, .int .i64 0, .slice none 0 0, .slice none 0 0, .slice none 0 0] 52) = wk1 at *
        clear hwa
        generalize wk0.heap.size = bb at *
        refine hK.out _ _ ⟨Own.cell (HDk1.out.fi 3 rfl) 0 (by simp), Own.cell (HDk1.out.fi 3 rfl) 1 (by simp), Own.cell (HDk1.out.fi 3 rfl) 2 (by simp)⟩ (fun hSn => ?_)
        clear hK K hSw0
        have hSw0 := hSn
        clear hSn
        (try simp only [Act.put, List.setIfInBounds_toArray, List.set_cons_zero, List.set_cons_succ])
        refine wpAnyH_ready (rs := [5, 6]) (by kernel_rfl) (by simp) ?_
        refine AllReadyH.cons (o := ⟨some 34, _, _, _, _, _⟩) rfl (fun K hK => ?_) ?_
        · as_aux_lemma =>
          go_simp
          refine (HMDy.out _ HDk1.out.only).mono ?_
          rintro en wk2 ⟨⟨yA, yn, yc⟩, ⟨yB, yk, yh⟩, ⟨yC, yj, yi⟩, rfl, hr, hf, hO⟩
          simp only [Rg.cells] at hr ⊢
          dsimp only at hf
          have HDk2 : Hid (Wd w wk2 [(bb, [.int .i64 0, .int .i64 0, .int .i64 0, .int .i64 0, .int .i64 0, .int .i64 0, .int .i64 0, .int .i64 0, .int .i64 0, .int .i64 0, .int .i64 0, .slice none 0 0, .slice none 0 0, .slice none 0 0])] [] [(fun W => RgAt W ⟨yg, yv, ym, ye, yq, yd, ys, yo, yl, yp, yt, ybase, yover, ysegs⟩ (yA, yn, yc) (yB, yk, yh) (yC, yj, yi)), (fun W => RgAt W ⟨xg, xv, xm, xe, xq, xd, xs, xo, xl, xp, xt, xbase, xover, xsegs⟩ (xA, xn, xc) (xB, xk, xh) (xC, xj, xi)), (fun W => Own W cb [.int .i64 b, .int .i64 s, .int .i64 l]), (fun W => GeoAt W p b s l), (fun W => Own W w.heap.size [.int .i64 z0, .int .i64 z1, .int .i64 z2])]) := Lib.hid (HDk1.out.addFx hO (hr.fx (fun a ha => by have := hf.1 a ha; omega) (fun a ha => by have := hf.2.1 a ha; omega) (fun a ha => by have := hf.2.2 a ha; omega)))
          clear HDk1
          clear hr hf hO
          refine hK.out _ _ ⟨Own.cell (HDk2.out.fi 4 rfl) 0 (by simp), Own.cell (HDk2.out.fi 4 rfl) 1 (by simp), Own.cell (HDk2.out.fi 4 rfl) 2 (by simp)⟩ (fun hSn => ?_)
          clear hK K hSw0
          have hSw0 := hSn
          clear hSn
          (try simp only [Act.put, List.setIfInBounds_toArray, List.set_cons_zero, List.set_cons_succ])
          refine wpAnyH_ready (rs := [6]) (by kernel_rfl) (by simp) ?_
          refine AllReadyH.cons (o := ⟨some 12, _, _, _, _, _⟩) rfl (fun K hK => ?_) AllReadyH.nil
          go_simp
          have HDk3 : Hid (Wd w (World.alloc wk2 (.cells #[.int .i64 0, .int .i64 0, .int .i64 0, .int .i64 0, .int .i64 0, .int .i64 0, .int .i64 0, .int .i64 0, .int .i64 0, .int .i64 0, .int .i64 0, .slice none 0 0, .slice none 0 0, .slice none 0 0] 52)) [(wk2.heap.size, [.int .i64 0, .int .i64 0, .int .i64 0, .int .i64 0, .int .i64 0, .int .i64 0, .int .i64 0, .int .i64 0, .int .i64 0, .int .i64 0, .int .i64 0, .slice none 0 0, .slice none 0 0, .slice none 0 0]), (bb, [.int .i64 0, .int .i64 0, .int .i64 0, .int .i64 0, .int .i64 0, .int .i64 0, .int .i64 0, .int .i64 0, .int .i64 0, .int .i64 0, .int .i64 0, .slice none 0 0, .slice none 0 0, .slice none 0 0])] [] [(fun W => RgAt W ⟨yg, yv, ym, ye, yq, yd, ys, yo, yl, yp, yt, ybase, yover, ysegs⟩ (yA, yn, yc) (yB, yk, yh) (yC, yj, yi)), (fun W => RgAt W ⟨xg, xv, xm, xe, xq, xd, xs, xo, xl, xp, xt, xbase, xover, xsegs⟩ (xA, xn, xc) (xB, xk, xh) (xC, xj, xi)), (fun W => Own W cb [.int .i64 b, .int .i64 s, .int .i64 l]), (fun W => GeoAt W p b s l), (fun W => Own W w.heap.size [.int .i64 z0, .int .i64 z1, .int .i64 z2])]) := Lib.hid (HDk2.out.newB #[.int .i64 0, .int .i64 0, .int .i64 0, .int .i64 0, .int .i64 0, .int .i64 0, .int .i64 0, .int .i64 0, .int .i64 0, .int .i64 0, .int .i64 0, .slice none 0 0, .slice none 0 0, .slice none 0 0] 52 (b := wk2.heap.size) rfl)
          clear HDk2
          generalize hwa : World.alloc wk2 (.cells #[.int .i64 0, .int .i64 0, .int .i64 0, .int .i64 0, .int .i64 0, .int .i64 0, .int .i64 0, .int .i64 0, .int .i64 0, .int .i64 0, .int .i64 0, .slice none 0 0, .slice none 0 0, .slice none 0 0] 52) = wk3 at *
          clear hwa
          generalize wk2.heap.size = ab at *
          refine hK.out _ _ ⟨Own.cell (HDk3.out.fi 4 rfl) 0 (by simp), Own.cell (HDk3.out.fi 4 rfl) 1 (by simp), Own.cell (HDk3.out.fi 4 rfl) 2 (by simp)⟩ (fun hSn => ?_)
          clear hK K hSw0
          have hSw0 := hSn
          clear hSn
          (try simp only [Act.put, List.setIfInBounds_toArray, List.set_cons_zero, List.set_cons_succ])
          refine wpAnyH_ready (rs := [8]) (by kernel_rfl) (by simp) ?_
          refine AllReadyH.cons (o := ⟨none, _, _, _, _, _⟩) rfl (fun K hK => ?_) AllReadyH.nil
          refine step_store_own rfl 52 (.tmp 12) (.tmp 31) rfl ab [.int .i64 0, .int .i64 0, .int .i64 0, .int .i64 0, .int .i64 0, .int .i64 0, .int .i64 0, .int .i64 0, .int .i64 0, .int .i64 0, .int .i64 0, .slice none 0 0, .slice none 0 0, .slice none 0 0] [.int .i64 xg, .int .i64 xv, .int .i64 xm, .int .i64 xe, .int .i64 xq, .int .i64 xd, .int .i64 xs, .int .i64 xo, .int .i64 xl, .int .i64 xp, .int .i64 xt, .slice xA xn xc, .slice xB xk xh, .slice xC xj xi] (by kernel_rfl) rfl rfl (HDk3.out.boxi 0 rfl) rfl (by intro u hu; simp at hu; rcases hu with rfl | rfl | rfl | rfl | rfl | rfl | rfl | rfl | rfl | rfl | rfl | rfl | rfl | rfl <;> rfl) ?_
          intro wk4 ho hO
          have HDk4 : Hid (Wd w wk4 [(ab, [.int .i64 xg, .int .i64 xv, .int .i64 xm, .int .i64 xe, .int .i64 xq, .int .i64 xd, .int .i64 xs, .int .i64 xo, .int .i64 xl, .int .i64 xp, .int .i64 xt, .slice xA xn xc, .slice xB xk xh, .slice xC xj xi]), (bb, [.int .i64 0, .int .i64 0, .int .i64 0, .int .i64 0, .int .i64 0, .int .i64 0, .int .i64 0, .int .i64 0, .int .i64 0, .int .i64 0, .int .i64 0, .slice none 0 0, .slice none 0 0, .slice none 0 0])] [] [(fun W => RgAt W ⟨yg, yv, ym, ye, yq, yd, ys, yo, yl, yp, yt, ybase, yover, ysegs⟩ (yA, yn, yc) (yB, yk, yh) (yC, yj, yi)), (fun W => RgAt W ⟨xg, xv, xm, xe, xq, xd, xs, xo, xl, xp, xt, xbase, xover, xsegs⟩ (xA, xn, xc) (xB, xk, xh) (xC, xj, xi)), (fun W => Own W cb [.int .i64 b, .int .i64 s, .int .i64 l]), (fun W => GeoAt W p b s l), (fun W => Own W w.heap.size [.int .i64 z0, .int .i64 z1, .int .i64 z2])]) := Lib.hid (HDk3.out.call1 0 rfl ho hO)
          clear HDk3
          clear ho hO
          refine hK.out _ _ ⟨Own.cell (HDk4.out.fi 4 rfl) 0 (by simp), Own.cell (HDk4.out.fi 4 rfl) 1 (by simp), Own.cell (HDk4.out.fi 4 rfl) 2 (by simp)⟩ (fun hSn => ?_)
          clear hK K hSw0
          have hSw0 := hSn
          clear hSn
          (try simp only [Act.put, List.setIfInBounds_toArray, List.set_cons_zero, List.set_cons_succ])
          refine wpAnyH_ready (rs := [9]) (by kernel_rfl) (by simp) ?_
          refine AllReadyH.cons (o := ⟨none, _, _, _, _, _⟩) rfl (fun K hK => ?_) AllReadyH.nil
          refine step_store_own rfl 52 (.tmp 13) (.tmp 34) rfl bb [.int .i64 0, .int .i64 0, .int .i64 0, .int .i64 0, .int .i64 0, .int .i64 0, .int .i64 0, .int .i64 0, .int .i64 0, .int .i64 0, .int .i64 0, .slice none 0 0, .slice none 0 0, .slice none 0 0] [.int .i64 yg, .int .i64 yv, .int .i64 ym, .int .i64 ye, .int .i64 yq, .int .i64 yd, .int .i64 ys, .int .i64 yo, .int .i64 yl, .int .i64 yp, .int .i64 yt, .slice yA yn yc, .slice yB yk yh, .slice yC yj yi] (by kernel_rfl) rfl rfl (HDk4.out.boxi 1 rfl) rfl (by intro u hu; simp at hu; rcases hu with rfl | rfl | rfl | rfl | rfl | rfl | rfl | rfl | rfl | rfl | rfl | rfl | rfl | rfl <;> rfl) ?_
          intro wk5 ho hO
          have HDk5 : Hid (Wd w wk5 [(ab, [.int .i64 xg, .int .i64 xv, .int .i64 xm, .int .i64 xe, .int .i64 xq, .int .i64 xd, .int .i64 xs, .int .i64 xo, .int .i64 xl, .int .i64 xp, .int .i64 xt, .slice xA xn xc, .slice xB xk xh, .slice xC xj xi]), (bb, [.int .i64 yg, .int .i64 yv, .int .i64 ym, .int .i64 ye, .int .i64 yq, .int .i64 yd, .int .i64 ys, .int .i64 yo, .int .i64 yl, .int .i64 yp, .int .i64 yt, .slice yA yn yc, .slice yB yk yh, .slice yC yj yi])] [] [(fun W => RgAt W ⟨yg, yv, ym, ye, yq, yd, ys, yo, yl, yp, yt, ybase, yover, ysegs⟩ (yA, yn, yc) (yB, yk, yh) (yC, yj, yi)), (fun W => RgAt W ⟨xg, xv, xm, xe, xq, xd, xs, xo, xl, xp, xt, xbase, xover, xsegs⟩ (xA, xn, xc) (xB, xk, xh) (xC, xj, xi)), (fun W => Own W cb [.int .i64 b, .int .i64 s, .int .i64 l]), (fun W => GeoAt W p b s l), (fun W => Own W w.heap.size [.int .i64 z0, .int .i64 z1, .int .i64 z2])]) := Lib.hid (HDk4.out.call1 1 rfl ho hO)
          clear HDk4
          clear ho hO
          refine hK.out _ _ ⟨Own.cell (HDk5.out.fi 4 rfl) 0 (by simp), Own.cell (HDk5.out.fi 4 rfl) 1 (by simp), Own.cell (HDk5.out.fi 4 rfl) 2 (by simp)⟩ (fun hSn => ?_)
          clear hK K hSw0
          have hSw0 := hSn
          clear hSn
          (try simp only [Act.put, List.setIfInBounds_toArray, List.set_cons_zero, List.set_cons_succ])
          refine wpAnyH_done (by kernel_rfl) ?_ _
          clear hSw0
          go_wp2
          go_meet
          case rel => exact ⟨ab, bb, xA, xn, xc, xB, xk, xh, xC, xj, xi, yA, yn, yc, yB, yk, yh, yC, yj, yi, rfl, rfl, (HDk5.out.drop.fact0 (Own.fx (HDk5.out.boxi 0 rfl) (by simp))).fact0 (Own.fx (HDk5.out.boxi 1 rfl) (by simp))⟩
        refine AllReadyH.cons (o := ⟨some 12, _, _, _, _, _⟩) rfl (fun K hK => ?_) ?_
        · as_aux_lemma =>
          go_simp
          have HDk2 : Hid (Wd w (World.alloc wk1 (.cells #[.int .i64 0, .int .i64 0, .int .i64 0, .int .i64 0, .int .i64 0, .int .i64 0, .int .i64 0, .int .i64 0, .int .i64 0, .int .i64 0, .int .i64 0, .slice none 0 0, .slice none 0 0, .slice none 0 0] 52)) [(wk1.heap.size, [.int .i64 0, .int .i64 0, .int .i64 0, .int .i64 0, .int .i64 0, .int .i64 0, .int .i64 0, .int .i64 0, .int .i64 0, .int .i64 0, .int .i64 0, .slice none 0 0, .slice none 0 0, .slice none 0 0]), (bb, [.int .i64 0, .int .i64 0, .int .i64 0, .int .i64 0, .int .i64 0, .int .i64 0, .int .i64 0, .int .i64 0, .int .i64 0, .int .i64 0, .int .i64 0, .slice none 0 0, .slice none 0 0, .slice none 0 0])] [] [(fun W => RgAt W ⟨xg, xv, xm, xe, xq, xd, xs, xo, xl, xp, xt, xbase, xover, xsegs⟩ (xA, xn, xc) (xB, xk, xh) (xC, xj, xi)), (fun W => Own W cb [.int .i64 b, .int .i64 s, .int .i64 l]), (fun W => GeoAt W p b s l), (fun W => Own W w.heap.size [.int .i64 z0, .int .i64 z1, .int .i64 z2])]) := Lib.hid (HDk1.out.newB #[.int .i64 0, .int .i64 0, .int .i64 0, .int .i64 0, .int .i64 0, .int .i64 0, .int .i64 0, .int .i64 0, .int .i64 0, .int .i64 0, .int .i64 0, .slice none 0 0, .slice none 0 0, .slice none 0 0] 52 (b := wk1.heap.size) rfl)
          clear HDk1
          generalize hwa : World.alloc wk1 (.cells #[.int .i64 0, .int .i64 0, .int .i64 0, .int .i64 0, .int .i64 0, .int .i64 0, .int .i64 0, .int .i64 0, .int .i64 0, .int .i64 0, .int .i64 0, .slice none 0 0, .slice none 0 0, .slice none 0 0] 52) = wk2 at *
          clear hwa
          generalize wk1.heap.size = ab at *
          refine hK.out _ _ ⟨Own.cell (HDk2.out.fi 3 rfl) 0 (by simp), Own.cell (HDk2.out.fi 3 rfl) 1 (by simp), Own.cell (HDk2.out.fi 3 rfl) 2 (by simp)⟩ (fun hSn => ?_)
          clear hK K hSw0
          have hSw0 := hSn
          clear hSn
          (try simp only [Act.put, List.setIfInBounds_toArray, List.set_cons_zero, List.set_cons_succ])
          refine wpAnyH_ready (rs := [5]) (by kernel_rfl) (by simp) ?_
          refine AllReadyH.cons (o := ⟨some 34, _, _, _, _, _⟩) rfl (fun K hK => ?_) AllReadyH.nil
          go_simp
          refine (HMDy.out _ HDk2.out.only).mono ?_
          rintro en wk3 ⟨⟨yA, yn, yc⟩, ⟨yB, yk, yh⟩, ⟨yC, yj, yi⟩, rfl, hr, hf, hO⟩
          simp only [Rg.cells] at hr ⊢
          dsimp only at hf
          have HDk3 : Hid (Wd w wk3 [(ab, [.int .i64 0, .int .i64 0, .int .i64 0, .int .i64 0, .int .i64 0, .int .i64 0, .int .i64 0, .int .i64 0, .int .i64 0, .int .i64 0, .int .i64 0, .slice none 0 0, .slice none 0 0, .slice none 0 0]), (bb, [.int .i64 0, .int .i64 0, .int .i64 0, .int .i64 0, .int .i64 0, .int .i64 0, .int .i64 0, .int .i64 0, .int .i64 0, .int .i64 0, .int .i64 0, .slice none 0 0, .slice none 0 0, .slice none 0 0])] [] [(fun W => RgAt W ⟨yg, yv, ym, ye, yq, yd, ys, yo, yl, yp, yt, ybase, yover, ysegs⟩ (yA, yn, yc) (yB, yk, yh) (yC, yj, yi)), (fun W => RgAt W ⟨xg, xv, xm, xe, xq, xd, xs, xo, xl, xp, xt, xbase, xover, xsegs⟩ (xA, xn, xc) (xB, xk, xh) (xC, xj, xi)), (fun W => Own W cb [.int .i64 b, .int .i64 s, .int .i64 l]), (fun W => GeoAt W p b s l), (fun W => Own W w.heap.size [.int .i64 z0, .int .i64 z1, .int .i64 z2])]) := Lib.hid (HDk2.out.addFx hO (hr.fx (fun a ha => by have := hf.1 a ha; omega) (fun a ha => by have := hf.2.1 a ha; omega) (fun a ha => by have := hf.2.2 a ha; omega)))
          clear HDk2
          clear hr hf hO
          refine hK.out _ _ ⟨Own.cell (HDk3.out.fi 4 rfl) 0 (by simp), Own.cell (HDk3.out.fi 4 rfl) 1 (by simp), Own.cell (HDk3.out.fi 4 rfl) 2 (by simp)⟩ (fun hSn => ?_)
          clear hK K hSw0
          have hSw0 := hSn
          clear hSn
          (try simp only [Act.put, List.setIfInBounds_toArray, List.set_cons_zero, List.set_cons_succ])
          refine wpAnyH_ready (rs := [8]) (by kernel_rfl) (by simp) ?_
          refine AllReadyH.cons (o := ⟨none, _, _, _, _, _⟩) rfl (fun K hK => ?_) AllReadyH.nil
          refine step_store_own rfl 52 (.tmp 12) (.tmp 31) rfl ab [.int .i64 0, .int .i64 0, .int .i64 0, .int .i64 0, .int .i64 0, .int .i64 0, .int .i64 0, .int .i64 0, .int .i64 0, .int .i64 0, .int .i64 0, .slice none 0 0, .slice none 0 0, .slice none 0 0] [.int .i64 xg, .int .i64 xv, .int .i64 xm, .int .i64 xe, .int .i64 xq, .int .i64 xd, .int .i64 xs, .int .i64 xo, .int .i64 xl, .int .i64 xp, .int .i64 xt, .slice xA xn xc, .slice xB xk xh, .slice xC xj xi] (by kernel_rfl) rfl rfl (HDk3.out.boxi 0 rfl) rfl (by intro u hu; simp at hu; rcases hu with rfl | rfl | rfl | rfl | rfl | rfl | rfl | rfl | rfl | rfl | rfl | rfl | rfl | rfl <;> rfl) ?_
          intro wk4 ho hO
          have HDk4 : Hid (Wd w wk4 [(ab, [.int .i64 xg, .int .i64 xv, .int .i64 xm, .int .i64 xe, .int .i64 xq, .int .i64 xd, .int .i64 xs, .int .i64 xo, .int .i64 xl, .int .i64 xp, .int .i64 xt, .slice xA xn xc, .slice xB xk xh, .slice xC xj xi]), (bb, [.int .i64 0, .int .i64 0, .int .i64 0, .int .i64 0, .int .i64 0, .int .i64 0, .int .i64 0, .int .i64 0, .int .i64 0, .int .i64 0, .int .i64 0, .slice none 0 0, .slice none 0 0, .slice none 0 0])] [] [(fun W => RgAt W ⟨yg, yv, ym, ye, yq, yd, ys, yo, yl, yp, yt, ybase, yover, ysegs⟩ (yA, yn, yc) (yB, yk, yh) (yC, yj, yi)), (fun W => RgAt W ⟨xg, xv, xm, xe, xq, xd, xs, xo, xl, xp, xt, xbase, xover, xsegs⟩ (xA, xn, xc) (xB, xk, xh) (xC, xj, xi)), (fun W => Own W cb [.int .i64 b, .int .i64 s, .int .i64 l]), (fun W => GeoAt W p b s l), (fun W => Own W w.heap.size [.int .i64 z0, .int .i64 z1, .int .i64 z2])]) := Lib.hid (HDk3.out.call1 0 rfl ho hO)
          clear HDk3
          clear ho hO
          refine hK.out _ _ ⟨Own.cell (HDk4.out.fi 4 rfl) 0 (by simp), Own.cell (HDk4.out.fi 4 rfl) 1 (by simp), Own.cell (HDk4.out.fi 4 rfl) 2 (by simp)⟩ (fun hSn => ?_)
          clear hK K hSw0
          have hSw0 := hSn
          clear hSn
          (try simp only [Act.put, List.setIfInBounds_toArray, List.set_cons_zero, List.set_cons_succ])
          refine wpAnyH_ready (rs := [9]) (by kernel_rfl) (by simp) ?_
          refine AllReadyH.cons (o := ⟨none, _, _, _, _, _⟩) rfl (fun K hK => ?_) AllReadyH.nil
          refine step_store_own rfl 52 (.tmp 13) (.tmp 34) rfl bb [.int .i64 0, .int .i64 0, .int .i64 0, .int .i64 0, .int .i64 0, .int .i64 0, .int .i64 0, .int .i64 0, .int .i64 0, .int .i64 0, .int .i64 0, .slice none 0 0, .slice none 0 0, .slice none 0 0] [.int .i64 yg, .int .i64 yv, .int .i64 ym, .int .i64 ye, .int .i64 yq, .int .i64 yd, .int .i64 ys, .int .i64 yo, .int .i64 yl, .int .i64 yp, .int .i64 yt, .slice yA yn yc, .slice yB yk yh, .slice yC yj yi] (by kernel_rfl) rfl rfl (HDk4.out.boxi 1 rfl) rfl (by intro u hu; simp at hu; rcases hu with rfl | rfl | rfl | rfl | rfl | rfl | rfl | rfl | rfl | rfl | rfl | rfl | rfl | rfl <;> rfl) ?_
          intro wk5 ho hO
          have HDk5 : Hid (Wd w wk5 [(ab, [.int .i64 xg, .int .i64 xv, .int .i64 xm, .int .i64 xe, .int .i64 xq, .int .i64 xd, .int .i64 xs, .int .i64 xo, .int .i64 xl, .int .i64 xp, .int .i64 xt, .slice xA xn xc, .slice xB xk xh, .slice xC xj xi]), (bb, [.int .i64 yg, .int .i64 yv, .int .i64 ym, .int .i64 ye, .int .i64 yq, .int .i64 yd, .int .i64 ys, .int .i64 yo, .int .i64 yl, .int .i64 yp, .int .i64 yt, .slice yA yn yc, .slice yB yk yh, .slice yC yj yi])] [] [(fun W => RgAt W ⟨yg, yv, ym, ye, yq, yd, ys, yo, yl, yp, yt, ybase, yover, ysegs⟩ (yA, yn, yc) (yB, yk, yh) (yC, yj, yi)), (fun W => RgAt W ⟨xg, xv, xm, xe, xq, xd, xs, xo, xl, xp, xt, xbase, xover, xsegs⟩ (xA, xn, xc) (xB, xk, xh) (xC, xj, xi)), (fun W => Own W cb [.int .i64 b, .int .i64 s, .int .i64 l]), (fun W => GeoAt W p b s l), (fun W => Own W w.heap.size [.int .i64 z0, .int .i64 z1, .int .i64 z2])]) := Lib.hid (HDk4.out.call1 1 rfl ho hO)
          clear HDk4
          clear ho hO
          refine hK.out _ _ ⟨Own.cell (HDk5.out.fi 4 rfl) 0 (by simp), Own.cell (HDk5.out.fi 4 rfl) 1 (by simp), Own.cell (HDk5.out.fi 4 rfl) 2 (by simp)⟩ (fun hSn => ?_)
          clear hK K hSw0
          have hSw0 := hSn
          clear hSn
          (try simp only [Act.put, List.setIfInBounds_toArray, List.set_cons_zero, List.set_cons_succ])
          refine wpAnyH_done (by kernel_rfl) ?_ _
          clear hSw0
          go_wp2
          go_meet
          case rel => exact ⟨ab, bb, xA, xn, xc, xB, xk, xh, xC, xj, xi, yA, yn, yc, yB, yk, yh, yC, yj, yi, rfl, rfl, (HDk5.out.drop.fact0 (Own.fx (HDk5.out.boxi 0 rfl) (by simp))).fact0 (Own.fx (HDk5.out.boxi 1 rfl) (by simp))⟩
        exact AllReadyH.nil
      exact AllReadyH.nil
    refine AllReadyH.cons (o := ⟨some 12, _, _, _, _, _⟩) rfl (fun K hK => ?_) ?_
    · as_aux_lemma =>
      go_simp
      have HDk0 : Hid (Wd w (World.alloc wd (.cells #[.int .i64 0, .int .i64 0, .int .i64 0, .int .i64 0, .int .i64 0, .int .i64 0, .int .i64 0, .int .i64 0, .int .i64 0, .int .i64 0, .int .i64 0, .slice none 0 0, .slice none 0 0, .slice none 0 0] 52)) [(wd.heap.size, [.int .i64 0, .int .i64 0, .int .i64 0, .int .i64 0, .int .i64 0, .int .i64 0, .int .i64 0, .int .i64 0, .int .i64 0, .int .i64 0, .int .i64 0, .slice none 0 0, .slice none 0 0, .slice none 0 0])] [] [(fun W => Own W cb [.int .i64 b, .int .i64 s, .int .i64 l]), (fun W => GeoAt W p b s l), (fun W => Own W w.heap.size [.int .i64 z0, .int .i64 z1, .int .i64 z2])]) := Lib.hid (HDd.out.newB #[.int .i64 0, .int .i64 0, .int .i64 0, .int .i64 0, .int .i64 0, .int .i64 0, .int .i64 0, .int .i64 0, .int .i64 0, .int .i64 0, .int .i64 0, .slice none 0 0, .slice none 0 0, .slice none 0 0] 52 (b := wd.heap.size) rfl)
      clear HDd
      generalize hwa : World.alloc wd (.cells #[.int .i64 0, .int .i64 0, .int .i64 0, .int .i64 0, .int .i64 0, .int .i64 0, .int .i64 0, .int .i64 0, .int .i64 0, .int .i64 0, .int .i64 0, .slice none 0 0, .slice none 0 0, .slice none 0 0] 52) = wk0 at *
      clear hwa
      generalize wd.heap.size = ab at *
      refine hK.out _ _ ⟨Own.cell (HDk0.out.fi 2 rfl) 0 (by simp), Own.cell (HDk0.out.fi 2 rfl) 1 (by simp), Own.cell (HDk0.out.fi 2 rfl) 2 (by simp)⟩ (fun hSn => ?_)
      clear hK K hSw0
      have hSw0 := hSn
      clear hSn
      (try simp only [Act.put, List.setIfInBounds_toArray, List.set_cons_zero, List.set_cons_succ])
      refine wpAnyH_ready (rs := [2, 7]) (by kernel_rfl) (by simp) ?_
      refine AllReadyH.cons (o := ⟨some 31, _, _, _, _, _⟩) rfl (fun K hK => ?_) ?_
      · as_aux_lemma =>
        go_simp
        refine (HMDx.out _ HDk0.out.only).mono ?_
        rintro en wk1 ⟨⟨xA, xn, xc⟩, ⟨xB, xk, xh⟩, ⟨xC, xj, xi⟩, rfl, hr, hf, hO⟩
        simp only [Rg.cells] at hr ⊢
        dsimp only at hf
        have HDk1 : Hid (Wd w wk1 [(ab, [.int .i64 0, .int .i64 0, .int .i64 0, .int .i64 0, .int .i64 0, .int .i64 0, .int .i64 0, .int .i64 0, .int .i64 0, .int .i64 0, .int .i64 0, .slice none 0 0, .slice none 0 0, .slice none 0 0])] [] [(fun W => RgAt W ⟨xg, xv, xm, xe, xq, xd, xs, xo, xl, xp, xt, xbase, xover, xsegs⟩ (xA, xn, xc) (xB, xk, xh) (xC, xj, xi)), (fun W => Own W cb [.int .i64 b, .int .i64 s, .int .i64 l]), (fun W => GeoAt W p b s l), (fun W => Own W w.heap.size [.int .i64 z0, .int .i64 z1, .int .i64 z2])]) := Lib.hid (HDk0.out.addFx hO (hr.fx (fun a ha => by have := hf.1 a ha; omega) (fun a ha => by have := hf.2.1 a ha; omega) (fun a ha => by have := hf.2.2 a ha; omega)))
        clear HDk0
        clear hr hf hO
        refine hK.out _ _ ⟨Own.cell (HDk1.out.fi 3 rfl) 0 (by simp), Own.cell (HDk1.out.fi 3 rfl) 1 (by simp), Own.cell (HDk1.out.fi 3 rfl) 2 (by simp)⟩ (fun hSn => ?_)
        clear hK K hSw0
        have hSw0 := hSn
        clear hSn
        (try simp only [Act.put, List.setIfInBounds_toArray, List.set_cons_zero, List.set_cons_succ])
        refine wpAnyH_ready (rs := [5, 7]) (by kernel_rfl) (by simp) ?_
        refine AllReadyH.cons (o := ⟨some 34, _, _, _, _, _⟩) rfl (fun K hK => ?_) ?_
        · as_aux_lemma =>
          go_simp
          refine (HMDy.out _ HDk1.out.only).mono ?_
          rintro en wk2 ⟨⟨yA, yn, yc⟩, ⟨yB, yk, yh⟩, ⟨yC, yj, yi⟩, rfl, hr, hf, hO⟩
          simp only [Rg.cells] at hr ⊢
          dsimp only at hf
          have HDk2 : Hid (Wd w wk2 [(ab, [.int .i64 0, .int .i64 0, .int .i64 0, .int .i64 0, .int .i64 0, .int .i64 0, .int .i64 0, .int .i64 0, .int .i64 0, .int .i64 0, .int .i64 0, .slice none 0 0, .slice none 0 0, .slice none 0 0])] [] [(fun W => RgAt W ⟨yg, yv, ym, ye, yq, yd, ys, yo, yl, yp, yt, ybase, yover, ysegs⟩ (yA, yn, yc) (yB, yk, yh) (yC, yj, yi)), (fun W => RgAt W ⟨xg, xv, xm, xe, xq, xd, xs, xo, xl, xp, xt, xbase, xover, xsegs⟩ (xA, xn, xc) (xB, xk, xh) (xC, xj, xi)), (fun W => Own W cb [.int .i64 b, .int .i64 s, .int .i64 l]), (fun W => GeoAt W p b s l), (fun W => Own W w.heap.size [.int .i64 z0, .int .i64 z1, .int .i64 z2])]) := Lib.hid (HDk1.out.addFx hO (hr.fx (fun a ha => by have := hf.1 a ha; omega) (fun a ha => by have := hf.2.1 a ha; omega) (fun a ha => by have := hf.2.2 a ha; omega)))
          clear HDk1
          clear hr hf hO
          refine hK.out _ _ ⟨Own.cell (HDk2.out.fi 4 rfl) 0 (by simp), Own.cell (HDk2.out.fi 4 rfl) 1 (by simp), Own.cell (HDk2.out.fi 4 rfl) 2 (by simp)⟩ (fun hSn => ?_)
          clear hK K hSw0
          have hSw0 := hSn
          clear hSn
          (try simp only [Act.put, List.setIfInBounds_toArray, List.set_cons_zero, List.set_cons_succ])
          refine wpAnyH_ready (rs := [7]) (by kernel_rfl) (by simp) ?_
          refine AllReadyH.cons (o := ⟨some 13, _, _, _, _, _⟩) rfl (fun K hK => ?_) AllReadyH.nil
          go_simp
          have HDk3 : Hid (Wd w (World.alloc wk2 (.cells #[.int .i64 0, .int .i64 0, .int .i64 0, .int .i64 0, .int .i64 0, .int .i64 0, .int .i64 0, .int .i64 0, .int .i64 0, .int .i64 0, .int .i64 0, .slice none 0 0, .slice none 0 0, .slice none 0 0] 52)) [(wk2.heap.size, [.int .i64 0, .int .i64 0, .int .i64 0, .int .i64 0, .int .i64 0, .int .i64 0, .int .i64 0, .int .i64 0, .int .i64 0, .int .i64 0, .int .i64 0, .slice none 0 0, .slice none 0 0, .slice none 0 0]), (ab, [.int .i64 0, .int .i64 0, .int .i64 0, .int .i64 0, .int .i64 0, .int .i64 0, .int .i64 0, .int .i64 0, .int .i64 0, .int .i64 0, .int .i64 0, .slice none 0 0, .slice none 0 0, .slice none 0 0])] [] [(fun W => RgAt W ⟨yg, yv, ym, ye, yq, yd, ys, yo, yl, yp, yt, ybase, yover, ysegs⟩ (yA, yn, yc) (yB, yk, yh) (yC, yj, yi)), (fun W => RgAt W ⟨xg, xv, xm, xe, xq, xd, xs, xo, xl, xp, xt, xbase, xover, xsegs⟩ (xA, xn, xc) (xB, xk, xh) (xC, xj, xi)), (fun W => Own W cb [.int .i64 b, .int .i64 s, .int .i64 l]), (fun W => GeoAt W p b s l), (fun W => Own W w.heap.size [.int .i64 z0, .int .i64 z1, .int .i64 z2])]) := Lib.hid (HDk2.out.newB #[.int .i64 0, .int .i64 0, .int .i64 0, .int .i64 0, .int .i64 0, .int .i64 0, .int .i64 0, .int .i64 0, .int .i64 0, .int .i64 0, .int .i64 0, .slice none 0 0, .slice none 0 0, .slice none 0 0] 52 (b := wk2.heap.size) rfl)
          clear HDk2
          generalize hwa : World.alloc wk2 (.cells #[.int .i64 0, .int .i64 0, .int .i64 0, .int .i64 0, .int .i64 0, .int .i64 0, .int .i64 0, .int .i64 0, .int .i64 0, .int .i64 0, .int .i64 0, .slice none 0 0, .slice none 0 0, .slice none 0 0] 52) = wk3 at *
          clear hwa
          generalize wk2.heap.size = bb at *
          refine hK.out _ _ ⟨Own.cell (HDk3.out.fi 4 rfl) 0 (by simp), Own.cell (HDk3.out.fi 4 rfl) 1 (by simp), Own.cell (HDk3.out.fi 4 rfl) 2 (by simp)⟩ (fun hSn => ?_)
          clear hK K hSw0
          have hSw0 := hSn
          clear hSn
          (try simp only [Act.put, List.setIfInBounds_toArray, List.set_cons_zero, List.set_cons_succ])
          refine wpAnyH_ready (rs := [8]) (by kernel_rfl) (by simp) ?_
          refine AllReadyH.cons (o := ⟨none, _, _, _, _, _⟩) rfl (fun K hK => ?_) AllReadyH.nil
          refine step_store_own rfl 52 (.tmp 12) (.tmp 31) rfl ab [.int .i64 0, .int .i64 0, .int .i64 0, .int .i64 0, .int .i64 0, .int .i64 0, .int .i64 0, .int .i64 0, .int .i64 0, .int .i64 0, .int .i64 0, .slice none 0 0, .slice none 0 0, .slice none 0 0] [.int .i64 xg, .int .i64 xv, .int .i64 xm, .int .i64 xe, .int .i64 xq, .int .i64 xd, .int .i64 xs, .int .i64 xo, .int .i64 xl, .int .i64 xp, .int .i64 xt, .slice xA xn xc, .slice xB xk xh, .slice xC xj xi] (by kernel_rfl) rfl rfl (HDk3.out.boxi 1 rfl) rfl (by intro u hu; simp at hu; rcases hu with rfl | rfl | rfl | rfl | rfl | rfl | rfl | rfl | rfl | rfl | rfl | rfl | rfl | rfl <;> rfl) ?_
          intro wk4 ho hO
          have HDk4 : Hid (Wd w wk4 [(bb, [.int .i64 0, .int .i64 0, .int .i64 0, .int .i64 0, .int .i64 0, .int .i64 0, .int .i64 0, .int .i64 0, .int .i64 0, .int .i64 0, .int .i64 0, .slice none 0 0, .slice none 0 0, .slice none 0 0]), (ab, [.int .i64 xg, .int .i64 xv, .int .i64 xm, .int .i64 xe, .int .i64 xq, .int .i64 xd, .int .i64 xs, .int .i64 xo, .int .i64 xl, .int .i64 xp, .int .i64 xt, .slice xA xn xc, .slice xB xk xh, .slice xC xj xi])] [] [(fun W => RgAt W ⟨yg, yv, ym, ye, yq, yd, ys, yo, yl, yp, yt, ybase, yover, ysegs⟩ (yA, yn, yc) (yB, yk, yh) (yC, yj, yi)), (fun W => RgAt W ⟨xg, xv, xm, xe, xq, xd, xs, xo, xl, xp, xt, xbase, xover, xsegs⟩ (xA, xn, xc) (xB, xk, xh) (xC, xj, xi)), (fun W => Own W cb [.int .i64 b, .int .i64 s, .int .i64 l]), (fun W => GeoAt W p b s l), (fun W => Own W w.heap.size [.int .i64 z0, .int .i64 z1, .int .i64 z2])]) := Lib.hid (HDk3.out.call1 1 rfl ho hO)
          clear HDk3
          clear ho hO
          refine hK.out _ _ ⟨Own.cell (HDk4.out.fi 4 rfl) 0 (by simp), Own.cell (HDk4.out.fi 4 rfl) 1 (by simp), Own.cell (HDk4.out.fi 4 rfl) 2 (by simp)⟩ (fun hSn => ?_)
          clear hK K hSw0
          have hSw0 := hSn
          clear hSn
          (try simp only [Act.put, List.setIfInBounds_toArray, List.set_cons_zero, List.set_cons_succ])
          refine wpAnyH_ready (rs := [9]) (by kernel_rfl) (by simp) ?_
          refine AllReadyH.cons (o := ⟨none, _, _, _, _, _⟩) rfl (fun K hK => ?_) AllReadyH.nil
          refine step_store_own rfl 52 (.tmp 13) (.tmp 34) rfl bb [.int .i64 0, .int .i64 0, .int .i64 0, .int .i64 0, .int .i64 0, .int .i64 0, .int .i64 0, .int .i64 0, .int .i64 0, .int .i64 0, .int .i64 0, .slice none 0 0, .slice none 0 0, .slice none 0 0] [.int .i64 yg, .int .i64 yv, .int .i64 ym, .int .i64 ye, .int .i64 yq, .int .i64 yd, .int .i64 ys, .int .i64 yo, .int .i64 yl, .int .i64 yp, .int .i64 yt, .slice yA yn yc, .slice yB yk yh, .slice yC yj yi] (by kernel_rfl) rfl rfl (HDk4.out.boxi 0 rfl) rfl (by intro u hu; simp at hu; rcases hu with rfl | rfl | rfl | rfl | rfl | rfl | rfl | rfl | rfl | rfl | rfl | rfl | rfl | rfl <;> rfl) ?_
          intro wk5 ho hO
          have HDk5 : Hid (Wd w wk5 [(bb, [.int .i64 yg, .int .i64 yv, .int .i64 ym, .int .i64 ye, .int .i64 yq, .int .i64 yd, .int .i64 ys, .int .i64 yo, .int .i64 yl, .int .i64 yp, .int .i64 yt, .slice yA yn yc, .slice yB yk yh, .slice yC yj yi]), (ab, [.int .i64 xg, .int .i64 xv, .int .i64 xm, .int .i64 xe, .int .i64 xq, .int .i64 xd, .int .i64 xs, .int .i64 xo, .int .i64 xl, .int .i64 xp, .int .i64 xt, .slice xA xn xc, .slice xB xk xh, .slice xC xj xi])] [] [(fun W => RgAt W ⟨yg, yv, ym, ye, yq, yd, ys, yo, yl, yp, yt, ybase, yover, ysegs⟩ (yA, yn, yc) (yB, yk, yh) (yC, yj, yi)), (fun W => RgAt W ⟨xg, xv, xm, xe, xq, xd, xs, xo, xl, xp, xt, xbase, xover, xsegs⟩ (xA, xn, xc) (xB, xk, xh) (xC, xj, xi)), (fun W => Own W cb [.int .i64 b, .int .i64 s, .int .i64 l]), (fun W => GeoAt W p b s l), (fun W => Own W w.heap.size [.int .i64 z0, .int .i64 z1, .int .i64 z2])]) := Lib.hid (HDk4.out.call1 0 rfl ho hO)
          clear HDk4
          clear ho hO
          refine hK.out _ _ ⟨Own.cell (HDk5.out.fi 4 rfl) 0 (by simp), Own.cell (HDk5.out.fi 4 rfl) 1 (by simp), Own.cell (HDk5.out.fi 4 rfl) 2 (by simp)⟩ (fun hSn => ?_)
          clear hK K hSw0
          have hSw0 := hSn
          clear hSn
          (try simp only [Act.put, List.setIfInBounds_toArray, List.set_cons_zero, List.set_cons_succ])
          refine wpAnyH_done (by kernel_rfl) ?_ _
          clear hSw0
          go_wp2
          go_meet
          case rel => exact ⟨ab, bb, xA, xn, xc, xB, xk, xh, xC, xj, xi, yA, yn, yc, yB, yk, yh, yC, yj, yi, rfl, rfl, (HDk5.out.drop.fact0 (Own.fx (HDk5.out.boxi 1 rfl) (by simp))).fact0 (Own.fx (HDk5.out.boxi 0 rfl) (by simp))⟩
        refine AllReadyH.cons (o := ⟨some 13, _, _, _, _, _⟩) rfl (fun K hK => ?_) ?_
        · as_aux_lemma =>
          go_simp
          have HDk2 : Hid (Wd w (World.alloc wk1 (.cells #[.int .i64 0, .int .i64 0, .int .i64 0, .int .i64 0, .int .i64 0, .int .i64 0, .int .i64 0, .int .i64 0, .int .i64 0, .int .i64 0, .int .i64 0, .slice none 0 0, .slice none 0 0, .slice none 0 0] 52)) [(wk1.heap.size, [.int .i64 0, .int .i64 0, .int .i64 0, .int .i64 0, .int .i64 0, .int .i64 0, .int .i64 0, .int .i64 0, .int .i64 0, .int .i64 0, .int .i64 0, .slice none 0 0, .slice none 0 0, .slice none 0 0]), (ab, [.int .i64 0, .int .i64 0, .int .i64 0, .int .i64 0, .int .i64 0, .int .i64 0, .int .i64 0, .int .i64 0, .int .i64 0, .int .i64 0, .int .i64 0, .slice none 0 0, .slice none 0 0, .slice none 0 0])] [] [(fun W => RgAt W ⟨xg, xv, xm, xe, xq, xd, xs, xo, xl, xp, xt, xbase, xover, xsegs⟩ (xA, xn, xc) (xB, xk, xh) (xC, xj, xi)), (fun W => Own W cb [.int .i64 b, .int .i64 s, .int .i64 l]), (fun W => GeoAt W p b s l), (fun W => Own W w.heap.size [.int .i64 z0, .int .i64 z1, .int .i64 z2])]) := Lib.hid (HDk1.out.newB #[.int .i64 0, .int .i64 0, .int .i64 0, .int .i64 0, .int .i64 0, .int .i64 0, .int .i64 0, .int .i64 0, .int .i64 0, .int .i64 0, .int .i64 0, .slice none 0 0, .slice none 0 0, .slice none 0 0] 52 (b := wk1.heap.size) rfl)
          clear HDk1
          generalize hwa : World.alloc wk1 (.cells #[.int .i64 0, .int .i64 0, .int .i64 0, .int .i64 0, .int .i64 0, .int .i64 0, .int .i64 0, .int .i64 0, .int .i64 0, .int .i64 0, .int .i64 0, .slice none 0 0, .slice none 0 0, .slice none 0 0] 52) = wk2 at *
          clear hwa
          generalize wk1.heap.size = bb at *
          refine hK.out _ _ ⟨Own.cell (HDk2.out.fi 3 rfl) 0 (by simp), Own.cell (HDk2.out.fi 3 rfl) 1 (by simp), Own.cell (HDk2.out.fi 3 rfl) 2 (by simp)⟩ (fun hSn => ?_)
          clear hK K hSw0
          have hSw0 := hSn
          clear hSn
          (try simp only [Act.put, List.setIfInBounds_toArray, List.set_cons_zero, List.set_cons_succ])
          refine wpAnyH_ready (rs := [5]) (by kernel_rfl) (by simp) ?_
          refine AllReadyH.cons (o := ⟨some 34, _, _, _, _, _⟩) rfl (fun K hK => ?_) AllReadyH.nil
          go_simp
          refine (HMDy.out _ HDk2.out.only).mono ?_
          rintro en wk3 ⟨⟨yA, yn, yc⟩, ⟨yB, yk, yh⟩, ⟨yC, yj, yi⟩, rfl, hr, hf, hO⟩
          simp only [Rg.cells] at hr ⊢
          dsimp only at hf
          have HDk3 : Hid (Wd w wk3 [(bb, [.int .i64 0, .int .i64 0, .int .i64 0, .int .i64 0, .int .i64 0, .int .i64 0, .int .i64 0, .int .i64 0, .int .i64 0, .int .i64 0, .int .i64 0, .slice none 0 0, .slice none 0 0, .slice none 0 0]), (ab, [.int .i64 0, .int .i64 0, .int .i64 0, .int .i64 0, .int .i64 0, .int .i64 0, .int .i64 0, .int .i64 0, .int .i64 0, .int .i64 0, .int .i64 0, .slice none 0 0, .slice none 0 0, .slice none 0 0])] [] [(fun W => RgAt W ⟨yg, yv, ym, ye, yq, yd, ys, yo, yl, yp, yt, ybase, yover, ysegs⟩ (yA, yn, yc) (yB, yk, yh) (yC, yj, yi)), (fun W => RgAt W ⟨xg, xv, xm, xe, xq, xd, xs, xo, xl, xp, xt, xbase, xover, xsegs⟩ (xA, xn, xc) (xB, xk, xh) (xC, xj, xi)), (fun W => Own W cb [.int .i64 b, .int .i64 s, .int .i64 l]), (fun W => GeoAt W p b s l), (fun W => Own W w.heap.size [.int .i64 z0, .int .i64 z1, .int .i64 z2])]) := Lib.hid (HDk2.out.addFx hO (hr.fx (fun a ha => by have := hf.1 a ha; omega) (fun a ha => by have := hf.2.1 a ha; omega) (fun a ha => by have := hf.2.2 a ha; omega)))
          clear HDk2
          clear hr hf hO
          refine hK.out _ _ ⟨Own.cell (HDk3.out.fi 4 rfl) 0 (by simp), Own.cell (HDk3.out.fi 4 rfl) 1 (by simp), Own.cell (HDk3.out.fi 4 rfl) 2 (by simp)⟩ (fun hSn => ?_)
          clear hK K hSw0
          have hSw0 := hSn
          clear hSn
          (try simp only [Act.put, List.setIfInBounds_toArray, List.set_cons_zero, List.set_cons_succ])
          refine wpAnyH_ready (rs := [8]) (by kernel_rfl) (by simp) ?_
          refine AllReadyH.cons (o := ⟨none, _, _, _, _, _⟩) rfl (fun K hK => ?_) AllReadyH.nil
          refine step_store_own rfl 52 (.tmp 12) (.tmp 31) rfl ab [.int .i64 0, .int .i64 0, .int .i64 0, .int .i64 0, .int .i64 0, .int .i64 0, .int .i64 0, .int .i64 0, .int .i64 0, .int .i64 0, .int .i64 0, .slice none 0 0, .slice none 0 0, .slice none 0 0] [.int .i64 xg, .int .i64 xv, .int .i64 xm, .int .i64 xe, .int .i64 xq, .int .i64 xd, .int .i64 xs, .int .i64 xo, .int .i64 xl, .int .i64 xp, .int .i64 xt, .slice xA xn xc, .slice xB xk xh, .slice xC xj xi] (by kernel_rfl) rfl rfl (HDk3.out.boxi 1 rfl) rfl (by intro u hu; simp at hu; rcases hu with rfl | rfl | rfl | rfl | rfl | rfl | rfl | rfl | rfl | rfl | rfl | rfl | rfl | rfl <;> rfl) ?_
          intro wk4 ho hO
          have HDk4 : Hid (Wd w wk4 [(bb, [.int .i64 0, .int .i64 0, .int .i64 0, .int .i64 0, .int .i64 0, .int .i64 0, .int .i64 0, .int .i64 0, .int .i64 0, .int .i64 0, .int .i64 0, .slice none 0 0, .slice none 0 0, .slice none 0 0]), (ab, [.int .i64 xg, .int .i64 xv, .int .i64 xm, .int .i64 xe, .int .i64 xq, .int .i64 xd, .int .i64 xs, .int .i64 xo, .int .i64 xl, .int .i64 xp, .int .i64 xt, .slice xA xn xc, .slice xB xk xh, .slice xC xj xi])] [] [(fun W => RgAt W ⟨yg, yv, ym, ye, yq, yd, ys, yo, yl, yp, yt, ybase, yover, ysegs⟩ (yA, yn, yc) (yB, yk, yh) (yC, yj, yi)), (fun W => RgAt W ⟨xg, xv, xm, xe, xq, xd, xs, xo, xl, xp, xt, xbase, xover, xsegs⟩ (xA, xn, xc) (xB, xk, xh) (xC, xj, xi)), (fun W => Own W cb [.int .i64 b, .int .i64 s, .int .i64 l]), (fun W => GeoAt W p b s l), (fun W => Own W w.heap.size [.int .i64 z0, .int .i64 z1, .int .i64 z2])]) := Lib.hid (HDk3.out.call1 1 rfl ho hO)
          clear HDk3
          clear ho hO
          refine hK.out _ _ ⟨Own.cell (HDk4.out.fi 4 rfl) 0 (by simp), Own.cell (HDk4.out.fi 4 rfl) 1 (by simp), Own.cell (HDk4.out.fi 4 rfl) 2 (by simp)⟩ (fun hSn => ?_)
          clear hK K hSw0
          have hSw0 := hSn
          clear hSn
          (try simp only [Act.put, List.setIfInBounds_toArray, List.set_cons_zero, List.set_cons_succ])
          refine wpAnyH_ready (rs := [9]) (by kernel_rfl) (by simp) ?_
          refine AllReadyH.cons (o := ⟨none, _, _, _, _, _⟩) rfl (fun K hK => ?_) AllReadyH.nil
          refine step_store_own rfl 52 (.tmp 13) (.tmp 34) rfl bb [.int .i64 0, .int .i64 0, .int .i64 0, .int .i64 0, .int .i64 0, .int .i64 0, .int .i64 0, .int .i64 0, .int .i64 0, .int .i64 0, .int .i64 0, .slice none 0 0, .slice none 0 0, .slice none 0 0] [.int .i64 yg, .int .i64 yv, .int .i64 ym, .int .i64 ye, .int .i64 yq, .int .i64 yd, .int .i64 ys, .int .i64 yo, .int .i64 yl, .int .i64 yp, .int .i64 yt, .slice yA yn yc, .slice yB yk yh, .slice yC yj yi] (by kernel_rfl) rfl rfl (HDk4.out.boxi 0 rfl) rfl (by intro u hu; simp at hu; rcases hu with rfl | rfl | rfl | rfl | rfl | rfl | rfl | rfl | rfl | rfl | rfl | rfl | rfl | rfl <;> rfl) ?_
          intro wk5 ho hO
          have HDk5 : Hid (Wd w wk5 [(bb, [.int .i64 yg, .int .i64 yv, .int .i64 ym, .int .i64 ye, .int .i64 yq, .int .i64 yd, .int .i64 ys, .int .i64 yo, .int .i64 yl, .int .i64 yp, .int .i64 yt, .slice yA yn yc, .slice yB yk yh, .slice yC yj yi]), (ab, [.int .i64 xg, .int .i64 xv, .int .i64 xm, .int .i64 xe, .int .i64 xq, .int .i64 xd, .int .i64 xs, .int .i64 xo, .int .i64 xl, .int .i64 xp, .int .i64 xt, .slice xA xn xc, .slice xB xk xh, .slice xC xj xi])] [] [(fun W => RgAt W ⟨yg, yv, ym, ye, yq, yd, ys, yo, yl, yp, yt, ybase, yover, ysegs⟩ (yA, yn, yc) (yB, yk, yh) (yC, yj, yi)), (fun W => RgAt W ⟨xg, xv, xm, xe, xq, xd, xs, xo, xl, xp, xt, xbase, xover, xsegs⟩ (xA, xn, xc) (xB, xk, xh) (xC, xj, xi)), (fun W => Own W cb [.int .i64 b, .int .i64 s, .int .i64 l]), (fun W => GeoAt W p b s l), (fun W => Own W w.heap.size [.int .i64 z0, .int .i64 z1, .int .i64 z2])]) := Lib.hid (HDk4.out.call1 0 rfl ho hO)
          clear HDk4
          clear ho hO
          refine hK.out _ _ ⟨Own.cell (HDk5.out.fi 4 rfl) 0 (by simp), Own.cell (HDk5.out.fi 4 rfl) 1 (by simp), Own.cell (HDk5.out.fi 4 rfl) 2 (by simp)⟩ (fun hSn => ?_)
          clear hK K hSw0
          have hSw0 := hSn
          clear hSn
          (try simp only [Act.put, List.setIfInBounds_toArray, List.set_cons_zero, List.set_cons_succ])
          refine wpAnyH_done (by kernel_rfl) ?_ _
          clear hSw0
          go_wp2
          go_meet
          case rel => exact ⟨ab, bb, xA, xn, xc, xB, xk, xh, xC, xj, xi, yA, yn, yc, yB, yk, yh, yC, yj, yi, rfl, rfl, (HDk5.out.drop.fact0 (Own.fx (HDk5.out.boxi 1 rfl) (by simp))).fact0 (Own.fx (HDk5.out.boxi 0 rfl) (by simp))⟩
        exact AllReadyH.nil
      refine AllReadyH.cons (o := ⟨some 13, _, _, _, _, _⟩) rfl (fun K hK => ?_) ?_
      · as_aux_lemma =>
        go_simp
        have HDk1 : Hid (Wd w (World.alloc wk0 (.cells #[.int .i64 0, .int .i64 0, .int .i64 0, .int .i64 0, .int .i64 0, .int .i64 0, .int .i64 0, .int .i64 0, .int .i64 0, .int .i64 0, .int .i64 0, .slice none 0 0, .slice none 0 0, .slice none 0 0] 52)) [(wk0.heap.size, [.int .i64 0, .int .i64 0, .int .i64 0, .int .i64 0, .int .i64 0, .int .i64 0, .int .i64 0, .int .i64 0, .int .i64 0, .int .i64 0, .int .i64 0, .slice none 0 0, .slice none 0 0, .slice none 0 0]), (ab, [.int .i64 0, .int .i64 0, .int .i64 0, .int .i64 0, .int .i64 0, .int .i64 0, .int .i64 0, .int .i64 0, .int .i64 0, .int .i64 0, .int .i64 0, .slice none 0 0, .slice none 0 0, .slice none 0 0])] [] [(fun W => Own W cb [.int .i64 b, .int .i64 s, .int .i64 l]), (fun W => GeoAt W p b s l), (fun W => Own W w.heap.size [.int .i64 z0, .int .i64 z1, .int .i64 z2])]) := Lib.hid (HDk0.out.newB #[.int .i64 0, .int .i64 0, .int .i64 0, .int .i64 0, .int .i64 0, .int .i64 0, .int .i64 0, .int .i64 0, .int .i64 0, .int .i64 0, .int .i64 0, .slice none 0 0, .slice none 0 0, .slice none 0 0] 52 (b := wk0.heap.size) rfl)
        clear HDk0
        generalize hwa : World.alloc wk0 (.cells #[.int .i64 0, .int .i64 0, .int .i64 0, .int .i64 0, .int .i64 0, .int .i64 0, .int .i64 0, .int .i64 0, .int .i64 0, .int .i64 0, .int .i64 0, .slice none 0 0, .slice none 0 0, .slice none 0 0] 52) = wk1 at *
        clear hwa
        generalize wk0.heap.size = bb at *
        refine hK.out _ _ ⟨Own.cell (HDk1.out.fi 2 rfl) 0 (by simp), Own.cell (HDk1.out.fi 2 rfl) 1 (by simp), Own.cell (HDk1.out.fi 2 rfl) 2 (by simp)⟩ (fun hSn => ?_)
        clear hK K hSw0
        have hSw0 := hSn
        clear hSn
        (try simp only [Act.put, List.setIfInBounds_toArray, List.set_cons_zero, List.set_cons_succ])
        refine wpAnyH_ready (rs := [2]) (by kernel_rfl) (by simp) ?_
        refine AllReadyH.cons (o := ⟨some 31, _, _, _, _, _⟩) rfl (fun K hK => ?_) AllReadyH.nil
        go_simp
        refine (HMDx.out _ HDk1.out.only).mono ?_
        rintro en wk2 ⟨⟨xA, xn, xc⟩, ⟨xB, xk, xh⟩, ⟨xC, xj, xi⟩, rfl, hr, hf, hO⟩
        simp only [Rg.cells] at hr ⊢
        dsimp only at hf
        have HDk2 : Hid (Wd w wk2 [(bb, [.int .i64 0, .int .i64 0, .int .i64 0, .int .i64 0, .int .i64 0, .int .i64 0, .int .i64 0, .int .i64 0, .int .i64 0, .int .i64 0, .int .i64 0, .slice none 0 0, .slice none 0 0, .slice none 0 0]), (ab, [.int .i64 0, .int .i64 0, .int .i64 0, .int .i64 0, .int .i64 0, .int .i64 0, .int .i64 0, .int .i64 0, .int .i64 0, .int .i64 0, .int .i64 0, .slice none 0 0, .slice none 0 0, .slice none 0 0])] [] [(fun W => RgAt W ⟨xg, xv, xm, xe, xq, xd, xs, xo, xl, xp, xt, xbase, xover, xsegs⟩ (xA, xn, xc) (xB, xk, xh) (xC, xj, xi)), (fun W => Own W cb [.int .i64 b, .int .i64 s, .int .i64 l]), (fun W => GeoAt W p b s l), (fun W => Own W w.heap.size [.int .i64 z0, .int .i64 z1, .int .i64 z2])]) := Lib.hid (HDk1.out.addFx hO (hr.fx (fun a ha => by have := hf.1 a ha; omega) (fun a ha => by have := hf.2.1 a ha; omega) (fun a ha => by have := hf.2.2 a ha; omega)))
        clear HDk1
        clear hr hf hO
        refine hK.out _ _ ⟨Own.cell (HDk2.out.fi 3 rfl) 0 (by simp), Own.cell (HDk2.out.fi 3 rfl) 1 (by simp), Own.cell (HDk2.out.fi 3 rfl) 2 (by simp)⟩ (fun hSn => ?_)
        clear hK K hSw0
        have hSw0 := hSn
        clear hSn
        (try simp only [Act.put, List.setIfInBounds_toArray, List.set_cons_zero, List.set_cons_succ])
        refine wpAnyH_ready (rs := [5]) (by kernel_rfl) (by simp) ?_
        refine AllReadyH.cons (o := ⟨some 34, _, _, _, _, _⟩) rfl (fun K hK => ?_) AllReadyH.nil
        go_simp
        refine (HMDy.out _ HDk2.out.only).mono ?_
        rintro en wk3 ⟨⟨yA, yn, yc⟩, ⟨yB, yk, yh⟩, ⟨yC, yj, yi⟩, rfl, hr, hf, hO⟩
        simp only [Rg.cells] at hr ⊢
        dsimp only at hf
        have HDk3 : Hid (Wd w wk3 [(bb, [.int .i64 0, .int .i64 0, .int .i64 0, .int .i64 0, .int .i64 0, .int .i64 0, .int .i64 0, .int .i64 0, .int .i64 0, .int .i64 0, .int .i64 0, .slice none 0 0, .slice none 0 0, .slice none 0 0]), (ab, [.int .i64 0, .int .i64 0, .int .i64 0, .int .i64 0, .int .i64 0, .int .i64 0, .int .i64 0, .int .i64 0, .int .i64 0, .int .i64 0, .int .i64 0, .slice none 0 0, .slice none 0 0, .slice none 0 0])] [] [(fun W => RgAt W ⟨yg, yv, ym, ye, yq, yd, ys, yo, yl, yp, yt, ybase, yover, ysegs⟩ (yA, yn, yc) (yB, yk, yh) (yC, yj, yi)), (fun W => RgAt W ⟨xg, xv, xm, xe, xq, xd, xs, xo, xl, xp, xt, xbase, xover, xsegs⟩ (xA, xn, xc) (xB, xk, xh) (xC, xj, xi)), (fun W => Own W cb [.int .i64 b, .int .i64 s, .int .i64 l]), (fun W => GeoAt W p b s l), (fun W => Own W w.heap.size [.int .i64 z0, .int .i64 z1, .int .i64 z2])]) := Lib.hid (HDk2.out.addFx hO (hr.fx (fun a ha => by have := hf.1 a ha; omega) (fun a ha => by have := hf.2.1 a ha; omega) (fun a ha => by have := hf.2.2 a ha; omega)))
        clear HDk2
        clear hr hf hO
        refine hK.out _ _ ⟨Own.cell (HDk3.out.fi 4 rfl) 0 (by simp), Own.cell (HDk3.out.fi 4 rfl) 1 (by simp), Own.cell (HDk3.out.fi 4 rfl) 2 (by simp)⟩ (fun hSn => ?_)
        clear hK K hSw0
        have hSw0 := hSn
        clear hSn
        (try simp only [Act.put, List.setIfInBounds_toArray, List.set_cons_zero, List.set_cons_succ])
        refine wpAnyH_ready (rs := [8]) (by kernel_rfl) (by simp) ?_
        refine AllReadyH.cons (o := ⟨none, _, _, _, _, _⟩) rfl (fun K hK => ?_) AllReadyH.nil
        refine step_store_own rfl 52 (.tmp 12) (.tmp 31) rfl ab [.int .i64 0, .int .i64 0, .int .i64 0, .int .i64 0, .int .i64 0, .int .i64 0, .int .i64 0, .int .i64 0, .int .i64 0, .int .i64 0, .int .i64 0, .slice none 0 0, .slice none 0 0, .slice none 0 0] [.int .i64 xg, .int .i64 xv, .int .i64 xm, .int .i64 xe, .int .i64 xq, .int .i64 xd, .int .i64 xs, .int .i64 xo, .int .i64 xl, .int .i64 xp, .int .i64 xt, .slice xA xn xc, .slice xB xk xh, .slice xC xj xi] (by kernel_rfl) rfl rfl (HDk3.out.boxi 1 rfl) rfl (by intro u hu; simp at hu; rcases hu with rfl | rfl | rfl | rfl | rfl | rfl | rfl | rfl | rfl | rfl | rfl | rfl | rfl | rfl <;> rfl) ?_
        intro wk4 ho hO
        have HDk4 : Hid (Wd w wk4 [(bb, [.int .i64 0, .int .i64 0, .int .i64 0, .int .i64 0, .int .i64 0, .int .i64 0, .int .i64 0, .int .i64 0, .int .i64 0, .int .i64 0, .int .i64 0, .slice none 0 0, .slice none 0 0, .slice none 0 0]), (ab, [.int .i64 xg, .int .i64 xv, .int .i64 xm, .int .i64 xe, .int .i64 xq, .int .i64 xd, .int .i64 xs, .int .i64 xo, .int .i64 xl, .int .i64 xp, .int .i64 xt, .slice xA xn xc, .slice xB xk xh, .slice xC xj xi])] [] [(fun W => RgAt W ⟨yg, yv, ym, ye, yq, yd, ys, yo, yl, yp, yt, ybase, yover, ysegs⟩ (yA, yn, yc) (yB, yk, yh) (yC, yj, yi)), (fun W => RgAt W ⟨xg, xv, xm, xe, xq, xd, xs, xo, xl, xp, xt, xbase, xover, xsegs⟩ (xA, xn, xc) (xB, xk, xh) (xC, xj, xi)), (fun W => Own W cb [.int .i64 b, .int .i64 s, .int .i64 l]), (fun W => GeoAt W p b s l), (fun W => Own W w.heap.size [.int .i64 z0, .int .i64 z1, .int .i64 z2])]) := Lib.hid (HDk3.out.call1 1 rfl ho hO)
        clear HDk3
        clear ho hO
        refine hK.out _ _ ⟨Own.cell (HDk4.out.fi 4 rfl) 0 (by simp), Own.cell (HDk4.out.fi 4 rfl) 1 (by simp), Own.cell (HDk4.out.fi 4 rfl) 2 (by simp)⟩ (fun hSn => ?_)
        clear hK K hSw0
        have hSw0 := hSn
        clear hSn
        (try simp only [Act.put, List.setIfInBounds_toArray, List.set_cons_zero, List.set_cons_succ])
        refine wpAnyH_ready (rs := [9]) (by kernel_rfl) (by simp) ?_
        refine AllReadyH.cons (o := ⟨none, _, _, _, _, _⟩) rfl (fun K hK => ?_) AllReadyH.nil
        refine step_store_own rfl 52 (.tmp 13) (.tmp 34) rfl bb [.int .i64 0, .int .i64 0, .int .i64 0, .int .i64 0, .int .i64 0, .int .i64 0, .int .i64 0, .int .i64 0, .int .i64 0, .int .i64 0, .int .i64 0, .slice none 0 0, .slice none 0 0, .slice none 0 0] [.int .i64 yg, .int .i64 yv, .int .i64 ym, .int .i64 ye, .int .i64 yq, .int .i64 yd, .int .i64 ys, .int .i64 yo, .int .i64 yl, .int .i64 yp, .int .i64 yt, .slice yA yn yc, .slice yB yk yh, .slice yC yj yi] (by kernel_rfl) rfl rfl (HDk4.out.boxi 0 rfl) rfl (by intro u hu; simp at hu; rcases hu with rfl | rfl | rfl | rfl | rfl | rfl | rfl | rfl | rfl | rfl | rfl | rfl | rfl | rfl <;> rfl) ?_
        intro wk5 ho hO
        have HDk5 : Hid (Wd w wk5 [(bb, [.int .i64 yg, .int .i64 yv, .int .i64 ym, .int .i64 ye, .int .i64 yq, .int .i64 yd, .int .i64 ys, .int .i64 yo, .int .i64 yl, .int .i64 yp, .int .i64 yt, .slice yA yn yc, .slice yB yk yh, .slice yC yj yi]), (ab, [.int .i64 xg, .int .i64 xv, .int .i64 xm, .int .i64 xe, .int .i64 xq, .int .i64 xd, .int .i64 xs, .int .i64 xo, .int .i64 xl, .int .i64 xp, .int .i64 xt, .slice xA xn xc, .slice xB xk xh, .slice xC xj xi])] [] [(fun W => RgAt W ⟨yg, yv, ym, ye, yq, yd, ys, yo, yl, yp, yt, ybase, yover, ysegs⟩ (yA, yn, yc) (yB, yk, yh) (yC, yj, yi)), (fun W => RgAt W ⟨xg, xv, xm, xe, xq, xd, xs, xo, xl, xp, xt, xbase, xover, xsegs⟩ (xA, xn, xc) (xB, xk, xh) (xC, xj, xi)), (fun W => Own W cb [.int .i64 b, .int .i64 s, .int .i64 l]), (fun W => GeoAt W p b s l), (fun W => Own W w.heap.size [.int .i64 z0, .int .i64 z1, .int .i64 z2])]) := Lib.hid (HDk4.out.call1 0 rfl ho hO)
        clear HDk4
        clear ho hO
        refine hK.out _ _ ⟨Own.cell (HDk5.out.fi 4 rfl) 0 (by simp), Own.cell (HDk5.out.fi 4 rfl) 1 (by simp), Own.cell (HDk5.out.fi 4 rfl) 2 (by simp)⟩ (fun hSn => ?_)
        clear hK K hSw0
        have hSw0 := hSn
        clear hSn
        (try simp only [Act.put, List.setIfInBounds_toArray, List.set_cons_zero, List.set_cons_succ])
        refine wpAnyH_done (by kernel_rfl) ?_ _
        clear hSw0
        go_wp2
        go_meet
        case rel => exact ⟨ab, bb, xA, xn, xc, xB, xk, xh, xC, xj, xi, yA, yn, yc, yB, yk, yh, yC, yj, yi, rfl, rfl, (HDk5.out.drop.fact0 (Own.fx (HDk5.out.boxi 1 rfl) (by simp))).fact0 (Own.fx (HDk5.out.boxi 0 rfl) (by simp))⟩
      exact AllReadyH.nil
    refine AllReadyH.cons (o := ⟨some 13, _, _, _, _, _⟩) rfl (fun K hK => ?_) ?_
    · as_aux_lemma =>
      go_simp
      have HDk0 : Hid (Wd w (World.alloc wd (.cells #[.int .i64 0, .int .i64 0, .int .i64 0, .int .i64 0, .int .i64 0, .int .i64 0, .int .i64 0, .int .i64 0, .int .i64 0, .int .i64 0, .int .i64 0, .slice none 0 0, .slice none 0 0, .slice none 0 0] 52)) [(wd.heap.size, [.int .i64 0, .int .i64 0, .int .i64 0, .int .i64 0, .int .i64 0, .int .i64 0, .int .i64 0, .int .i64 0, .int .i64 0, .int .i64 0, .int .i64 0, .slice none 0 0, .slice none 0 0, .slice none 0 0])] [] [(fun W => Own W cb [.int .i64 b, .int .i64 s, .int .i64 l]), (fun W => GeoAt W p b s l), (fun W => Own W w.heap.size [.int .i64 z0, .int .i64 z1, .int .i64 z2])]) := Lib.hid (HDd.out.newB #[.int .i64 0, .int .i64 0, .int .i64 0, .int .i64 0, .int .i64 0, .int .i64 0, .int .i64 0, .int .i64 0, .int .i64 0, .int .i64 0, .int .i64 0, .slice none 0 0, .slice none 0 0, .slice none 0 0] 52 (b := wd.heap.size) rfl)
      clear HDd
      generalize hwa : World.alloc wd (.cells #[.int .i64 0, .int .i64 0, .int .i64 0, .int .i64 0, .int .i64 0, .int .i64 0, .int .i64 0, .int .i64 0, .int .i64 0, .int .i64 0, .int .i64 0, .slice none 0 0, .slice none 0 0, .slice none 0 0] 52) = wk0 at *
      clear hwa
      generalize wd.heap.size = bb at *
      refine hK.out _ _ ⟨Own.cell (HDk0.out.fi 2 rfl) 0 (by simp), Own.cell (HDk0.out.fi 2 rfl) 1 (by simp), Own.cell (HDk0.out.fi 2 rfl) 2 (by simp)⟩ (fun hSn => ?_)
      clear hK K hSw0
      have hSw0 := hSn
      clear hSn
      (try simp only [Act.put, List.setIfInBounds_toArray, List.set_cons_zero, List.set_cons_succ])
      refine wpAnyH_ready (rs := [2, 6]) (by kernel_rfl) (by simp) ?_
      refine AllReadyH.cons (o := ⟨some 31, _, _, _, _, _⟩) rfl (fun K hK => ?_) ?_
      · as_aux_lemma =>
        go_simp
        refine (HMDx.out _ HDk0.out.only).mono ?_
        rintro en wk1 ⟨⟨xA, xn, xc⟩, ⟨xB, xk, xh⟩, ⟨xC, xj, xi⟩, rfl, hr, hf, hO⟩
        simp only [Rg.cells] at hr ⊢
        dsimp only at hf
        have HDk1 : Hid (Wd w wk1 [(bb, [.int .i64 0, .int .i64 0, .int .i64 0, .int .i64 0, .int .i64 0, .int .i64 0, .int .i64 0, .int .i64 0, .int .i64 0, .int .i64 0, .int .i64 0, .slice none 0 0, .slice none 0 0, .slice none 0 0])] [] [(fun W => RgAt W ⟨xg, xv, xm, xe, xq, xd, xs, xo, xl, xp, xt, xbase, xover, xsegs⟩ (xA, xn, xc) (xB, xk, xh) (xC, xj, xi)), (fun W => Own W cb [.int .i64 b, .int .i64 s, .int .i64 l]), (fun W => GeoAt W p b s l), (fun W => Own W w.heap.size [.int .i64 z0, .int .i64 z1, .int .i64 z2])]) := Lib.hid (HDk0.out.addFx hO (hr.fx (fun a ha => by have := hf.1 a ha; omega) (fun a ha => by have := hf.2.1 a ha; omega) (fun a ha => by have := hf.2.2 a ha; omega)))
        clear HDk0
        clear hr hf hO
        refine hK.out _ _ ⟨Own.cell (HDk1.out.fi 3 rfl) 0 (by simp), Own.cell (HDk1.out.fi 3 rfl) 1 (by simp), Own.cell (HDk1.out.fi 3 rfl) 2 (by simp)⟩ (fun hSn => ?_)
        clear hK K hSw0
        have hSw0 := hSn
        clear hSn
        (try simp only [Act.put, List.setIfInBounds_toArray, List.set_cons_zero, List.set_cons_succ])
        refine wpAnyH_ready (rs := [5, 6]) (by kernel_rfl) (by simp) ?_
        refine AllReadyH.cons (o := ⟨some 34, _, _, _, _, _⟩) rfl (fun K hK => ?_) ?_
        · as_aux_lemma =>
          go_simp
          refine (HMDy.out _ HDk1.out.only).mono ?_
          rintro en wk2 ⟨⟨yA, yn, yc⟩, ⟨yB, yk, yh⟩, ⟨yC, yj, yi⟩, rfl, hr, hf, hO⟩
          simp only [Rg.cells] at hr ⊢
          dsimp only at hf
          have HDk2 : Hid (Wd w wk2 [(bb, [.int .i64 0, .int .i64 0, .int .i64 0, .int .i64 0, .int .i64 0, .int .i64 0, .int .i64 0, .int .i64 0, .int .i64 0, .int .i64 0, .int .i64 0, .slice none 0 0, .slice none 0 0, .slice none 0 0])] [] [(fun W => RgAt W ⟨yg, yv, ym, ye, yq, yd, ys, yo, yl, yp, yt, ybase, yover, ysegs⟩ (yA, yn, yc) (yB, yk, yh) (yC, yj, yi)), (fun W => RgAt W ⟨xg, xv, xm, xe, xq, xd, xs, xo, xl, xp, xt, xbase, xover, xsegs⟩ (xA, xn, xc) (xB, xk, xh) (xC, xj, xi)), (fun W => Own W cb [.int .i64 b, .int .i64 s, .int .i64 l]), (fun W => GeoAt W p b s l), (fun W => Own W w.heap.size [.int .i64 z0, .int .i64 z1, .int .i64 z2])]) := Lib.hid (HDk1.out.addFx hO (hr.fx (fun a ha => by have := hf.1 a ha; omega) (fun a ha => by have := hf.2.1 a ha; omega) (fun a ha => by have := hf.2.2 a ha; omega)))
          clear HDk1
          clear hr hf hO
          refine hK.out _ _ ⟨Own.cell (HDk2.out.fi 4 rfl) 0 (by simp), Own.cell (HDk2.out.fi 4 rfl) 1 (by simp), Own.cell (HDk2.out.fi 4 rfl) 2 (by simp)⟩ (fun hSn => ?_)
          clear hK K hSw0
          have hSw0 := hSn
          clear hSn
          (try simp only [Act.put, List.setIfInBounds_toArray, List.set_cons_zero, List.set_cons_succ])
          refine wpAnyH_ready (rs := [6]) (by kernel_rfl) (by simp) ?_
          refine AllReadyH.cons (o := ⟨some 12, _, _, _, _, _⟩) rfl (fun K hK => ?_) AllReadyH.nil
          go_simp
          have HDk3 : Hid (Wd w (World.alloc wk2 (.cells #[.int .i64 0, .int .i64 0, .int .i64 0, .int .i64 0, .int .i64 0, .int .i64 0, .int .i64 0, .int .i64 0, .int .i64 0, .int .i64 0, .int .i64 0, .slice none 0 0, .slice none 0 0, .slice none 0 0] 52)) [(wk2.heap.size, [.int .i64 0, .int .i64 0, .int .i64 0, .int .i64 0, .int .i64 0, .int .i64 0, .int .i64 0, .int .i64 0, .int .i64 0, .int .i64 0, .int .i64 0, .slice none 0 0, .slice none 0 0, .slice none 0 0]), (bb, [.int .i64 0, .int .i64 0, .int .i64 0, .int .i64 0, .int .i64 0, .int .i64 0, .int .i64 0, .int .i64 0, .int .i64 0, .int .i64 0, .int .i64 0, .slice none 0 0, .slice none 0 0, .slice none 0 0])] [] [(fun W => RgAt W ⟨yg, yv, ym, ye, yq, yd, ys, yo, yl, yp, yt, ybase, yover, ysegs⟩ (yA, yn, yc) (yB, yk, yh) (yC, yj, yi)), (fun W => RgAt W ⟨xg, xv, xm, xe, xq, xd, xs, xo, xl, xp, xt, xbase, xover, xsegs⟩ (xA, xn, xc) (xB, xk, xh) (xC, xj, xi)), (fun W => Own W cb [.int .i64 b, .int .i64 s, .int .i64 l]), (fun W => GeoAt W p b s l), (fun W => Own W w.heap.size [.int .i64 z0, .int .i64 z1, .int .i64 z2])]) := Lib.hid (HDk2.out.newB #[.int .i64 0, .int .i64 0, .int .i64 0, .int .i64 0, .int .i64 0, .int .i64 0, .int .i64 0, .int .i64 0, .int .i64 0, .int .i64 0, .int .i64 0, .slice none 0 0, .slice none 0 0, .slice none 0 0] 52 (b := wk2.heap.size) rfl)
          clear HDk2
          generalize hwa : World.alloc wk2 (.cells #[.int .i64 0, .int .i64 0, .int .i64 0, .int .i64 0, .int .i64 0, .int .i64 0, .int .i64 0, .int .i64 0, .int .i64 0, .int .i64 0, .int .i64 0, .slice none 0 0, .slice none 0 0, .slice none 0 0] 52) = wk3 at *
          clear hwa
          generalize wk2.heap.size = ab at *
          refine hK.out _ _ ⟨Own.cell (HDk3.out.fi 4 rfl) 0 (by simp), Own.cell (HDk3.out.fi 4 rfl) 1 (by simp), Own.cell (HDk3.out.fi 4 rfl) 2 (by simp)⟩ (fun hSn => ?_)
          clear hK K hSw0
          have hSw0 := hSn
          clear hSn
          (try simp only [Act.put, List.setIfInBounds_toArray, List.set_cons_zero, List.set_cons_succ])
          refine wpAnyH_ready (rs := [8]) (by kernel_rfl) (by simp) ?_
          refine AllReadyH.cons (o := ⟨none, _, _, _, _, _⟩) rfl (fun K hK => ?_) AllReadyH.nil
          refine step_store_own rfl 52 (.tmp 12) (.tmp 31) rfl ab [.int .i64 0, .int .i64 0, .int .i64 0, .int .i64 0, .int .i64 0, .int .i64 0, .int .i64 0, .int .i64 0, .int .i64 0, .int .i64 0, .int .i64 0, .slice none 0 0, .slice none 0 0, .slice none 0 0] [.int .i64 xg, .int .i64 xv, .int .i64 xm, .int .i64 xe, .int .i64 xq, .int .i64 xd, .int .i64 xs, .int .i64 xo, .int .i64 xl, .int .i64 xp, .int .i64 xt, .slice xA xn xc, .slice xB xk xh, .slice xC xj xi] (by kernel_rfl) rfl rfl (HDk3.out.boxi 0 rfl) rfl (by intro u hu; simp at hu; rcases hu with rfl | rfl | rfl | rfl | rfl | rfl | rfl | rfl | rfl | rfl | rfl | rfl | rfl | rfl <;> rfl) ?_
          intro wk4 ho hO
          have HDk4 : Hid (Wd w wk4 [(ab, [.int .i64 xg, .int .i64 xv, .int .i64 xm, .int .i64 xe, .int .i64 xq, .int .i64 xd, .int .i64 xs, .int .i64 xo, .int .i64 xl, .int .i64 xp, .int .i64 xt, .slice xA xn xc, .slice xB xk xh, .slice xC xj xi]), (bb, [.int .i64 0, .int .i64 0, .int .i64 0, .int .i64 0, .int .i64 0, .int .i64 0, .int .i64 0, .int .i64 0, .int .i64 0, .int .i64 0, .int .i64 0, .slice none 0 0, .slice none 0 0, .slice none 0 0])] [] [(fun W => RgAt W ⟨yg, yv, ym, ye, yq, yd, ys, yo, yl, yp, yt, ybase, yover, ysegs⟩ (yA, yn, yc) (yB, yk, yh) (yC, yj, yi)), (fun W => RgAt W ⟨xg, xv, xm, xe, xq, xd, xs, xo, xl, xp, xt, xbase, xover, xsegs⟩ (xA, xn, xc) (xB, xk, xh) (xC, xj, xi)), (fun W => Own W cb [.int .i64 b, .int .i64 s, .int .i64 l]), (fun W => GeoAt W p b s l), (fun W => Own W w.heap.size [.int .i64 z0, .int .i64 z1, .int .i64 z2])]) := Lib.hid (HDk3.out.call1 0 rfl ho hO)
          clear HDk3
          clear ho hO
          refine hK.out _ _ ⟨Own.cell (HDk4.out.fi 4 rfl) 0 (by simp), Own.cell (HDk4.out.fi 4 rfl) 1 (by simp), Own.cell (HDk4.out.fi 4 rfl) 2 (by simp)⟩ (fun hSn => ?_)
          clear hK K hSw0
          have hSw0 := hSn
          clear hSn
          (try simp only [Act.put, List.setIfInBounds_toArray, List.set_cons_zero, List.set_cons_succ])
          refine wpAnyH_ready (rs := [9]) (by kernel_rfl) (by simp) ?_
          refine AllReadyH.cons (o := ⟨none, _, _, _, _, _⟩) rfl (fun K hK => ?_) AllReadyH.nil
          refine step_store_own rfl 52 (.tmp 13) (.tmp 34) rfl bb [.int .i64 0, .int .i64 0, .int .i64 0, .int .i64 0, .int .i64 0, .int .i64 0, .int .i64 0, .int .i64 0, .int .i64 0, .int .i64 0, .int .i64 0, .slice none 0 0, .slice none 0 0, .slice none 0 0] [.int .i64 yg, .int .i64 yv, .int .i64 ym, .int .i64 ye, .int .i64 yq, .int .i64 yd, .int .i64 ys, .int .i64 yo, .int .i64 yl, .int .i64 yp, .int .i64 yt, .slice yA yn yc, .slice yB yk yh, .slice yC yj yi] (by kernel_rfl) rfl rfl (HDk4.out.boxi 1 rfl) rfl (by intro u hu; simp at hu; rcases hu with rfl | rfl | rfl | rfl | rfl | rfl | rfl | rfl | rfl | rfl | rfl | rfl | rfl | rfl <;> rfl) ?_
          intro wk5 ho hO
          have HDk5 : Hid (Wd w wk5 [(ab, [.int .i64 xg, .int .i64 xv, .int .i64 xm, .int .i64 xe, .int .i64 xq, .int .i64 xd, .int .i64 xs, .int .i64 xo, .int .i64 xl, .int .i64 xp, .int .i64 xt, .slice xA xn xc, .slice xB xk xh, .slice xC xj xi]), (bb, [.int .i64 yg, .int .i64 yv, .int .i64 ym, .int .i64 ye, .int .i64 yq, .int .i64 yd, .int .i64 ys, .int .i64 yo, .int .i64 yl, .int .i64 yp, .int .i64 yt, .slice yA yn yc, .slice yB yk yh, .slice yC yj yi])] [] [(fun W => RgAt W ⟨yg, yv, ym, ye, yq, yd, ys, yo, yl, yp, yt, ybase, yover, ysegs⟩ (yA, yn, yc) (yB, yk, yh) (yC, yj, yi)), (fun W => RgAt W ⟨xg, xv, xm, xe, xq, xd, xs, xo, xl, xp, xt, xbase, xover, xsegs⟩ (xA, xn, xc) (xB, xk, xh) (xC, xj, xi)), (fun W => Own W cb [.int .i64 b, .int .i64 s, .int .i64 l]), (fun W => GeoAt W p b s l), (fun W => Own W w.heap.size [.int .i64 z0, .int .i64 z1, .int .i64 z2])]) := Lib.hid (HDk4.out.call1 1 rfl ho hO)
          clear HDk4
          clear ho hO
          refine hK.out _ _ ⟨Own.cell (HDk5.out.fi 4 rfl) 0 (by simp), Own.cell (HDk5.out.fi 4 rfl) 1 (by simp), Own.cell (HDk5.out.fi 4 rfl) 2 (by simp)⟩ (fun hSn => ?_)
          clear hK K hSw0
          have hSw0 := hSn
          clear hSn
          (try simp only [Act.put, List.setIfInBounds_toArray, List.set_cons_zero, List.set_cons_succ])
          refine wpAnyH_done (by kernel_rfl) ?_ _
          clear hSw0
          go_wp2
          go_meet
          case rel => exact ⟨ab, bb, xA, xn, xc, xB, xk, xh, xC, xj, xi, yA, yn, yc, yB, yk, yh, yC, yj, yi, rfl, rfl, (HDk5.out.drop.fact0 (Own.fx (HDk5.out.boxi 0 rfl) (by simp))).fact0 (Own.fx (HDk5.out.boxi 1 rfl) (by simp))⟩
        refine AllReadyH.cons (o := ⟨some 12, _, _, _, _, _⟩) rfl (fun K hK => ?_) ?_
        · as_aux_lemma =>
          go_simp
          have HDk2 : Hid (Wd w (World.alloc wk1 (.cells #[.int .i64 0, .int .i64 0, .int .i64 0, .int .i64 0, .int .i64 0, .int .i64 0, .int .i64 0, .int .i64 0, .int .i64 0, .int .i64 0, .int .i64 0, .slice none 0 0, .slice none 0 0, .slice none 0 0] 52)) [(wk1.heap.size, [.int .i64 0, .int .i64 0, .int .i64 0, .int .i64 0, .int .i64 0, .int .i64 0, .int .i64 0, .int .i64 0, .int .i64 0, .int .i64 0, .int .i64 0, .slice none 0 0, .slice none 0 0, .slice none 0 0]), (bb, [.int .i64 0, .int .i64 0, .int .i64 0, .int .i64 0, .int .i64 0, .int .i64 0, .int .i64 0, .int .i64 0, .int .i64 0, .int .i64 0, .int .i64 0, .slice none 0 0, .slice none 0 0, .slice none 0 0])] [] [(fun W => RgAt W ⟨xg, xv, xm, xe, xq, xd, xs, xo, xl, xp, xt, xbase, xover, xsegs⟩ (xA, xn, xc) (xB, xk, xh) (xC, xj, xi)), (fun W => Own W cb [.int .i64 b, .int .i64 s, .int .i64 l]), (fun W => GeoAt W p b s l), (fun W => Own W w.heap.size [.int .i64 z0, .int .i64 z1, .int .i64 z2])]) := Lib.hid (HDk1.out.newB #[.int .i64 0, .int .i64 0, .int .i64 0, .int .i64 0, .int .i64 0, .int .i64 0, .int .i64 0, .int .i64 0, .int .i64 0, .int .i64 0, .int .i64 0, .slice none 0 0, .slice none 0 0, .slice none 0 0] 52 (b := wk1.heap.size) rfl)
          clear HDk1
          generalize hwa : World.alloc wk1 (.cells #[.int .i64 0, .int .i64 0, .int .i64 0, .int .i64 0, .int .i64 0, .int .i64 0, .int .i64 0, .int .i64 0, .int .i64 0, .int .i64 0, .int .i64 0, .slice none 0 0, .slice none 0 0, .slice none 0 0] 52) = wk2 at *
          clear hwa
          generalize wk1.heap.size = ab at *
          refine hK.out _ _ ⟨Own.cell (HDk2.out.fi 3 rfl) 0 (by simp), Own.cell (HDk2.out.fi 3 rfl) 1 (by simp), Own.cell (HDk2.out.fi 3 rfl) 2 (by simp)⟩ (fun hSn => ?_)
          clear hK K hSw0
          have hSw0 := hSn
          clear hSn
          (try simp only [Act.put, List.setIfInBounds_toArray, List.set_cons_zero, List.set_cons_succ])
          refine wpAnyH_ready (rs := [5]) (by kernel_rfl) (by simp) ?_
          refine AllReadyH.cons (o := ⟨some 34, _, _, _, _, _⟩) rfl (fun K hK => ?_) AllReadyH.nil
          go_simp
          refine (HMDy.out _ HDk2.out.only).mono ?_
          rintro en wk3 ⟨⟨yA, yn, yc⟩, ⟨yB, yk, yh⟩, ⟨yC, yj, yi⟩, rfl, hr, hf, hO⟩
          simp only [Rg.cells] at hr ⊢
          dsimp only at hf
          have HDk3 : Hid (Wd w wk3 [(ab, [.int .i64 0, .int .i64 0, .int .i64 0, .int .i64 0, .int .i64 0, .int .i64 0, .int .i64 0, .int .i64 0, .int .i64 0, .int .i64 0, .int .i64 0, .slice none 0 0, .slice none 0 0, .slice none 0 0]), (bb, [.int .i64 0, .int .i64 0, .int .i64 0, .int .i64 0, .int .i64 0, .int .i64 0, .int .i64 0, .int .i64 0, .int .i64 0, .int .i64 0, .int .i64 0, .slice none 0 0, .slice none 0 0, .slice none 0 0])] [] [(fun W => RgAt W ⟨yg, yv, ym, ye, yq, yd, ys, yo, yl, yp, yt, ybase, yover, ysegs⟩ (yA, yn, yc) (yB, yk, yh) (yC, yj, yi)), (fun W => RgAt W ⟨xg, xv, xm, xe, xq, xd, xs, xo, xl, xp, xt, xbase, xover, xsegs⟩ (xA, xn, xc) (xB, xk, xh) (xC, xj, xi)), (fun W => Own W cb [.int .i64 b, .int .i64 s, .int .i64 l]), (fun W => GeoAt W p b s l), (fun W => Own W w.heap.size [.int .i64 z0, .int .i64 z1, .int .i64 z2])]) := Lib.hid (HDk2.out.addFx hO (hr.fx (fun a ha => by have := hf.1 a ha; omega) (fun a ha => by have := hf.2.1 a ha; omega) (fun a ha => by have := hf.2.2 a ha; omega)))
          clear HDk2
          clear hr hf hO
          refine hK.out _ _ ⟨Own.cell (HDk3.out.fi 4 rfl) 0 (by simp), Own.cell (HDk3.out.fi 4 rfl) 1 (by simp), Own.cell (HDk3.out.fi 4 rfl) 2 (by simp)⟩ (fun hSn => ?_)
          clear hK K hSw0
          have hSw0 := hSn
          clear hSn
          (try simp only [Act.put, List.setIfInBounds_toArray, List.set_cons_zero, List.set_cons_succ])
          refine wpAnyH_ready (rs := [8]) (by kernel_rfl) (by simp) ?_
          refine AllReadyH.cons (o := ⟨none, _, _, _, _, _⟩) rfl (fun K hK => ?_) AllReadyH.nil
          refine step_store_own rfl 52 (.tmp 12) (.tmp 31) rfl ab [.int .i64 0, .int .i64 0, .int .i64 0, .int .i64 0, .int .i64 0, .int .i64 0, .int .i64 0, .int .i64 0, .int .i64 0, .int .i64 0, .int .i64 0, .slice none 0 0, .slice none 0 0, .slice none 0 0] [.int .i64 xg, .int .i64 xv, .int .i64 xm, .int .i64 xe, .int .i64 xq, .int .i64 xd, .int .i64 xs, .int .i64 xo, .int .i64 xl, .int .i64 xp, .int .i64 xt, .slice xA xn xc, .slice xB xk xh, .slice xC xj xi] (by kernel_rfl) rfl rfl (HDk3.out.boxi 0 rfl) rfl (by intro u hu; simp at hu; rcases hu with rfl | rfl | rfl | rfl | rfl | rfl | rfl | rfl | rfl | rfl | rfl | rfl | rfl | rfl <;> rfl) ?_
          intro wk4 ho hO
          have HDk4 : Hid (Wd w wk4 [(ab, [.int .i64 xg, .int .i64 xv, .int .i64 xm, .int .i64 xe, .int .i64 xq, .int .i64 xd, .int .i64 xs, .int .i64 xo, .int .i64 xl, .int .i64 xp, .int .i64 xt, .slice xA xn xc, .slice xB xk xh, .slice xC xj xi]), (bb, [.int .i64 0, .int .i64 0, .int .i64 0, .int .i64 0, .int .i64 0, .int .i64 0, .int .i64 0, .int .i64 0, .int .i64 0, .int .i64 0, .int .i64 0, .slice none 0 0, .slice none 0 0, .slice none 0 0])] [] [(fun W => RgAt W ⟨yg, yv, ym, ye, yq, yd, ys, yo, yl, yp, yt, ybase, yover, ysegs⟩ (yA, yn, yc) (yB, yk, yh) (yC, yj, yi)), (fun W => RgAt W ⟨xg, xv, xm, xe, xq, xd, xs, xo, xl, xp, xt, xbase, xover, xsegs⟩ (xA, xn, xc) (xB, xk, xh) (xC, xj, xi)), (fun W => Own W cb [.int .i64 b, .int .i64 s, .int .i64 l]), (fun W => GeoAt W p b s l), (fun W => Own W w.heap.size [.int .i64 z0, .int .i64 z1, .int .i64 z2])]) := Lib.hid (HDk3.out.call1 0 rfl ho hO)
          clear HDk3
          clear ho hO
          refine hK.out _ _ ⟨Own.cell (HDk4.out.fi 4 rfl) 0 (by simp), Own.cell (HDk4.out.fi 4 rfl) 1 (by simp), Own.cell (HDk4.out.fi 4 rfl) 2 (by simp)⟩ (fun hSn => ?_)
          clear hK K hSw0
          have hSw0 := hSn
          clear hSn
          (try simp only [Act.put, List.setIfInBounds_toArray, List.set_cons_zero, List.set_cons_succ])
          refine wpAnyH_ready (rs := [9]) (by kernel_rfl) (by simp) ?_
          refine AllReadyH.cons (o := ⟨none, _, _, _, _, _⟩) rfl (fun K hK => ?_) AllReadyH.nil
          refine step_store_own rfl 52 (.tmp 13) (.tmp 34) rfl bb [.int .i64 0, .int .i64 0, .int .i64 0, .int .i64 0, .int .i64 0, .int .i64 0, .int .i64 0, .int .i64 0, .int .i64 0, .int .i64 0, .int .i64 0, .slice none 0 0, .slice none 0 0, .slice none 0 0] [.int .i64 yg, .int .i64 yv, .int .i64 ym, .int .i64 ye, .int .i64 yq, .int .i64 yd, .int .i64 ys, .int .i64 yo, .int .i64 yl, .int .i64 yp, .int .i64 yt, .slice yA yn yc, .slice yB yk yh, .slice yC yj yi] (by kernel_rfl) rfl rfl (HDk4.out.boxi 1 rfl) rfl (by intro u hu; simp at hu; rcases hu with rfl | rfl | rfl | rfl | rfl | rfl | rfl | rfl | rfl | rfl | rfl | rfl | rfl | rfl <;> rfl) ?_
          intro wk5 ho hO
          have HDk5 : Hid (Wd w wk5 [(ab, [.int .i64 xg, .int .i64 xv, .int .i64 xm, .int .i64 xe, .int .i64 xq, .int .i64 xd, .int .i64 xs, .int .i64 xo, .int .i64 xl, .int .i64 xp, .int .i64 xt, .slice xA xn xc, .slice xB xk xh, .slice xC xj xi]), (bb, [.int .i64 yg, .int .i64 yv, .int .i64 ym, .int .i64 ye, .int .i64 yq, .int .i64 yd, .int .i64 ys, .int .i64 yo, .int .i64 yl, .int .i64 yp, .int .i64 yt, .slice yA yn yc, .slice yB yk yh, .slice yC yj yi])] [] [(fun W => RgAt W ⟨yg, yv, ym, ye, yq, yd, ys, yo, yl, yp, yt, ybase, yover, ysegs⟩ (yA, yn, yc) (yB, yk, yh) (yC, yj, yi)), (fun W => RgAt W ⟨xg, xv, xm, xe, xq, xd, xs, xo, xl, xp, xt, xbase, xover, xsegs⟩ (xA, xn, xc) (xB, xk, xh) (xC, xj, xi)), (fun W => Own W cb [.int .i64 b, .int .i64 s, .int .i64 l]), (fun W => GeoAt W p b s l), (fun W => Own W w.heap.size [.int .i64 z0, .int .i64 z1, .int .i64 z2])]) := Lib.hid (HDk4.out.call1 1 rfl ho hO)
          clear HDk4
          clear ho hO
          refine hK.out _ _ ⟨Own.cell (HDk5.out.fi 4 rfl) 0 (by simp), Own.cell (HDk5.out.fi 4 rfl) 1 (by simp), Own.cell (HDk5.out.fi 4 rfl) 2 (by simp)⟩ (fun hSn => ?_)
          clear hK K hSw0
          have hSw0 := hSn
          clear hSn
          (try simp only [Act.put, List.setIfInBounds_toArray, List.set_cons_zero, List.set_cons_succ])
          refine wpAnyH_done (by kernel_rfl) ?_ _
          clear hSw0
          go_wp2
          go_meet
          case rel => exact ⟨ab, bb, xA, xn, xc, xB, xk, xh, xC, xj, xi, yA, yn, yc, yB, yk, yh, yC, yj, yi, rfl, rfl, (HDk5.out.drop.fact0 (Own.fx (HDk5.out.boxi 0 rfl) (by simp))).fact0 (Own.fx (HDk5.out.boxi 1 rfl) (by simp))⟩
        exact AllReadyH.nil
      refine AllReadyH.cons (o := ⟨some 12, _, _, _, _, _⟩) rfl (fun K hK => ?_) ?_
      · as_aux_lemma =>
        go_simp
        have HDk1 : Hid (Wd w (World.alloc wk0 (.cells #[.int .i64 0, .int .i64 0, .int .i64 0, .int .i64 0, .int .i64 0, .int .i64 0, .int .i64 0, .int .i64 0, .int .i64 0, .int .i64 0, .int .i64 0, .slice none 0 0, .slice none 0 0, .slice none 0 0] 52)) [(wk0.heap.size, [.int .i64 0, .int .i64 0, .int .i64 0, .int .i64 0, .int .i64 0, .int .i64 0, .int .i64 0, .int .i64 0, .int .i64 0, .int .i64 0, .int .i64 0, .slice none 0 0, .slice none 0 0, .slice none 0 0]), (bb, [.int .i64 0, .int .i64 0, .int .i64 0, .int .i64 0, .int .i64 0, .int .i64 0, .int .i64 0, .int .i64 0, .int .i64 0, .int .i64 0, .int .i64 0, .slice none 0 0, .slice none 0 0, .slice none 0 0])] [] [(fun W => Own W cb [.int .i64 b, .int .i64 s, .int .i64 l]), (fun W => GeoAt W p b s l), (fun W => Own W w.heap.size [.int .i64 z0, .int .i64 z1, .int .i64 z2])]) := Lib.hid (HDk0.out.newB #[.int .i64 0, .int .i64 0, .int .i64 0, .int .i64 0, .int .i64 0, .int .i64 0, .int .i64 0, .int .i64 0, .int .i64 0, .int .i64 0, .int .i64 0, .slice none 0 0, .slice none 0 0, .slice none 0 0] 52 (b := wk0.heap.size) rfl)
        clear HDk0
        generalize hwa : World.alloc wk0 (.cells #[.int .i64 0, .int .i64 0, .int .i64 0, .int .i64 0, .int .i64 0, .int .i64 0, .int .i64 0, .int .i64 0, .int .i64 0, .int .i64 0, .int .i64 0, .slice none 0 0, .slice none 0 0, .slice none 0 0] 52) = wk1 at *
        clear hwa
        generalize wk0.heap.size = ab at *
        refine hK.out _ _ ⟨Own.cell (HDk1.out.fi 2 rfl) 0 (by simp), Own.cell (HDk1.out.fi 2 rfl) 1 (by simp), Own.cell (HDk1.out.fi 2 rfl) 2 (by simp)⟩ (fun hSn => ?_)
        clear hK K hSw0
        have hSw0 := hSn
        clear hSn
        (try simp only [Act.put, List.setIfInBounds_toArray, List.set_cons_zero, List.set_cons_succ])
        refine wpAnyH_ready (rs := [2]) (by kernel_rfl) (by simp) ?_
        refine AllReadyH.cons (o := ⟨some 31, _, _, _, _, _⟩) rfl (fun K hK => ?_) AllReadyH.nil
        go_simp
        refine (HMDx.out _ HDk1.out.only).mono ?_
        rintro en wk2 ⟨⟨xA, xn, xc⟩, ⟨xB, xk, xh⟩, ⟨xC, xj, xi⟩, rfl, hr, hf, hO⟩
        simp only [Rg.cells] at hr ⊢
        dsimp only at hf
        have HDk2 : Hid (Wd w wk2 [(ab, [.int .i64 0, .int .i64 0, .int .i64 0, .int .i64 0, .int .i64 0, .int .i64 0, .int .i64 0, .int .i64 0, .int .i64 0, .int .i64 0, .int .i64 0, .slice none 0 0, .slice none 0 0, .slice none 0 0]), (bb, [.int .i64 0, .int .i64 0, .int .i64 0, .int .i64 0, .int .i64 0, .int .i64 0, .int .i64 0, .int .i64 0, .int .i64 0, .int .i64 0, .int .i64 0, .slice none 0 0, .slice none 0 0, .slice none 0 0])] [] [(fun W => RgAt W ⟨xg, xv, xm, xe, xq, xd, xs, xo, xl, xp, xt, xbase, xover, xsegs⟩ (xA, xn, xc) (xB, xk, xh) (xC, xj, xi)), (fun W => Own W cb [.int .i64 b, .int .i64 s, .int .i64 l]), (fun W => GeoAt W p b s l), (fun W => Own W w.heap.size [.int .i64 z0, .int .i64 z1, .int .i64 z2])]) := Lib.hid (HDk1.out.addFx hO (hr.fx (fun a ha => by have := hf.1 a ha; omega) (fun a ha => by have := hf.2.1 a ha; omega) (fun a ha => by have := hf.2.2 a ha; omega)))
        clear HDk1
        clear hr hf hO
        refine hK.out _ _ ⟨Own.cell (HDk2.out.fi 3 rfl) 0 (by simp), Own.cell (HDk2.out.fi 3 rfl) 1 (by simp), Own.cell (HDk2.out.fi 3 rfl) 2 (by simp)⟩ (fun hSn => ?_)
        clear hK K hSw0
        have hSw0 := hSn
        clear hSn
        (try simp only [Act.put, List.setIfInBounds_toArray, List.set_cons_zero, List.set_cons_succ])
        refine wpAnyH_ready (rs := [5]) (by kernel_rfl) (by simp) ?_
        refine AllReadyH.cons (o := ⟨some 34, _, _, _, _, _⟩) rfl (fun K hK => ?_) AllReadyH.nil
        go_simp
        refine (HMDy.out _ HDk2.out.only).mono ?_
        rintro en wk3 ⟨⟨yA, yn, yc⟩, ⟨yB, yk, yh⟩, ⟨yC, yj, yi⟩, rfl, hr, hf, hO⟩
        simp only [Rg.cells] at hr ⊢
        dsimp only at hf
        have HDk3 : Hid (Wd w wk3 [(ab, [.int .i64 0, .int .i64 0, .int .i64 0, .int .i64 0, .int .i64 0, .int .i64 0, .int .i64 0, .int .i64 0, .int .i64 0, .int .i64 0, .int .i64 0, .slice none 0 0, .slice none 0 0, .slice none 0 0]), (bb, [.int .i64 0, .int .i64 0, .int .i64 0, .int .i64 0, .int .i64 0, .int .i64 0, .int .i64 0, .int .i64 0, .int .i64 0, .int .i64 0, .int .i64 0, .slice none 0 0, .slice none 0 0, .slice none 0 0])] [] [(fun W => RgAt W ⟨yg, yv, ym, ye, yq, yd, ys, yo, yl, yp, yt, ybase, yover, ysegs⟩ (yA, yn, yc) (yB, yk, yh) (yC, yj, yi)), (fun W => RgAt W ⟨xg, xv, xm, xe, xq, xd, xs, xo, xl, xp, xt, xbase, xover, xsegs⟩ (xA, xn, xc) (xB, xk, xh) (xC, xj, xi)), (fun W => Own W cb [.int .i64 b, .int .i64 s, .int .i64 l]), (fun W => GeoAt W p b s l), (fun W => Own W w.heap.size [.int .i64 z0, .int .i64 z1, .int .i64 z2])]) := Lib.hid (HDk2.out.addFx hO (hr.fx (fun a ha => by have := hf.1 a ha; omega) (fun a ha => by have := hf.2.1 a ha; omega) (fun a ha => by have := hf.2.2 a ha; omega)))
        clear HDk2
        clear hr hf hO
        refine hK.out _ _ ⟨Own.cell (HDk3.out.fi 4 rfl) 0 (by simp), Own.cell (HDk3.out.fi 4 rfl) 1 (by simp), Own.cell (HDk3.out.fi 4 rfl) 2 (by simp)⟩ (fun hSn => ?_)
        clear hK K hSw0
        have hSw0 := hSn
        clear hSn
        (try simp only [Act.put, List.setIfInBounds_toArray, List.set_cons_zero, List.set_cons_succ])
        refine wpAnyH_ready (rs := [8]) (by kernel_rfl) (by simp) ?_
        refine AllReadyH.cons (o := ⟨none, _, _, _, _, _⟩) rfl (fun K hK => ?_) AllReadyH.nil
        refine step_store_own rfl 52 (.tmp 12) (.tmp 31) rfl ab [.int .i64 0, .int .i64 0, .int .i64 0, .int .i64 0, .int .i64 0, .int .i64 0, .int .i64 0, .int .i64 0, .int .i64 0, .int .i64 0, .int .i64 0, .slice none 0 0, .slice none 0 0, .slice none 0 0] [.int .i64 xg, .int .i64 xv, .int .i64 xm, .int .i64 xe, .int .i64 xq, .int .i64 xd, .int .i64 xs, .int .i64 xo, .int .i64 xl, .int .i64 xp, .int .i64 xt, .slice xA xn xc, .slice xB xk xh, .slice xC xj xi] (by kernel_rfl) rfl rfl (HDk3.out.boxi 0 rfl) rfl (by intro u hu; simp at hu; rcases hu with rfl | rfl | rfl | rfl | rfl | rfl | rfl | rfl | rfl | rfl | rfl | rfl | rfl | rfl <;> rfl) ?_
        intro wk4 ho hO
        have HDk4 : Hid (Wd w wk4 [(ab, [.int .i64 xg, .int .i64 xv, .int .i64 xm, .int .i64 xe, .int .i64 xq, .int .i64 xd, .int .i64 xs, .int .i64 xo, .int .i64 xl, .int .i64 xp, .int .i64 xt, .slice xA xn xc, .slice xB xk xh, .slice xC xj xi]), (bb, [.int .i64 0, .int .i64 0, .int .i64 0, .int .i64 0, .int .i64 0, .int .i64 0, .int .i64 0, .int .i64 0, .int .i64 0, .int .i64 0, .int .i64 0, .slice none 0 0, .slice none 0 0, .slice none 0 0])] [] [(fun W => RgAt W ⟨yg, yv, ym, ye, yq, yd, ys, yo, yl, yp, yt, ybase, yover, ysegs⟩ (yA, yn, yc) (yB, yk, yh) (yC, yj, yi)), (fun W => RgAt W ⟨xg, xv, xm, xe, xq, xd, xs, xo, xl, xp, xt, xbase, xover, xsegs⟩ (xA, xn, xc) (xB, xk, xh) (xC, xj, xi)), (fun W => Own W cb [.int .i64 b, .int .i64 s, .int .i64 l]), (fun W => GeoAt W p b s l), (fun W => Own W w.heap.size [.int .i64 z0, .int .i64 z1, .int .i64 z2])]) := Lib.hid (HDk3.out.call1 0 rfl ho hO)
        clear HDk3
        clear ho hO
        refine hK.out _ _ ⟨Own.cell (HDk4.out.fi 4 rfl) 0 (by simp), Own.cell (HDk4.out.fi 4 rfl) 1 (by simp), Own.cell (HDk4.out.fi 4 rfl) 2 (by simp)⟩ (fun hSn => ?_)
        clear hK K hSw0
        have hSw0 := hSn
        clear hSn
        (try simp only [Act.put, List.setIfInBounds_toArray, List.set_cons_zero, List.set_cons_succ])
        refine wpAnyH_ready (rs := [9]) (by kernel_rfl) (by simp) ?_
        refine AllReadyH.cons (o := ⟨none, _, _, _, _, _⟩) rfl (fun K hK => ?_) AllReadyH.nil
        refine step_store_own rfl 52 (.tmp 13) (.tmp 34) rfl bb [.int .i64 0, .int .i64 0, .int .i64 0, .int .i64 0, .int .i64 0, .int .i64 0, .int .i64 0, .int .i64 0, .int .i64 0, .int .i64 0, .int .i64 0, .slice none 0 0, .slice none 0 0, .slice none 0 0] [.int .i64 yg, .int .i64 yv, .int .i64 ym, .int .i64 ye, .int .i64 yq, .int .i64 yd, .int .i64 ys, .int .i64 yo, .int .i64 yl, .int .i64 yp, .int .i64 yt, .slice yA yn yc, .slice yB yk yh, .slice yC yj yi] (by kernel_rfl) rfl rfl (HDk4.out.boxi 1 rfl) rfl (by intro u hu; simp at hu; rcases hu with rfl | rfl | rfl | rfl | rfl | rfl | rfl | rfl | rfl | rfl | rfl | rfl | rfl | rfl <;> rfl) ?_
        intro wk5 ho hO
        have HDk5 : Hid (Wd w wk5 [(ab, [.int .i64 xg, .int .i64 xv, .int .i64 xm, .int .i64 xe, .int .i64 xq, .int .i64 xd, .int .i64 xs, .int .i64 xo, .int .i64 xl, .int .i64 xp, .int .i64 xt, .slice xA xn xc, .slice xB xk xh, .slice xC xj xi]), (bb, [.int .i64 yg, .int .i64 yv, .int .i64 ym, .int .i64 ye, .int .i64 yq, .int .i64 yd, .int .i64 ys, .int .i64 yo, .int .i64 yl, .int .i64 yp, .int .i64 yt, .slice yA yn yc, .slice yB yk yh, .slice yC yj yi])] [] [(fun W => RgAt W ⟨yg, yv, ym, ye, yq, yd, ys, yo, yl, yp, yt, ybase, yover, ysegs⟩ (yA, yn, yc) (yB, yk, yh) (yC, yj, yi)), (fun W => RgAt W ⟨xg, xv, xm, xe, xq, xd, xs, xo, xl, xp, xt, xbase, xover, xsegs⟩ (xA, xn, xc) (xB, xk, xh) (xC, xj, xi)), (fun W => Own W cb [.int .i64 b, .int .i64 s, .int .i64 l]), (fun W => GeoAt W p b s l), (fun W => Own W w.heap.size [.int .i64 z0, .int .i64 z1, .int .i64 z2])]) := Lib.hid (HDk4.out.call1 1 rfl ho hO)
        clear HDk4
        clear ho hO
        refine hK.out _ _ ⟨Own.cell (HDk5.out.fi 4 rfl) 0 (by simp), Own.cell (HDk5.out.fi 4 rfl) 1 (by simp), Own.cell (HDk5.out.fi 4 rfl) 2 (by simp)⟩ (fun hSn => ?_)
        clear hK K hSw0
        have hSw0 := hSn
        clear hSn
        (try simp only [Act.put, List.setIfInBounds_toArray, List.set_cons_zero, List.set_cons_succ])
        refine wpAnyH_done (by kernel_rfl) ?_ _
        clear hSw0
        go_wp2
        go_meet
        case rel => exact ⟨ab, bb, xA, xn, xc, xB, xk, xh, xC, xj, xi, yA, yn, yc, yB, yk, yh, yC, yj, yi, rfl, rfl, (HDk5.out.drop.fact0 (Own.fx (HDk5.out.boxi 0 rfl) (by simp))).fact0 (Own.fx (HDk5.out.boxi 1 rfl) (by simp))⟩
      exact AllReadyH.nil
    exact AllReadyH.nil
  case rest =>
    obtain ⟨ab, bb, xA, xn, xc, xB, xk, xh, xC, xj, xi, yA, yn, yc, yB, yk, yh, yC, yj, yi, rfl, rfl, hcut⟩ := hcut
    have HDm := Lib.hid hcut
    clear hcut HD3
    obtain ⟨k0, k1, k2, k3, k4, k5, k6, k7, k8, k9, k10, k11, k12, k13⟩ := cells14 (show Own wc ab _ from (HDm.out.fi 1 rfl))
    go_wp2_with fail
    refine (region_enc_own p b s l xg xv xm xe xq xd xs xo xl xp xt xA xn xc xbase xB xk xh xover xC xj xi xsegs _ (by exact (HDm.out.fi 5 rfl)) HC.out (by exact (HDm.out.fi 3 rfl))).mono ?_
    intro en w5 he
    rw [HxE.out] at he
    obtain ⟨gx, cx, rfl, hcx, hmx, hgx, ho, hO⟩ := he.of_some
    rw [HxN.out] at hcx ⊢
    have HDn : Hid (Wd w w5 [(gx, (bvs xbs))] [] [(fun W => Own W bb [.int .i64 yg, .int .i64 yv, .int .i64 ym, .int .i64 ye, .int .i64 yq, .int .i64 yd, .int .i64 ys, .int .i64 yo, .int .i64 yl, .int .i64 yp, .int .i64 yt, .slice yA yn yc, .slice yB yk yh, .slice yC yj yi]), (fun W => Own W ab [.int .i64 xg, .int .i64 xv, .int .i64 xm, .int .i64 xe, .int .i64 xq, .int .i64 xd, .int .i64 xs, .int .i64 xo, .int .i64 xl, .int .i64 xp, .int .i64 xt, .slice xA xn xc, .slice xB xk xh, .slice xC xj xi]), (fun W => RgAt W ⟨yg, yv, ym, ye, yq, yd, ys, yo, yl, yp, yt, ybase, yover, ysegs⟩ (yA, yn, yc) (yB, yk, yh) (yC, yj, yi)), (fun W => RgAt W ⟨xg, xv, xm, xe, xq, xd, xs, xo, xl, xp, xt, xbase, xover, xsegs⟩ (xA, xn, xc) (xB, xk, xh) (xC, xj, xi)), (fun W => Own W cb [.int .i64 b, .int .i64 s, .int .i64 l]), (fun W => GeoAt W p b s l), (fun W => Own W w.heap.size [.int .i64 z0, .int .i64 z1, .int .i64 z2])]) := Lib.hid (HDm.out.cons hO hgx ho)
    clear HDm
    clear he ho hO k0 k1 k2 k3 k4 k5 k6 k7 k8 k9 k10 k11 k12 k13
    obtain ⟨k0, k1, k2, k3, k4, k5, k6, k7, k8, k9, k10, k11, k12, k13⟩ := cells14 (show Own w5 bb _ from (HDn.out.fi 0 rfl))
    go_wp2_with fail
    refine (region_enc_own p b s l yg yv ym ye yq yd ys yo yl yp yt yA yn yc ybase yB yk yh yover yC yj yi ysegs _ (by exact (HDn.out.fi 5 rfl)) HC.out (by exact (HDn.out.fi 2 rfl))).mono ?_
    intro en w6 he
    rw [HyE.out] at he
    obtain ⟨gy, cy, rfl, hcy, hmy, hgy, ho, hO⟩ := he.of_some
    rw [HyN.out] at hcy ⊢
    have HDo : Hid (Wd w w6 [(gy, (bvs ybs)), (gx, (bvs xbs))] [] [(fun W => Own W bb [.int .i64 yg, .int .i64 yv, .int .i64 ym, .int .i64 ye, .int .i64 yq, .int .i64 yd, .int .i64 ys, .int .i64 yo, .int .i64 yl, .int .i64 yp, .int .i64 yt, .slice yA yn yc, .slice yB yk yh, .slice yC yj yi]), (fun W => Own W ab [.int .i64 xg, .int .i64 xv, .int .i64 xm, .int .i64 xe, .int .i64 xq, .int .i64 xd, .int .i64 xs, .int .i64 xo, .int .i64 xl, .int .i64 xp, .int .i64 xt, .slice xA xn xc, .slice xB xk xh, .slice xC xj xi]), (fun W => RgAt W ⟨yg, yv, ym, ye, yq, yd, ys, yo, yl, yp, yt, ybase, yover, ysegs⟩ (yA, yn, yc) (yB, yk, yh) (yC, yj, yi)), (fun W => RgAt W ⟨xg, xv, xm, xe, xq, xd, xs, xo, xl, xp, xt, xbase, xover, xsegs⟩ (xA, xn, xc) (xB, xk, xh) (xC, xj, xi)), (fun W => Own W cb [.int .i64 b, .int .i64 s, .int .i64 l]), (fun W => GeoAt W p b s l), (fun W => Own W w.heap.size [.int .i64 z0, .int .i64 z1, .int .i64 z2])]) := Lib.hid (HDn.out.cons hO hgy ho)
    clear HDn
    clear he ho hO k0 k1 k2 k3 k4 k5 k6 k7 k8 k9 k10 k11 k12 k13
    have hd64 : decide ((T : Int) < 64) = false := by simp; omega
    have hxb : xbs.length = T := HxN.out
    have hyb : ybs.length = T := HyN.out
    have hT0 : (2 : Int) < (T : Int) := by omega
    have hgm1 := IntWalk.i64_in ((T : Int) - 1) (by omega)
    have hgm2 : 0 ≤ (T : Int) - 1 := by omega
    have hgm3 : (T : Int) - 1 < (T : Int) := by omega
    have hgm4 : ((T : Int) - 1).toNat = T - 1 := by omega
    rcases HSP.out with hs | hs | hs | hs
    · as_aux_lemma =>
      have ha1 := HA1.out
      have ha2 := HA2.out
      have ha3 := HA3.out
      rw [hs] at ha1 ha2 ha3
      replace ha1 : bits .and .i64 sp 1 = 0 := ha1
      replace ha2 : bits .and .i64 sp 2 = 0 := ha2
      replace ha3 : bits .and .i64 sp 3 = 0 := ha3
      clear hs
      go_upto_region 11 with (fail)
      go_upto_region 13 with (fail)
      have hdx : decRg b s l xbs = some ⟨xg, xv, xm, xe, xq, xd, xs, xo, xl, xp, xt, xbase, xover, xsegs⟩ := HxD.out
      have hdy : decRg b s l ybs = some ⟨yg, yv, ym, ye, yq, yd, ys, yo, yl, yp, yt, ybase, yover, ysegs⟩ := HyD.out
      have hlx : xbs.length = T := by exact hxb
      have hly : ybs.length = T := by exact hyb
      by_cases hm : yg ≤ xg
      · have hdm : decide (xg < yg) = false := decide_eq_false (by omega)
        have hp : rgPick (decRg b s l xbs) (decRg b s l ybs) = (some ⟨xg, xv, xm, xe, xq, xd, xs, xo, xl, xp, xt, xbase, xover, xsegs⟩, 0) := by rw [hdx, hdy]; simp only [rgPick]; rw [if_pos hm]
        have HP := Lib.hid hp
        clear hp hdx hdy
        go_wp2_with fail
        refine (region_choose_any p b s l (some ⟨gx, 0, none⟩) T cx xbs (some ⟨gy, 0, none⟩) T cy ybs _ (by exact (HDo.out.fi 5 rfl)) HC.out (Row1.of_Own (by exact (HDo.out.boxi 1 rfl)) (by rw [bvs_length]; exact hlx) hcx hmx) (by omega) (Row1.of_Own (by exact (HDo.out.boxi 0 rfl)) (by rw [bvs_length]; exact hly) hcy hmy) (by omega)).mono ?_
        rintro en w9 ⟨⟨uA, un, uc⟩, ⟨uB, uk, uh⟩, ⟨uC, uj, ui⟩, rfl, hr, hO⟩
        rw [HP.out] at hr ⊢
        simp only [Option.getD_some, Option.isSome_some, if_true, Rg.cells] at hr ⊢
        have HDr : Hid (Wd w w9 [] [] [(fun W => Own W bb [.int .i64 yg, .int .i64 yv, .int .i64 ym, .int .i64 ye, .int .i64 yq, .int .i64 yd, .int .i64 ys, .int .i64 yo, .int .i64 yl, .int .i64 yp, .int .i64 yt, .slice yA yn yc, .slice yB yk yh, .slice yC yj yi]), (fun W => Own W ab [.int .i64 xg, .int .i64 xv, .int .i64 xm, .int .i64 xe, .int .i64 xq, .int .i64 xd, .int .i64 xs, .int .i64 xo, .int .i64 xl, .int .i64 xp, .int .i64 xt, .slice xA xn xc, .slice xB xk xh, .slice xC xj xi]), (fun W => RgAt W ⟨yg, yv, ym, ye, yq, yd, ys, yo, yl, yp, yt, ybase, yover, ysegs⟩ (yA, yn, yc) (yB, yk, yh) (yC, yj, yi)), (fun W => RgAt W ⟨xg, xv, xm, xe, xq, xd, xs, xo, xl, xp, xt, xbase, xover, xsegs⟩ (xA, xn, xc) (xB, xk, xh) (xC, xj, xi)), (fun W => Own W cb [.int .i64 b, .int .i64 s, .int .i64 l]), (fun W => GeoAt W p b s l), (fun W => Own W w.heap.size [.int .i64 z0, .int .i64 z1, .int .i64 z2])]) := Lib.hid (HDo.out.drop.keep0 hO)
        have HDs : Hid (Wd w w9 [] [] [(fun W => RgAt W ⟨xg, xv, xm, xe, xq, xd, xs, xo, xl, xp, xt, xbase, xover, xsegs⟩ (uA, un, uc) (uB, uk, uh) (uC, uj, ui)), (fun W => Own W bb [.int .i64 yg, .int .i64 yv, .int .i64 ym, .int .i64 ye, .int .i64 yq, .int .i64 yd, .int .i64 ys, .int .i64 yo, .int .i64 yl, .int .i64 yp, .int .i64 yt, .slice yA yn yc, .slice yB yk yh, .slice yC yj yi]), (fun W => Own W ab [.int .i64 xg, .int .i64 xv, .int .i64 xm, .int .i64 xe, .int .i64 xq, .int .i64 xd, .int .i64 xs, .int .i64 xo, .int .i64 xl, .int .i64 xp, .int .i64 xt, .slice xA xn xc, .slice xB xk xh, .slice xC xj xi]), (fun W => RgAt W ⟨yg, yv, ym, ye, yq, yd, ys, yo, yl, yp, yt, ybase, yover, ysegs⟩ (yA, yn, yc) (yB, yk, yh) (yC, yj, yi)), (fun W => RgAt W ⟨xg, xv, xm, xe, xq, xd, xs, xo, xl, xp, xt, xbase, xover, xsegs⟩ (xA, xn, xc) (xB, xk, xh) (xC, xj, xi)), (fun W => Own W cb [.int .i64 b, .int .i64 s, .int .i64 l]), (fun W => GeoAt W p b s l), (fun W => Own W w.heap.size [.int .i64 z0, .int .i64 z1, .int .i64 z2])]) := Lib.hid (HDr.out.fact0 (hr.fx (by simp) (by simp) (by simp)))
        clear HDr
        clear hr hO
        have HDt : Hid (Wd w (World.alloc w9 (.cells #[.int .i64 xg, .int .i64 xv, .int .i64 xm, .int .i64 xe, .int .i64 xq, .int .i64 xd, .int .i64 xs, .int .i64 xo, .int .i64 xl, .int .i64 xp, .int .i64 xt, .slice uA un uc, .slice uB uk uh, .slice uC uj ui] 52)) [] [] [(fun W => Own W w9.heap.size [.int .i64 xg, .int .i64 xv, .int .i64 xm, .int .i64 xe, .int .i64 xq, .int .i64 xd, .int .i64 xs, .int .i64 xo, .int .i64 xl, .int .i64 xp, .int .i64 xt, .slice uA un uc, .slice uB uk uh, .slice uC uj ui]), (fun W => RgAt W ⟨xg, xv, xm, xe, xq, xd, xs, xo, xl, xp, xt, xbase, xover, xsegs⟩ (uA, un, uc) (uB, uk, uh) (uC, uj, ui)), (fun W => Own W bb [.int .i64 yg, .int .i64 yv, .int .i64 ym, .int .i64 ye, .int .i64 yq, .int .i64 yd, .int .i64 ys, .int .i64 yo, .int .i64 yl, .int .i64 yp, .int .i64 yt, .slice yA yn yc, .slice yB yk yh, .slice yC yj yi]), (fun W => Own W ab [.int .i64 xg, .int .i64 xv, .int .i64 xm, .int .i64 xe, .int .i64 xq, .int .i64 xd, .int .i64 xs, .int .i64 xo, .int .i64 xl, .int .i64 xp, .int .i64 xt, .slice xA xn xc, .slice xB xk xh, .slice xC xj xi]), (fun W => RgAt W ⟨yg, yv, ym, ye, yq, yd, ys, yo, yl, yp, yt, ybase, yover, ysegs⟩ (yA, yn, yc) (yB, yk, yh) (yC, yj, yi)), (fun W => RgAt W ⟨xg, xv, xm, xe, xq, xd, xs, xo, xl, xp, xt, xbase, xover, xsegs⟩ (xA, xn, xc) (xB, xk, xh) (xC, xj, xi)), (fun W => Own W cb [.int .i64 b, .int .i64 s, .int .i64 l]), (fun W => GeoAt W p b s l), (fun W => Own W w.heap.size [.int .i64 z0, .int .i64 z1, .int .i64 z2])]) := Lib.hid (HDs.out.newF #[.int .i64 xg, .int .i64 xv, .int .i64 xm, .int .i64 xe, .int .i64 xq, .int .i64 xd, .int .i64 xs, .int .i64 xo, .int .i64 xl, .int .i64 xp, .int .i64 xt, .slice uA un uc, .slice uB uk uh, .slice uC uj ui] 52 rfl)
        clear HDs
        go_upto_region 14 with (fail)
        generalize hwa : w9.alloc (.cells #[.int .i64 xg, .int .i64 xv, .int .i64 xm, .int .i64 xe, .int .i64 xq, .int .i64 xd, .int .i64 xs, .int .i64 xo, .int .i64 xl, .int .i64 xp, .int .i64 xt, .slice uA un uc, .slice uB uk uh, .slice uC uj ui] 52) = wa at *
        clear hwa
        generalize w9.heap.size = ub at *
        obtain ⟨k0, k1, k2, k3, k4, k5, k6, k7, k8, k9, k10, k11, k12, k13⟩ := cells14 (show Own wa ub _ from (HDt.out.fi 0 rfl))
        obtain ⟨m0, m1, m2, m3, m4, m5, m6, m7, m8, m9, m10, m11, m12, m13⟩ := cells14 (show Own wa ab _ from (HDt.out.fi 3 rfl))
        have o0 := Own.cell (HDt.out.fi 2 rfl) 0 (by simp)
        simp only [List.getElem_cons_zero] at o0
        go_wp2_with fail
        refine (alike_region_same xg xv xm xe xq xd xs xo xl xp xt xbase xover xsegs uA un uc uB uk uh uC uj ui xA xn xc xB xk xh xC xj xi _ (by exact (HDt.out.fi 1 rfl)) (by exact (HDt.out.fi 5 rfl))).mono ?_
        rintro en wb ⟨rfl, hO⟩
        have HDu : Hid (Wd w wb [] [] [(fun W => Own W ub [.int .i64 xg, .int .i64 xv, .int .i64 xm, .int .i64 xe, .int .i64 xq, .int .i64 xd, .int .i64 xs, .int .i64 xo, .int .i64 xl, .int .i64 xp, .int .i64 xt, .slice uA un uc, .slice uB uk uh, .slice uC uj ui]), (fun W => RgAt W ⟨xg, xv, xm, xe, xq, xd, xs, xo, xl, xp, xt, xbase, xover, xsegs⟩ (uA, un, uc) (uB, uk, uh) (uC, uj, ui)), (fun W => Own W bb [.int .i64 yg, .int .i64 yv, .int .i64 ym, .int .i64 ye, .int .i64 yq, .int .i64 yd, .int .i64 ys, .int .i64 yo, .int .i64 yl, .int .i64 yp, .int .i64 yt, .slice yA yn yc, .slice yB yk yh, .slice yC yj yi]), (fun W => Own W ab [.int .i64 xg, .int .i64 xv, .int .i64 xm, .int .i64 xe, .int .i64 xq, .int .i64 xd, .int .i64 xs, .int .i64 xo, .int .i64 xl, .int .i64 xp, .int .i64 xt, .slice xA xn xc, .slice xB xk xh, .slice xC xj xi]), (fun W => RgAt W ⟨yg, yv, ym, ye, yq, yd, ys, yo, yl, yp, yt, ybase, yover, ysegs⟩ (yA, yn, yc) (yB, yk, yh) (yC, yj, yi)), (fun W => RgAt W ⟨xg, xv, xm, xe, xq, xd, xs, xo, xl, xp, xt, xbase, xover, xsegs⟩ (xA, xn, xc) (xB, xk, xh) (xC, xj, xi)), (fun W => Own W cb [.int .i64 b, .int .i64 s, .int .i64 l]), (fun W => GeoAt W p b s l), (fun W => Own W w.heap.size [.int .i64 z0, .int .i64 z1, .int .i64 z2])]) := Lib.hid (HDt.out.keep0 hO)
        clear HDt
        clear hO o0 k0 k1 k2 k3 k4 k5 k6 k7 k8 k9 k10 k11 k12 k13 m0 m1 m2 m3 m4 m5 m6 m7 m8 m9 m10 m11 m12 m13
        go_wp2_with fail
        refine (awake9 _).mono ?_
        rintro en wd ⟨rfl, hO⟩
        have HDv : Hid (Wd w wd [] [] [(fun W => Own W ub [.int .i64 xg, .int .i64 xv, .int .i64 xm, .int .i64 xe, .int .i64 xq, .int .i64 xd, .int .i64 xs, .int .i64 xo, .int .i64 xl, .int .i64 xp, .int .i64 xt, .slice uA un uc, .slice uB uk uh, .slice uC uj ui]), (fun W => RgAt W ⟨xg, xv, xm, xe, xq, xd, xs, xo, xl, xp, xt, xbase, xover, xsegs⟩ (uA, un, uc) (uB, uk, uh) (uC, uj, ui)), (fun W => Own W bb [.int .i64 yg, .int .i64 yv, .int .i64 ym, .int .i64 ye, .int .i64 yq, .int .i64 yd, .int .i64 ys, .int .i64 yo, .int .i64 yl, .int .i64 yp, .int .i64 yt, .slice yA yn yc, .slice yB yk yh, .slice yC yj yi]), (fun W => Own W ab [.int .i64 xg, .int .i64 xv, .int .i64 xm, .int .i64 xe, .int .i64 xq, .int .i64 xd, .int .i64 xs, .int .i64 xo, .int .i64 xl, .int .i64 xp, .int .i64 xt, .slice xA xn xc, .slice xB xk xh, .slice xC xj xi]), (fun W => RgAt W ⟨yg, yv, ym, ye, yq, yd, ys, yo, yl, yp, yt, ybase, yover, ysegs⟩ (yA, yn, yc) (yB, yk, yh) (yC, yj, yi)), (fun W => RgAt W ⟨xg, xv, xm, xe, xq, xd, xs, xo, xl, xp, xt, xbase, xover, xsegs⟩ (xA, xn, xc) (xB, xk, xh) (xC, xj, xi)), (fun W => Own W cb [.int .i64 b, .int .i64 s, .int .i64 l]), (fun W => GeoAt W p b s l), (fun W => Own W w.heap.size [.int .i64 z0, .int .i64 z1, .int .i64 z2])]) := Lib.hid (HDu.out.keep0 hO)
        clear HDu
        go_wp2
        go_ret
        exact ⟨rfl, HDv.out.only⟩
      · have hdm : decide (xg < yg) = true := decide_eq_true (by omega)
        have hp : rgPick (decRg b s l xbs) (decRg b s l ybs) = (some ⟨yg, yv, ym, ye, yq, yd, ys, yo, yl, yp, yt, ybase, yover, ysegs⟩, 1) := by rw [hdx, hdy]; simp only [rgPick]; rw [if_neg hm]
        have HP := Lib.hid hp
        clear hp hdx hdy
        go_wp2_with fail
        refine (region_choose_any p b s l (some ⟨gx, 0, none⟩) T cx xbs (some ⟨gy, 0, none⟩) T cy ybs _ (by exact (HDo.out.fi 5 rfl)) HC.out (Row1.of_Own (by exact (HDo.out.boxi 1 rfl)) (by rw [bvs_length]; exact hlx) hcx hmx) (by omega) (Row1.of_Own (by exact (HDo.out.boxi 0 rfl)) (by rw [bvs_length]; exact hly) hcy hmy) (by omega)).mono ?_
        rintro en w9 ⟨⟨uA, un, uc⟩, ⟨uB, uk, uh⟩, ⟨uC, uj, ui⟩, rfl, hr, hO⟩
        rw [HP.out] at hr ⊢
        simp only [Option.getD_some, Option.isSome_some, if_true, Rg.cells] at hr ⊢
        have HDr : Hid (Wd w w9 [] [] [(fun W => Own W bb [.int .i64 yg, .int .i64 yv, .int .i64 ym, .int .i64 ye, .int .i64 yq, .int .i64 yd, .int .i64 ys, .int .i64 yo, .int .i64 yl, .int .i64 yp, .int .i64 yt, .slice yA yn yc, .slice yB yk yh, .slice yC yj yi]), (fun W => Own W ab [.int .i64 xg, .int .i64 xv, .int .i64 xm, .int .i64 xe, .int .i64 xq, .int .i64 xd, .int .i64 xs, .int .i64 xo, .int .i64 xl, .int .i64 xp, .int .i64 xt, .slice xA xn xc, .slice xB xk xh, .slice xC xj xi]), (fun W => RgAt W ⟨yg, yv, ym, ye, yq, yd, ys, yo, yl, yp, yt, ybase, yover, ysegs⟩ (yA, yn, yc) (yB, yk, yh) (yC, yj, yi)), (fun W => RgAt W ⟨xg, xv, xm, xe, xq, xd, xs, xo, xl, xp, xt, xbase, xover, xsegs⟩ (xA, xn, xc) (xB, xk, xh) (xC, xj, xi)), (fun W => Own W cb [.int .i64 b, .int .i64 s, .int .i64 l]), (fun W => GeoAt W p b s l), (fun W => Own W w.heap.size [.int .i64 z0, .int .i64 z1, .int .i64 z2])]) := Lib.hid (HDo.out.drop.keep0 hO)
        have HDs : Hid (Wd w w9 [] [] [(fun W => RgAt W ⟨yg, yv, ym, ye, yq, yd, ys, yo, yl, yp, yt, ybase, yover, ysegs⟩ (uA, un, uc) (uB, uk, uh) (uC, uj, ui)), (fun W => Own W bb [.int .i64 yg, .int .i64 yv, .int .i64 ym, .int .i64 ye, .int .i64 yq, .int .i64 yd, .int .i64 ys, .int .i64 yo, .int .i64 yl, .int .i64 yp, .int .i64 yt, .slice yA yn yc, .slice yB yk yh, .slice yC yj yi]), (fun W => Own W ab [.int .i64 xg, .int .i64 xv, .int .i64 xm, .int .i64 xe, .int .i64 xq, .int .i64 xd, .int .i64 xs, .int .i64 xo, .int .i64 xl, .int .i64 xp, .int .i64 xt, .slice xA xn xc, .slice xB xk xh, .slice xC xj xi]), (fun W => RgAt W ⟨yg, yv, ym, ye, yq, yd, ys, yo, yl, yp, yt, ybase, yover, ysegs⟩ (yA, yn, yc) (yB, yk, yh) (yC, yj, yi)), (fun W => RgAt W ⟨xg, xv, xm, xe, xq, xd, xs, xo, xl, xp, xt, xbase, xover, xsegs⟩ (xA, xn, xc) (xB, xk, xh) (xC, xj, xi)), (fun W => Own W cb [.int .i64 b, .int .i64 s, .int .i64 l]), (fun W => GeoAt W p b s l), (fun W => Own W w.heap.size [.int .i64 z0, .int .i64 z1, .int .i64 z2])]) := Lib.hid (HDr.out.fact0 (hr.fx (by simp) (by simp) (by simp)))
        clear HDr
        clear hr hO
        have HDt : Hid (Wd w (World.alloc w9 (.cells #[.int .i64 yg, .int .i64 yv, .int .i64 ym, .int .i64 ye, .int .i64 yq, .int .i64 yd, .int .i64 ys, .int .i64 yo, .int .i64 yl, .int .i64 yp, .int .i64 yt, .slice uA un uc, .slice uB uk uh, .slice uC uj ui] 52)) [] [] [(fun W => Own W w9.heap.size [.int .i64 yg, .int .i64 yv, .int .i64 ym, .int .i64 ye, .int .i64 yq, .int .i64 yd, .int .i64 ys, .int .i64 yo, .int .i64 yl, .int .i64 yp, .int .i64 yt, .slice uA un uc, .slice uB uk uh, .slice uC uj ui]), (fun W => RgAt W ⟨yg, yv, ym, ye, yq, yd, ys, yo, yl, yp, yt, ybase, yover, ysegs⟩ (uA, un, uc) (uB, uk, uh) (uC, uj, ui)), (fun W => Own W bb [.int .i64 yg, .int .i64 yv, .int .i64 ym, .int .i64 ye, .int .i64 yq, .int .i64 yd, .int .i64 ys, .int .i64 yo, .int .i64 yl, .int .i64 yp, .int .i64 yt, .slice yA yn yc, .slice yB yk yh, .slice yC yj yi]), (fun W => Own W ab [.int .i64 xg, .int .i64 xv, .int .i64 xm, .int .i64 xe, .int .i64 xq, .int .i64 xd, .int .i64 xs, .int .i64 xo, .int .i64 xl, .int .i64 xp, .int .i64 xt, .slice xA xn xc, .slice xB xk xh, .slice xC xj xi]), (fun W => RgAt W ⟨yg, yv, ym, ye, yq, yd, ys, yo, yl, yp, yt, ybase, yover, ysegs⟩ (yA, yn, yc) (yB, yk, yh) (yC, yj, yi)), (fun W => RgAt W ⟨xg, xv, xm, xe, xq, xd, xs, xo, xl, xp, xt, xbase, xover, xsegs⟩ (xA, xn, xc) (xB, xk, xh) (xC, xj, xi)), (fun W => Own W cb [.int .i64 b, .int .i64 s, .int .i64 l]), (fun W => GeoAt W p b s l), (fun W => Own W w.heap.size [.int .i64 z0, .int .i64 z1, .int .i64 z2])]) := Lib.hid (HDs.out.newF #[.int .i64 yg, .int .i64 yv, .int .i64 ym, .int .i64 ye, .int .i64 yq, .int .i64 yd, .int .i64 ys, .int .i64 yo, .int .i64 yl, .int .i64 yp, .int .i64 yt, .slice uA un uc, .slice uB uk uh, .slice uC uj ui] 52 rfl)
        clear HDs
        go_upto_region 14 with (fail)
        generalize hwa : w9.alloc (.cells #[.int .i64 yg, .int .i64 yv, .int .i64 ym, .int .i64 ye, .int .i64 yq, .int .i64 yd, .int .i64 ys, .int .i64 yo, .int .i64 yl, .int .i64 yp, .int .i64 yt, .slice uA un uc, .slice uB uk uh, .slice uC uj ui] 52) = wa at *
        clear hwa
        generalize w9.heap.size = ub at *
        obtain ⟨k0, k1, k2, k3, k4, k5, k6, k7, k8, k9, k10, k11, k12, k13⟩ := cells14 (show Own wa ub _ from (HDt.out.fi 0 rfl))
        obtain ⟨m0, m1, m2, m3, m4, m5, m6, m7, m8, m9, m10, m11, m12, m13⟩ := cells14 (show Own wa bb _ from (HDt.out.fi 2 rfl))
        have o0 := Own.cell (HDt.out.fi 3 rfl) 0 (by simp)
        simp only [List.getElem_cons_zero] at o0
        go_wp2_with fail
        refine (alike_region_same yg yv ym ye yq yd ys yo yl yp yt ybase yover ysegs uA un uc uB uk uh uC uj ui yA yn yc yB yk yh yC yj yi _ (by exact (HDt.out.fi 1 rfl)) (by exact (HDt.out.fi 4 rfl))).mono ?_
        rintro en wb ⟨rfl, hO⟩
        have HDu : Hid (Wd w wb [] [] [(fun W => Own W ub [.int .i64 yg, .int .i64 yv, .int .i64 ym, .int .i64 ye, .int .i64 yq, .int .i64 yd, .int .i64 ys, .int .i64 yo, .int .i64 yl, .int .i64 yp, .int .i64 yt, .slice uA un uc, .slice uB uk uh, .slice uC uj ui]), (fun W => RgAt W ⟨yg, yv, ym, ye, yq, yd, ys, yo, yl, yp, yt, ybase, yover, ysegs⟩ (uA, un, uc) (uB, uk, uh) (uC, uj, ui)), (fun W => Own W bb [.int .i64 yg, .int .i64 yv, .int .i64 ym, .int .i64 ye, .int .i64 yq, .int .i64 yd, .int .i64 ys, .int .i64 yo, .int .i64 yl, .int .i64 yp, .int .i64 yt, .slice yA yn yc, .slice yB yk yh, .slice yC yj yi]), (fun W => Own W ab [.int .i64 xg, .int .i64 xv, .int .i64 xm, .int .i64 xe, .int .i64 xq, .int .i64 xd, .int .i64 xs, .int .i64 xo, .int .i64 xl, .int .i64 xp, .int .i64 xt, .slice xA xn xc, .slice xB xk xh, .slice xC xj xi]), (fun W => RgAt W ⟨yg, yv, ym, ye, yq, yd, ys, yo, yl, yp, yt, ybase, yover, ysegs⟩ (yA, yn, yc) (yB, yk, yh) (yC, yj, yi)), (fun W => RgAt W ⟨xg, xv, xm, xe, xq, xd, xs, xo, xl, xp, xt, xbase, xover, xsegs⟩ (xA, xn, xc) (xB, xk, xh) (xC, xj, xi)), (fun W => Own W cb [.int .i64 b, .int .i64 s, .int .i64 l]), (fun W => GeoAt W p b s l), (fun W => Own W w.heap.size [.int .i64 z0, .int .i64 z1, .int .i64 z2])]) := Lib.hid (HDt.out.keep0 hO)
        clear HDt
        clear hO o0 k0 k1 k2 k3 k4 k5 k6 k7 k8 k9 k10 k11 k12 k13 m0 m1 m2 m3 m4 m5 m6 m7 m8 m9 m10 m11 m12 m13
        go_wp2_with fail
        refine (awake9 _).mono ?_
        rintro en wd ⟨rfl, hO⟩
        have HDv : Hid (Wd w wd [] [] [(fun W => Own W ub [.int .i64 yg, .int .i64 yv, .int .i64 ym, .int .i64 ye, .int .i64 yq, .int .i64 yd, .int .i64 ys, .int .i64 yo, .int .i64 yl, .int .i64 yp, .int .i64 yt, .slice uA un uc, .slice uB uk uh, .slice uC uj ui]), (fun W => RgAt W ⟨yg, yv, ym, ye, yq, yd, ys, yo, yl, yp, yt, ybase, yover, ysegs⟩ (uA, un, uc) (uB, uk, uh) (uC, uj, ui)), (fun W => Own W bb [.int .i64 yg, .int .i64 yv, .int .i64 ym, .int .i64 ye, .int .i64 yq, .int .i64 yd, .int .i64 ys, .int .i64 yo, .int .i64 yl, .int .i64 yp, .int .i64 yt, .slice yA yn yc, .slice yB yk yh, .slice yC yj yi]), (fun W => Own W ab [.int .i64 xg, .int .i64 xv, .int .i64 xm, .int .i64 xe, .int .i64 xq, .int .i64 xd, .int .i64 xs, .int .i64 xo, .int .i64 xl, .int .i64 xp, .int .i64 xt, .slice xA xn xc, .slice xB xk xh, .slice xC xj xi]), (fun W => RgAt W ⟨yg, yv, ym, ye, yq, yd, ys, yo, yl, yp, yt, ybase, yover, ysegs⟩ (yA, yn, yc) (yB, yk, yh) (yC, yj, yi)), (fun W => RgAt W ⟨xg, xv, xm, xe, xq, xd, xs, xo, xl, xp, xt, xbase, xover, xsegs⟩ (xA, xn, xc) (xB, xk, xh) (xC, xj, xi)), (fun W => Own W cb [.int .i64 b, .int .i64 s, .int .i64 l]), (fun W => GeoAt W p b s l), (fun W => Own W w.heap.size [.int .i64 z0, .int .i64 z1, .int .i64 z2])]) := Lib.hid (HDu.out.keep0 hO)
        clear HDu
        go_wp2
        go_ret
        exact ⟨rfl, HDv.out.only⟩
    · as_aux_lemma =>
      have ha1 := HA1.out
      have ha2 := HA2.out
      have ha3 := HA3.out
      rw [hs] at ha1 ha2 ha3
      replace ha1 : bits .and .i64 sp 1 = 1 := ha1
      replace ha2 : bits .and .i64 sp 2 = 0 := ha2
      replace ha3 : bits .and .i64 sp 3 = 1 := ha3
      clear hs
      obtain ⟨ob1, nb1, q11, q12, q13, hf1⟩ := Own.flipN (show Own w6 gx (bvs xbs) from (HDo.out.boxi 1 rfl)) (j := 2) 2 (m := 4) (by decide) (by omega) (by decide)
      have lq1 := Own.lt (HDo.out.boxi 1 rfl)
      go_upto_region 11 with (fail)
      have HDp : Hid (Wd w (World.setCell w6 ⟨gx, 2, none⟩ (.int .u8 nb1)) [(gy, (bvs ybs)), (gx, (bvs (flipAt xbs 18)))] [] [(fun W => Own W bb [.int .i64 yg, .int .i64 yv, .int .i64 ym, .int .i64 ye, .int .i64 yq, .int .i64 yd, .int .i64 ys, .int .i64 yo, .int .i64 yl, .int .i64 yp, .int .i64 yt, .slice yA yn yc, .slice yB yk yh, .slice yC yj yi]), (fun W => Own W ab [.int .i64 xg, .int .i64 xv, .int .i64 xm, .int .i64 xe, .int .i64 xq, .int .i64 xd, .int .i64 xs, .int .i64 xo, .int .i64 xl, .int .i64 xp, .int .i64 xt, .slice xA xn xc, .slice xB xk xh, .slice xC xj xi]), (fun W => RgAt W ⟨yg, yv, ym, ye, yq, yd, ys, yo, yl, yp, yt, ybase, yover, ysegs⟩ (yA, yn, yc) (yB, yk, yh) (yC, yj, yi)), (fun W => RgAt W ⟨xg, xv, xm, xe, xq, xd, xs, xo, xl, xp, xt, xbase, xover, xsegs⟩ (xA, xn, xc) (xB, xk, xh) (xC, xj, xi)), (fun W => Own W cb [.int .i64 b, .int .i64 s, .int .i64 l]), (fun W => GeoAt W p b s l), (fun W => Own W w.heap.size [.int .i64 z0, .int .i64 z1, .int .i64 z2])]) := Lib.hid (HDo.out.call1 1 rfl hf1 ((Only.refl [gx] w6).set (.inl (by simp)) _))
      clear HDo
      generalize hwa : World.setCell w6 ⟨gx, 2, none⟩ (.int .u8 nb1) = w7 at *
      clear hwa q11 q12 q13 hf1 lq1
      go_upto_region 13 with (fail)
      have hdx : decRg b s l (flipAt xbs 18) = none := rg_flipped HC.out (by omega) HxC.out
      have hdy : decRg b s l ybs = some ⟨yg, yv, ym, ye, yq, yd, ys, yo, yl, yp, yt, ybase, yover, ysegs⟩ := HyD.out
      have hlx : (flipAt xbs 18).length = T := by rw [flipAt_length]; exact hxb
      have hly : ybs.length = T := by exact hyb
      have hp : rgPick (decRg b s l (flipAt xbs 18)) (decRg b s l ybs) = (some ⟨yg, yv, ym, ye, yq, yd, ys, yo, yl, yp, yt, ybase, yover, ysegs⟩, 1) := by rw [hdx, hdy]; rfl
      have HP := Lib.hid hp
      clear hp hdx hdy
      go_wp2_with fail
      refine (region_choose_any p b s l (some ⟨gx, 0, none⟩) T cx (flipAt xbs 18) (some ⟨gy, 0, none⟩) T cy ybs _ (by exact (HDp.out.fi 5 rfl)) HC.out (Row1.of_Own (by exact (HDp.out.boxi 1 rfl)) (by rw [bvs_length]; exact hlx) hcx hmx) (by omega) (Row1.of_Own (by exact (HDp.out.boxi 0 rfl)) (by rw [bvs_length]; exact hly) hcy hmy) (by omega)).mono ?_
      rintro en w9 ⟨⟨uA, un, uc⟩, ⟨uB, uk, uh⟩, ⟨uC, uj, ui⟩, rfl, hr, hO⟩
      rw [HP.out] at hr ⊢
      simp only [Option.getD_some, Option.isSome_some, if_true, Rg.cells] at hr ⊢
      have HDr : Hid (Wd w w9 [] [] [(fun W => Own W bb [.int .i64 yg, .int .i64 yv, .int .i64 ym, .int .i64 ye, .int .i64 yq, .int .i64 yd, .int .i64 ys, .int .i64 yo, .int .i64 yl, .int .i64 yp, .int .i64 yt, .slice yA yn yc, .slice yB yk yh, .slice yC yj yi]), (fun W => Own W ab [.int .i64 xg, .int .i64 xv, .int .i64 xm, .int .i64 xe, .int .i64 xq, .int .i64 xd, .int .i64 xs, .int .i64 xo, .int .i64 xl, .int .i64 xp, .int .i64 xt, .slice xA xn xc, .slice xB xk xh, .slice xC xj xi]), (fun W => RgAt W ⟨yg, yv, ym, ye, yq, yd, ys, yo, yl, yp, yt, ybase, yover, ysegs⟩ (yA, yn, yc) (yB, yk, yh) (yC, yj, yi)), (fun W => RgAt W ⟨xg, xv, xm, xe, xq, xd, xs, xo, xl, xp, xt, xbase, xover, xsegs⟩ (xA, xn, xc) (xB, xk, xh) (xC, xj, xi)), (fun W => Own W cb [.int .i64 b, .int .i64 s, .int .i64 l]), (fun W => GeoAt W p b s l), (fun W => Own W w.heap.size [.int .i64 z0, .int .i64 z1, .int .i64 z2])]) := Lib.hid (HDp.out.drop.keep0 hO)
      have HDs : Hid (Wd w w9 [] [] [(fun W => RgAt W ⟨yg, yv, ym, ye, yq, yd, ys, yo, yl, yp, yt, ybase, yover, ysegs⟩ (uA, un, uc) (uB, uk, uh) (uC, uj, ui)), (fun W => Own W bb [.int .i64 yg, .int .i64 yv, .int .i64 ym, .int .i64 ye, .int .i64 yq, .int .i64 yd, .int .i64 ys, .int .i64 yo, .int .i64 yl, .int .i64 yp, .int .i64 yt, .slice yA yn yc, .slice yB yk yh, .slice yC yj yi]), (fun W => Own W ab [.int .i64 xg, .int .i64 xv, .int .i64 xm, .int .i64 xe, .int .i64 xq, .int .i64 xd, .int .i64 xs, .int .i64 xo, .int .i64 xl, .int .i64 xp, .int .i64 xt, .slice xA xn xc, .slice xB xk xh, .slice xC xj xi]), (fun W => RgAt W ⟨yg, yv, ym, ye, yq, yd, ys, yo, yl, yp, yt, ybase, yover, ysegs⟩ (yA, yn, yc) (yB, yk, yh) (yC, yj, yi)), (fun W => RgAt W ⟨xg, xv, xm, xe, xq, xd, xs, xo, xl, xp, xt, xbase, xover, xsegs⟩ (xA, xn, xc) (xB, xk, xh) (xC, xj, xi)), (fun W => Own W cb [.int .i64 b, .int .i64 s, .int .i64 l]), (fun W => GeoAt W p b s l), (fun W => Own W w.heap.size [.int .i64 z0, .int .i64 z1, .int .i64 z2])]) := Lib.hid (HDr.out.fact0 (hr.fx (by simp) (by simp) (by simp)))
      clear HDr
      clear hr hO
      have HDt : Hid (Wd w (World.alloc w9 (.cells #[.int .i64 yg, .int .i64 yv, .int .i64 ym, .int .i64 ye, .int .i64 yq, .int .i64 yd, .int .i64 ys, .int .i64 yo, .int .i64 yl, .int .i64 yp, .int .i64 yt, .slice uA un uc, .slice uB uk uh, .slice uC uj ui] 52)) [] [] [(fun W => Own W w9.heap.size [.int .i64 yg, .int .i64 yv, .int .i64 ym, .int .i64 ye, .int .i64 yq, .int .i64 yd, .int .i64 ys, .int .i64 yo, .int .i64 yl, .int .i64 yp, .int .i64 yt, .slice uA un uc, .slice uB uk uh, .slice uC uj ui]), (fun W => RgAt W ⟨yg, yv, ym, ye, yq, yd, ys, yo, yl, yp, yt, ybase, yover, ysegs⟩ (uA, un, uc) (uB, uk, uh) (uC, uj, ui)), (fun W => Own W bb [.int .i64 yg, .int .i64 yv, .int .i64 ym, .int .i64 ye, .int .i64 yq, .int .i64 yd, .int .i64 ys, .int .i64 yo, .int .i64 yl, .int .i64 yp, .int .i64 yt, .slice yA yn yc, .slice yB yk yh, .slice yC yj yi]), (fun W => Own W ab [.int .i64 xg, .int .i64 xv, .int .i64 xm, .int .i64 xe, .int .i64 xq, .int .i64 xd, .int .i64 xs, .int .i64 xo, .int .i64 xl, .int .i64 xp, .int .i64 xt, .slice xA xn xc, .slice xB xk xh, .slice xC xj xi]), (fun W => RgAt W ⟨yg, yv, ym, ye, yq, yd, ys, yo, yl, yp, yt, ybase, yover, ysegs⟩ (yA, yn, yc) (yB, yk, yh) (yC, yj, yi)), (fun W => RgAt W ⟨xg, xv, xm, xe, xq, xd, xs, xo, xl, xp, xt, xbase, xover, xsegs⟩ (xA, xn, xc) (xB, xk, xh) (xC, xj, xi)), (fun W => Own W cb [.int .i64 b, .int .i64 s, .int .i64 l]), (fun W => GeoAt W p b s l), (fun W => Own W w.heap.size [.int .i64 z0, .int .i64 z1, .int .i64 z2])]) := Lib.hid (HDs.out.newF #[.int .i64 yg, .int .i64 yv, .int .i64 ym, .int .i64 ye, .int .i64 yq, .int .i64 yd, .int .i64 ys, .int .i64 yo, .int .i64 yl, .int .i64 yp, .int .i64 yt, .slice uA un uc, .slice uB uk uh, .slice uC uj ui] 52 rfl)
      clear HDs
      go_upto_region 14 with (fail)
      generalize hwa : w9.alloc (.cells #[.int .i64 yg, .int .i64 yv, .int .i64 ym, .int .i64 ye, .int .i64 yq, .int .i64 yd, .int .i64 ys, .int .i64 yo, .int .i64 yl, .int .i64 yp, .int .i64 yt, .slice uA un uc, .slice uB uk uh, .slice uC uj ui] 52) = wa at *
      clear hwa
      generalize w9.heap.size = ub at *
      obtain ⟨k0, k1, k2, k3, k4, k5, k6, k7, k8, k9, k10, k11, k12, k13⟩ := cells14 (show Own wa ub _ from (HDt.out.fi 0 rfl))
      obtain ⟨m0, m1, m2, m3, m4, m5, m6, m7, m8, m9, m10, m11, m12, m13⟩ := cells14 (show Own wa bb _ from (HDt.out.fi 2 rfl))
      have o0 := Own.cell (HDt.out.fi 3 rfl) 0 (by simp)
      simp only [List.getElem_cons_zero] at o0
      go_wp2_with fail
      refine (alike_region_same yg yv ym ye yq yd ys yo yl yp yt ybase yover ysegs uA un uc uB uk uh uC uj ui yA yn yc yB yk yh yC yj yi _ (by exact (HDt.out.fi 1 rfl)) (by exact (HDt.out.fi 4 rfl))).mono ?_
      rintro en wb ⟨rfl, hO⟩
      have HDu : Hid (Wd w wb [] [] [(fun W => Own W ub [.int .i64 yg, .int .i64 yv, .int .i64 ym, .int .i64 ye, .int .i64 yq, .int .i64 yd, .int .i64 ys, .int .i64 yo, .int .i64 yl, .int .i64 yp, .int .i64 yt, .slice uA un uc, .slice uB uk uh, .slice uC uj ui]), (fun W => RgAt W ⟨yg, yv, ym, ye, yq, yd, ys, yo, yl, yp, yt, ybase, yover, ysegs⟩ (uA, un, uc) (uB, uk, uh) (uC, uj, ui)), (fun W => Own W bb [.int .i64 yg, .int .i64 yv, .int .i64 ym, .int .i64 ye, .int .i64 yq, .int .i64 yd, .int .i64 ys, .int .i64 yo, .int .i64 yl, .int .i64 yp, .int .i64 yt, .slice yA yn yc, .slice yB yk yh, .slice yC yj yi]), (fun W => Own W ab [.int .i64 xg, .int .i64 xv, .int .i64 xm, .int .i64 xe, .int .i64 xq, .int .i64 xd, .int .i64 xs, .int .i64 xo, .int .i64 xl, .int .i64 xp, .int .i64 xt, .slice xA xn xc, .slice xB xk xh, .slice xC xj xi]), (fun W => RgAt W ⟨yg, yv, ym, ye, yq, yd, ys, yo, yl, yp, yt, ybase, yover, ysegs⟩ (yA, yn, yc) (yB, yk, yh) (yC, yj, yi)), (fun W => RgAt W ⟨xg, xv, xm, xe, xq, xd, xs, xo, xl, xp, xt, xbase, xover, xsegs⟩ (xA, xn, xc) (xB, xk, xh) (xC, xj, xi)), (fun W => Own W cb [.int .i64 b, .int .i64 s, .int .i64 l]), (fun W => GeoAt W p b s l), (fun W => Own W w.heap.size [.int .i64 z0, .int .i64 z1, .int .i64 z2])]) := Lib.hid (HDt.out.keep0 hO)
      clear HDt
      clear hO o0 k0 k1 k2 k3 k4 k5 k6 k7 k8 k9 k10 k11 k12 k13 m0 m1 m2 m3 m4 m5 m6 m7 m8 m9 m10 m11 m12 m13
      go_wp2_with fail
      refine (awake9 _).mono ?_
      rintro en wd ⟨rfl, hO⟩
      have HDv : Hid (Wd w wd [] [] [(fun W => Own W ub [.int .i64 yg, .int .i64 yv, .int .i64 ym, .int .i64 ye, .int .i64 yq, .int .i64 yd, .int .i64 ys, .int .i64 yo, .int .i64 yl, .int .i64 yp, .int .i64 yt, .slice uA un uc, .slice uB uk uh, .slice uC uj ui]), (fun W => RgAt W ⟨yg, yv, ym, ye, yq, yd, ys, yo, yl, yp, yt, ybase, yover, ysegs⟩ (uA, un, uc) (uB, uk, uh) (uC, uj, ui)), (fun W => Own W bb [.int .i64 yg, .int .i64 yv, .int .i64 ym, .int .i64 ye, .int .i64 yq, .int .i64 yd, .int .i64 ys, .int .i64 yo, .int .i64 yl, .int .i64 yp, .int .i64 yt, .slice yA yn yc, .slice yB yk yh, .slice yC yj yi]), (fun W => Own W ab [.int .i64 xg, .int .i64 xv, .int .i64 xm, .int .i64 xe, .int .i64 xq, .int .i64 xd, .int .i64 xs, .int .i64 xo, .int .i64 xl, .int .i64 xp, .int .i64 xt, .slice xA xn xc, .slice xB xk xh, .slice xC xj xi]), (fun W => RgAt W ⟨yg, yv, ym, ye, yq, yd, ys, yo, yl, yp, yt, ybase, yover, ysegs⟩ (yA, yn, yc) (yB, yk, yh) (yC, yj, yi)), (fun W => RgAt W ⟨xg, xv, xm, xe, xq, xd, xs, xo, xl, xp, xt, xbase, xover, xsegs⟩ (xA, xn, xc) (xB, xk, xh) (xC, xj, xi)), (fun W => Own W cb [.int .i64 b, .int .i64 s, .int .i64 l]), (fun W => GeoAt W p b s l), (fun W => Own W w.heap.size [.int .i64 z0, .int .i64 z1, .int .i64 z2])]) := Lib.hid (HDu.out.keep0 hO)
      clear HDu
      go_wp2
      go_ret
      exact ⟨rfl, HDv.out.only⟩
    · as_aux_lemma =>
      have ha1 := HA1.out
      have ha2 := HA2.out
      have ha3 := HA3.out
      rw [hs] at ha1 ha2 ha3
      replace ha1 : bits .and .i64 sp 1 = 0 := ha1
      replace ha2 : bits .and .i64 sp 2 = 2 := ha2
      replace ha3 : bits .and .i64 sp 3 = 2 := ha3
      clear hs
      go_upto_region 11 with (fail)
      obtain ⟨ob2, nb2, q21, q22, q23, hf2⟩ := Own.flipN (show Own w6 gy (bvs ybs) from (HDo.out.boxi 0 rfl)) (j := T - 1) 0 (m := 1) (by decide) (by omega) (by decide)
      rw [show 8 * (T - 1) + 0 = 8 * (ybs.length - 1) by rw [hyb]; omega] at hf2
      have lq2 := Own.lt (HDo.out.boxi 0 rfl)
      go_upto_region 13 with (fail)
      have HDq : Hid (Wd w (World.setCell w6 ⟨gy, T - 1, none⟩ (.int .u8 nb2)) [(gy, (bvs (flipAt ybs (8 * (ybs.length - 1))))), (gx, (bvs xbs))] [] [(fun W => Own W bb [.int .i64 yg, .int .i64 yv, .int .i64 ym, .int .i64 ye, .int .i64 yq, .int .i64 yd, .int .i64 ys, .int .i64 yo, .int .i64 yl, .int .i64 yp, .int .i64 yt, .slice yA yn yc, .slice yB yk yh, .slice yC yj yi]), (fun W => Own W ab [.int .i64 xg, .int .i64 xv, .int .i64 xm, .int .i64 xe, .int .i64 xq, .int .i64 xd, .int .i64 xs, .int .i64 xo, .int .i64 xl, .int .i64 xp, .int .i64 xt, .slice xA xn xc, .slice xB xk xh, .slice xC xj xi]), (fun W => RgAt W ⟨yg, yv, ym, ye, yq, yd, ys, yo, yl, yp, yt, ybase, yover, ysegs⟩ (yA, yn, yc) (yB, yk, yh) (yC, yj, yi)), (fun W => RgAt W ⟨xg, xv, xm, xe, xq, xd, xs, xo, xl, xp, xt, xbase, xover, xsegs⟩ (xA, xn, xc) (xB, xk, xh) (xC, xj, xi)), (fun W => Own W cb [.int .i64 b, .int .i64 s, .int .i64 l]), (fun W => GeoAt W p b s l), (fun W => Own W w.heap.size [.int .i64 z0, .int .i64 z1, .int .i64 z2])]) := Lib.hid (HDo.out.call1 0 rfl hf2 ((Only.refl [gy] w6).set (.inl (by simp)) _))
      clear HDo
      generalize hwa : World.setCell w6 ⟨gy, T - 1, none⟩ (.int .u8 nb2) = w8 at *
      clear hwa q21 q22 q23 hf2 lq2
      have hdx : decRg b s l xbs = some ⟨xg, xv, xm, xe, xq, xd, xs, xo, xl, xp, xt, xbase, xover, xsegs⟩ := HxD.out
      have hdy : decRg b s l (flipAt ybs (8 * (ybs.length - 1))) = none := rg_flipped_end HC.out (by omega) HyC.out
      have hlx : xbs.length = T := by exact hxb
      have hly : (flipAt ybs (8 * (ybs.length - 1))).length = T := by rw [flipAt_length]; exact hyb
      have hp : rgPick (decRg b s l xbs) (decRg b s l (flipAt ybs (8 * (ybs.length - 1)))) = (some ⟨xg, xv, xm, xe, xq, xd, xs, xo, xl, xp, xt, xbase, xover, xsegs⟩, 0) := by rw [hdx, hdy]; rfl
      have HP := Lib.hid hp
      clear hp hdx hdy
      go_wp2_with fail
      refine (region_choose_any p b s l (some ⟨gx, 0, none⟩) T cx xbs (some ⟨gy, 0, none⟩) T cy (flipAt ybs (8 * (ybs.length - 1))) _ (by exact (HDq.out.fi 5 rfl)) HC.out (Row1.of_Own (by exact (HDq.out.boxi 1 rfl)) (by rw [bvs_length]; exact hlx) hcx hmx) (by omega) (Row1.of_Own (by exact (HDq.out.boxi 0 rfl)) (by rw [bvs_length]; exact hly) hcy hmy) (by omega)).mono ?_
      rintro en w9 ⟨⟨uA, un, uc⟩, ⟨uB, uk, uh⟩, ⟨uC, uj, ui⟩, rfl, hr, hO⟩
      rw [HP.out] at hr ⊢
      simp only [Option.getD_some, Option.isSome_some, if_true, Rg.cells] at hr ⊢
      have HDr : Hid (Wd w w9 [] [] [(fun W => Own W bb [.int .i64 yg, .int .i64 yv, .int .i64 ym, .int .i64 ye, .int .i64 yq, .int .i64 yd, .int .i64 ys, .int .i64 yo, .int .i64 yl, .int .i64 yp, .int .i64 yt, .slice yA yn yc, .slice yB yk yh, .slice yC yj yi]), (fun W => Own W ab [.int .i64 xg, .int .i64 xv, .int .i64 xm, .int .i64 xe, .int .i64 xq, .int .i64 xd, .int .i64 xs, .int .i64 xo, .int .i64 xl, .int .i64 xp, .int .i64 xt, .slice xA xn xc, .slice xB xk xh, .slice xC xj xi]), (fun W => RgAt W ⟨yg, yv, ym, ye, yq, yd, ys, yo, yl, yp, yt, ybase, yover, ysegs⟩ (yA, yn, yc) (yB, yk, yh) (yC, yj, yi)), (fun W => RgAt W ⟨xg, xv, xm, xe, xq, xd, xs, xo, xl, xp, xt, xbase, xover, xsegs⟩ (xA, xn, xc) (xB, xk, xh) (xC, xj, xi)), (fun W => Own W cb [.int .i64 b, .int .i64 s, .int .i64 l]), (fun W => GeoAt W p b s l), (fun W => Own W w.heap.size [.int .i64 z0, .int .i64 z1, .int .i64 z2])]) := Lib.hid (HDq.out.drop.keep0 hO)
      have HDs : Hid (Wd w w9 [] [] [(fun W => RgAt W ⟨xg, xv, xm, xe, xq, xd, xs, xo, xl, xp, xt, xbase, xover, xsegs⟩ (uA, un, uc) (uB, uk, uh) (uC, uj, ui)), (fun W => Own W bb [.int .i64 yg, .int .i64 yv, .int .i64 ym, .int .i64 ye, .int .i64 yq, .int .i64 yd, .int .i64 ys, .int .i64 yo, .int .i64 yl, .int .i64 yp, .int .i64 yt, .slice yA yn yc, .slice yB yk yh, .slice yC yj yi]), (fun W => Own W ab [.int .i64 xg, .int .i64 xv, .int .i64 xm, .int .i64 xe, .int .i64 xq, .int .i64 xd, .int .i64 xs, .int .i64 xo, .int .i64 xl, .int .i64 xp, .int .i64 xt, .slice xA xn xc, .slice xB xk xh, .slice xC xj xi]), (fun W => RgAt W ⟨yg, yv, ym, ye, yq, yd, ys, yo, yl, yp, yt, ybase, yover, ysegs⟩ (yA, yn, yc) (yB, yk, yh) (yC, yj, yi)), (fun W => RgAt W ⟨xg, xv, xm, xe, xq, xd, xs, xo, xl, xp, xt, xbase, xover, xsegs⟩ (xA, xn, xc) (xB, xk, xh) (xC, xj, xi)), (fun W => Own W cb [.int .i64 b, .int .i64 s, .int .i64 l]), (fun W => GeoAt W p b s l), (fun W => Own W w.heap.size [.int .i64 z0, .int .i64 z1, .int .i64 z2])]) := Lib.hid (HDr.out.fact0 (hr.fx (by simp) (by simp) (by simp)))
      clear HDr
      clear hr hO
      have HDt : Hid (Wd w (World.alloc w9 (.cells #[.int .i64 xg, .int .i64 xv, .int .i64 xm, .int .i64 xe, .int .i64 xq, .int .i64 xd, .int .i64 xs, .int .i64 xo, .int .i64 xl, .int .i64 xp, .int .i64 xt, .slice uA un uc, .slice uB uk uh, .slice uC uj ui] 52)) [] [] [(fun W => Own W w9.heap.size [.int .i64 xg, .int .i64 xv, .int .i64 xm, .int .i64 xe, .int .i64 xq, .int .i64 xd, .int .i64 xs, .int .i64 xo, .int .i64 xl, .int .i64 xp, .int .i64 xt, .slice uA un uc, .slice uB uk uh, .slice uC uj ui]), (fun W => RgAt W ⟨xg, xv, xm, xe, xq, xd, xs, xo, xl, xp, xt, xbase, xover, xsegs⟩ (uA, un, uc) (uB, uk, uh) (uC, uj, ui)), (fun W => Own W bb [.int .i64 yg, .int .i64 yv, .int .i64 ym, .int .i64 ye, .int .i64 yq, .int .i64 yd, .int .i64 ys, .int .i64 yo, .int .i64 yl, .int .i64 yp, .int .i64 yt, .slice yA yn yc, .slice yB yk yh, .slice yC yj yi]), (fun W => Own W ab [.int .i64 xg, .int .i64 xv, .int .i64 xm, .int .i64 xe, .int .i64 xq, .int .i64 xd, .int .i64 xs, .int .i64 xo, .int .i64 xl, .int .i64 xp, .int .i64 xt, .slice xA xn xc, .slice xB xk xh, .slice xC xj xi]), (fun W => RgAt W ⟨yg, yv, ym, ye, yq, yd, ys, yo, yl, yp, yt, ybase, yover, ysegs⟩ (yA, yn, yc) (yB, yk, yh) (yC, yj, yi)), (fun W => RgAt W ⟨xg, xv, xm, xe, xq, xd, xs, xo, xl, xp, xt, xbase, xover, xsegs⟩ (xA, xn, xc) (xB, xk, xh) (xC, xj, xi)), (fun W => Own W cb [.int .i64 b, .int .i64 s, .int .i64 l]), (fun W => GeoAt W p b s l), (fun W => Own W w.heap.size [.int .i64 z0, .int .i64 z1, .int .i64 z2])]) := Lib.hid (HDs.out.newF #[.int .i64 xg, .int .i64 xv, .int .i64 xm, .int .i64 xe, .int .i64 xq, .int .i64 xd, .int .i64 xs, .int .i64 xo, .int .i64 xl, .int .i64 xp, .int .i64 xt, .slice uA un uc, .slice uB uk uh, .slice uC uj ui] 52 rfl)
      clear HDs
      go_upto_region 14 with (fail)
      generalize hwa : w9.alloc (.cells #[.int .i64 xg, .int .i64 xv, .int .i64 xm, .int .i64 xe, .int .i64 xq, .int .i64 xd, .int .i64 xs, .int .i64 xo, .int .i64 xl, .int .i64 xp, .int .i64 xt, .slice uA un uc, .slice uB uk uh, .slice uC uj ui] 52) = wa at *
      clear hwa
      generalize w9.heap.size = ub at *
      obtain ⟨k0, k1, k2, k3, k4, k5, k6, k7, k8, k9, k10, k11, k12, k13⟩ := cells14 (show Own wa ub _ from (HDt.out.fi 0 rfl))
      obtain ⟨m0, m1, m2, m3, m4, m5, m6, m7, m8, m9, m10, m11, m12, m13⟩ := cells14 (show Own wa ab _ from (HDt.out.fi 3 rfl))
      have o0 := Own.cell (HDt.out.fi 2 rfl) 0 (by simp)
      simp only [List.getElem_cons_zero] at o0
      go_wp2_with fail
      refine (alike_region_same xg xv xm xe xq xd xs xo xl xp xt xbase xover xsegs uA un uc uB uk uh uC uj ui xA xn xc xB xk xh xC xj xi _ (by exact (HDt.out.fi 1 rfl)) (by exact (HDt.out.fi 5 rfl))).mono ?_
      rintro en wb ⟨rfl, hO⟩
      have HDu : Hid (Wd w wb [] [] [(fun W => Own W ub [.int .i64 xg, .int .i64 xv, .int .i64 xm, .int .i64 xe, .int .i64 xq, .int .i64 xd, .int .i64 xs, .int .i64 xo, .int .i64 xl, .int .i64 xp, .int .i64 xt, .slice uA un uc, .slice uB uk uh, .slice uC uj ui]), (fun W => RgAt W ⟨xg, xv, xm, xe, xq, xd, xs, xo, xl, xp, xt, xbase, xover, xsegs⟩ (uA, un, uc) (uB, uk, uh) (uC, uj, ui)), (fun W => Own W bb [.int .i64 yg, .int .i64 yv, .int .i64 ym, .int .i64 ye, .int .i64 yq, .int .i64 yd, .int .i64 ys, .int .i64 yo, .int .i64 yl, .int .i64 yp, .int .i64 yt, .slice yA yn yc, .slice yB yk yh, .slice yC yj yi]), (fun W => Own W ab [.int .i64 xg, .int .i64 xv, .int .i64 xm, .int .i64 xe, .int .i64 xq, .int .i64 xd, .int .i64 xs, .int .i64 xo, .int .i64 xl, .int .i64 xp, .int .i64 xt, .slice xA xn xc, .slice xB xk xh, .slice xC xj xi]), (fun W => RgAt W ⟨yg, yv, ym, ye, yq, yd, ys, yo, yl, yp, yt, ybase, yover, ysegs⟩ (yA, yn, yc) (yB, yk, yh) (yC, yj, yi)), (fun W => RgAt W ⟨xg, xv, xm, xe, xq, xd, xs, xo, xl, xp, xt, xbase, xover, xsegs⟩ (xA, xn, xc) (xB, xk, xh) (xC, xj, xi)), (fun W => Own W cb [.int .i64 b, .int .i64 s, .int .i64 l]), (fun W => GeoAt W p b s l), (fun W => Own W w.heap.size [.int .i64 z0, .int .i64 z1, .int .i64 z2])]) := Lib.hid (HDt.out.keep0 hO)
      clear HDt
      clear hO o0 k0 k1 k2 k3 k4 k5 k6 k7 k8 k9 k10 k11 k12 k13 m0 m1 m2 m3 m4 m5 m6 m7 m8 m9 m10 m11 m12 m13
      go_wp2_with fail
      refine (awake9 _).mono ?_
      rintro en wd ⟨rfl, hO⟩
      have HDv : Hid (Wd w wd [] [] [(fun W => Own W ub [.int .i64 xg, .int .i64 xv, .int .i64 xm, .int .i64 xe, .int .i64 xq, .int .i64 xd, .int .i64 xs, .int .i64 xo, .int .i64 xl, .int .i64 xp, .int .i64 xt, .slice uA un uc, .slice uB uk uh, .slice uC uj ui]), (fun W => RgAt W ⟨xg, xv, xm, xe, xq, xd, xs, xo, xl, xp, xt, xbase, xover, xsegs⟩ (uA, un, uc) (uB, uk, uh) (uC, uj, ui)), (fun W => Own W bb [.int .i64 yg, .int .i64 yv, .int .i64 ym, .int .i64 ye, .int .i64 yq, .int .i64 yd, .int .i64 ys, .int .i64 yo, .int .i64 yl, .int .i64 yp, .int .i64 yt, .slice yA yn yc, .slice yB yk yh, .slice yC yj yi]), (fun W => Own W ab [.int .i64 xg, .int .i64 xv, .int .i64 xm, .int .i64 xe, .int .i64 xq, .int .i64 xd, .int .i64 xs, .int .i64 xo, .int .i64 xl, .int .i64 xp, .int .i64 xt, .slice xA xn xc, .slice xB xk xh, .slice xC xj xi]), (fun W => RgAt W ⟨yg, yv, ym, ye, yq, yd, ys, yo, yl, yp, yt, ybase, yover, ysegs⟩ (yA, yn, yc) (yB, yk, yh) (yC, yj, yi)), (fun W => RgAt W ⟨xg, xv, xm, xe, xq, xd, xs, xo, xl, xp, xt, xbase, xover, xsegs⟩ (xA, xn, xc) (xB, xk, xh) (xC, xj, xi)), (fun W => Own W cb [.int .i64 b, .int .i64 s, .int .i64 l]), (fun W => GeoAt W p b s l), (fun W => Own W w.heap.size [.int .i64 z0, .int .i64 z1, .int .i64 z2])]) := Lib.hid (HDu.out.keep0 hO)
      clear HDu
      go_wp2
      go_ret
      exact ⟨rfl, HDv.out.only⟩
    · as_aux_lemma =>
      have ha1 := HA1.out
      have ha2 := HA2.out
      have ha3 := HA3.out
      rw [hs] at ha1 ha2 ha3
      replace ha1 : bits .and .i64 sp 1 = 1 := ha1
      replace ha2 : bits .and .i64 sp 2 = 2 := ha2
      replace ha3 : bits .and .i64 sp 3 = 3 := ha3
      clear hs
      obtain ⟨ob1, nb1, q11, q12, q13, hf1⟩ := Own.flipN (show Own w6 gx (bvs xbs) from (HDo.out.boxi 1 rfl)) (j := 2) 2 (m := 4) (by decide) (by omega) (by decide)
      have lq1 := Own.lt (HDo.out.boxi 1 rfl)
      go_upto_region 11 with (fail)
      have HDp : Hid (Wd w (World.setCell w6 ⟨gx, 2, none⟩ (.int .u8 nb1)) [(gy, (bvs ybs)), (gx, (bvs (flipAt xbs 18)))] [] [(fun W => Own W bb [.int .i64 yg, .int .i64 yv, .int .i64 ym, .int .i64 ye, .int .i64 yq, .int .i64 yd, .int .i64 ys, .int .i64 yo, .int .i64 yl, .int .i64 yp, .int .i64 yt, .slice yA yn yc, .slice yB yk yh, .slice yC yj yi]), (fun W => Own W ab [.int .i64 xg, .int .i64 xv, .int .i64 xm, .int .i64 xe, .int .i64 xq, .int .i64 xd, .int .i64 xs, .int .i64 xo, .int .i64 xl, .int .i64 xp, .int .i64 xt, .slice xA xn xc, .slice xB xk xh, .slice xC xj xi]), (fun W => RgAt W ⟨yg, yv, ym, ye, yq, yd, ys, yo, yl, yp, yt, ybase, yover, ysegs⟩ (yA, yn, yc) (yB, yk, yh) (yC, yj, yi)), (fun W => RgAt W ⟨xg, xv, xm, xe, xq, xd, xs, xo, xl, xp, xt, xbase, xover, xsegs⟩ (xA, xn, xc) (xB, xk, xh) (xC, xj, xi)), (fun W => Own W cb [.int .i64 b, .int .i64 s, .int .i64 l]), (fun W => GeoAt W p b s l), (fun W => Own W w.heap.size [.int .i64 z0, .int .i64 z1, .int .i64 z2])]) := Lib.hid (HDo.out.call1 1 rfl hf1 ((Only.refl [gx] w6).set (.inl (by simp)) _))
      clear HDo
      generalize hwa : World.setCell w6 ⟨gx, 2, none⟩ (.int .u8 nb1) = w7 at *
      clear hwa q11 q12 q13 hf1 lq1
      obtain ⟨ob2, nb2, q21, q22, q23, hf2⟩ := Own.flipN (show Own w7 gy (bvs ybs) from (HDp.out.boxi 0 rfl)) (j := T - 1) 0 (m := 1) (by decide) (by omega) (by decide)
      rw [show 8 * (T - 1) + 0 = 8 * (ybs.length - 1) by rw [hyb]; omega] at hf2
      have lq2 := Own.lt (HDp.out.boxi 0 rfl)
      go_upto_region 13 with (fail)
      have HDq : Hid (Wd w (World.setCell w7 ⟨gy, T - 1, none⟩ (.int .u8 nb2)) [(gy, (bvs (flipAt ybs (8 * (ybs.length - 1))))), (gx, (bvs (flipAt xbs 18)))] [] [(fun W => Own W bb [.int .i64 yg, .int .i64 yv, .int .i64 ym, .int .i64 ye, .int .i64 yq, .int .i64 yd, .int .i64 ys, .int .i64 yo, .int .i64 yl, .int .i64 yp, .int .i64 yt, .slice yA yn yc, .slice yB yk yh, .slice yC yj yi]), (fun W => Own W ab [.int .i64 xg, .int .i64 xv, .int .i64 xm, .int .i64 xe, .int .i64 xq, .int .i64 xd, .int .i64 xs, .int .i64 xo, .int .i64 xl, .int .i64 xp, .int .i64 xt, .slice xA xn xc, .slice xB xk xh, .slice xC xj xi]), (fun W => RgAt W ⟨yg, yv, ym, ye, yq, yd, ys, yo, yl, yp, yt, ybase, yover, ysegs⟩ (yA, yn, yc) (yB, yk, yh) (yC, yj, yi)), (fun W => RgAt W ⟨xg, xv, xm, xe, xq, xd, xs, xo, xl, xp, xt, xbase, xover, xsegs⟩ (xA, xn, xc) (xB, xk, xh) (xC, xj, xi)), (fun W => Own W cb [.int .i64 b, .int .i64 s, .int .i64 l]), (fun W => GeoAt W p b s l), (fun W => Own W w.heap.size [.int .i64 z0, .int .i64 z1, .int .i64 z2])]) := Lib.hid (HDp.out.call1 0 rfl hf2 ((Only.refl [gy] w7).set (.inl (by simp)) _))
      clear HDp
      generalize hwa : World.setCell w7 ⟨gy, T - 1, none⟩ (.int .u8 nb2) = w8 at *
      clear hwa q21 q22 q23 hf2 lq2
      have hdx : decRg b s l (flipAt xbs 18) = none := rg_flipped HC.out (by omega) HxC.out
      have hdy : decRg b s l (flipAt ybs (8 * (ybs.length - 1))) = none := rg_flipped_end HC.out (by omega) HyC.out
      have hlx : (flipAt xbs 18).length = T := by rw [flipAt_length]; exact hxb
      have hly : (flipAt ybs (8 * (ybs.length - 1))).length = T := by rw [flipAt_length]; exact hyb
      have hp : rgPick (decRg b s l (flipAt xbs 18)) (decRg b s l (flipAt ybs (8 * (ybs.length - 1)))) = (none, 0) := by rw [hdx, hdy]; rfl
      have HP := Lib.hid hp
      clear hp hdx hdy
      go_wp2_with fail
      refine (region_choose_any p b s l (some ⟨gx, 0, none⟩) T cx (flipAt xbs 18) (some ⟨gy, 0, none⟩) T cy (flipAt ybs (8 * (ybs.length - 1))) _ (by exact (HDq.out.fi 5 rfl)) HC.out (Row1.of_Own (by exact (HDq.out.boxi 1 rfl)) (by rw [bvs_length]; exact hlx) hcx hmx) (by omega) (Row1.of_Own (by exact (HDq.out.boxi 0 rfl)) (by rw [bvs_length]; exact hly) hcy hmy) (by omega)).mono ?_
      rintro en w9 ⟨⟨uA, un, uc⟩, ⟨uB, uk, uh⟩, ⟨uC, uj, ui⟩, rfl, hr, hO⟩
      rw [HP.out] at hr ⊢
      simp only [Option.getD_none, Option.isSome_none, if_true, rgZero, Rg.cells] at hr ⊢
      have HDr : Hid (Wd w w9 [] [] [(fun W => Own W bb [.int .i64 yg, .int .i64 yv, .int .i64 ym, .int .i64 ye, .int .i64 yq, .int .i64 yd, .int .i64 ys, .int .i64 yo, .int .i64 yl, .int .i64 yp, .int .i64 yt, .slice yA yn yc, .slice yB yk yh, .slice yC yj yi]), (fun W => Own W ab [.int .i64 xg, .int .i64 xv, .int .i64 xm, .int .i64 xe, .int .i64 xq, .int .i64 xd, .int .i64 xs, .int .i64 xo, .int .i64 xl, .int .i64 xp, .int .i64 xt, .slice xA xn xc, .slice xB xk xh, .slice xC xj xi]), (fun W => RgAt W ⟨yg, yv, ym, ye, yq, yd, ys, yo, yl, yp, yt, ybase, yover, ysegs⟩ (yA, yn, yc) (yB, yk, yh) (yC, yj, yi)), (fun W => RgAt W ⟨xg, xv, xm, xe, xq, xd, xs, xo, xl, xp, xt, xbase, xover, xsegs⟩ (xA, xn, xc) (xB, xk, xh) (xC, xj, xi)), (fun W => Own W cb [.int .i64 b, .int .i64 s, .int .i64 l]), (fun W => GeoAt W p b s l), (fun W => Own W w.heap.size [.int .i64 z0, .int .i64 z1, .int .i64 z2])]) := Lib.hid (HDq.out.drop.keep0 hO)
      clear hr hO
      have HDt : Hid (Wd w (World.alloc w9 (.cells #[.int .i64 0, .int .i64 0, .int .i64 0, .int .i64 0, .int .i64 0, .int .i64 0, .int .i64 0, .int .i64 0, .int .i64 0, .int .i64 0, .int .i64 0, .slice uA un uc, .slice uB uk uh, .slice uC uj ui] 52)) [] [] [(fun W => Own W w9.heap.size [.int .i64 0, .int .i64 0, .int .i64 0, .int .i64 0, .int .i64 0, .int .i64 0, .int .i64 0, .int .i64 0, .int .i64 0, .int .i64 0, .int .i64 0, .slice uA un uc, .slice uB uk uh, .slice uC uj ui]), (fun W => Own W bb [.int .i64 yg, .int .i64 yv, .int .i64 ym, .int .i64 ye, .int .i64 yq, .int .i64 yd, .int .i64 ys, .int .i64 yo, .int .i64 yl, .int .i64 yp, .int .i64 yt, .slice yA yn yc, .slice yB yk yh, .slice yC yj yi]), (fun W => Own W ab [.int .i64 xg, .int .i64 xv, .int .i64 xm, .int .i64 xe, .int .i64 xq, .int .i64 xd, .int .i64 xs, .int .i64 xo, .int .i64 xl, .int .i64 xp, .int .i64 xt, .slice xA xn xc, .slice xB xk xh, .slice xC xj xi]), (fun W => RgAt W ⟨yg, yv, ym, ye, yq, yd, ys, yo, yl, yp, yt, ybase, yover, ysegs⟩ (yA, yn, yc) (yB, yk, yh) (yC, yj, yi)), (fun W => RgAt W ⟨xg, xv, xm, xe, xq, xd, xs, xo, xl, xp, xt, xbase, xover, xsegs⟩ (xA, xn, xc) (xB, xk, xh) (xC, xj, xi)), (fun W => Own W cb [.int .i64 b, .int .i64 s, .int .i64 l]), (fun W => GeoAt W p b s l), (fun W => Own W w.heap.size [.int .i64 z0, .int .i64 z1, .int .i64 z2])]) := Lib.hid (HDr.out.newF #[.int .i64 0, .int .i64 0, .int .i64 0, .int .i64 0, .int .i64 0, .int .i64 0, .int .i64 0, .int .i64 0, .int .i64 0, .int .i64 0, .int .i64 0, .slice uA un uc, .slice uB uk uh, .slice uC uj ui] 52 rfl)
      clear HDr
      go_upto_region 14 with (fail)
      generalize hwa : w9.alloc (.cells #[.int .i64 0, .int .i64 0, .int .i64 0, .int .i64 0, .int .i64 0, .int .i64 0, .int .i64 0, .int .i64 0, .int .i64 0, .int .i64 0, .int .i64 0, .slice uA un uc, .slice uB uk uh, .slice uC uj ui] 52) = wa at *
      clear hwa
      generalize w9.heap.size = ub at *
      go_wp2_with fail
      refine (awake9 _).mono ?_
      rintro en wd ⟨rfl, hO⟩
      have HDv : Hid (Wd w wd [] [] [(fun W => Own W ub [.int .i64 0, .int .i64 0, .int .i64 0, .int .i64 0, .int .i64 0, .int .i64 0, .int .i64 0, .int .i64 0, .int .i64 0, .int .i64 0, .int .i64 0, .slice uA un uc, .slice uB uk uh, .slice uC uj ui]), (fun W => Own W bb [.int .i64 yg, .int .i64 yv, .int .i64 ym, .int .i64 ye, .int .i64 yq, .int .i64 yd, .int .i64 ys, .int .i64 yo, .int .i64 yl, .int .i64 yp, .int .i64 yt, .slice yA yn yc, .slice yB yk yh, .slice yC yj yi]), (fun W => Own W ab [.int .i64 xg, .int .i64 xv, .int .i64 xm, .int .i64 xe, .int .i64 xq, .int .i64 xd, .int .i64 xs, .int .i64 xo, .int .i64 xl, .int .i64 xp, .int .i64 xt, .slice xA xn xc, .slice xB xk xh, .slice xC xj xi]), (fun W => RgAt W ⟨yg, yv, ym, ye, yq, yd, ys, yo, yl, yp, yt, ybase, yover, ysegs⟩ (yA, yn, yc) (yB, yk, yh) (yC, yj, yi)), (fun W => RgAt W ⟨xg, xv, xm, xe, xq, xd, xs, xo, xl, xp, xt, xbase, xover, xsegs⟩ (xA, xn, xc) (xB, xk, xh) (xC, xj, xi)), (fun W => Own W cb [.int .i64 b, .int .i64 s, .int .i64 l]), (fun W => GeoAt W p b s l), (fun W => Own W w.heap.size [.int .i64 z0, .int .i64 z1, .int .i64 z2])]) := Lib.hid (HDt.out.keep0 hO)
      clear HDt
      go_wp2
      go_ret
      exact ⟨rfl, HDv.out.only⟩
theorem walk (a0_0 a0_1 a0_2 : Int) (a1 : Option Addr) (len1 cap1 : Nat) (z1 : List Int) (a2 : Option Addr) (len2 cap2 : Nat) (z2 : List Int) (a3 : Int) (w : World) (w0_0 : (Lit.int .i64 a0_0).wf = true) (w0_1 : (Lit.int .i64 a0_1).wf = true) (w0_2 : (Lit.int .i64 a0_2).wf = true) (w1 : IsRow .i64 w a1 len1 cap1 z1) (w2 : IsRow .i64 w a2 len2 cap2 z2) (w3 : (Lit.int .i64 a3).wf = true) : Calls Try.prog 4 #[.agg #[.int .i64 a0_0, .int .i64 a0_1, .int .i64 a0_2], .slice a1 len1 cap1, .slice a2 len2 cap2, .int .i64 a3] w fun e w' => e = .returned (.bool true) ∧ Below w.heap.size w w' := by
  refine (chooses a0_0 a0_1 a0_2 a3 a1 len1 cap1 _ a2 len2 cap2 _ w w0_0 w0_1 w0_2 w1.ins w1.wf w2.ins w2.wf).mono ?_
  rintro e w' ⟨rfl, hO⟩
  exact ⟨rfl, hO.below0⟩

set_option maxRecDepth 100000 in
theorem lifted (os : Os) (started : os.Started) (H : Type) (enc : TypeId × Value → H) :
    ReturnsInHanded {} Try.checked os 4 .any (Rows.regionChoosesSpec.pre6 enc Try.prog Try.f4 Rows.regionChoosesRow.domain false) (Rows.regionChoosesSpec.post enc Try.prog Try.f4 false true false false) := by
  refine returnsInHanded_of_change (C := Try.checked) own started (by kernel_rfl) Try.func4
    (ChangeSpec.witness6 (enc := enc) (C := Try.checked) false ⟨#[], #[.agg #[.int .i64 0, .int .i64 0, .int .i64 0], .slice none 0 0, .slice none 0 0, .int .i64 0], []⟩ 8 (by kernel_rfl) (by kernel_rfl) (by kernel_rfl) (by kernel_rfl)) ?_
  intro W base args ds gs before hval0 hW hcnd _
  have hval : ∀ (j : Nat) t v, Try.f4.params[j]? = some t → args[j]? = some v → Value.okWide Try.prog W .any base t v := hval0
  have hW' := hW
  obtain ⟨p, q, hA0, hV, rfl, hfz, hnd⟩ := hW
  have hA : DataW.TrodAll enc Try.prog W 0 (fun _ => true) true Try.f4.params.toList args.toList ds p := hA0
  rw [Try.params4] at hA hval
  obtain ⟨v0, vs0, d0, ds0, p0, q0, hargs, rfl, rfl, h0, r0⟩ := trodAll_cons hA
  obtain ⟨v1, vs1, d1, ds1, p1, q1, rfl, rfl, rfl, h1, r1⟩ := trodAll_cons r0
  obtain ⟨v2, vs2, d2, ds2, p2, q2, rfl, rfl, rfl, h2, r2⟩ := trodAll_cons r1
  obtain ⟨v3, vs3, d3, ds3, p3, q3, rfl, rfl, rfl, h3, r3⟩ := trodAll_cons r2
  obtain ⟨rfl, rfl, rfl⟩ := trodAll_nil r3
  obtain rfl : args = #[v0, v1, v2, v3] := by cases args; simp_all
  obtain ⟨rfl, rfl⟩ := trodVars_none hV
  have k0 := h0
  have lt0 : ∀ x ∈ p0, x.block < W.heap.size := by obtain ⟨m, hm⟩ := k0; exact DataW.trod_lt m _ _ _ hm
  obtain ⟨a0_0, a0_1, a0_2, rfl, w0_0, w0_1, w0_2⟩ := open_arr3 (okWide_array Try.underlying42 (hval 0 42 v0 rfl rfl)) h0
  obtain ⟨a1, len1, cap1, rfl⟩ := okWide_slice Try.underlying36 (hval 1 36 v1 rfl rfl)
  have k1 := h1
  have lt1 : ∀ x ∈ p1, x.block < W.heap.size := by obtain ⟨m, hm⟩ := k1; exact DataW.trod_lt m _ _ _ hm
  obtain ⟨z1, w1⟩ : ∃ zs, IsRow .i64 W a1 len1 cap1 zs := by
    obtain ⟨fuel, hf⟩ := h1
    rcases open_ints Try.underlying36 Try.underlying3 (by kernel_rfl) hf with ⟨hcs, _⟩ | ⟨x, l, c, zs, hcs, _, hl, hm, hz, _, hcell, hwz⟩
    · simp [Value.cells] at hcs
      obtain ⟨rfl, rfl, rfl⟩ := hcs
      exact ⟨[], .inl ⟨rfl, rfl, rfl, rfl⟩⟩
    · simp [Value.cells] at hcs
      obtain ⟨rfl, rfl, rfl⟩ := hcs
      exact ⟨zs, .inr ⟨_, rfl, hl, hm, by simpa using hz, hcell, hwz⟩⟩
  obtain ⟨a2, len2, cap2, rfl⟩ := okWide_slice Try.underlying36 (hval 2 36 v2 rfl rfl)
  have k2 := h2
  have lt2 : ∀ x ∈ p2, x.block < W.heap.size := by obtain ⟨m, hm⟩ := k2; exact DataW.trod_lt m _ _ _ hm
  obtain ⟨z2, w2⟩ : ∃ zs, IsRow .i64 W a2 len2 cap2 zs := by
    obtain ⟨fuel, hf⟩ := h2
    rcases open_ints Try.underlying36 Try.underlying3 (by kernel_rfl) hf with ⟨hcs, _⟩ | ⟨x, l, c, zs, hcs, _, hl, hm, hz, _, hcell, hwz⟩
    · simp [Value.cells] at hcs
      obtain ⟨rfl, rfl, rfl⟩ := hcs
      exact ⟨[], .inl ⟨rfl, rfl, rfl, rfl⟩⟩
    · simp [Value.cells] at hcs
      obtain ⟨rfl, rfl, rfl⟩ := hcs
      exact ⟨zs, .inr ⟨_, rfl, hl, hm, by simpa using hz, hcell, hwz⟩⟩
  obtain ⟨a3, rfl, rfl, rfl, w3⟩ := open_int Try.underlying3 (hval 3 3 v3 rfl rfl) h3
  clear hA0 hval0
  refine (walk a0_0 a0_1 a0_2 a1 len1 cap1 z1 a2 len2 cap2 z2 a3 W w0_0 w0_1 w0_2 w1 w2 w3).mono fun e W' ⟨he, bel⟩ => ?_
  subst he
  exact ⟨_, rfl, _, _, _, [], _, [], hW', trodAll_mk1 (shut_bool Try.underlying4 _), (trodAll_cons_mk (Below.trod laidOut (by kernel_rfl) (of_decide_eq_true (by kernel_rfl)) k0 bel lt0) (trodAll_cons_mk (Below.trod laidOut (by kernel_rfl) (of_decide_eq_true (by kernel_rfl)) k1 bel lt1) (trodAll_cons_mk (Below.trod laidOut (by kernel_rfl) (of_decide_eq_true (by kernel_rfl)) k2 bel lt2) (trodAll_cons_mk (shut_int Try.underlying3 w3) trodAll_mk0)))), rfl, bel.frame _, fun h => by cases h⟩

set_option maxRecDepth 100000 in
theorem closed : joinedFacts Try.pinned.checked.prog 4 Try.f4 Rows.regionChoosesSpec Rows.regionChoosesRow = true := by
  show joinedFacts Try.prog 4 Try.f4 Rows.regionChoosesSpec Rows.regionChoosesRow = true
  unfold joinedFacts
  simp only [enter_may, enter_lifts, enter_make]
  kernel_rfl

theorem over : Rows.regionChoosesRow.holds Try.pinned (OpenSpec.ofChange Rows.regionChoosesSpec) :=
  OpenClaim.holds_of_wide 4 Try.f4 rfl rfl rfl rfl rfl rfl rfl ⟨rfl, rfl, rfl, rfl, rfl⟩ rfl rfl rfl rfl rfl (by kernel_rfl) Try.func4 closed
    (of_decide_eq_true (by kernel_rfl)) (by unfold Func.isWrapper; first | (rw [if_pos (by decide +kernel)]; kernel_rfl) | (rw [if_neg (by decide +kernel)]; exact ⟨rfl, rfl⟩))
    (fun os started H enc _ => lifted os started H enc)

theorem proved : Rows.RegionChoosesSaid := over

end Go.Proofs.Ytkpagiokjihmhaa.regionChooses
