
/- Contract of region.Choose. Printed by mkregk.py. -/
import Derived.Test.YtkpagiokjihmhaaRegJ
set_option linter.unusedVariables false
set_option linter.unusedSimpArgs false
namespace Go.Kn
open Go Go.RowKit
/-- which of two is chosen, and its place -/
def rgPick (a b : Option Rg) : Option Rg × Int :=
  match a, b with
  | some x, some y => if y.g ≤ x.g then (some x, 0) else (some y, 1)
  | some x, none => (some x, 0)
  | none, some y => (some y, 1)
  | none, none => (none, 0)
def RcSays (w : World) (o : Option Rg × Int) (e : Ending) (w' : World) : Prop :=
  ∃ B O S : Sl, e = .returned (.tuple #[.agg ((o.1.getD rgZero).cells B O S).toArray, .int .i64 o.2, .int .i64 (if o.1.isSome then 0 else 2)]) ∧ RgAt w' (o.1.getD rgZero) B O S ∧ Only [] w w'
end Go.Kn
namespace Go.Proofs.Ytkpagiokjihmhaa
open Go Go.RowKit Go.Kn

set_option maxRecDepth 100000 in
set_option maxHeartbeats 16000000 in
theorem region_choose_any (q : Nat) (b s l : Int) (A : Option Addr) (n c : Nat) (bs : List UInt8) (A' : Option Addr) (n' c' : Nat) (bs' : List UInt8) (w : World) (hg : GeoAt w q b s l) (hc : CfOk b s l) (hi : Bys w A n c bs) (hn : n ≤ 65536) (hi' : Bys w A' n' c' bs') (hn' : n' ≤ 65536) :
    Calls Try.prog 20 #[.pointer (some ⟨q, 0, none⟩), .slice A n c, .slice A' n' c'] w (RcSays w (rgPick (decRg b s l bs) (decRg b s l bs'))) := by
  have hres : Try.f20.results = #[.cell 6 52, .tmp 7, .tmp 8] := by kernel_rfl
  have HRES := Lib.hid hres
  have HI := Lib.hid hi
  have HI' := Lib.hid hi'
  have HG := Lib.hid hg
  have HC := Lib.hid hc
  have hql := hg.lt
  obtain ⟨o1, ho1⟩ : ∃ o, decRg b s l bs = o := ⟨_, rfl⟩
  obtain ⟨o2, ho2⟩ : ∃ o, decRg b s l bs' = o := ⟨_, rfl⟩
  have HK1 : Hid (∀ W : World, Only [] w W → Calls Try.prog 69 #[.pointer (some ⟨q, 0, none⟩), .slice A n c] W (RgSays W o1 2)) := Lib.hid fun W hW => by
    have h := region_dec_any q b s l A n c bs W (hg.keep0 hW) hc (hi.keep0 hW) hn
    rw [ho1] at h
    exact h
  have HK2 : Hid (∀ W : World, Only [] w W → Calls Try.prog 69 #[.pointer (some ⟨q, 0, none⟩), .slice A' n' c'] W (RgSays W o2 2)) := Lib.hid fun W hW => by
    have h := region_dec_any q b s l A' n' c' bs' W (hg.keep0 hW) hc (hi'.keep0 hW) hn'
    rw [ho2] at h
    exact h
  rw [ho1, ho2]
  obtain ⟨pk, hpk⟩ : ∃ o, rgPick o1 o2 = o := ⟨_, rfl⟩
  have HPK := Lib.hid hpk
  rw [hpk]
  clear hpk hi hi' hg hc hres ho1 ho2
  have hB0 := Own.new w #[.int .i64 0, .int .i64 0, .int .i64 0, .int .i64 0, .int .i64 0, .int .i64 0, .int .i64 0, .int .i64 0, .int .i64 0, .int .i64 0, .int .i64 0, .slice none 0 0, .slice none 0 0, .slice none 0 0] 52
  have hO0 := (Only.refl [] w).alloc (.cells #[.int .i64 0, .int .i64 0, .int .i64 0, .int .i64 0, .int .i64 0, .int .i64 0, .int .i64 0, .int .i64 0, .int .i64 0, .int .i64 0, .int .i64 0, .slice none 0 0, .slice none 0 0, .slice none 0 0] 52)
  have hl0 := hB0.lt
  go_enter Try.func20, Try.ntmps20
  go_wp2_with fail
  have hw0s : (w.alloc (.cells #[.int .i64 0, .int .i64 0, .int .i64 0, .int .i64 0, .int .i64 0, .int .i64 0, .int .i64 0, .int .i64 0, .int .i64 0, .int .i64 0, .int .i64 0, .slice none 0 0, .slice none 0 0, .slice none 0 0] 52)).heap.size = w.heap.size + 1 := by simp
  generalize hfe : w.heap.size = f at *
  generalize w.alloc (.cells #[.int .i64 0, .int .i64 0, .int .i64 0, .int .i64 0, .int .i64 0, .int .i64 0, .int .i64 0, .int .i64 0, .int .i64 0, .int .i64 0, .int .i64 0, .slice none 0 0, .slice none 0 0, .slice none 0 0] 52) = w0 at *
  refine (HK1.out _ hO0).mono ?_
  rintro en w1 ⟨⟨xA, xn, xc⟩, ⟨xB, xk, xh⟩, ⟨xC, xj, xi⟩, rfl, hr1, hf1, hO1⟩
  obtain ⟨e1, he1⟩ : ∃ x : Int, (if o1.isSome = true then (0 : Int) else 2) = x := ⟨_, rfl⟩
  have HE1 := Lib.hid he1
  obtain ⟨r1, hre1⟩ : ∃ r, o1.getD rgZero = r := ⟨_, rfl⟩
  have HR1 := Lib.hid hre1
  rw [hre1] at hr1 ⊢
  rw [he1]
  obtain ⟨xg, xv, xm, xe, xsq, xd, xps, xpo, xpl, xpp, xpm, xbase, xover, xsegs⟩ := r1
  simp only [Rg.cells] at hr1 ⊢
  dsimp only at hf1
  have HX1 := Lib.hid (hr1.keep0 ((Only.refl _ _).alloc (.cells #[.int .i64 xg, .int .i64 xv, .int .i64 xm, .int .i64 xe, .int .i64 xsq, .int .i64 xd, .int .i64 xps, .int .i64 xpo, .int .i64 xpl, .int .i64 xpp, .int .i64 xpm, .slice xA xn xc, .slice xB xk xh, .slice xC xj xi] 52)))
  have HF1 := Lib.hid hf1
  have HB1 := Lib.hid ((hB0.keep0 hO1).alloc (.cells #[.int .i64 xg, .int .i64 xv, .int .i64 xm, .int .i64 xe, .int .i64 xsq, .int .i64 xd, .int .i64 xps, .int .i64 xpo, .int .i64 xpl, .int .i64 xpp, .int .i64 xpm, .slice xA xn xc, .slice xB xk xh, .slice xC xj xi] 52))
  have HY1 := Lib.hid (Own.new w1 #[.int .i64 xg, .int .i64 xv, .int .i64 xm, .int .i64 xe, .int .i64 xsq, .int .i64 xd, .int .i64 xps, .int .i64 xpo, .int .i64 xpl, .int .i64 xpp, .int .i64 xpm, .slice xA xn xc, .slice xB xk xh, .slice xC xj xi] 52)
  have HO1 := Lib.hid ((hO0.trans' hO1).alloc (.cells #[.int .i64 xg, .int .i64 xv, .int .i64 xm, .int .i64 xe, .int .i64 xsq, .int .i64 xd, .int .i64 xps, .int .i64 xpo, .int .i64 xpl, .int .i64 xpp, .int .i64 xpm, .slice xA xn xc, .slice xB xk xh, .slice xC xj xi] 52))
  have hl1 := (hB0.keep0 hO1).lt
  clear hr1 hf1 hO1 hB0 hO0 he1 hre1
  go_wp2_with fail
  refine (HK2.out _ HO1.out).mono ?_
  rintro en w2 ⟨⟨yA, yn, yc⟩, ⟨yB, yk, yh⟩, ⟨yC, yj, yi⟩, rfl, hr2, hf2, hO2⟩
  obtain ⟨e2, he2⟩ : ∃ x : Int, (if o2.isSome = true then (0 : Int) else 2) = x := ⟨_, rfl⟩
  have HE2 := Lib.hid he2
  obtain ⟨r2, hre2⟩ : ∃ r, o2.getD rgZero = r := ⟨_, rfl⟩
  have HR2 := Lib.hid hre2
  rw [hre2] at hr2 ⊢
  rw [he2]
  obtain ⟨yg, yv, ym, ye, ysq, yd, yps, ypo, ypl, ypp, ypm, ybase, yover, ysegs⟩ := r2
  simp only [Rg.cells] at hr2 ⊢
  dsimp only at hf2
  have hsz2 : (w1.alloc (.cells #[.int .i64 xg, .int .i64 xv, .int .i64 xm, .int .i64 xe, .int .i64 xsq, .int .i64 xd, .int .i64 xps, .int .i64 xpo, .int .i64 xpl, .int .i64 xpp, .int .i64 xpm, .slice xA xn xc, .slice xB xk xh, .slice xC xj xi] 52)).heap.size = w1.heap.size + 1 := by simp
  rw [hsz2] at hf2
  have HX := Lib.hid ((HX1.out.keep0 hO2).keep0 ((Only.refl _ _).alloc (.cells #[.int .i64 yg, .int .i64 yv, .int .i64 ym, .int .i64 ye, .int .i64 ysq, .int .i64 yd, .int .i64 yps, .int .i64 ypo, .int .i64 ypl, .int .i64 ypp, .int .i64 ypm, .slice yA yn yc, .slice yB yk yh, .slice yC yj yi] 52)))
  have HY := Lib.hid (hr2.keep0 ((Only.refl _ _).alloc (.cells #[.int .i64 yg, .int .i64 yv, .int .i64 ym, .int .i64 ye, .int .i64 ysq, .int .i64 yd, .int .i64 yps, .int .i64 ypo, .int .i64 ypl, .int .i64 ypp, .int .i64 ypm, .slice yA yn yc, .slice yB yk yh, .slice yC yj yi] 52)))
  have hbf := (HB1.out.keep0 hO2).alloc (.cells #[.int .i64 yg, .int .i64 yv, .int .i64 ym, .int .i64 ye, .int .i64 ysq, .int .i64 yd, .int .i64 yps, .int .i64 ypo, .int .i64 ypl, .int .i64 ypp, .int .i64 ypm, .slice yA yn yc, .slice yB yk yh, .slice yC yj yi] 52)
  have hbx := (HY1.out.keep0 hO2).alloc (.cells #[.int .i64 yg, .int .i64 yv, .int .i64 ym, .int .i64 ye, .int .i64 ysq, .int .i64 yd, .int .i64 yps, .int .i64 ypo, .int .i64 ypl, .int .i64 ypp, .int .i64 ypm, .slice yA yn yc, .slice yB yk yh, .slice yC yj yi] 52)
  have hby := Own.new w2 #[.int .i64 yg, .int .i64 yv, .int .i64 ym, .int .i64 ye, .int .i64 ysq, .int .i64 yd, .int .i64 yps, .int .i64 ypo, .int .i64 ypl, .int .i64 ypp, .int .i64 ypm, .slice yA yn yc, .slice yB yk yh, .slice yC yj yi] 52
  have HO := Lib.hid ((HO1.out.trans' hO2).alloc (.cells #[.int .i64 yg, .int .i64 yv, .int .i64 ym, .int .i64 ye, .int .i64 ysq, .int .i64 yd, .int .i64 yps, .int .i64 ypo, .int .i64 ypl, .int .i64 ypp, .int .i64 ypm, .slice yA yn yc, .slice yB yk yh, .slice yC yj yi] 52))
  have hl2 := (HY1.out.keep0 hO2).lt
  have HFX : Hid ((∀ a, xA = some a → a.block ≠ f) ∧ (∀ a, xB = some a → a.block ≠ f) ∧ (∀ a, xC = some a → a.block ≠ f)) := by
    obtain ⟨u1, u2, u3⟩ := HF1.out
    exact Lib.hid ⟨fun a ha => by have := u1 a ha; omega, fun a ha => by have := u2 a ha; omega, fun a ha => by have := u3 a ha; omega⟩
  have HFY : Hid ((∀ a, yA = some a → a.block ≠ f) ∧ (∀ a, yB = some a → a.block ≠ f) ∧ (∀ a, yC = some a → a.block ≠ f)) := by
    obtain ⟨u1, u2, u3⟩ := hf2
    exact Lib.hid ⟨fun a ha => by have := u1 a ha; omega, fun a ha => by have := u2 a ha; omega, fun a ha => by have := u3 a ha; omega⟩
  have HFW : Hid (∀ a : Nat, a = f → w.heap.size ≤ a) := Lib.hid (fun a ha => by omega)
  have HGX : Hid ((∀ a, xA = some a → w.heap.size ≤ a.block) ∧ (∀ a, xB = some a → w.heap.size ≤ a.block) ∧ (∀ a, xC = some a → w.heap.size ≤ a.block)) := by
    obtain ⟨u1, u2, u3⟩ := HF1.out
    exact Lib.hid ⟨fun a ha => by have := u1 a ha; omega, fun a ha => by have := u2 a ha; omega, fun a ha => by have := u3 a ha; omega⟩
  have HGY : Hid ((∀ a, yA = some a → w.heap.size ≤ a.block) ∧ (∀ a, yB = some a → w.heap.size ≤ a.block) ∧ (∀ a, yC = some a → w.heap.size ≤ a.block)) := by
    obtain ⟨u1, u2, u3⟩ := hf2
    exact Lib.hid ⟨fun a ha => by have := u1 a ha; omega, fun a ha => by have := u2 a ha; omega, fun a ha => by have := u3 a ha; omega⟩
  clear hr2 hf2 hO2 HO1 HY1 HB1 HX1 HF1 hsz2 he2 hre2
  have cf0 := hbf.cell 0 (by simp)
  have cf1 := hbf.cell 1 (by simp)
  have cf2 := hbf.cell 2 (by simp)
  have cf3 := hbf.cell 3 (by simp)
  have cf4 := hbf.cell 4 (by simp)
  have cf5 := hbf.cell 5 (by simp)
  have cf6 := hbf.cell 6 (by simp)
  have cf7 := hbf.cell 7 (by simp)
  have cf8 := hbf.cell 8 (by simp)
  have cf9 := hbf.cell 9 (by simp)
  have cf10 := hbf.cell 10 (by simp)
  have cf11 := hbf.cell 11 (by simp)
  have cf12 := hbf.cell 12 (by simp)
  have cf13 := hbf.cell 13 (by simp)
  have cx0 := hbx.cell 0 (by simp)
  have cx1 := hbx.cell 1 (by simp)
  have cx2 := hbx.cell 2 (by simp)
  have cx3 := hbx.cell 3 (by simp)
  have cx4 := hbx.cell 4 (by simp)
  have cx5 := hbx.cell 5 (by simp)
  have cx6 := hbx.cell 6 (by simp)
  have cx7 := hbx.cell 7 (by simp)
  have cx8 := hbx.cell 8 (by simp)
  have cx9 := hbx.cell 9 (by simp)
  have cx10 := hbx.cell 10 (by simp)
  have cx11 := hbx.cell 11 (by simp)
  have cx12 := hbx.cell 12 (by simp)
  have cx13 := hbx.cell 13 (by simp)
  have cy0 := hby.cell 0 (by simp)
  have cy1 := hby.cell 1 (by simp)
  have cy2 := hby.cell 2 (by simp)
  have cy3 := hby.cell 3 (by simp)
  have cy4 := hby.cell 4 (by simp)
  have cy5 := hby.cell 5 (by simp)
  have cy6 := hby.cell 6 (by simp)
  have cy7 := hby.cell 7 (by simp)
  have cy8 := hby.cell 8 (by simp)
  have cy9 := hby.cell 9 (by simp)
  have cy10 := hby.cell 10 (by simp)
  have cy11 := hby.cell 11 (by simp)
  have cy12 := hby.cell 12 (by simp)
  have cy13 := hby.cell 13 (by simp)
  have ff0 := hbf.frozen 0
  have ff1 := hbf.frozen 1
  have ff2 := hbf.frozen 2
  have ff3 := hbf.frozen 3
  have ff4 := hbf.frozen 4
  have ff5 := hbf.frozen 5
  have ff6 := hbf.frozen 6
  have ff7 := hbf.frozen 7
  have ff8 := hbf.frozen 8
  have ff9 := hbf.frozen 9
  have ff10 := hbf.frozen 10
  have ff11 := hbf.frozen 11
  have ff12 := hbf.frozen 12
  have ff13 := hbf.frozen 13
  simp only [List.getElem_cons_zero, List.getElem_cons_succ] at cf0 cf1 cf2 cf3 cf4 cf5 cf6 cf7 cf8 cf9 cf10 cf11 cf12 cf13 cx0 cx1 cx2 cx3 cx4 cx5 cx6 cx7 cx8 cx9 cx10 cx11 cx12 cx13 cy0 cy1 cy2 cy3 cy4 cy5 cy6 cy7 cy8 cy9 cy10 cy11 cy12 cy13
  clear hbf hbx hby hl0 hw0s
  generalize w1.heap.size = gx at *
  have HW : ∀ W : World, Only [f] (w2.alloc (.cells #[.int .i64 yg, .int .i64 yv, .int .i64 ym, .int .i64 ye, .int .i64 ysq, .int .i64 yd, .int .i64 yps, .int .i64 ypo, .int .i64 ypl, .int .i64 ypp, .int .i64 ypm, .slice yA yn yc, .slice yB yk yh, .slice yC yj yi] 52)) W → Only [] w W := fun W h => HO.out.trans h (fun i hi => .inr (HFW.out i (by simpa using hi)))
  have HWH := Lib.hid HW
  have HRX : Hid (∀ W : World, Only [f] (w2.alloc (.cells #[.int .i64 yg, .int .i64 yv, .int .i64 ym, .int .i64 ye, .int .i64 ysq, .int .i64 yd, .int .i64 yps, .int .i64 ypo, .int .i64 ypl, .int .i64 ypp, .int .i64 ypm, .slice yA yn yc, .slice yB yk yh, .slice yC yj yi] 52)) W → RgAt W ⟨xg, xv, xm, xe, xsq, xd, xps, xpo, xpl, xpp, xpm, xbase, xover, xsegs⟩ (xA, xn, xc) (xB, xk, xh) (xC, xj, xi)) := Lib.hid (fun W h => HX.out.keepF h HFX.out.1 HFX.out.2.1 HFX.out.2.2)
  have HRY : Hid (∀ W : World, Only [f] (w2.alloc (.cells #[.int .i64 yg, .int .i64 yv, .int .i64 ym, .int .i64 ye, .int .i64 ysq, .int .i64 yd, .int .i64 yps, .int .i64 ypo, .int .i64 ypl, .int .i64 ypp, .int .i64 ypm, .slice yA yn yc, .slice yB yk yh, .slice yC yj yi] 52)) W → RgAt W ⟨yg, yv, ym, ye, ysq, yd, yps, ypo, ypl, ypp, ypm, ybase, yover, ysegs⟩ (yA, yn, yc) (yB, yk, yh) (yC, yj, yi)) := Lib.hid (fun W h => HY.out.keepF h HFY.out.1 HFY.out.2.1 HFY.out.2.2)
  clear HW HX HY HO HFX HFY HFW
  cases o1 with
  | none =>
    have he := HE1.out
    simp at he
    subst he
    cases o2 with
    | none =>
      have he := HE2.out
      simp at he
      subst he
      have hp := HPK.out
      simp only [rgPick] at hp
      subst hp
      go_wp2
      (try simp only [Exit.inBlock, Exit.then])
      refine bodyPost_ret (v := .tuple #[.agg #[.int .i64 0, .int .i64 0, .int .i64 0, .int .i64 0, .int .i64 0, .int .i64 0, .int .i64 0, .int .i64 0, .int .i64 0, .int .i64 0, .int .i64 0, .slice none 0 0, .slice none 0 0, .slice none 0 0], .int .i64 0, .int .i64 2]) ?_ rfl ⟨(none, 0, 0), (none, 0, 0), (none, 0, 0), rfl, rgAt_zero _, HWH.out _ ?_⟩
      · simp only [results, HRES.out]
        go_simp
      · (repeat' first | (with_reducible refine Only.set ?_ (.inl (by simp)) _) | (with_reducible exact Only.refl _ _))
    | some r2 =>
      have he := HE2.out
      simp at he
      subst he
      have hr := HR2.out
      simp only [Option.getD_some] at hr
      subst hr
      have hp := HPK.out
      simp only [rgPick] at hp
      subst hp
      go_wp2
      (try simp only [Exit.inBlock, Exit.then])
      refine bodyPost_ret (v := .tuple #[.agg #[.int .i64 yg, .int .i64 yv, .int .i64 ym, .int .i64 ye, .int .i64 ysq, .int .i64 yd, .int .i64 yps, .int .i64 ypo, .int .i64 ypl, .int .i64 ypp, .int .i64 ypm, .slice yA yn yc, .slice yB yk yh, .slice yC yj yi], .int .i64 1, .int .i64 0]) ?_ rfl ⟨(yA, yn, yc), (yB, yk, yh), (yC, yj, yi), rfl, HRY.out _ ?_, HWH.out _ ?_⟩
      · simp only [results, HRES.out]
        go_simp
      · (repeat' first | (with_reducible refine Only.set ?_ (.inl (by simp)) _) | (with_reducible exact Only.refl _ _))
      · (repeat' first | (with_reducible refine Only.set ?_ (.inl (by simp)) _) | (with_reducible exact Only.refl _ _))
  | some r1 =>
    have he := HE1.out
    simp at he
    subst he
    have hr := HR1.out
    simp only [Option.getD_some] at hr
    subst hr
    cases o2 with
    | none =>
      have he := HE2.out
      simp at he
      subst he
      have hp := HPK.out
      simp only [rgPick] at hp
      subst hp
      go_wp2
      (try simp only [Exit.inBlock, Exit.then])
      refine bodyPost_ret (v := .tuple #[.agg #[.int .i64 xg, .int .i64 xv, .int .i64 xm, .int .i64 xe, .int .i64 xsq, .int .i64 xd, .int .i64 xps, .int .i64 xpo, .int .i64 xpl, .int .i64 xpp, .int .i64 xpm, .slice xA xn xc, .slice xB xk xh, .slice xC xj xi], .int .i64 0, .int .i64 0]) ?_ rfl ⟨(xA, xn, xc), (xB, xk, xh), (xC, xj, xi), rfl, HRX.out _ ?_, HWH.out _ ?_⟩
      · simp only [results, HRES.out]
        go_simp
      · (repeat' first | (with_reducible refine Only.set ?_ (.inl (by simp)) _) | (with_reducible exact Only.refl _ _))
      · (repeat' first | (with_reducible refine Only.set ?_ (.inl (by simp)) _) | (with_reducible exact Only.refl _ _))
    | some r2 =>
      have he := HE2.out
      simp at he
      subst he
      have hr := HR2.out
      simp only [Option.getD_some] at hr
      subst hr
      by_cases hlt : yg ≤ xg
      · have hp := HPK.out
        simp only [rgPick, if_pos hlt] at hp
        subst hp
        go_wp2
        (try simp only [Exit.inBlock, Exit.then])
        refine bodyPost_ret (v := .tuple #[.agg #[.int .i64 xg, .int .i64 xv, .int .i64 xm, .int .i64 xe, .int .i64 xsq, .int .i64 xd, .int .i64 xps, .int .i64 xpo, .int .i64 xpl, .int .i64 xpp, .int .i64 xpm, .slice xA xn xc, .slice xB xk xh, .slice xC xj xi], .int .i64 0, .int .i64 0]) ?_ rfl ⟨(xA, xn, xc), (xB, xk, xh), (xC, xj, xi), rfl, HRX.out _ ?_, HWH.out _ ?_⟩
        · simp only [results, HRES.out]
          go_simp
        · (repeat' first | (with_reducible refine Only.set ?_ (.inl (by simp)) _) | (with_reducible exact Only.refl _ _))
        · (repeat' first | (with_reducible refine Only.set ?_ (.inl (by simp)) _) | (with_reducible exact Only.refl _ _))
      · have hp := HPK.out
        simp only [rgPick, if_neg hlt] at hp
        subst hp
        go_wp2
        (try simp only [Exit.inBlock, Exit.then])
        refine bodyPost_ret (v := .tuple #[.agg #[.int .i64 yg, .int .i64 yv, .int .i64 ym, .int .i64 ye, .int .i64 ysq, .int .i64 yd, .int .i64 yps, .int .i64 ypo, .int .i64 ypl, .int .i64 ypp, .int .i64 ypm, .slice yA yn yc, .slice yB yk yh, .slice yC yj yi], .int .i64 1, .int .i64 0]) ?_ rfl ⟨(yA, yn, yc), (yB, yk, yh), (yC, yj, yi), rfl, HRY.out _ ?_, HWH.out _ ?_⟩
        · simp only [results, HRES.out]
          go_simp
        · (repeat' first | (with_reducible refine Only.set ?_ (.inl (by simp)) _) | (with_reducible exact Only.refl _ _))
        · (repeat' first | (with_reducible refine Only.set ?_ (.inl (by simp)) _) | (with_reducible exact Only.refl _ _))
end Go.Proofs.Ytkpagiokjihmhaa
