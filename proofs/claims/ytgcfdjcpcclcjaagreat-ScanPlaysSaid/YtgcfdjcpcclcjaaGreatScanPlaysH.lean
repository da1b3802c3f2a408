/- ScnN, LogP, LogQ, ScnO, ScnQ, LogR, Awake13, Frame, FrameI, FrameK, StpP, TurnW, BrkQ, MntP, ScpP, SpT: joined by pack.py, without what the claim does not use. -/
import Derived.Test.YtgcfdjcpcclcjaaGreatScanPlaysG
set_option linter.unusedVariables false
set_option linter.unusedSimpArgs false
namespace Go.Kn
open Go Go.RowKit
def fewOne (e : KR) : Bool := decide (e.kinds.length ≤ 6 ∧ 0 ≤ e.fill ∧ e.fill ≤ 1099511627776 ∧ -1000 ≤ e.skew ∧ e.skew ≤ 1000 ∧ -1000 ≤ e.up ∧ e.up ≤ 1000)
def fewK (l : List KR) : Bool := l.all fewOne && decide (l.length ≤ 12)
theorem few_no {l : List KR} {j : Nat} {e : KR} (hj : j < l.length) (he : l[j] = e) (h : fewOne e = false) : (Ending.returned (.bool false)) = .returned (.bool (fewK l)) := by
 have : l.all fewOne = false := by
  rw [Bool.eq_false_iff]
  intro ha
  have := List.all_eq_true.1 ha l[j] (List.getElem_mem hj)
  rw [he, h] at this
  cases this
 unfold fewK
 rw [this]
 rfl
theorem few_step {l : List KR} {j : Nat} {e : KR} (hj : j < l.length) (hal : (l.take j).all fewOne = true) (he : l[j] = e) (h : fewOne e = true) : (l.take (j + 1)).all fewOne = true := by
 rw [List.take_succ_eq_append_getElem hj, List.all_append, hal, he]
 simp [h]
theorem few_end {l : List KR} (hal : l.all fewOne = true) : fewK l = decide (l.length ≤ 12) := by
 unfold fewK
 rw [hal, Bool.true_and]
theorem flatMap_get {α β : Type} (f : α → List β) (m : Nat) (hf : ∀ x, (f x).length = m) : ∀ (xs : List α) (i k : Nat) (hi : i < xs.length), k < m → (xs.flatMap f)[i * m + k]? = (f xs[i])[k]?
 | [], i, k, hi, _ => by simp at hi
 | x :: xs, 0, k, hi, hk => by
  rw [List.flatMap_cons, List.getElem?_append_left (by rw [hf]; omega)]
  simp
 | x :: xs, i + 1, k, hi, hk => by
  rw [List.flatMap_cons, List.getElem?_append_right (by rw [hf, Nat.add_mul]; omega), hf, show (i + 1) * m + k - m = i * m + k from by rw [Nat.add_mul]; omega]
  rw [flatMap_get f m hf xs i k (by simpa using hi) hk]
  simp
/-- a slice of what walk told -/
structure FdP (w : World) (A : Option Addr) (n c : Nat) (xs : List Fnd) : Prop where
 len : xs.length = n
 le : n ≤ c
 cm : c ≤ maxLen
 at_ : 0 < n → ∃ g o, A = some ⟨g, o, none⟩ ∧ ∀ i (h : i < xs.length), w.cell? ⟨g, o + i * 6, none⟩ = some (.int .i64 xs[i].p.o) ∧ w.cell? ⟨g, o + i * 6 + 1, none⟩ = some (.int .i64 xs[i].r.m) ∧ w.cell? ⟨g, o + i * 6 + 2, none⟩ = some (.int .i64 xs[i].r.n) ∧ w.cell? ⟨g, o + i * 6 + 3, none⟩ = some (.int .i64 xs[i].r.p) ∧ w.cell? ⟨g, o + i * 6 + 4, none⟩ = some (slv xs[i].s) ∧ w.cell? ⟨g, o + i * 6 + 5, none⟩ = some (slv xs[i].t)
 rc : ∀ y ∈ xs, y.fct w
structure FdR (w : World) (A : Option Addr) (n c : Nat) (xs : List Fnd) : Prop where
 len : xs.length = n
 le : n ≤ c
 cm : c ≤ maxLen
 at_ : 0 < n → ∃ g o, A = some ⟨g, o, none⟩ ∧ ∀ i (h : i < xs.length), w.cell? ⟨g, o + i * 10 + 0, none⟩ = some (.int .i64 xs[i].p.s) ∧ w.cell? ⟨g, o + i * 10 + 1, none⟩ = some (.int .i64 xs[i].p.o) ∧ w.cell? ⟨g, o + i * 10 + 5, none⟩ = some (.int .i64 xs[i].r.m) ∧ w.cell? ⟨g, o + i * 10 + 6, none⟩ = some (.int .i64 xs[i].r.n) ∧ w.cell? ⟨g, o + i * 10 + 7, none⟩ = some (.int .i64 xs[i].r.p) ∧ w.cell? ⟨g, o + i * 10 + 8, none⟩ = some (slv xs[i].s) ∧ w.cell? ⟨g, o + i * 10 + 9, none⟩ = some (slv xs[i].t)
 rc : ∀ y ∈ xs, y.fct w
theorem cells_owns {w : World} {b e sz n : Nat} {A : Option Addr} {c : Nat} {xs : List Value} (h : w.ownsRow b e sz (.slice A n c) n xs) : n ≤ c ∧ c ≤ maxLen ∧ (0 < n → ∃ g, A = some ⟨g, 0, none⟩ ∧ ∀ j u, xs[j]? = some u → w.cell? ⟨g, j, none⟩ = some u) := by
 obtain ⟨h1, h2⟩ := h
 rcases h2 with ⟨h2, h3⟩ | ⟨g, cap, cur, hv, _, hg, h5, h6, h7, h8⟩
 ·injection h2 with _ e2 e3
  exact ⟨by omega, by omega, fun hn => by omega⟩
 ·injection hv with e1 e2 e3
  subst e1 e3
  refine ⟨h5, h6, fun hn => ⟨g, rfl, fun j u hj => ?_⟩⟩
  rw [← h8, List.getElem?_take] at hj
  split at hj
  ·unfold World.cell?
   simp only [hg]
   simpa using hj
  ·cases hj
end Go.Kn
namespace Go.Proofs.YtgcfdjcpcclcjaaGreat
open Go Go.RowKit Go.Kn
theorem FdP.of_owns {w : World} {b e : Nat} {A : Option Addr} {c : Nat} {xs : List Fnd} (h : w.ownsRow b e 6 (.slice A xs.length c) xs.length (fndV xs)) (hr : ∀ y ∈ xs, y.fct w) : FdP w A xs.length c xs := by
 obtain ⟨h1, h2, h3⟩ := cells_owns h
 refine ⟨rfl, h1, h2, fun hn => ?_, hr⟩
 obtain ⟨g, rfl, hc⟩ := h3 hn
 refine ⟨g, 0, rfl, fun i hi => ?_⟩
 have hk : ∀ k, k < 6 → (fndV xs)[i * 6 + k]? = (Kn.Fnd.one xs[i])[k]? := fun k hk => flatMap_get Kn.Fnd.one 6 (fun x => rfl) xs i k hi hk
 simp only [Nat.zero_add]
 exact ⟨hc _ _ ((hk 0 (by decide)).trans rfl), hc _ _ ((hk 1 (by decide)).trans rfl), hc _ _ ((hk 2 (by decide)).trans rfl), hc _ _ ((hk 3 (by decide)).trans rfl), hc _ _ ((hk 4 (by decide)).trans rfl), hc _ _ ((hk 5 (by decide)).trans rfl)⟩
theorem FdR.of_owns {w : World} {b e : Nat} {A : Option Addr} {c : Nat} {xs : List Fnd} (h : w.ownsRow b e 10 (.slice A xs.length c) xs.length (rfndV xs)) (hr : ∀ y ∈ xs, y.fct w) : FdR w A xs.length c xs := by
 obtain ⟨h1, h2, h3⟩ := cells_owns h
 refine ⟨rfl, h1, h2, fun hn => ?_, hr⟩
 obtain ⟨g, rfl, hc⟩ := h3 hn
 refine ⟨g, 0, rfl, fun i hi => ?_⟩
 have hk : ∀ k, k < 10 → (rfndV xs)[i * 10 + k]? = (rfnd xs[i])[k]? := fun k hk => flatMap_get rfnd 10 (fun x => rfl) xs i k hi hk
 simp only [Nat.zero_add]
 exact ⟨hc _ _ ((hk 0 (by decide)).trans rfl), hc _ _ ((hk 1 (by decide)).trans rfl), hc _ _ ((hk 5 (by decide)).trans rfl), hc _ _ ((hk 6 (by decide)).trans rfl), hc _ _ ((hk 7 (by decide)).trans rfl), hc _ _ ((hk 8 (by decide)).trans rfl), hc _ _ ((hk 9 (by decide)).trans rfl)⟩
theorem alike_config_small (z0 z1 z2 : Int) (w : World) (h0 : (Lit.int .i64 z0).wf = true) (h1 : (Lit.int .i64 z1).wf = true) (h2 : (Lit.int .i64 z2).wf = true) :
    Calls Tryz.prog 31 #[.agg #[.int .i64 z0, .int .i64 z1, .int .i64 z2], .bool true] w fun e w' => e = .returned (.agg #[.int .i64 (1 + z0 % 24), .int .i64 (8 + z1 % 3), .int .i64 (24 + z2 % 4)]) ∧ Only [] w w' := by
  have H0 := Lib.hid h0
  have H1 := Lib.hid h1
  have H2 := Lib.hid h2
  have hres : Tryz.f31.results = #[.cell 4 25] := by kernel_rfl
  have HRES := Lib.hid hres
  clear h0 h1 h2 hres
  have hw0 := IntWalk.i64_in (1 + z0 % 24) (by omega)
  have hw1 := IntWalk.i64_in (8 + z1 % 3) (by omega)
  have hw2 := IntWalk.i64_in (24 + z2 % 4) (by omega)
  go_enter Tryz.func31, Tryz.ntmps31
  go_wp2_with fail
  have HW := Lib.hid (((Only.refl [] w).alloc (.cells #[.int .i64 z0, .int .i64 z1, .int .i64 z2] 71)).alloc (.cells #[.int .i64 0, .int .i64 0, .int .i64 0] 25))
  have c0 : ((w.alloc (.cells #[.int .i64 z0, .int .i64 z1, .int .i64 z2] 71)).alloc (.cells #[.int .i64 0, .int .i64 0, .int .i64 0] 25)).cell? ⟨w.heap.size, 0, none⟩ = some (.int .i64 z0) := by simp
  have c1 : ((w.alloc (.cells #[.int .i64 z0, .int .i64 z1, .int .i64 z2] 71)).alloc (.cells #[.int .i64 0, .int .i64 0, .int .i64 0] 25)).cell? ⟨w.heap.size, 1, none⟩ = some (.int .i64 z1) := by simp
  have c2 : ((w.alloc (.cells #[.int .i64 z0, .int .i64 z1, .int .i64 z2] 71)).alloc (.cells #[.int .i64 0, .int .i64 0, .int .i64 0] 25)).cell? ⟨w.heap.size, 2, none⟩ = some (.int .i64 z2) := by simp
  go_region_held3 (fun w' => w'.cell? ⟨w.heap.size, 0, none⟩ = some (.int .i64 z0) ∧ w'.cell? ⟨w.heap.size, 1, none⟩ = some (.int .i64 z1) ∧ w'.cell? ⟨w.heap.size, 2, none⟩ = some (.int .i64 z2))
    (first | exact ⟨c0, c1, c2⟩ | go_keep)
    (first
    | (go_at_call 21; refine (round_any _ _ _ (by first | exact H0.out | exact H1.out | exact H2.out) (by decide) (by decide)).mono ?_
       rintro e w' ⟨rfl, rfl⟩))
  go_wp2
  (try simp only [Exit.inBlock, Exit.then])
  refine bodyPost_ret (v := .agg #[.int .i64 (1 + z0 % 24), .int .i64 (8 + z1 % 3), .int .i64 (24 + z2 % 4)]) ?_ rfl ⟨rfl, ?_⟩
  · simp only [results, HRES.out]
    go_simp
  · exact (((Only.refl _ _).alloc _).alloc _).drew
set_option maxRecDepth 100000 in
set_option maxHeartbeats 8000000 in
theorem few13_any (A : Option Addr) (n c : Nat) (l : List KR) (ss : List (Option Addr × Nat × Nat)) (w : World) (hk : Krs w A n c l ss) :
  Calls Tryz.prog 30 #[.slice A n c] w fun e w' => e = .returned (.bool (fewK l)) ∧ w = w' := by
 have hcm := hk.cm
 have hcl := hk.le
 unfold maxLen at hcm
 have HK := Lib.hid hk
 have HL := Lib.hid hk.len
 have HS := Lib.hid hk.sl
 clear hk
 go_enter Tryz.func30, Tryz.ntmps30
 go_wp2_with fail
 go_loopg [3] n (fun r i wr => ∃ j : Nat, j + r = n ∧ i = .int .i64 j ∧ wr = w ∧ (l.take j).all fewOne = true)
 case atStart => exact ⟨0, by omega, rfl, rfl, by simp⟩
 obtain ⟨j, hj, rfl, rfl, hal⟩ := hrel
 have HAL := Lib.hid hal
 clear hal
 by_cases hlt : j < n
 ·have hjz : j < l.length := by rw [HL.out]; exact hlt
  have hjs : j < ss.length := by rw [HS.out]; exact hlt
  obtain ⟨a, o, rfl, hc⟩ := HK.out.at_ (by omega)
  obtain ⟨c0, c1, c2, c3, c4⟩ := hc j hjz hjs
  have hkl := (HK.out.ks j hjz hjs).len
  obtain ⟨⟨B, kn, kc⟩, hss⟩ : ∃ s, ss[j] = s := ⟨_, rfl⟩
  obtain ⟨e, he⟩ : ∃ e, l[j] = e := ⟨_, rfl⟩
  rw [hss] at c0 hkl
  rw [he] at c1 c2 c3 c4 hkl
  simp only [slv] at c0
  have hkl2 : e.kinds.length = kn := by simpa [ivs] using hkl
  have HE := Lib.hid he
  have hlt2 : (j : Int) < (n : Int) := by omega
  clear hc hkl hss he
  by_cases hk : ¬ e.kinds.length ≤ 6
  ·have hkz : (kn : Int) > 6 := by omega
   have hno : fewOne e = false := by unfold fewOne; rw [decide_eq_false]; intro h; omega
   have HNO := Lib.hid hno
   clear hno
   go_wp2
   go_ret
   exact ⟨few_no hjz HE.out HNO.out, rfl⟩
  ·have hkz0 : ¬ (kn : Int) > 6 := by omega
   by_cases hf0 : ¬ 0 ≤ e.fill
   ·have hkz : e.fill < 0 := by omega
    have hno : fewOne e = false := by unfold fewOne; rw [decide_eq_false]; intro h; omega
    have HNO := Lib.hid hno
    clear hno
    go_wp2
    go_ret
    exact ⟨few_no hjz HE.out HNO.out, rfl⟩
   ·have hkz1 : ¬ e.fill < 0 := by omega
    by_cases hf1 : ¬ e.fill ≤ 1099511627776
    ·have hkz : e.fill > 1099511627776 := by omega
     have hno : fewOne e = false := by unfold fewOne; rw [decide_eq_false]; intro h; omega
     have HNO := Lib.hid hno
     clear hno
     go_wp2
     go_ret
     exact ⟨few_no hjz HE.out HNO.out, rfl⟩
    ·have hkz2 : ¬ e.fill > 1099511627776 := by omega
     by_cases hs0 : ¬ -1000 ≤ e.skew
     ·have hkz : e.skew < -1000 := by omega
      have hno : fewOne e = false := by unfold fewOne; rw [decide_eq_false]; intro h; omega
      have HNO := Lib.hid hno
      clear hno
      go_wp2
      go_ret
      exact ⟨few_no hjz HE.out HNO.out, rfl⟩
     ·have hkz3 : ¬ e.skew < -1000 := by omega
      by_cases hs1 : ¬ e.skew ≤ 1000
      ·have hkz : e.skew > 1000 := by omega
       have hno : fewOne e = false := by unfold fewOne; rw [decide_eq_false]; intro h; omega
       have HNO := Lib.hid hno
       clear hno
       go_wp2
       go_ret
       exact ⟨few_no hjz HE.out HNO.out, rfl⟩
      ·have hkz4 : ¬ e.skew > 1000 := by omega
       by_cases hu0 : ¬ -1000 ≤ e.up
       ·have hkz : e.up < -1000 := by omega
        have hno : fewOne e = false := by unfold fewOne; rw [decide_eq_false]; intro h; omega
        have HNO := Lib.hid hno
        clear hno
        go_wp2
        go_ret
        exact ⟨few_no hjz HE.out HNO.out, rfl⟩
       ·have hkz5 : ¬ e.up < -1000 := by omega
        by_cases hu1 : ¬ e.up ≤ 1000
        ·have hkz : e.up > 1000 := by omega
         have hno : fewOne e = false := by unfold fewOne; rw [decide_eq_false]; intro h; omega
         have HNO := Lib.hid hno
         clear hno
         go_wp2
         go_ret
         exact ⟨few_no hjz HE.out HNO.out, rfl⟩
        ·have hkz6 : ¬ e.up > 1000 := by omega
         have hyes : fewOne e = true := by unfold fewOne; rw [decide_eq_true_iff]; omega
         have HYS := Lib.hid hyes
         clear hyes
         go_wp2
         go_roundg (gk - 1)
         case measure => omega
         case rel => exact ⟨j + 1, by omega, by go_num, rfl, few_step hjz HAL.out HE.out HYS.out⟩
 ·obtain rfl : j = n := by omega
  have hfull : l.take j = l := List.take_of_length_le (by rw [HL.out]; omega)
  have hal := HAL.out
  rw [hfull] at hal
  have hfe := few_end hal
  rw [HL.out] at hfe
  have HFE := Lib.hid hfe
  clear hal hfull hfe
  by_cases h12 : j ≤ 12
  ·have hd : (j : Int) ≤ 12 := by omega
   go_wp2
   go_ret
   exact ⟨by rw [HFE.out]; simp [h12], rfl⟩
  ·have hd : ¬ (j : Int) ≤ 12 := by omega
   go_wp2
   go_ret
   exact ⟨by rw [HFE.out]; simp [h12], rfl⟩
set_option maxRecDepth 100000 in
set_option maxHeartbeats 8000000 in
theorem same13_eq (A : Option Addr) (n c : Nat) (xs : List Fnd) (B : Option Addr) (m k : Nat) (ys : List Fnd) (w : World) (hx : FdP w A n c xs) (hy : FdR w B m k ys) (he : xs.map Fnd.pr = ys.map Fnd.pr) :
  Calls Tryz.prog 37 #[.slice A n c, .slice B m k] w fun e w' => e = .returned (.bool true) ∧ Only [] w w' := by
 have hxl := hx.len
 have hyl := hy.len
 have hll : xs.length = ys.length := by simpa using congrArg List.length he
 obtain rfl : m = n := by omega
 have hcm := hx.cm
 have hcl := hx.le
 have hkm := hy.cm
 have hkl := hy.le
 unfold maxLen at hcm hkm
 have HX := Lib.hid hx
 have HY := Lib.hid hy
 have HE := Lib.hid he
 have HXL := Lib.hid hxl
 have HYL := Lib.hid hyl
 clear hx hy he hxl hyl hll
 go_enter Tryz.func37, Tryz.ntmps37
 go_wp2_with fail
 go_loopg [5] m (fun r i wr => ∃ j : Nat, j + r = m ∧ i = .int .i64 j ∧ Only [] w wr)
 case atStart => exact ⟨0, by omega, rfl, Only.refl _ _⟩
 obtain ⟨j, hj, rfl, hO⟩ := hrel
 have HO := Lib.hid hO
 clear hO
 by_cases hlt : j < m
 ·have hjx : j < xs.length := by rw [HXL.out]; exact hlt
  have hjy : j < ys.length := by rw [HYL.out]; exact hlt
  obtain ⟨g, o, rfl, hc⟩ := HX.out.at_ (by omega)
  obtain ⟨h, q, rfl, hd⟩ := HY.out.at_ (by omega)
  obtain ⟨c0, c1, c2, c3, c4, c5⟩ := hc j hjx
  obtain ⟨-, d1, d5, d6, d7, d8, d9⟩ := hd j hjy
  have hxr := HX.out.rc _ (List.getElem_mem hjx)
  have hyr := HY.out.rc _ (List.getElem_mem hjy)
  have hpe : xs[j].pr = ys[j].pr := by
   have h1 : (xs.map Fnd.pr)[j]? = (ys.map Fnd.pr)[j]? := by rw [HE.out]
   simpa [hjx, hjy] using h1
  obtain ⟨⟨xp, ⟨rm, rn, rp, ri, rb⟩, ⟨s1, s2, s3⟩, ⟨t1, t2, t3⟩⟩, hxe⟩ : ∃ x, xs[j] = x := ⟨_, rfl⟩
  obtain ⟨⟨yp, yr, ⟨u1, u2, u3⟩, ⟨v1, v2, v3⟩⟩, hye⟩ : ∃ x, ys[j] = x := ⟨_, rfl⟩
  rw [hxe] at c0 c1 c2 c3 c4 c5 hxr hpe
  rw [hye] at d1 d5 d6 d7 d8 d9 hyr hpe
  simp only [Fnd.pr, Prod.mk.injEq] at hpe
  obtain ⟨rfl, rfl⟩ := hpe
  simp only [slv] at c0 c1 c2 c3 c4 c5 d1 d5 d6 d7 d8 d9
  have hxr2 : RcAt w ⟨rm, rn, rp, ri, rb⟩ (s1, s2, s3) (t1, t2, t3) := hxr
  have hyr2 : RcAt w ⟨rm, rn, rp, ri, rb⟩ (u1, u2, u3) (v1, v2, v3) := hyr
  have HXR := Lib.hid (hxr2.keep0 HO.out)
  have HYR := Lib.hid (hyr2.keep0 HO.out)
  have HSR : Hid ((fun w' => (w'.cell? ⟨g, o + j * 6, none⟩ = some (.int .i64 xp.o) ∧ w'.cell? ⟨g, o + j * 6 + 1, none⟩ = some (.int .i64 rm) ∧ w'.cell? ⟨g, o + j * 6 + 2, none⟩ = some (.int .i64 rn) ∧ w'.cell? ⟨g, o + j * 6 + 3, none⟩ = some (.int .i64 rp) ∧ w'.cell? ⟨g, o + j * 6 + 4, none⟩ = some (.slice s1 s2 s3) ∧ w'.cell? ⟨g, o + j * 6 + 5, none⟩ = some (.slice t1 t2 t3)) ∧ (w'.cell? ⟨h, q + j * 10 + 1, none⟩ = some (.int .i64 xp.o) ∧ w'.cell? ⟨h, q + j * 10 + 5, none⟩ = some (.int .i64 rm) ∧ w'.cell? ⟨h, q + j * 10 + 6, none⟩ = some (.int .i64 rn) ∧ w'.cell? ⟨h, q + j * 10 + 7, none⟩ = some (.int .i64 rp) ∧ w'.cell? ⟨h, q + j * 10 + 8, none⟩ = some (.slice u1 u2 u3) ∧ w'.cell? ⟨h, q + j * 10 + 9, none⟩ = some (.slice v1 v2 v3))) wr) := Lib.hid ⟨⟨HO.out.cell c0 (by simp), HO.out.cell c1 (by simp), HO.out.cell c2 (by simp), HO.out.cell c3 (by simp), HO.out.cell c4 (by simp), HO.out.cell c5 (by simp)⟩, HO.out.cell d1 (by simp), HO.out.cell d5 (by simp), HO.out.cell d6 (by simp), HO.out.cell d7 (by simp), HO.out.cell d8 (by simp), HO.out.cell d9 (by simp)⟩
  have hlt2 : (j : Int) < (m : Int) := by omega
  clear hc hd hxr hyr hxr2 hyr2 hxe hye c0 c1 c2 c3 c4 c5 d1 d5 d6 d7 d8 d9 hjx hjy
  go_wp2_with fail
  have HXD := Lib.hid (HXR.out.keep0 ((Only.refl [] wr).drew))
  have HYD := Lib.hid (HYR.out.keep0 ((Only.refl [] wr).drew))
  have HOD := Lib.hid HO.out.drew
  refine wp_region_held_drew (S := (fun w' => (w'.cell? ⟨g, o + j * 6, none⟩ = some (.int .i64 xp.o) ∧ w'.cell? ⟨g, o + j * 6 + 1, none⟩ = some (.int .i64 rm) ∧ w'.cell? ⟨g, o + j * 6 + 2, none⟩ = some (.int .i64 rn) ∧ w'.cell? ⟨g, o + j * 6 + 3, none⟩ = some (.int .i64 rp) ∧ w'.cell? ⟨g, o + j * 6 + 4, none⟩ = some (.slice s1 s2 s3) ∧ w'.cell? ⟨g, o + j * 6 + 5, none⟩ = some (.slice t1 t2 t3)) ∧ (w'.cell? ⟨h, q + j * 10 + 1, none⟩ = some (.int .i64 xp.o) ∧ w'.cell? ⟨h, q + j * 10 + 5, none⟩ = some (.int .i64 rm) ∧ w'.cell? ⟨h, q + j * 10 + 6, none⟩ = some (.int .i64 rn) ∧ w'.cell? ⟨h, q + j * 10 + 7, none⟩ = some (.int .i64 rp) ∧ w'.cell? ⟨h, q + j * 10 + 8, none⟩ = some (.slice u1 u2 u3) ∧ w'.cell? ⟨h, q + j * 10 + 9, none⟩ = some (.slice v1 v2 v3)))) (by kernel_rfl) HSR.out (fun hSw0 => ?_)
  clear HSR HXR HYR
  generalize wr.drew = wz at *
  refine Kn.takeS 0 ⟨some 17, _, _, _, _, _⟩ ?_
  refine Kn.takeS 1 ⟨some 18, _, _, _, _, _⟩ ?_
  refine Kn.takeS 2 ⟨some 19, _, _, _, _, _⟩ ?_
  refine Kn.takeS 3 ⟨some 20, _, _, _, _, _⟩ ?_
  refine Kn.takeS 4 ⟨some 21, _, _, _, _, _⟩ ?_
  refine Kn.takeS 5 ⟨some 22, _, _, _, _, _⟩ ?_
  refine Kn.takeS 6 ⟨some 23, _, _, _, _, _⟩ ?_
  refine Kn.takeS 7 ⟨some 24, _, _, _, _, _⟩ ?_
  refine Kn.takeS 8 ⟨some 25, _, _, _, _, _⟩ ?_
  refine Kn.takeS 9 ⟨some 26, _, _, _, _, _⟩ ?_
  refine Kn.takeS 10 ⟨some 27, _, _, _, _, _⟩ ?_
  refine Kn.takeS 11 ⟨some 28, _, _, _, _, _⟩ ?_
  refine Kn.takeS 12 ⟨some 29, _, _, _, _, _⟩ ?_
  refine Kn.takeS 13 ⟨some 30, _, _, _, _, _⟩ ?_
  refine Kn.takeS 14 ⟨some 31, _, _, _, _, _⟩ ?_
  refine Kn.takeS 15 ⟨some 32, _, _, _, _, _⟩ ?_
  refine Kn.takeS 16 ⟨some 33, _, _, _, _, _⟩ ?_
  refine Kn.takeS 17 ⟨some 34, _, _, _, _, _⟩ (v := (.agg #[.int .i64 rm, .int .i64 rn, .int .i64 rp, .slice s1 s2 s3, .slice t1 t2 t3])) (hy := fun w hSw => by
   obtain ⟨⟨q0, q1, q2, q3, q4, q5⟩, p1, p5, p6, p7, p8, p9⟩ := hSw
   go_simp) ?_
  refine Kn.takeS 18 ⟨some 35, _, _, _, _, _⟩ ?_
  refine Kn.takeS 19 ⟨some 36, _, _, _, _, _⟩ ?_
  refine Kn.takeS 20 ⟨some 37, _, _, _, _, _⟩ ?_
  refine Kn.takeS 21 ⟨some 38, _, _, _, _, _⟩ ?_
  refine Kn.takeS 22 ⟨some 39, _, _, _, _, _⟩ (v := (.agg #[.int .i64 rm, .int .i64 rn, .int .i64 rp, .slice u1 u2 u3, .slice v1 v2 v3])) (hy := fun w hSw => by
   obtain ⟨⟨q0, q1, q2, q3, q4, q5⟩, p1, p5, p6, p7, p8, p9⟩ := hSw
   go_simp) ?_
  refine Kn.takeR 23 ⟨some 40, _, _, _, _, _⟩ fun K hK => ?_
  go_simp
  refine (alike_record_any rm rn rp s1 s2 s3 ri t1 t2 t3 rb rm rn rp u1 u2 u3 ri v1 v2 v3 rb _ (HXD.out.1) (HXD.out.2) (HYD.out.1) (HYD.out.2)).mono ?_
  rintro en w2 ⟨rfl, hO2⟩
  rw [decide_eq_true rfl]
  have hSn : _ := hSw0
  obtain ⟨⟨q0, q1, q2, q3, q4, q5⟩, p1, p5, p6, p7, p8, p9⟩ := hSw0
  have HO3 := Lib.hid (HOD.out.trans' hO2)
  refine hK.out _ _ ⟨⟨hO2.cell q0 (by simp), hO2.cell q1 (by simp), hO2.cell q2 (by simp), hO2.cell q3 (by simp), hO2.cell q4 (by simp), hO2.cell q5 (by simp)⟩, hO2.cell p1 (by simp), hO2.cell p5 (by simp), hO2.cell p6 (by simp), hO2.cell p7 (by simp), hO2.cell p8 (by simp), hO2.cell p9 (by simp)⟩ (fun hSw0 => ?_)
  clear hK K hO2 hSn q0 q1 q2 q3 q4 q5 p1 p5 p6 p7 p8 p9
  refine Kn.takeS 24 ⟨some 41, _, _, _, _, _⟩ ?_
  refine Kn.takeS 25 ⟨some 42, _, _, _, _, _⟩ ?_
  refine wpAnyH_done (by kernel_rfl) ?_ _
  clear hSw0
  go_wp2
  go_roundg (gk - 1)
  case measure => omega
  case rel => exact ⟨j + 1, by omega, by go_num, HO3.out⟩
 ·obtain rfl : j = m := by omega
  go_wp2
  go_ret
  exact ⟨rfl, HO.out⟩
end Go.Proofs.YtgcfdjcpcclcjaaGreat
namespace Go.Kn
open Go Go.RowKit
/-- sectors with rows of 64 bytes laid over them from one on -/
def setSecs (s : List (List UInt8)) (a : Nat) (b : List UInt8) : Nat → List (List UInt8)
 | 0 => s
 | i + 1 => (setSecs s a b i).set (a + i) ((b.drop (64 * i)).take 64)
@[simp] theorem setSecs_length (s : List (List UInt8)) (a : Nat) (b : List UInt8) : ∀ n, (setSecs s a b n).length = s.length
 | 0 => rfl
 | n + 1 => by rw [setSecs, List.length_set, setSecs_length s a b n]
theorem setSecs_other (s : List (List UInt8)) (a : Nat) (b : List UInt8) (k : Nat) : ∀ n, k < a ∨ a + n ≤ k → (setSecs s a b n)[k]? = s[k]?
 | 0, _ => rfl
 | n + 1, h => by rw [setSecs, List.getElem?_set_ne (by omega), setSecs_other s a b k n (by omega)]
theorem setSecs_at (s : List (List UInt8)) (a : Nat) (b : List UInt8) (i : Nat) : ∀ n, i < n → a + i < s.length → (setSecs s a b n)[a + i]? = some ((b.drop (64 * i)).take 64)
 | 0, h, _ => absurd h (by omega)
 | n + 1, h, hl => by
  rw [setSecs]
  by_cases e : i = n
  ·subst e
   rw [List.getElem?_set_self (by rw [setSecs_length]; exact hl)]
  ·rw [List.getElem?_set_ne (by omega), setSecs_at s a b i n (by omega) hl]
/-- a disk with power and no faults -/
structure Rdy (d : Dk) : Prop where
 ok : d.Ok
 live : d.Live
 bad : ∀ x, d.bad x = false
section
variable {d d' : Dk} {a : Int} {b : List UInt8} {n : Nat}
theorem Rdy.new {n : Nat} (h1 : 1 ≤ n) (h2 : n ≤ 4096) : Rdy (Dk.new n) := ⟨Dk.new_ok h1 h2, ⟨rfl, rfl⟩, fun x => by
 unfold Dk.bad Dk.new
 simp only
 rw [List.getD_eq_getElem?_getD, List.getElem?_replicate]
 split <;> rfl⟩
theorem Rdy.err (h : Rdy d) (x : Int) : d.err x = if d.has x = true then 0 else 1 := by
 unfold Dk.err
 rw [h.live.off, h.bad x]
 rfl
theorem Rdy.err0 (h : Rdy d) {x : Int} (hx : d.has x = true) : d.err x = 0 := by rw [h.err, if_pos hx]
theorem has_of {x : Int} (h0 : 0 ≤ x) (h1 : x < d.safe.length) : d.has x = true := by
 unfold Dk.has
 exact decide_eq_true ⟨h0, h1⟩
theorem Dk.write_go (hl : d.Live) (hh : d.has a = true) (hb : b.length = 64) : d.write a b = (d.wrote a b, 0) := by
 unfold Dk.write
 rw [hh, hb, hl.gone]
 rfl
theorem Rdy.write (h : Rdy d) (hh : d.has a = true) (hb : b.length = 64) : Rdy (d.write a b).1 ∧ (d.write a b).1.now = d.now.set a.toNat b ∧ (d.write a b).1.safe.length = d.safe.length := by
 have e := Dk.write_go h.live hh hb
 have hl := h.live.write a b
 rw [e] at hl ⊢
 exact ⟨⟨h.ok.wrote hh hb, hl, h.bad⟩, Dk.now_wrote d a b, rfl⟩
theorem Rdy.wrs (h : Rdy d) (ha : 0 ≤ a) (hb : 64 * n ≤ b.length) (hr : a + n ≤ d.safe.length) : ∀ i, i ≤ n → Rdy (d.wrs a b i) ∧ (d.wrs a b i).now = setSecs d.now a.toNat b i ∧ (d.wrs a b i).safe.length = d.safe.length
 | 0, _ => ⟨h, rfl, rfl⟩
 | i + 1, hi => by
  obtain ⟨h1, h2, h3⟩ := Rdy.wrs h ha hb hr i (by omega)
  have hw := h1.write (a := a + (i : Nat)) (b := (b.drop (64 * i)).take 64) (has_of (by omega) (by rw [h3]; omega)) (by rw [List.length_take, List.length_drop]; omega)
  refine ⟨hw.1, ?_, hw.2.2.trans h3⟩
  show ((d.wrs a b i).write (a + (i : Nat)) ((b.drop (64 * i)).take 64)).1.now = _
  rw [hw.2.1, h2, setSecs, show (a + (i : Nat)).toNat = a.toNat + i from by omega]
/-- what is put is on the disk -/
theorem Rdy.puts (h : Rdy d) (ha : 0 ≤ a) (hb : b.length = 64 * n) (hr : a + n ≤ d.safe.length) : Rdy (d.puts a b) ∧ (d.puts a b).now = setSecs d.now a.toNat b n ∧ (d.puts a b).safe.length = d.safe.length := by
 have hn : b.length / 64 = n := by omega
 obtain ⟨h1, h2, h3⟩ := h.wrs (b := b) ha (by omega) hr n (Nat.le_refl _)
 have hp : d.puts a b = (d.wrs a b n).flushed := by
  unfold Dk.puts
  rw [hn, h1.live.flush.1]
 have hnow : (d.wrs a b n).flushed.now = (d.wrs a b n).now := rfl
 have hsl : (d.wrs a b n).flushed.safe.length = (d.wrs a b n).safe.length := by show (d.wrs a b n).now.length = _; rw [Dk.now_length]
 rw [hp]
 exact ⟨⟨h1.ok.flushed, h1.live.flush.2.1, h1.bad⟩, hnow.trans h2, hsl.trans h3⟩
/-- some sectors are on both disks as they are -/
def Agr (d d' : Dk) (lo hi : Int) : Prop := ∀ x, lo ≤ x → x < hi → d'.err x = d.err x ∧ d'.read x = d.read x
theorem Agr.sub {lo hi lo' hi' : Int} (h : Agr d d' lo hi) (h1 : lo ≤ lo') (h2 : hi' ≤ hi) : Agr d d' lo' hi' := fun x hx hy => h x (by omega) (by omega)
theorem Agr.trans {d'' : Dk} {lo hi : Int} (h : Agr d d' lo hi) (k : Agr d' d'' lo hi) : Agr d d'' lo hi := fun x hx hy => ⟨(k x hx hy).1.trans (h x hx hy).1, (k x hx hy).2.trans (h x hx hy).2⟩
theorem read_now (h : Rdy d) (h' : Rdy d') (hs : d'.safe.length = d.safe.length) {x : Int} (hx : d'.now[x.toNat]? = d.now[x.toNat]?) : d'.err x = d.err x ∧ d'.read x = d.read x := by
 have hh : d'.has x = d.has x := by unfold Dk.has; rw [hs]
 have he : d'.err x = d.err x := by rw [h'.err, h.err, hh]
 refine ⟨he, ?_⟩
 unfold Dk.read
 rw [he]
 have : d'.sector x = d.sector x := by
  unfold Dk.sector
  rw [List.getD_eq_getElem?_getD, List.getD_eq_getElem?_getD, hx]
 rw [this]
theorem Rdy.puts_agr (h : Rdy d) (ha : 0 ≤ a) (hb : b.length = 64 * n) (hr : a + n ≤ d.safe.length) {lo hi : Int} (hlo : 0 ≤ lo) (hx : hi ≤ a ∨ a + n ≤ lo) : Agr d (d.puts a b) lo hi := by
 obtain ⟨h1, h2, h3⟩ := h.puts ha hb hr
 intro x hx1 hx2
 refine read_now h h1 h3 ?_
 rw [h2]
 exact setSecs_other _ _ _ _ _ (by omega)
theorem Rdy.read_sec (h : Rdy d) {x : Int} (hx : d.has x = true) {s : List UInt8} (hs : d.now[x.toNat]? = some s) : d.read x = s := by
 unfold Dk.read
 rw [if_pos (h.err0 hx)]
 unfold Dk.sector
 rw [List.getD_eq_getElem?_getD, hs, Option.getD_some]
theorem rdy_gerr (h : Rdy d) (ha : 0 ≤ a) : ∀ n : Nat, a + n ≤ d.safe.length → gerr d a n = 0
 | 0, _ => rfl
 | n + 1, hr => by
  have h1 := rdy_gerr h ha n (by omega)
  rw [gerr_succ, if_pos h1]
  exact h.err0 (has_of (by omega) (by omega))
theorem chunks (b : List UInt8) : ∀ n : Nat, 64 * n ≤ b.length → (List.range n).flatMap (fun i => (b.drop (64 * i)).take 64) = b.take (64 * n)
 | 0, _ => by simp
 | n + 1, h => by
  rw [List.range_succ, List.flatMap_append, chunks b n (by omega), List.flatMap_cons, List.flatMap_nil, List.append_nil, Nat.mul_succ, List.take_add]
theorem Rdy.puts_gat (h : Rdy d) (ha : 0 ≤ a) (hb : b.length = 64 * n) (hr : a + n ≤ d.safe.length) : gat (d.puts a b) a n = b ∧ gerr (d.puts a b) a n = 0 := by
 obtain ⟨h1, h2, h3⟩ := h.puts ha hb hr
 refine ⟨?_, rdy_gerr h1 ha n (by rw [h3]; exact hr)⟩
 have : ∀ m : Nat, m ≤ n → gat (d.puts a b) a m = (List.range m).flatMap (fun i => (b.drop (64 * i)).take 64) := by
  intro m
  induction m with
  | zero => intro _; rfl
  | succ m ih =>
   intro hm
   rw [gat_succ, ih (by omega), List.range_succ, List.flatMap_append, List.flatMap_cons, List.flatMap_nil, List.append_nil]
   congr 1
   refine h1.read_sec (has_of (by omega) (by rw [h3]; omega)) ?_
   rw [h2, show (a + (m : Nat)).toNat = a.toNat + m from by omega]
   exact setSecs_at _ _ _ _ _ (by omega) (by rw [Dk.now_length]; omega)
 replace this := this n (Nat.le_refl _)
 rw [this, chunks b n (by omega), List.take_of_length_le (by omega)]
theorem gat_agr {lo hi : Int} (h : Agr d d' lo hi) (hlo : lo ≤ a) : ∀ n : Nat, a + n ≤ hi → gat d' a n = gat d a n ∧ gerr d' a n = gerr d a n
 | 0, _ => ⟨rfl, rfl⟩
 | n + 1, hr => by
  obtain ⟨h1, h2⟩ := gat_agr h hlo n (by omega)
  obtain ⟨h3, h4⟩ := h (a + (n : Nat)) (by omega) (by omega)
  exact ⟨by rw [gat_succ, gat_succ, h1, h4], by rw [gerr_succ, gerr_succ, h2, h3]⟩
/-- .. even if behind the record they are others -/
theorem follow_agr2 {c : Cf} {q q' : Ps} {r : Rc} {e : Int} {lo hi : Int} (h : Agr d d' lo hi) (hlo : lo ≤ c.at_ q.s + q.o) (hf : follow d c q = (some (r, q'), e)) (hhi : c.at_ q.s + q'.o ≤ hi) : follow d' c q = (some (r, q'), e) := by
 have hf0 := hf
 obtain ⟨_, hp, _, _⟩ := follow_place hf0
 have hn : q'.o = q.o + (sizeRc (d.read (c.at_ q.s + q.o)) : Nat) := by
  unfold follow at hf
  split at hf
  ·split at hf
   ·split at hf
    ·cases hf
    ·split at hf
     ·split at hf
      ·cases hf
      ·split at hf
       ·injection hf with h1 h2
        injection h1 with h1
        injection h1 with h1 h3
        rw [← h3]
       ·cases hf
     ·cases hf
   ·cases hf
  ·cases hf
 obtain ⟨h1, h2⟩ := h (c.at_ q.s + q.o) hlo (by omega)
 obtain ⟨h3, h4⟩ := gat_agr h hlo (sizeRc (d.read (c.at_ q.s + q.o))) (by omega)
 rw [← hf0]
 unfold follow
 rw [h1, h2, h3, h4]
end
theorem rcHd_take (b : List UInt8) : rcHd (b.take 64) = rcHd b ∧ rcK (b.take 64) = rcK b := by
 have h1 : (b.take 64).take 2 = b.take 2 := by rw [List.take_take]; rfl
 have h2 : ((b.take 64).drop 14).take 1 = (b.drop 14).take 1 := by rw [List.drop_take, List.take_take]; rfl
 have h3 : ((b.take 64).drop 15).take 1 = (b.drop 15).take 1 := by rw [List.drop_take, List.take_take]; rfl
 unfold rcHd rcN rcK
 rw [h1, h2, h3]
 exact ⟨rfl, rfl⟩
theorem sizeRc_laid {r : Rc} (h : rcMay r = true) : sizeRc ((rcBytes r).take 64) = 1 + r.bl.length := by
 obtain ⟨h1, h2⟩ := rcOf_bytes h
 have hl := rcBytes_length h
 obtain ⟨⟨hm, hn, hp, h3, h6⟩, hi, hb, hf⟩ := rcMay_iff.1 h
 have hk : r.bl.length ≤ 6 := by have := loads_le r.its; omega
 obtain ⟨t1, t2⟩ := rcHd_take (rcBytes r)
 unfold rcFit at h2
 simp only [Bool.and_eq_true, decide_eq_true_eq] at h2
 unfold sizeRc
 rw [t1, t2, if_pos ⟨by rw [List.length_take]; omega, h2.1⟩, rcK_bytes hk]
/-- the record that was laid at a place follows it -/
theorem follow_laid {d : Dk} {c : Cf} {q : Ps} {r : Rc} (hr : rcMay r = true) (hg : gat d (c.at_ q.s + q.o) (1 + r.bl.length) = rcBytes r) (hge : gerr d (c.at_ q.s + q.o) (1 + r.bl.length) = 0) (hd : d.Ok)
  (h1 : 1 ≤ q.o) (h2 : q.o + (1 + r.bl.length : Nat) ≤ c.l) (hn : r.n = q.l) (hp : r.p = q.p) (hm : q.m ≤ r.m) : follow d c q = (some (r, ⟨q.s, q.o + (1 + r.bl.length : Nat), q.l + 1, (rcSum r : Nat), r.m⟩), 0) := by
 have he0 : d.err (c.at_ q.s + q.o) = 0 := by rw [← gerr_one]; exact gerr_le hge (by omega)
 have hs1 : d.read (c.at_ q.s + q.o) = (rcBytes r).take 64 := by
  have h64 := Dk.read_64 hd he0
  have : gat d (c.at_ q.s + q.o) (1 + r.bl.length) = d.read (c.at_ q.s + q.o) ++ gat d (c.at_ q.s + q.o + 1) r.bl.length := by
   unfold gat
   rw [Nat.add_comm 1, List.range_succ_eq_map, List.flatMap_cons, List.flatMap_map]
   congr 1
   ·simp
   ·congr 1
    funext i
    congr 1
    simp only [Nat.succ_eq_add_one]
    omega
  rw [← hg, this, List.take_left' h64]
 have hsz : sizeRc (d.read (c.at_ q.s + q.o)) = 1 + r.bl.length := by rw [hs1]; exact sizeRc_laid hr
 rw [follow_rec ⟨h1, by omega⟩ rfl he0 hsz (by omega) hge (by rw [hg]; exact dec_rc hr), if_pos ⟨hn, hp, hm⟩]
theorem sizeRc_zero : sizeRc (List.replicate 64 0) = 0 := by
 have : rcHd (List.replicate 64 0) = false := by decide
 unfold sizeRc
 rw [this]
 simp
theorem follow_zero {d : Dk} {c : Cf} {q : Ps} (he : d.err (c.at_ q.s + q.o) = 0) (hz : d.read (c.at_ q.s + q.o) = List.replicate 64 0) : follow d c q = (none, 0) := by
 by_cases h : 1 ≤ q.o ∧ q.o ≤ c.l - 1
 ·exact follow_size h rfl he (by rw [hz]; exact sizeRc_zero) (.inl rfl)
 ·exact follow_out h
/-- records that follow one another from a place on, none of which tells another segment -/
inductive Laid (d : Dk) (c : Cf) : Ps → List (Ps × Rc) → Ps → Prop
 | nil (q : Ps) : Laid d c q [] q
 | cons {q q1 q' : Ps} {r : Rc} {l : List (Ps × Rc)} : follow d c q = (some (r, q1), 0) → nextOf r = none → Laid d c q1 l q' → Laid d c q ((q, r) :: l) q'
theorem Laid.snoc {d : Dk} {c : Cf} {q q1 q2 : Ps} {r : Rc} {l : List (Ps × Rc)} (h : Laid d c q l q1) (hf : follow d c q1 = (some (r, q2), 0)) (hn : nextOf r = none) : Laid d c q (l ++ [(q1, r)]) q2 := by
 induction h with
 | nil q => exact .cons hf hn (.nil _)
 | cons h1 h2 _ ih => exact .cons h1 h2 (ih hf)
theorem Laid.place {d : Dk} {c : Cf} {q q' : Ps} {l : List (Ps × Rc)} (h : Laid d c q l q') : q'.s = q.s ∧ q.o + l.length ≤ q'.o := by
 induction h with
 | nil q => simp
 | cons h1 h2 _ ih =>
  obtain ⟨e1, e2, _, _⟩ := follow_place h1
  rw [List.length_cons]
  exact ⟨ih.1.trans e1, by omega⟩
theorem Laid.scan {d : Dk} {c : Cf} {q q' : Ps} {l : List (Ps × Rc)} (h : Laid d c q l q') : ∀ k, scanG d c (k + l.length) q = (l ++ (scanG d c k q').1, (scanG d c k q').2) := by
 induction h with
 | nil q => intro k; rfl
 | cons h1 h2 _ ih =>
  intro k
  rw [List.length_cons, ← Nat.add_assoc, scanG_some h1, h2]
  simp only [Option.isSome_none, Bool.false_eq_true, if_false]
  rw [ih k]
  rfl
theorem Laid.agr {d d' : Dk} {c : Cf} {q q' : Ps} {l : List (Ps × Rc)} {lo hi : Int} (h : Laid d c q l q') (ha : Agr d d' lo hi) (hlo : lo ≤ c.at_ q.s + q.o) (hhi : c.at_ q.s + q'.o ≤ hi) : Laid d' c q l q' := by
 induction h with
 | nil q => exact .nil q
 | cons h1 h2 h3 ih =>
  obtain ⟨e1, e2, _, _⟩ := follow_place h1
  obtain ⟨e3, e4⟩ := h3.place
  refine .cons (follow_agr2 ha hlo h1 (by omega)) h2 (ih (by rw [e1]; omega) (by rw [e1]; omega))
/-- gone through to its end -/
theorem Laid.told {d : Dk} {c : Cf} {q q' : Ps} {l : List (Ps × Rc)} {e : Int} (h : Laid d c q l q') (hq : 1 ≤ q.o) (hq' : q'.o ≤ 64) (hf : follow d c q' = (none, e)) : scanG d c 65 q = (l, q', e) := by
 obtain ⟨_, h2⟩ := h.place
 obtain ⟨k, hk⟩ : ∃ k, 65 = k + 1 + l.length := ⟨64 - l.length, by omega⟩
 rw [hk, h.scan (k + 1), scanG_none hf, List.append_nil]
end Go.Kn
namespace Go.Kn
open Go Go.RowKit
theorem may_k (k b c v : Int) : (It.mk k b c v).may = true ↔ ((k = 1 ∨ k = 5) ∧ (0 ≤ b ∧ b ≤ 63) ∧ c = 0 ∧ v = 0) ∨ ((k = 2 ∨ k = 6) ∧ (0 ≤ b ∧ b ≤ 63) ∧ (1 ≤ c ∧ c ≤ 64 - b) ∧ v = 0) ∨ (k = 3 ∧ b = 0 ∧ c = 0 ∧ (1 ≤ v ∧ v ≤ 2147483647)) ∨ (k = 4 ∧ (0 ≤ b ∧ b ≤ 63) ∧ c = 0 ∧ (1 ≤ v ∧ v ≤ 4095)) ∨ (k = 7 ∧ b = 0 ∧ c = 0 ∧ (0 ≤ v ∧ v ≤ 31)) := by
 unfold It.may
 simp only
 split
 ·simp only [Bool.and_eq_true, decide_eq_true_eq, beq_iff_eq]; omega
 ·split
  ·simp only [Bool.and_eq_true, decide_eq_true_eq, beq_iff_eq]; omega
  ·split
   ·simp only [Bool.and_eq_true, decide_eq_true_eq, beq_iff_eq]; omega
   ·split
    ·simp only [Bool.and_eq_true, decide_eq_true_eq, beq_iff_eq]; omega
    ·split
     ·simp only [Bool.and_eq_true, decide_eq_true_eq, beq_iff_eq]; omega
     ·simp; omega
theorem loads_one (i : It) (h : i.may = true) : loads [i] = if i.k = 1 ∨ i.k = 4 ∨ i.k = 5 then 1 else 0 := by
 unfold loads It.loaded
 rw [List.filter_cons, h]
 by_cases h1 : i.k = 1
 ·simp [h1]
 ·by_cases h4 : i.k = 4
  ·simp [h4]
  ·by_cases h5 : i.k = 5
   ·simp [h5]
   ·simp [h1, h4, h5]
theorem kIt_may (z f : Int) (i : Nat) (hi : i < 6) : (kIt z f i).may = true ∧ (kIt z f i).k ≠ 7 ∧ loads [kIt z f i] = (kBl z f i).length ∧ full64 (kBl z f i) = true := by
 have hf := Int.emod_nonneg f (b := 1000) (by decide)
 have hf2 := Int.emod_lt_of_pos f (b := 1000) (by decide)
 have hfull : full64 (kBl z f i) = true := by
  unfold kBl
  split
  ·simp [full64, kBlk]
  ·rfl
 have h : (kIt z f i).may = true ∧ (kIt z f i).k ≠ 7 ∧ (((kIt z f i).k = 1 ∨ (kIt z f i).k = 4 ∨ (kIt z f i).k = 5) ↔ (z % 6 = 0 ∨ z % 6 = 3 ∨ z % 6 = 4)) := by
  unfold kIt
  split
  ·rename_i h
   refine ⟨(may_k _ _ _ _).2 (.inr (.inl ⟨by omega, by omega, by omega, rfl⟩)), ?_, ⟨fun hh => ?_, fun hh => ?_⟩⟩ <;> (try simp only at hh) <;> (try simp only) <;> first | omega | simp
  ·split
   ·refine ⟨(may_k _ _ _ _).2 (.inr (.inr (.inl ⟨rfl, rfl, rfl, by omega⟩))), ?_, ⟨fun hh => ?_, fun hh => ?_⟩⟩ <;> (try simp only at hh) <;> (try simp only) <;> first | omega | simp
   ·split
    ·refine ⟨(may_k _ _ _ _).2 (.inr (.inr (.inr (.inl ⟨rfl, by omega, rfl, by omega⟩)))), ?_, ⟨fun hh => ?_, fun hh => ?_⟩⟩ <;> (try simp only at hh) <;> (try simp only) <;> first | omega | simp
    ·rename_i h1 h2 h3
     refine ⟨(may_k _ _ _ _).2 (.inl ⟨by omega, by omega, rfl, rfl⟩), ?_, ⟨fun hh => ?_, fun hh => ?_⟩⟩ <;> (try simp only at hh) <;> (try simp only) <;> first | omega | simp
 refine ⟨h.1, h.2.1, ?_, hfull⟩
 rw [loads_one _ h.1]
 unfold kBl
 by_cases hz : z % 6 = 0 ∨ z % 6 = 3 ∨ z % 6 = 4
 ·rw [if_pos (h.2.2.2 hz), if_pos hz]; rfl
 ·rw [if_neg (fun hh => hz (h.2.2.1 hh)), if_neg hz]; rfl
theorem kIts_may (zs : List Int) (f : Int) : ∀ n, n ≤ 6 → (kIts zs f n).all It.may = true ∧ (∀ i ∈ kIts zs f n, i.k ≠ 7) ∧ loads (kIts zs f n) = (kBls zs f n).length ∧ full64 (kBls zs f n) = true
 | 0, _ => ⟨rfl, by simp [kIts], rfl, rfl⟩
 | n + 1, h => by
  obtain ⟨h1, h2, h3, h4⟩ := kIts_may zs f n (by omega)
  obtain ⟨g1, g2, g3, g4⟩ := kIt_may (zs.getD n 0) f n (by omega)
  refine ⟨?_, ?_, ?_, ?_⟩
  ·rw [kIts, List.all_append, h1, List.all_cons, g1]; rfl
  ·intro i hi
   rw [kIts, List.mem_append] at hi
   rcases hi with hi | hi
   ·exact h2 i hi
   ·rw [List.mem_singleton] at hi
    subst hi
    exact g2
  ·rw [kIts, kBls, List.length_append, loads_snoc, h3]
   have : loads [kIt (zs.getD n 0) f n] = if (kIt (zs.getD n 0) f n).loaded then 1 else 0 := by
    have := loads_snoc [] (kIt (zs.getD n 0) f n)
    simpa [loads] using this
   omega
  ·rw [kBls]
   unfold full64 at h4 g4 ⊢
   rw [List.all_append, h4, g4]
   rfl
/-- what a record of the kit is, behind a place -/
theorem kMade_ok (q : Ps) (zs : List Int) (f : Int) (hz : zs.length ≤ 6) (hm : 1 ≤ q.m ∧ q.m ≤ 2147483647) (hl : 1 ≤ q.l ∧ q.l ≤ 2147483647) (hp : 0 ≤ q.p ∧ q.p ≤ 4294967295) :
  rcMay (kMade q ⟨zs, f, 0, 0, 0⟩) = true ∧ (kMade q ⟨zs, f, 0, 0, 0⟩).n = q.l ∧ (kMade q ⟨zs, f, 0, 0, 0⟩).p = q.p ∧ (kMade q ⟨zs, f, 0, 0, 0⟩).m = q.m ∧ nextOf (kMade q ⟨zs, f, 0, 0, 0⟩) = none ∧ (kMade q ⟨zs, f, 0, 0, 0⟩).bl.length ≤ 6 := by
 have e1 : kMount q ⟨zs, f, 0, 0, 0⟩ = q.m := by unfold kMount; simp only; omega
 have e2 : kLsn q ⟨zs, f, 0, 0, 0⟩ = q.l := by unfold kLsn; simp only; omega
 have e3 : kPrev q ⟨zs, f, 0, 0, 0⟩ = q.p := by unfold kPrev; simp only; omega
 have hmin : min zs.length 6 = zs.length := by omega
 obtain ⟨h1, h2, h3, h4⟩ := kIts_may zs f zs.length hz
 have hit : (kItems zs f).all It.may = true ∧ (∀ i ∈ kItems zs f, i.k ≠ 7) ∧ loads (kItems zs f) = (kBlocks zs f).length ∧ (1 ≤ (kItems zs f).length ∧ (kItems zs f).length ≤ 6) := by
  unfold kItems kBlocks
  rw [hmin]
  split
  ·rename_i h0
   rw [h0]
   exact ⟨by decide, by simp, rfl, by simp⟩
  ·rename_i h0
   exact ⟨h1, h2, h3, by rw [kIts_length]; omega⟩
 have hfu : full64 (kBlocks zs f) = true := by unfold kBlocks; rw [hmin]; exact h4
 refine ⟨?_, e2, e3, e1, ?_, ?_⟩
 ·rw [rcMay_iff]
  refine ⟨⟨?_, ?_, ?_, ?_⟩, ?_, ?_, ?_⟩
  ·show 1 ≤ kMount q _ ∧ kMount q _ ≤ _; rw [e1]; exact hm
  ·show 1 ≤ kLsn q _ ∧ kLsn q _ ≤ _; rw [e2]; exact hl
  ·show 0 ≤ kPrev q _ ∧ kPrev q _ ≤ _; rw [e3]; exact hp
  ·exact hit.2.2.2
  ·exact hit.1
  ·exact hit.2.2.1.symm
  ·exact hfu
 ·rw [nextOf_eq]
  have : (kItems zs f).find? is7 = none := by
   rw [List.find?_eq_none]
   intro i hi
   have := hit.2.1 i hi
   unfold is7
   simpa using this
  show ((kItems zs f).find? is7).map _ = none
  rw [this]
  rfl
 ·show (kBlocks zs f).length ≤ 6
  rw [← hit.2.2.1]
  have := loads_le (kItems zs f)
  omega
/-- a segment in which records stand from one place on, noughts behind them -/
structure Lg (d : Dk) (c : Cf) (q0 : Ps) (l : List (Ps × Rc)) (q : Ps) : Prop where
 rdy : Rdy d
 len : (d.safe.length : Int) = c.sectors
 laid : Laid d c q0 l q
 zs : ∀ x, c.at_ q.s + q.o ≤ x → x < c.at_ q.s + c.l → d.read x = List.replicate 64 0
 o0 : 1 ≤ q0.o
 o1 : q.o ≤ c.l - 1
 s0 : 0 ≤ q0.s ∧ q0.s ≤ c.s - 1
theorem Cf.sec (c : Cf) (h : c.Ok) (k : Int) (h0 : 0 ≤ k) (h1 : k ≤ c.s - 1) : 2 ≤ c.at_ k ∧ c.at_ k + c.l ≤ c.sectors ∧ c.sectors ≤ 4096 := by
 obtain ⟨m1, m2⟩ := Cf.prod c h k h0 (by omega)
 obtain ⟨m3, m4⟩ := Cf.prod c h c.s (by have := h.2.1; omega) (by omega)
 have h3 := rln_bounds h
 have h4 := pgs_bounds h
 have h5 : (c.s - k) * c.l ≥ 1 * c.l := Int.mul_le_mul_of_nonneg_right (by omega) (by have := h.2.2; omega)
 rw [Int.sub_mul] at h5
 unfold Cf.at_ Cf.sectors
 rw [if_pos ⟨h0, h1⟩]
 omega
theorem Lg.none_ {d : Dk} {c : Cf} {q0 q : Ps} {l : List (Ps × Rc)} (h : Lg d c q0 l q) (hc : c.Ok) : follow d c q = (none, 0) := by
 obtain ⟨h1, h2⟩ := h.laid.place
 obtain ⟨g1, g2, g3⟩ := Cf.sec c hc q.s (by rw [h1]; exact h.s0.1) (by rw [h1]; exact h.s0.2)
 have hl := h.len
 have ho0 := h.o0
 have ho := h.o1
 exact follow_zero (h.rdy.err0 (has_of (by omega) (by omega))) (h.zs _ (Int.le_refl _) (by omega))
theorem Lg.scan {d : Dk} {c : Cf} {q0 q : Ps} {l : List (Ps × Rc)} (h : Lg d c q0 l q) (hc : c.Ok) : scanG d c 65 q0 = (l, q, 0) :=
 h.laid.told h.o0 (by have := h.o1; have := hc.2.2; omega) (h.none_ hc)
/-- one record more -/
theorem Lg.add {d : Dk} {c : Cf} {q0 q : Ps} {l : List (Ps × Rc)} (h : Lg d c q0 l q) (hc : c.Ok) {r : Rc} (hr : rcMay r = true) (hn : r.n = q.l) (hp : r.p = q.p) (hm : q.m ≤ r.m) (hx : nextOf r = none) (hf : q.o + (1 + r.bl.length : Nat) ≤ c.l - 1) :
  Lg (d.puts (c.at_ q.s + q.o) (rcBytes r)) c q0 (l ++ [(q, r)]) ⟨q.s, q.o + (1 + r.bl.length : Nat), q.l + 1, (rcSum r : Nat), r.m⟩ := by
 obtain ⟨h1, h2⟩ := h.laid.place
 obtain ⟨g1, g2, g3⟩ := Cf.sec c hc q.s (by rw [h1]; exact h.s0.1) (by rw [h1]; exact h.s0.2)
 have hl := h.len
 have ho := h.o0
 have hb := rcBytes_length hr
 have hpt := h.rdy.puts (a := c.at_ q.s + q.o) (by omega) hb (by omega)
 have hg := h.rdy.puts_gat (a := c.at_ q.s + q.o) (by omega) hb (by omega)
 refine ⟨hpt.1, by rw [hpt.2.2]; exact hl, ?_, ?_, h.o0, by simp only; omega, h.s0⟩
 ·refine (h.laid.agr (lo := c.at_ q0.s) (h.rdy.puts_agr (lo := c.at_ q0.s) (hi := c.at_ q.s + q.o) (by omega) hb (by omega) (by rw [← h1]; omega) (.inl (Int.le_refl _))) (by omega) (by rw [h1]; exact Int.le_refl _)).snoc ?_ hx
  exact follow_laid hr hg.1 hg.2 hpt.1.ok (by omega) (by omega) hn hp hm
 ·intro x hx1 hx2
  simp only at hx1 hx2
  have := h.rdy.puts_agr (a := c.at_ q.s + q.o) (lo := x) (hi := x + 1) (by omega) hb (by omega) (by omega) (.inr (by omega)) x (Int.le_refl _) (by omega)
  rw [this.2]
  exact h.zs x (by omega) (by omega)
theorem read_new (n : Nat) (x : Int) (hn : 1 ≤ n ∧ n ≤ 4096) (h0 : 0 ≤ x) (h1 : x < n) : (Dk.new n).read x = List.replicate 64 0 := by
 refine (Rdy.new hn.1 hn.2).read_sec (has_of h0 (by simp [Dk.new]; omega)) ?_
 show (List.replicate n (List.replicate 64 (0 : UInt8)))[x.toNat]? = _
 rw [List.getElem?_replicate, if_pos (by omega)]
/-- a new disk with a segment's head -/
theorem Lg.start (c : Cf) (hc : c.Ok) (p q : Ps) (hq : q.s = p.s) (hs : 0 ≤ p.s ∧ p.s ≤ c.s - 1) (ho : 1 ≤ q.o ∧ q.o ≤ c.l - 1) : Lg ((Dk.new c.sectors.toNat).puts (c.at_ p.s) (headB p)) c q [] q := by
 obtain ⟨g1, g2, g3⟩ := Cf.sec c hc p.s hs.1 hs.2
 have hl := hc.2.2
 have hr : Rdy (Dk.new c.sectors.toNat) := Rdy.new (by omega) (by omega)
 have hlen : (Dk.new c.sectors.toNat).safe.length = c.sectors.toNat := by simp [Dk.new]
 have hpt := hr.puts (a := c.at_ p.s) (b := headB p) (n := 1) (by omega) (headB_length p) (by omega)
 refine ⟨hpt.1, by rw [hpt.2.2, hlen]; omega, .nil q, ?_, ho.1, ho.2, by rw [hq]; exact hs⟩
 intro x hx1 hx2
 rw [hq] at hx1 hx2
 have := hr.puts_agr (a := c.at_ p.s) (b := headB p) (n := 1) (lo := x) (hi := x + 1) (by omega) (headB_length p) (by omega) (by omega) (.inr (by omega)) x (Int.le_refl _) (by omega)
 rw [this.2]
 exact read_new _ x (by omega) (by omega) (by omega)
/-- one record of the kit more -/
theorem logRun_one {d : Dk} {c : Cf} {q0 q : Ps} {l : List (Ps × Rc)} (h : Lg d c q0 l q) (hc : c.Ok) (zs : List Int) (f : Int) (hz : zs.length ≤ 6) (hm : 1 ≤ q.m ∧ q.m ≤ 2147483647) (hl : 1 ≤ q.l ∧ q.l ≤ 2147483647) (hp : 0 ≤ q.p ∧ q.p ≤ 4294967295) (hf : q.o + 7 ≤ c.l - 1) :
  ∃ (r : Rc) (q' : Ps) (d' : Dk), logRun c [⟨zs, f, 0, 0, 0⟩] q d = (q', d') ∧ r = kMade q ⟨zs, f, 0, 0, 0⟩ ∧ rcMay r = true ∧ Lg d' c q0 (l ++ [(q, r)]) q' ∧ q' = ⟨q.s, q.o + (1 + r.bl.length : Nat), q.l + 1, (rcSum r : Nat), q.m⟩ ∧ r.bl.length ≤ 6 ∧ d' = d.puts (c.at_ q.s + q.o) (rcBytes r) := by
 obtain ⟨h1, h2, h3, h4, h5, h6⟩ := kMade_ok q zs f hz hm hl hp
 have hb := rcBytes_length h1
 have he := enc_rc h1
 have hdiv : (rcBytes (kMade q ⟨zs, f, 0, 0, 0⟩)).length / 64 = 1 + (kMade q ⟨zs, f, 0, 0, 0⟩).bl.length := by omega
 have ha := h.add hc h1 h2 h3 (by omega) h5 (by omega)
 refine ⟨_, _, _, Go.Proofs.YtgcfdjcpcclcjaaGreat.logRun_go he (by rw [hdiv]; omega), rfl, h1, ?_, ?_, h6, rfl⟩
 ·show Lg _ c q0 _ ⟨q.s, q.o + (((rcBytes (kMade q ⟨zs, f, 0, 0, 0⟩)).length / 64 : Nat) : Int), (kMade q ⟨zs, f, 0, 0, 0⟩).n + 1, _, _⟩
  rw [hdiv, h2]
  exact ha
 ·show (⟨q.s, q.o + (((rcBytes (kMade q ⟨zs, f, 0, 0, 0⟩)).length / 64 : Nat) : Int), (kMade q ⟨zs, f, 0, 0, 0⟩).n + 1, _, _⟩ : Ps) = _
  rw [hdiv, h2, h4]
end Go.Kn
namespace Go.Proofs.YtgcfdjcpcclcjaaGreat
open Go Go.RowKit Go.Kn
theorem _root_.Go.Kn.fc_geo {w : World} {M : Nat → Prop} {p : Nat} {b s l : Int} (h : GeoAt w p b s l) (hp : ¬ M p) : Fc w M (fun W => GeoAt W p b s l) := fun W hW => ⟨fc_cell h.c0 hp W hW, fc_cell h.c1 hp W hW, fc_cell h.c2 hp W hW⟩
def DeskSays (w0 : World) (cf : Cf) (c : Fr3) (en : Ending) (w' : World) : Prop :=
 ∃ (p : PD) (r : RD) (gb : Nat), en = .returned (.tuple #[.pointer (some ⟨p.D, 0, none⟩), .pointer (some ⟨r.M, 0, none⟩), .pointer (some ⟨gb, 0, none⟩), .bool true]) ∧ Duo w0 w' p r (Dk.new cf.sectors.toNat) (Dk.new cf.sectors.toNat) ⟨c.L, c.G, (fun W => GeoAt W gb cf.b cf.s cf.l) :: c.F⟩
set_option maxRecDepth 100000 in
set_option maxHeartbeats 4000000 in
theorem desk13_any (w0 w : World) (cf : Cf) (c : Fr3) (h : Wc w0 w c.L c.G c.F) (hc : cf.Ok) : Calls Tryz.prog 15 #[.agg #[.int .i64 cf.b, .int .i64 cf.s, .int .i64 cf.l]] w (DeskSays w0 cf c) := by
 have H := Lib.hid (h.newB #[.int .i64 cf.b, .int .i64 cf.s, .int .i64 cf.l] 25 rfl)
 obtain ⟨g1, g2, g3⟩ := Cf.sec cf hc 0 (by decide) (by have := hc.2.1; omega)
 have hl := hc.2.2
 have HC := Lib.hid hc
 obtain ⟨n, hn⟩ : ∃ n : Nat, cf.sectors.toNat = n := ⟨_, rfl⟩
 have hsn : cf.sectors = (n : Int) := by omega
 have HN := Lib.hid hn
 have HSN := Lib.hid hsn
 have hn1 : 1 ≤ n ∧ n ≤ 4096 := by omega
 obtain ⟨hn1, hn2⟩ := hn1
 clear h hc hn hsn g1 g2 g3
 go_enter Tryz.func15, Tryz.ntmps15
 go_wp2_with fail
 refine (geom_new_any cf.b cf.s cf.l _ HC.out).mono ?_
 rintro en w1 ⟨gb, rfl, hgb, hgeo, hO⟩
 have hfc : Fc w1 (fun k => k < (w.alloc (.cells #[.int .i64 cf.b, .int .i64 cf.s, .int .i64 cf.l] 25)).heap.size) (fun W => GeoAt W gb cf.b cf.s cf.l) := fc_geo hgeo (by omega)
 have HW := Lib.hid (H.out.addFc hO hfc)
 clear hgb hgeo hO hfc H
 generalize w.heap.size = f1 at *
 have b1 := HW.out.boxi 0 rfl
 obtain ⟨e0, e1, e2⟩ := Kn.own3 b1
 clear b1
 go_wp2_with fail
 refine (ref_sectors_any cf _ HC.out).mono ?_
 rintro en w2 ⟨rfl, hO⟩
 rw [HSN.out]
 have HW2 := Lib.hid (HW.out.keep0 hO)
 clear hO HW e0 e1 e2
 go_wp2_with fail
 refine (kit_two_any w0 w2 n ⟨(f1, [.int .i64 cf.b, .int .i64 cf.s, .int .i64 cf.l]) :: c.L, c.G, (fun W => GeoAt W gb cf.b cf.s cf.l) :: c.F⟩ HW2.out hn1 hn2).mono ?_
 rintro en w3 ⟨p, r, rfl, hpn, hrn, hd⟩
 have HD := Lib.hid hd.ldrop
 have HPN := Lib.hid hpn
 clear hd HW2 hpn hrn
 go_wp2_with fail
 refine bodyPost_ret (v := .tuple #[.pointer (some ⟨p.D, 0, none⟩), .pointer (some ⟨r.M, 0, none⟩), .pointer (some ⟨gb, 0, none⟩), .bool true]) (by kernel_rfl) rfl ⟨p, r, gb, rfl, ?_⟩
 rw [HN.out]
 exact HD.out
end Go.Proofs.YtgcfdjcpcclcjaaGreat
namespace Go.Proofs.YtgcfdjcpcclcjaaGreat
open Go Go.RowKit Go.Kn
theorem Duo.dk {w0 w : World} {p : PD} {r : RD} {d e : Dk} {c : Fr3} (h : Duo w0 w p r d e c) : ∃ L0 G0 F0, Wc w0 w (c.L ++ L0) (c.G ++ G0) (c.F ++ F0) ∧ DkIn p d L0 ∧ ∀ w' (c' : Fr3), Wc w0 w' (c'.L ++ L0) (c'.G ++ G0) (c'.F ++ F0) → Duo w0 w' p r d e c' := by
 obtain ⟨v, v', lv, k, ls, sl, hs, hl, hm⟩ := h.mem
 have pl : ∀ L, (p.L v d (r.L v' lv sl e L)).Perm (L ++ p.L v d (r.L v' lv sl e [])) := fun L => by
  have := List.perm_append_comm (l₁ := p.L v d (r.L v' lv sl e [])) (l₂ := L)
  simpa [PD.L, RD.L] using this
 have pg : ∀ (a b x : Gs) G, (a :: b :: x :: G).Perm (G ++ [a, b, x]) := fun a b x G => by
  have := List.perm_append_comm (l₁ := [a, b, x]) (l₂ := G)
  simpa using this
 refine ⟨p.L v d (r.L v' lv sl e []), [⟨158, 65, v, d.held.length, heldV d.held⟩, ⟨175, 2, v', e.held.length, heldR e.held hs⟩, ⟨47, 1, lv, k, ls⟩], [(fun W => Bls W sl e.safe), (fun W => Bls W hs (e.held.map (·.2)))], ?_, ?_, fun w' c' h' => ?_⟩
 ·refine (hm.perm (pl _) (pg _ _ _ _)).subF ?_
  intro f hf
  rcases List.mem_append.1 hf with hf | hf
  ·exact List.mem_cons_of_mem _ (List.mem_cons_of_mem _ hf)
  ·simp only [List.mem_cons, List.not_mem_nil, or_false] at hf ⊢
   rcases hf with hf | hf
   ·exact .inl hf
   ·exact .inr (.inl hf)
 ·exact ⟨h.ok, h.N, ⟨v, by simp [PD.L]⟩, by simp [PD.L], by simp [PD.L]⟩
 ·refine ⟨h.ok, h.N, h.hs, h.hn, h.hf, h.ok', h.N', h.hs', h.hf', v, v', lv, k, ls, sl, hs, hl, (h'.perm (pl _).symm (pg _ _ _ _).symm).subF ?_⟩
  intro f hf
  simp only [List.mem_cons] at hf
  rcases hf with hf | hf | hf
  ·exact List.mem_append.2 (.inr (by simp [hf]))
  ·exact List.mem_append.2 (.inr (by simp [hf]))
  ·exact List.mem_append.2 (.inl hf)
theorem duo_new {w0 w : World} {p : PD} {r : RD} {d e : Dk} {L : List (Nat × List Value)} {G : List Gs} {F : List (World → Prop)} (h : Duo w0 w p r d e ⟨L, G, F⟩) (gb : Nat) (q : Ps) :
  Calls Tryz.prog 28 #[.pointer (some ⟨p.D, 0, none⟩), .pointer (some ⟨gb, 0, none⟩), .agg #[.int .i64 q.s, .int .i64 q.o, .int .i64 q.l, .int .i64 q.p, .int .i64 q.m]] w fun en w' => ∃ S, en = .returned (.pointer (some ⟨S, 0, none⟩)) ∧ Duo w0 w' p r d e ⟨(S, SB p.D gb q false q 0) :: L, G, F⟩ := by
 obtain ⟨L0, G0, F0, hw, -, back⟩ := h.dk
 refine (scan_new_any w0 w p.D gb q _ _ _ (Wk.start hw)).mono ?_
 rintro en w1 ⟨S, rfl, hw1⟩
 exact ⟨S, rfl, back w1 ⟨(S, SB p.D gb q false q 0) :: L, G, F⟩ hw1.toWc⟩
theorem duo_seg {w0 w : World} {p : PD} {r : RD} {d e : Dk} {L : List (Nat × List Value)} {G : List Gs} {F : List (World → Prop)} (h : Duo w0 w p r d e ⟨L, G, F⟩) {gb : Nat} {cf : Cf} (k : Int) (hg : (fun W => GeoAt W gb cf.b cf.s cf.l) ∈ F) (hc : cf.Ok) (hk : 0 ≤ k ∧ k ≤ cf.s - 1) :
  Calls Tryz.prog 18 #[.pointer (some ⟨p.D, 0, none⟩), .pointer (some ⟨gb, 0, none⟩), .int .i64 k] w fun en w' => ∃ S, en = .returned (.pointer (some ⟨S, 0, none⟩)) ∧ Duo w0 w' p r d e ⟨(S, SB p.D gb ⟨k, 0, 0, 0, 0⟩ true ⟨k, 0, 0, 0, 0⟩ 0) :: L, G, F⟩ := by
 obtain ⟨L0, G0, F0, hw, -, back⟩ := h.dk
 refine (scan_segment_any w0 w p.D gb cf k _ _ _ (Wk.start hw) (List.mem_append_left _ hg) hc hk).mono ?_
 rintro en w1 ⟨S, rfl, hw1⟩
 exact ⟨S, rfl, back w1 ⟨_ :: L, G, F⟩ hw1.toWc⟩
theorem duo_seg_none {w0 w : World} {p : PD} {r : RD} {d e : Dk} {L : List (Nat × List Value)} {G : List Gs} {F : List (World → Prop)} (h : Duo w0 w p r d e ⟨L, G, F⟩) {gb : Nat} {cf : Cf} (k : Int) (hg : (fun W => GeoAt W gb cf.b cf.s cf.l) ∈ F) (hc : cf.Ok) (hk : ¬ (0 ≤ k ∧ k ≤ cf.s - 1)) :
  Calls Tryz.prog 18 #[.pointer (some ⟨p.D, 0, none⟩), .pointer (some ⟨gb, 0, none⟩), .int .i64 k] w fun en w' => en = .returned (.pointer none) ∧ Duo w0 w' p r d e ⟨L, G, F⟩ := by
 obtain ⟨L0, G0, F0, hw, -, back⟩ := h.dk
 refine (scan_segment_none w0 w p.D gb cf k _ _ _ (Wk.start hw) (List.mem_append_left _ hg) hc hk).mono ?_
 rintro en w1 ⟨rfl, hw1⟩
 exact ⟨rfl, back w1 ⟨L, G, F⟩ hw1.toWc⟩
theorem duo_end {w0 w : World} {p : PD} {r : RD} {d e : Dk} {L : List (Nat × List Value)} {G : List Gs} {F : List (World → Prop)} {S gb : Nat} {q : Ps} {own : Bool} {en : Ps} {er : Int} (h : Duo w0 w p r d e ⟨L, G, F⟩) (hS : (S, SB p.D gb q own en er) ∈ L) :
  Calls Tryz.prog 20 #[.pointer (some ⟨S, 0, none⟩)] w fun e' w' => e' = .returned (.agg #[.int .i64 en.s, .int .i64 en.o, .int .i64 en.l, .int .i64 en.p, .int .i64 en.m]) ∧ Only [] w w' := by
 obtain ⟨L0, G0, F0, hw, -, -⟩ := h.dk
 obtain ⟨A, B, hAB⟩ := List.append_of_mem (List.mem_append_left L0 hS)
 have hw2 := hw.perm (L' := (S, SB p.D gb q own en er) :: (A ++ B)) (by show (L ++ L0).Perm _; rw [hAB]; exact List.perm_middle) (List.Perm.refl _)
 exact scan_end_any w0 w S gb p.D q own en er _ _ _ (Wk.start hw2)
theorem duo_err {w0 w : World} {p : PD} {r : RD} {d e : Dk} {L : List (Nat × List Value)} {G : List Gs} {F : List (World → Prop)} {S gb : Nat} {q : Ps} {own : Bool} {en : Ps} {er : Int} (h : Duo w0 w p r d e ⟨L, G, F⟩) (hS : (S, SB p.D gb q own en er) ∈ L) :
  Calls Tryz.prog 25 #[.pointer (some ⟨S, 0, none⟩)] w fun e' w' => e' = .returned (.int .i64 er) ∧ w = w' := by
 obtain ⟨L0, G0, F0, hw, -, -⟩ := h.dk
 obtain ⟨A, B, hAB⟩ := List.append_of_mem (List.mem_append_left L0 hS)
 have hw2 := hw.perm (L' := (S, SB p.D gb q own en er) :: (A ++ B)) (by show (L ++ L0).Perm _; rw [hAB]; exact List.perm_middle) (List.Perm.refl _)
 exact scan_err_any w0 w S gb p.D q own en er _ _ _ (Wk.start hw2)
def DWalk (w0 : World) (p : PD) (r : RD) (d e : Dk) (S gb : Nat) (q : Ps) (own : Bool) (L : List (Nat × List Value)) (G : List Gs) (F : List (World → Prop)) (x : List (Ps × Rc) × Ps × Int) (en : Ending) (w' : World) : Prop :=
 ∃ (xs : List Fnd) (A : Option Addr) (c : Nat) (fs : List (World → Prop)), en = .returned (.slice A xs.length c) ∧ xs.map Fnd.pr = x.1 ∧ (∀ y ∈ xs, y.fct ∈ fs) ∧
  Duo w0 w' p r d e ⟨(S, SB p.D gb q own x.2.1 x.2.2) :: L, ⟨58, 6, .slice A xs.length c, xs.length, fndV xs⟩ :: G, fs ++ F⟩
theorem duo_walk13 {w0 w : World} {p : PD} {r : RD} {d e : Dk} {L : List (Nat × List Value)} {G : List Gs} {F : List (World → Prop)} {S gb : Nat} {q : Ps} {own : Bool} {en : Ps} {er : Int} {cf : Cf} (h : Duo w0 w p r d e ⟨(S, SB p.D gb q own en er) :: L, G, F⟩) (hg : (fun W => GeoAt W gb cf.b cf.s cf.l) ∈ F) (hc : cf.Ok) (most : Nat) (hm : (scanR d cf own q).1.length ≤ most) (hmm : most ≤ 1000) :
  Calls Tryz.prog 19 #[.pointer (some ⟨S, 0, none⟩), .int .i64 (most : Int)] w (DWalk w0 p r d e S gb q own L G F (scanR d cf own q)) := by
 obtain ⟨L0, G0, F0, hw, hd, back⟩ := h.dk
 refine (walk13_any w0 w S gb p d cf q own en er (L ++ L0) (G ++ G0) (F ++ F0) most (Wk.start hw) (hd.mono (fun x hx => List.mem_append_right _ hx)) (List.mem_append_left _ hg) hc hm hmm).mono ?_
 rintro en w1 ⟨xs, A, c, fs, rfl, hxs, hfs, hw1⟩
 exact ⟨xs, A, c, fs, rfl, hxs, hfs, back w1 ⟨_ :: L, _ :: G, fs ++ F⟩ (by have := hw1.toWc; rw [← List.append_assoc] at this; exact this)⟩
/-- the reference's disk, seen alone; what is told beside it -/
theorem Duo.ref {w0 w : World} {p : PD} {r : RD} {d e : Dk} {c : Fr3} (h : Duo w0 w p r d e c) : ∃ c', (∀ f ∈ c.F, f ∈ c'.F) ∧ Rsk w0 w r e c' ∧ ∀ w' g fs, Rsk w0 w' r e ⟨c'.L, g :: c'.G, fs ++ c'.F⟩ → Duo w0 w' p r d e ⟨c.L, g :: c.G, fs ++ c.F⟩ := by
 obtain ⟨v, v', lv, k, ls, sl, hs, hl, hm⟩ := h.mem
 have pl : ∀ (v' lv : Value) (sl : List (Option Addr × Nat × Nat)) (e : Dk), (p.L v d (r.L v' lv sl e c.L)).Perm (r.L v' lv sl e (p.L v d c.L)) := fun v' lv sl e => by
  have := (List.perm_append_comm (l₁ := p.L v d []) (l₂ := r.L v' lv sl e [])).append_right c.L
  simpa [PD.L, RD.L] using this
 have pg : ∀ (a b x : Gs) (G : List Gs), (a :: b :: x :: G).Perm (b :: x :: a :: G) := fun a b x G => (List.Perm.swap _ _ _).trans ((List.Perm.swap _ _ _).cons _)
 have pg2 : ∀ (a b x g : Gs) (G : List Gs), (b :: x :: g :: a :: G).Perm (a :: b :: x :: g :: G) := fun a b x g G => List.perm_middle (l₁ := [b, x, g]) (a := a) (l₂ := G)
 refine ⟨⟨p.L v d c.L, ⟨158, 65, v, d.held.length, heldV d.held⟩ :: c.G, c.F⟩, fun f hf => hf, ⟨h.ok', h.N', h.hs', h.hf', v', lv, k, ls, sl, hs, hl, hm.perm (pl _ _ _ _) (pg _ _ _ _)⟩, fun w' g fs h' => ?_⟩
 obtain ⟨v2, lv2, k2, ls2, sl2, hs2, hl2, hm2⟩ := h'.mem
 exact ⟨h.ok, h.N, h.hs, h.hn, h.hf, h'.ok, h'.N, h'.hs, h'.hf, v, v2, lv2, k2, ls2, sl2, hs2, hl2, hm2.perm (pl _ _ _ _).symm (pg2 _ _ _ _ _)⟩
def DRef (w0 : World) (p : PD) (r : RD) (d e : Dk) (c : Fr3) (x : List (Ps × Rc) × Ps × Int) (en : Ending) (w' : World) : Prop :=
 ∃ (xs : List Fnd) (A : Option Addr) (k : Nat) (fs : List (World → Prop)), en = .returned (.tuple #[.slice A xs.length k, .agg #[.int .i64 x.2.1.s, .int .i64 x.2.1.o, .int .i64 x.2.1.l, .int .i64 x.2.1.p, .int .i64 x.2.1.m], .int .i64 x.2.2]) ∧ xs.map Fnd.pr = x.1 ∧ (∀ y ∈ xs, y.fct ∈ fs) ∧
  Duo w0 w' p r d e ⟨c.L, ⟨183, 10, .slice A xs.length k, xs.length, rfndV xs⟩ :: c.G, fs ++ c.F⟩
theorem duo_rscan {w0 w : World} {p : PD} {r : RD} {d e : Dk} {c : Fr3} (h : Duo w0 w p r d e c) (hh : e.held.length ≤ 1000000) {cf : Cf} (hc : cf.Ok) (q : Ps) :
  Calls Tryz.prog 36 #[.pointer (some ⟨r.M, 0, none⟩), .agg #[.int .i64 cf.b, .int .i64 cf.s, .int .i64 cf.l], .agg #[.int .i64 q.s, .int .i64 q.o, .int .i64 q.l, .int .i64 q.p, .int .i64 q.m], .int .i64 (-1)] w (DRef w0 p r d e c (scanR e cf false q)) := by
 obtain ⟨c', -, hr, back⟩ := h.ref
 refine (ref_scan_any w0 w r e c' cf q hr hh hc).mono ?_
 rintro en w1 ⟨xs, A, k, fs, rfl, hxs, hfs, h1⟩
 exact ⟨xs, A, k, fs, rfl, hxs, hfs, back w1 _ _ h1⟩
theorem duo_rseg {w0 w : World} {p : PD} {r : RD} {d e : Dk} {c : Fr3} (h : Duo w0 w p r d e c) (hh : e.held.length ≤ 1000000) {cf : Cf} (hc : cf.Ok) (k : Int) (hk : 0 ≤ k ∧ k ≤ cf.s - 1) :
  Calls Tryz.prog 38 #[.pointer (some ⟨r.M, 0, none⟩), .agg #[.int .i64 cf.b, .int .i64 cf.s, .int .i64 cf.l], .int .i64 k] w (DRef w0 p r d e c (scanR e cf true ⟨k, 0, 0, 0, 0⟩)) := by
 obtain ⟨c', -, hr, back⟩ := h.ref
 refine (ref_segment_any w0 w r e c' cf k hr hh hc hk).mono ?_
 rintro en w1 ⟨xs, A, k, fs, rfl, hxs, hfs, h1⟩
 exact ⟨xs, A, k, fs, rfl, hxs, hfs, back w1 _ _ h1⟩
theorem Duo.put {w0 w : World} {p : PD} {r : RD} {d e : Dk} {L : List (Nat × List Value)} {G : List Gs} {F : List (World → Prop)} (h : Duo w0 w p r d e ⟨L, G, F⟩) (i : Nat) {b : Nat} {cs : List Value} (hi : L[i]? = some (b, cs)) (j : Nat) (u : Value) : Duo w0 (w.setCell ⟨b, j, none⟩ u) p r d e ⟨L.set i (b, cs.set j u), G, F⟩ := by
 obtain ⟨L0, G0, F0, hw, back⟩ := h.fr
 have hlt : i < L.length := (List.getElem?_eq_some_iff.1 hi).1
 have hw2 := hw.put i (p := b) (cs := cs) (by show (L ++ L0)[i]? = _; rw [List.getElem?_append_left hlt]; exact hi) j u
 refine back _ ⟨L.set i (b, cs.set j u), G, F⟩ ?_
 have e1 : (L ++ L0).set i (b, cs.set j u) = L.set i (b, cs.set j u) ++ L0 := by rw [List.set_append_left _ _ hlt]
 rw [← e1]
 exact hw2
theorem Duo.alloc {w0 w : World} {p : PD} {r : RD} {d e : Dk} {c : Fr3} (h : Duo w0 w p r d e c) (o : Obj) : Duo w0 (w.alloc o) p r d e c := h.keep0 ((Only.refl _ _).alloc _)
theorem Duo.drew {w0 w : World} {p : PD} {r : RD} {d e : Dk} {c : Fr3} (h : Duo w0 w p r d e c) : Duo w0 w.drew p r d e c := h.keep0 (Only.refl _ _).drew
theorem Duo.row {w0 w : World} {p : PD} {r : RD} {d e : Dk} {c : Fr3} (h : Duo w0 w p r d e c) {g : Gs} (hg : g ∈ c.G) : w.ownsRow w0.heap.size g.e g.sz g.v g.n g.xs := by
 obtain ⟨L0, G0, F0, hw, -⟩ := h.fr
 exact hw.g1 g (List.mem_append_left _ hg)
end Go.Proofs.YtgcfdjcpcclcjaaGreat
namespace Go.Kn
open Go Go.RowKit
theorem headB_dec {p : Ps} (h : headMay p.head = true) : decHead (headB p) = some p.head := by
 obtain ⟨b, h1, _, _, h2⟩ := head_back h
 rw [headB_enc h] at h1
 injection h1 with h1
 rw [h1]
 exact h2
/-- a segment's head stands there -/
structure Hd (d : Dk) (c : Cf) (p : Ps) : Prop where
 e : d.err (c.at_ p.s) = 0
 r : d.read (c.at_ p.s) = headB p
 may : headMay p.head = true
theorem Hd.agr {d d' : Dk} {c : Cf} {p : Ps} {lo hi : Int} (h : Hd d c p) (ha : Agr d d' lo hi) (h1 : lo ≤ c.at_ p.s) (h2 : c.at_ p.s < hi) : Hd d' c p := by
 obtain ⟨e1, e2⟩ := ha _ h1 h2
 exact ⟨e1.trans h.e, e2.trans h.r, h.may⟩
theorem Hd.start (c : Cf) (hc : c.Ok) (p : Ps) (hs : 0 ≤ p.s ∧ p.s ≤ c.s - 1) (hm : headMay p.head = true) : Hd ((Dk.new c.sectors.toNat).puts (c.at_ p.s) (headB p)) c p := by
 obtain ⟨g1, g2, g3⟩ := Cf.sec c hc p.s hs.1 hs.2
 have hl := hc.2.2
 have hr : Rdy (Dk.new c.sectors.toNat) := Rdy.new (by omega) (by omega)
 have hlen : (Dk.new c.sectors.toNat).safe.length = c.sectors.toNat := by simp [Dk.new]
 obtain ⟨h1, h2⟩ := hr.puts_gat (a := c.at_ p.s) (b := headB p) (n := 1) (by omega) (headB_length p) (by omega)
 rw [gat_one] at h1
 rw [gerr_one] at h2
 exact ⟨h2, h1, hm⟩
theorem Hd.scanB {d : Dk} {c : Cf} {p : Ps} (h : Hd d c p) (hc : c.Ok) (hs : 0 ≤ p.s ∧ p.s ≤ c.s - 1) : Kn.scanB d c false ⟨p.s, 0, p.l, p.p, p.m⟩ = (⟨p.s, 1, p.l, p.p, p.m⟩, true, 0) ∧ Kn.scanB d c true ⟨p.s, 0, 0, 0, 0⟩ = (⟨p.s, 1, p.l, p.p, p.m⟩, true, 0) := by
 have hl := hc.2.2
 have hd : decHead (d.read (c.at_ p.s)) = some p.head := by rw [h.r]; exact headB_dec h.may
 constructor
 ·rw [scanB_some (p := ⟨p.s, 0, p.l, p.p, p.m⟩) ⟨hs, by simp only; omega⟩ (by simp) h.e hd]
  simp [headFits, Ps.head]
 ·rw [scanB_some (p := ⟨p.s, 0, 0, 0, 0⟩) ⟨hs, by simp only; omega⟩ (by simp) h.e hd]
  simp [Ps.head]
theorem Hd.scan {d : Dk} {c : Cf} {p : Ps} (h : Hd d c p) (hc : c.Ok) (hs : 0 ≤ p.s ∧ p.s ≤ c.s - 1) : scanR d c false ⟨p.s, 0, p.l, p.p, p.m⟩ = scanG d c 65 ⟨p.s, 1, p.l, p.p, p.m⟩ ∧ scanR d c true ⟨p.s, 0, 0, 0, 0⟩ = scanG d c 65 ⟨p.s, 1, p.l, p.p, p.m⟩ := by
 obtain ⟨h1, h2⟩ := h.scanB hc hs
 unfold scanR
 rw [h1, h2]
 exact ⟨rfl, rfl⟩
theorem Krs.one {w : World} {g : Nat} {s : Option Addr × Nat × Nat} {zs : List Int} {f : Int} (ho : Own w g [slv s, .int .i64 f, .int .i64 0, .int .i64 0, .int .i64 0]) (hi : Ins w s.1 s.2.1 s.2.2 zs) : Krs w (some ⟨g, 0, none⟩) 1 1 [⟨zs, f, 0, 0, 0⟩] [s] := by
 refine ⟨rfl, rfl, Nat.le_refl _, by decide, fun _ => ⟨g, 0, rfl, fun i h h2 => ?_⟩, fun i h h2 => ?_⟩
 ·obtain rfl : i = 0 := by simp at h; omega
  exact ⟨ho.cell 0 (by simp), ho.cell 1 (by simp), ho.cell 2 (by simp), ho.cell 3 (by simp), ho.cell 4 (by simp)⟩
 ·obtain rfl : i = 0 := by simp at h; omega
  exact hi
theorem Krs.one_fc {w : World} {M : Nat → Prop} {g : Nat} {s : Option Addr × Nat × Nat} {zs : List Int} {f : Int} (ho : Fc w M (fun W => Own W g [slv s, .int .i64 f, .int .i64 0, .int .i64 0, .int .i64 0])) (hi : Fc w M (fun W => Ins W s.1 s.2.1 s.2.2 zs)) : Fc w M (fun W => Krs W (some ⟨g, 0, none⟩) 1 1 [⟨zs, f, 0, 0, 0⟩] [s]) := fun W hW => Krs.one (ho W hW) (hi W hW)
end Go.Kn
namespace Go.Proofs.YtgcfdjcpcclcjaaGreat
open Go Go.RowKit Go.Kn
theorem Duo.permL {w0 w : World} {p : PD} {r : RD} {d e : Dk} {L L' : List (Nat × List Value)} {G : List Gs} {F : List (World → Prop)} (h : Duo w0 w p r d e ⟨L, G, F⟩) (hL : L.Perm L') : Duo w0 w p r d e ⟨L', G, F⟩ := by
 obtain ⟨L0, G0, F0, hw, back⟩ := h.fr
 exact back w ⟨L', G, F⟩ (hw.perm (hL.append_right L0) (List.Perm.refl _))
theorem duo_walk13_nil {w0 w : World} {p : PD} {r : RD} {d e : Dk} {c : Fr3} (h : Duo w0 w p r d e c) (most : Nat) (hmm : most ≤ 1000) : Calls Tryz.prog 19 #[.pointer none, .int .i64 (most : Int)] w fun en w' => en = .returned (.slice none 0 0) ∧ Duo w0 w' p r d e c := by
 obtain ⟨L0, G0, F0, hw, back⟩ := h.fr
 refine (walk13_nil w0 w _ _ _ most (Wk.start hw) hmm).mono ?_
 rintro en w1 ⟨rfl, h1⟩
 exact ⟨rfl, back w1 c h1.toWc⟩
theorem fnd_cell {w : World} {b e g c : Nat} {x : Fnd} (h : w.ownsRow b e 6 (.slice (some ⟨g, 0, none⟩) 1 c) 1 (fndV [x])) : w.cell? ⟨g, 0, none⟩ = some (.int .i64 x.p.o) := by
 obtain ⟨g', hg, hc⟩ := (cells_owns h).2.2 (by decide)
 injection hg with hg
 injection hg with hg
 subst hg
 exact hc 0 _ rfl
theorem c13ok : CfOk 2 8 24 := ⟨by decide, by decide, by decide⟩
set_option maxRecDepth 100000 in
set_option maxHeartbeats 16000000 in
theorem awake13_any (w : World) : Calls Tryz.prog 14 #[] w fun e w' => e = .returned (.bool true) ∧ Only [] w w' := by
 have hc : Cf.Ok (⟨2, 8, 24⟩ : Cf) := c13ok
 have hsq : 0 ≤ (⟨2, 0, 5, 9, 1⟩ : Ps).s ∧ (⟨2, 0, 5, 9, 1⟩ : Ps).s ≤ (⟨2, 8, 24⟩ : Cf).s - 1 := by decide
 have hmay : headMay (⟨2, 0, 5, 9, 1⟩ : Ps).head = true := by decide
 obtain ⟨d1, hd1⟩ : ∃ d, d = (Dk.new (⟨2, 8, 24⟩ : Cf).sectors.toNat).puts ((⟨2, 8, 24⟩ : Cf).at_ (⟨2, 0, 5, 9, 1⟩ : Ps).s) (headB (⟨2, 0, 5, 9, 1⟩ : Ps)) := ⟨_, rfl⟩
 have hlg : Lg d1 (⟨2, 8, 24⟩ : Cf) (⟨2, 1, 5, 9, 1⟩ : Ps) [] (⟨2, 1, 5, 9, 1⟩ : Ps) := by rw [hd1]; exact Lg.start (⟨2, 8, 24⟩ : Cf) hc (⟨2, 0, 5, 9, 1⟩ : Ps) (⟨2, 1, 5, 9, 1⟩ : Ps) rfl hsq (by decide)
 have hhd : Hd d1 (⟨2, 8, 24⟩ : Cf) (⟨2, 0, 5, 9, 1⟩ : Ps) := by rw [hd1]; exact Hd.start (⟨2, 8, 24⟩ : Cf) hc (⟨2, 0, 5, 9, 1⟩ : Ps) hsq hmay
 have hlive : d1.Live ∧ d1.held = [] := by rw [hd1]; exact Dk.Live.puts ⟨rfl, rfl⟩ _ _
 have hsc1 : scanR d1 (⟨2, 8, 24⟩ : Cf) false (⟨2, 0, 5, 9, 1⟩ : Ps) = ([], (⟨2, 1, 5, 9, 1⟩ : Ps), 0) := (hhd.scan hc hsq).1.trans (hlg.scan hc)
 obtain ⟨r, q2, d2, hrun, hr0, hmy, hlg2, hq2, hbl, hd2⟩ := logRun_one hlg hc [0, 2] 0 (by decide) (by decide) (by decide) (by decide) (by decide)
 have hhd2 : Hd d2 (⟨2, 8, 24⟩ : Cf) (⟨2, 0, 5, 9, 1⟩ : Ps) := by
  obtain ⟨g1, g2, g3⟩ := Cf.sec (⟨2, 8, 24⟩ : Cf) hc 2 (by decide) (by decide)
  have hll := hlg.len
  rw [hd2]
  exact hhd.agr (hlg.rdy.puts_agr (a := (⟨2, 8, 24⟩ : Cf).at_ (⟨2, 1, 5, 9, 1⟩ : Ps).s + (⟨2, 1, 5, 9, 1⟩ : Ps).o) (lo := (⟨2, 8, 24⟩ : Cf).at_ 2) (hi := (⟨2, 8, 24⟩ : Cf).at_ 2 + 1) (by show 0 ≤ (⟨2, 8, 24⟩ : Cf).at_ 2 + 1; omega) (rcBytes_length hmy) (by show (⟨2, 8, 24⟩ : Cf).at_ 2 + 1 + _ ≤ _; simp only at g2 hll; omega) (by omega) (.inl (Int.le_refl _))) (Int.le_refl _) (by show (⟨2, 8, 24⟩ : Cf).at_ 2 < _; omega)
 have hsc2 : scanR d2 (⟨2, 8, 24⟩ : Cf) false (⟨2, 0, 5, 9, 1⟩ : Ps) = ([((⟨2, 1, 5, 9, 1⟩ : Ps), r)], q2, 0) := (hhd2.scan hc hsq).1.trans (hlg2.scan hc)
 obtain ⟨xo, hxo⟩ : ∃ x : Int, x = 1 + (1 + r.bl.length : Nat) := ⟨_, rfl⟩
 obtain ⟨xs, hxs⟩ : ∃ x : Int, x = (rcSum r : Nat) := ⟨_, rfl⟩
 have hq2' : q2 = ⟨2, xo, 6, xs, 1⟩ := by rw [hq2, hxo, hxs]; rfl
 subst hq2'
 have HC := Lib.hid hc
 have HD1 := Lib.hid hd1
 have HLV := Lib.hid hlive.1
 have HHE := Lib.hid hlive.2
 have HSC1 := Lib.hid hsc1
 have HSC2 := Lib.hid hsc2
 have HRUN := Lib.hid hrun
 have HMAY := Lib.hid hmay
 clear hc hsq hmay hd1 hlg hhd hlive hsc1 hrun hr0 hmy hlg2 hq2 hbl hd2 hhd2 hsc2 hxo hxs
 have H1 := Lib.hid ((Wc.start w).newB #[.int .i64 2, .int .i64 8, .int .i64 24] 25 rfl)
 go_enter Tryz.func14, Tryz.ntmps14
 go_upto_region 2 with (fail)
 generalize hz : w.alloc (.cells #[.int .i64 2, .int .i64 8, .int .i64 24] 25) = w1 at *
 obtain ⟨f1, hf1⟩ : ∃ k, k = w.heap.size := ⟨_, rfl⟩
 rw [← hf1] at H1 ⊢
 clear hz hf1
 have b1 := H1.out.boxi 0 rfl
 obtain ⟨e0, e1, e2⟩ := Kn.own3 b1
 clear b1
 go_wp2_with fail
 refine (desk13_any w w1 (⟨2, 8, 24⟩ : Cf) ⟨[(f1, [.int .i64 2, .int .i64 8, .int .i64 24])], [], []⟩ H1.out HC.out).mono ?_
 rintro en w2 ⟨p, rr, gb, rfl, hd⟩
 have HD := Lib.hid (Duo.newB hd #[.int .i64 2, .int .i64 0, .int .i64 5, .int .i64 9, .int .i64 1] 32 rfl)
 clear hd H1 e0 e1 e2
 go_upto_region 4 with (fail)
 generalize hz : w2.alloc (.cells #[.int .i64 2, .int .i64 0, .int .i64 5, .int .i64 9, .int .i64 1] 32) = w3 at *
 generalize w2.heap.size = f6 at *
 clear hz w2 w1
 have b6 := HD.out.box (x := (f6, [.int .i64 2, .int .i64 0, .int .i64 5, .int .i64 9, .int .i64 1])) (by simp)
 obtain ⟨q0, q1, q2, q3, q4⟩ := Kn.own5 b6
 have b1 := HD.out.box (x := (f1, [.int .i64 2, .int .i64 8, .int .i64 24])) (by simp)
 obtain ⟨e0, e1, e2⟩ := Kn.own3 b1
 clear b6 b1
 go_wp2_with fail
 refine (kit_head_any w w3 p rr _ _ (⟨2, 8, 24⟩ : Cf) (⟨2, 0, 5, 9, 1⟩ : Ps) HD.out HC.out HMAY.out (by decide) (by simp [Dk.new])).mono ?_
 rintro en w4 ⟨rfl, hd⟩
 rw [← HD1.out] at hd
 have HD2 := Lib.hid hd
 clear hd HD q0 q1 q2 q3 q4 e0 e1 e2
 have b6 := HD2.out.box (x := (f6, [.int .i64 2, .int .i64 0, .int .i64 5, .int .i64 9, .int .i64 1])) (by simp)
 obtain ⟨q0, q1, q2, q3, q4⟩ := Kn.own5 b6
 clear b6
 go_wp2_with fail
 refine (duo_new HD2.out gb (⟨2, 0, 5, 9, 1⟩ : Ps)).mono ?_
 rintro en w5 ⟨S, rfl, hd⟩
 have HD3 := Lib.hid hd
 clear hd HD2 q0 q1 q2 q3 q4
 have b6 := HD3.out.box (x := (f6, [.int .i64 2, .int .i64 0, .int .i64 5, .int .i64 9, .int .i64 1])) (by simp)
 obtain ⟨q0, q1, q2, q3, q4⟩ := Kn.own5 b6
 clear b6
 go_wp2_with fail
 refine (scan_new_none w5 gb (⟨2, 0, 5, 9, 1⟩ : Ps)).mono ?_
 rintro en w6 ⟨rfl, hO⟩
 have HD4 := Lib.hid (HD3.out.keep0 hO)
 clear hO HD3 q0 q1 q2 q3 q4
 go_wp2_with fail
 refine (duo_seg_none HD4.out (cf := (⟨2, 8, 24⟩ : Cf)) 8 List.mem_cons_self HC.out (by decide)).mono ?_
 rintro en w7 ⟨rfl, hd⟩
 have HD5 := Lib.hid hd
 clear hd HD4
 go_wp2_with fail
 refine (duo_end HD5.out List.mem_cons_self).mono ?_
 rintro en w8 ⟨rfl, hO⟩
 have HD6 := Lib.hid ((HD5.out.keep0 hO).newB #[.int .i64 2, .int .i64 0, .int .i64 5, .int .i64 9, .int .i64 1] 32 rfl)
 clear hO HD5
 go_upto_region 10 with (fail)
 generalize hz : w8.alloc (.cells #[.int .i64 2, .int .i64 0, .int .i64 5, .int .i64 9, .int .i64 1] 32) = w9 at *
 generalize w8.heap.size = f8 at *
 clear hz w8
 go_wp2_with fail
 have HD7 := Lib.hid (HD6.out.lswap)
 clear HD6
 refine (duo_walk13 (cf := (⟨2, 8, 24⟩ : Cf)) HD7.out List.mem_cons_self HC.out 9 (by rw [HSC1.out]; decide) (by decide)).mono ?_
 rw [HSC1.out]
 rintro en w10 ⟨xs1, A1, k1, fs1, rfl, hx1, hf1, hd⟩
 obtain rfl : xs1 = [] := by simpa using hx1
 have b6 := hd.box (x := (f6, [.int .i64 2, .int .i64 0, .int .i64 5, .int .i64 9, .int .i64 1])) (by simp)
 obtain ⟨q0, q1, q2, q3, q4⟩ := Kn.own5 b6
 clear b6
 have HD8 := Lib.hid (Duo.newB hd #[.int .i64 2, .int .i64 0, .int .i64 5, .int .i64 9, .int .i64 1] 32 rfl)
 clear hd HD7 hx1 hf1
 go_upto_region 12 with (fail)
 generalize hz : w10.alloc (.cells #[.int .i64 2, .int .i64 0, .int .i64 5, .int .i64 9, .int .i64 1] 32) = w11 at *
 generalize w10.heap.size = f10 at *
 clear hz q0 q1 q2 q3 q4 w10
 have HD9 : Hid (Duo w w11 p rr d1 d1 ⟨(f10, [.int .i64 2, .int .i64 0, .int .i64 5, .int .i64 9, .int .i64 1]) :: (S, SB p.D gb (⟨2, 0, 5, 9, 1⟩ : Ps) false (⟨2, 1, 5, 9, 1⟩ : Ps) 0) :: (f8, [.int .i64 2, .int .i64 0, .int .i64 5, .int .i64 9, .int .i64 1]) :: (f6, [.int .i64 2, .int .i64 0, .int .i64 5, .int .i64 9, .int .i64 1]) :: (f1, [.int .i64 2, .int .i64 8, .int .i64 24]) :: [], ⟨58, 6, .slice A1 0 k1, 0, fndV []⟩ :: [], fs1 ++ (fun W => GeoAt W gb 2 8 24) :: []⟩) := Lib.hid HD8.out
 clear HD8
 have b10 := HD9.out.box (x := (f10, [.int .i64 2, .int .i64 0, .int .i64 5, .int .i64 9, .int .i64 1])) (by simp)
 obtain ⟨q0, q1, q2, q3, q4⟩ := Kn.own5 b10
 have z1 := b10.frozen 1
 have l10 := b10.lt
 go_upto_region 13 with (fail)
 have HD10 := Lib.hid (HD9.out.put 0 (b := f10) rfl 1 (.int .i64 1))
 simp only [List.set_cons_zero, List.set_cons_succ] at HD10
 generalize hz : w11.setCell ⟨f10, 1, none⟩ (.int .i64 1) = w12 at *
 clear hz HD9 q0 q1 q2 q3 q4 z1 l10 b10
 have b10 := HD10.out.box (x := (f10, [.int .i64 2, .int .i64 1, .int .i64 5, .int .i64 9, .int .i64 1])) (by simp)
 obtain ⟨q0, q1, q2, q3, q4⟩ := Kn.own5 b10
 have b1 := HD10.out.box (x := (f1, [.int .i64 2, .int .i64 8, .int .i64 24])) (by simp)
 obtain ⟨e0, e1, e2⟩ := Kn.own3 b1
 clear b10 b1
 have hO2 : Only [] w12 ((w12.alloc (.cells #[.int .i64 0, .int .i64 2] 3)).alloc (.cells #[.slice (some ⟨w12.heap.size, 0, none⟩) 2 2, .int .i64 0, .int .i64 0, .int .i64 0, .int .i64 0] 38)) := ((Only.refl _ _).alloc _).alloc _
 have hins := (ins_built w12 [0, 2] 3 2 rfl (by decide)).keep0 ((Only.refl [] (w12.alloc (.cells #[.int .i64 0, .int .i64 2] 3))).alloc (.cells #[.slice (some ⟨w12.heap.size, 0, none⟩) 2 2, .int .i64 0, .int .i64 0, .int .i64 0, .int .i64 0] 38))
 have hown := Own.new (w12.alloc (.cells #[.int .i64 0, .int .i64 2] 3)) #[.slice (some ⟨w12.heap.size, 0, none⟩) 2 2, .int .i64 0, .int .i64 0, .int .i64 0, .int .i64 0] 38
 have hsz : (w12.alloc (.cells #[.int .i64 0, .int .i64 2] 3)).heap.size = w12.heap.size + 1 := by simp
 rw [hsz] at hown
 have hkf := Krs.one_fc (s := (some ⟨w12.heap.size, 0, none⟩, 2, 2)) (zs := [0, 2]) (f := 0) (M := fun k => k < w12.heap.size) (Own.fc hown (by omega)) (Row1.fc hins (fun _ a ha => by injection ha with ha; subst ha; simp))
 have HD11 := Lib.hid (HD10.out.addFc hO2 hkf)
 clear hins hown hkf hO2 hsz HD10
 go_wp2_with fail
 refine (kit_log_any w _ p rr d1 _ (⟨2, 8, 24⟩ : Cf) (⟨2, 1, 5, 9, 1⟩ : Ps) _ 1 1 [⟨[0, 2], 0, 0, 0, 0⟩] [(some ⟨w12.heap.size, 0, none⟩, 2, 2)] HD11.out List.mem_cons_self ?wf HC.out ⟨⟨by decide, by decide, by decide⟩, by decide, by decide⟩ HLV.out HHE.out).mono ?_
 case wf =>
  intro x hx
  rw [List.mem_singleton] at hx
  subst hx
  exact ⟨by decide, by decide, by decide, by decide, by decide⟩
 rw [HRUN.out]
 rintro en w13 ⟨rfl, hd⟩
 have HD12 := Lib.hid (Duo.newB hd #[.int .i64 2, .int .i64 xo, .int .i64 6, .int .i64 xs, .int .i64 1] 32 rfl)
 clear hd HD11 q0 q1 q2 q3 q4 e0 e1 e2
 go_upto_region 14 with (fail)
 generalize hz : w13.alloc (.cells #[.int .i64 2, .int .i64 xo, .int .i64 6, .int .i64 xs, .int .i64 1] 32) = w14 at *
 generalize w13.heap.size = f11 at *
 clear hz w13
 have HD13 : Hid (Duo w w14 p rr d2 d2 ⟨(S, SB p.D gb (⟨2, 0, 5, 9, 1⟩ : Ps) false (⟨2, 1, 5, 9, 1⟩ : Ps) 0) :: (f11, [.int .i64 2, .int .i64 xo, .int .i64 6, .int .i64 xs, .int .i64 1]) :: (f10, [.int .i64 2, .int .i64 1, .int .i64 5, .int .i64 9, .int .i64 1]) :: (f8, [.int .i64 2, .int .i64 0, .int .i64 5, .int .i64 9, .int .i64 1]) :: (f6, [.int .i64 2, .int .i64 0, .int .i64 5, .int .i64 9, .int .i64 1]) :: (f1, [.int .i64 2, .int .i64 8, .int .i64 24]) :: [], ⟨58, 6, .slice A1 0 k1, 0, fndV []⟩ :: [], (fun W => Krs W (some ⟨w12.heap.size + 1, 0, none⟩) 1 1 [⟨[0, 2], 0, 0, 0, 0⟩] [(some ⟨w12.heap.size, 0, none⟩, 2, 2)]) :: (fs1 ++ (fun W => GeoAt W gb 2 8 24) :: [])⟩) := Lib.hid (HD12.out.permL (List.perm_middle (l₁ := [_, _])))
 clear HD12
 go_wp2_with fail
 refine (duo_walk13 (cf := (⟨2, 8, 24⟩ : Cf)) HD13.out (by simp) HC.out 9 (by rw [HSC2.out]; exact (by decide : 1 ≤ 9)) (by decide)).mono ?_
 rw [HSC2.out]
 rintro en w15 ⟨xs2, A2, k2, fs2, rfl, hx2, hf2, hd⟩
 obtain ⟨x, rfl, hxp⟩ := List.map_eq_singleton_iff.1 hx2
 have hxo : x.p.o = 1 := by have := congrArg (fun y => y.1.o) hxp; exact this
 have hrow := hd.row List.mem_cons_self
 obtain ⟨g, rfl, hcell⟩ := (cells_owns hrow).2.2 (by simp)
 have HD14 := Lib.hid hd
 have HXO := Lib.hid hxo
 simp only [List.length_cons, List.length_nil, Nat.zero_add] at HD14 ⊢
 clear hd HD13 hx2 hf2 hrow hcell hxp hxo
 go_upto_region 16 with (fail)
 have HP : Hid (∀ W : World, Duo w W p rr d2 d2 ⟨(S, SB p.D gb (⟨2, 0, 5, 9, 1⟩ : Ps) false ⟨2, xo, 6, xs, 1⟩ 0) :: (f11, [.int .i64 2, .int .i64 xo, .int .i64 6, .int .i64 xs, .int .i64 1]) :: (f10, [.int .i64 2, .int .i64 1, .int .i64 5, .int .i64 9, .int .i64 1]) :: (f8, [.int .i64 2, .int .i64 0, .int .i64 5, .int .i64 9, .int .i64 1]) :: (f6, [.int .i64 2, .int .i64 0, .int .i64 5, .int .i64 9, .int .i64 1]) :: (f1, [.int .i64 2, .int .i64 8, .int .i64 24]) :: [], ⟨58, 6, .slice (some ⟨g, 0, none⟩) 1 k2, 1, fndV [x]⟩ :: ⟨58, 6, .slice A1 0 k1, 0, fndV []⟩ :: [], fs2 ++ (fun W => Krs W (some ⟨w12.heap.size + 1, 0, none⟩) 1 1 [⟨[0, 2], 0, 0, 0, 0⟩] [(some ⟨w12.heap.size, 0, none⟩, 2, 2)]) :: (fs1 ++ (fun W => GeoAt W gb 2 8 24) :: [])⟩ → (fun w' => Kn.Own w' f8 [.int .i64 2, .int .i64 0, .int .i64 5, .int .i64 9, .int .i64 1] ∧ Kn.Own w' f6 [.int .i64 2, .int .i64 0, .int .i64 5, .int .i64 9, .int .i64 1] ∧ w'.cell? ⟨g, 0, none⟩ = some (.int .i64 1) ∧ Kn.Own w' f11 [.int .i64 2, .int .i64 xo, .int .i64 6, .int .i64 xs, .int .i64 1]) W) := Lib.hid (fun W h => ⟨h.box (x := (f8, [.int .i64 2, .int .i64 0, .int .i64 5, .int .i64 9, .int .i64 1])) (by simp), h.box (x := (f6, [.int .i64 2, .int .i64 0, .int .i64 5, .int .i64 9, .int .i64 1])) (by simp), by rw [← HXO.out]; exact fnd_cell (h.row List.mem_cons_self), h.box (x := (f11, [.int .i64 2, .int .i64 xo, .int .i64 6, .int .i64 xs, .int .i64 1])) (by simp)⟩)
 have HY := Lib.hid HD14.out.drew
 clear HD14
 refine wp_region_held_drew (S := (fun w' => Kn.Own w' f8 [.int .i64 2, .int .i64 0, .int .i64 5, .int .i64 9, .int .i64 1] ∧ Kn.Own w' f6 [.int .i64 2, .int .i64 0, .int .i64 5, .int .i64 9, .int .i64 1] ∧ w'.cell? ⟨g, 0, none⟩ = some (.int .i64 1) ∧ Kn.Own w' f11 [.int .i64 2, .int .i64 xo, .int .i64 6, .int .i64 xs, .int .i64 1])) (by kernel_rfl) (HP.out _ HY.out) (fun hSw0 => ?_)
 generalize w15.drew = wz at *
 refine Kn.takeS 0 ⟨some 71, _, _, _, _, _⟩ (v := (.agg #[.int .i64 2, .int .i64 0, .int .i64 5, .int .i64 9, .int .i64 1])) (hy := fun w hSw => by
  have q0 := hSw.1
  obtain ⟨q00, q01, q02, q03, q04⟩ := Kn.own5 q0
  clear q0
  go_simp) ?_
 refine Kn.takeS 1 ⟨some 72, _, _, _, _, _⟩ (v := (.agg #[.int .i64 2, .int .i64 0, .int .i64 5, .int .i64 9, .int .i64 1])) (hy := fun w hSw => by
  have q0 := hSw.2.1
  obtain ⟨q00, q01, q02, q03, q04⟩ := Kn.own5 q0
  clear q0
  go_simp) ?_
 refine Kn.takeS 2 ⟨some 73, _, _, _, _, _⟩ ?_
 refine Kn.takeS 3 ⟨some 74, _, _, _, _, _⟩ ?_
 refine Kn.takeS 4 ⟨some 75, _, _, _, _, _⟩ ?_
 refine Kn.takeS 5 ⟨some 76, _, _, _, _, _⟩ ?_
 refine Kn.takeS 6 ⟨some 77, _, _, _, _, _⟩ ?_
 refine Kn.takeS 7 ⟨some 78, _, _, _, _, _⟩ ?_
 refine Kn.takeS 8 ⟨some 79, _, _, _, _, _⟩ ?_
 refine Kn.takeS 9 ⟨some 80, _, _, _, _, _⟩ ?_
 refine Kn.takeS 10 ⟨some 81, _, _, _, _, _⟩ ?_
 refine Kn.takeS 11 ⟨some 82, _, _, _, _, _⟩ ?_
 refine Kn.takeS 12 ⟨some 83, _, _, _, _, _⟩ ?_
 refine Kn.takeS 13 ⟨some 84, _, _, _, _, _⟩ ?_
 refine Kn.takeS 14 ⟨some 85, _, _, _, _, _⟩ ?_
 refine Kn.takeS 15 ⟨some 86, _, _, _, _, _⟩ ?_
 refine Kn.takeS 16 ⟨some 87, _, _, _, _, _⟩ ?_
 refine Kn.takeS 17 ⟨some 88, _, _, _, _, _⟩ ?_
 refine Kn.takeS 18 ⟨some 89, _, _, _, _, _⟩ ?_
 refine Kn.takeS 19 ⟨some 90, _, _, _, _, _⟩ ?_
 refine Kn.takeS 20 ⟨some 91, _, _, _, _, _⟩ (v := (.int .i64 1)) (hy := fun w hSw => by
  have q0 := hSw.2.2.1
  go_simp) ?_
 refine Kn.takeS 21 ⟨some 92, _, _, _, _, _⟩ ?_
 refine Kn.takeS 22 ⟨some 93, _, _, _, _, _⟩ ?_
 refine Kn.takeS 23 ⟨some 94, _, _, _, _, _⟩ ?_
 refine Kn.takeS 24 ⟨some 95, _, _, _, _, _⟩ ?_
 refine Kn.takeS 26 ⟨some 97, _, _, _, _, _⟩ (v := (.agg #[.int .i64 2, .int .i64 xo, .int .i64 6, .int .i64 xs, .int .i64 1])) (hy := fun w hSw => by
  have q0 := hSw.2.2.2
  obtain ⟨q00, q01, q02, q03, q04⟩ := Kn.own5 q0
  clear q0
  go_simp) ?_
 refine Kn.takeR 25 ⟨some 96, _, _, _, _, _⟩ fun K hK => ?_
 go_simp
 refine (duo_end HY.out List.mem_cons_self).mono ?_
 rintro en wa ⟨rfl, hO⟩
 have HY1 := Lib.hid (HY.out.keep0 hO)
 clear hO HY
 refine hK.out _ _ (HP.out _ HY1.out) (fun hSn => ?_)
 clear hK K hSw0
 have hSw0 := hSn
 clear hSn
 refine Kn.takeS 27 ⟨some 98, _, _, _, _, _⟩ ?_
 refine Kn.takeS 28 ⟨some 99, _, _, _, _, _⟩ ?_
 refine Kn.takeS 29 ⟨some 100, _, _, _, _, _⟩ ?_
 refine Kn.takeS 30 ⟨some 101, _, _, _, _, _⟩ ?_
 refine Kn.takeR 31 ⟨some 102, _, _, _, _, _⟩ fun K hK => ?_
 go_simp
 refine (duo_err HY1.out List.mem_cons_self).mono ?_
 rintro en wb ⟨rfl, rfl⟩
 refine hK.out _ _ (HP.out _ HY1.out) (fun hSn => ?_)
 clear hK K hSw0
 have hSw0 := hSn
 clear hSn
 refine Kn.takeS 32 ⟨some 103, _, _, _, _, _⟩ ?_
 refine Kn.takeS 33 ⟨some 104, _, _, _, _, _⟩ ?_
 refine Kn.takeS 34 ⟨some 105, _, _, _, _, _⟩ ?_
 refine Kn.takeS 35 ⟨some 106, _, _, _, _, _⟩ ?_
 refine Kn.takeR 36 ⟨some 107, _, _, _, _, _⟩ fun K hK => ?_
 go_simp
 refine (scan_err_nil _).mono ?_
 rintro en wc ⟨rfl, rfl⟩
 refine hK.out _ _ (HP.out _ HY1.out) (fun hSn => ?_)
 clear hK K hSw0
 have hSw0 := hSn
 clear hSn
 refine Kn.takeS 37 ⟨some 108, _, _, _, _, _⟩ ?_
 refine Kn.takeS 38 ⟨some 109, _, _, _, _, _⟩ ?_
 refine Kn.takeS 39 ⟨some 110, _, _, _, _, _⟩ ?_
 refine Kn.takeS 40 ⟨some 111, _, _, _, _, _⟩ ?_
 refine Kn.takeR 41 ⟨some 112, _, _, _, _, _⟩ fun K hK => ?_
 go_simp
 refine (duo_walk13_nil HY1.out 2 (by decide)).mono ?_
 rintro en wd ⟨rfl, hd⟩
 have HY2 := Lib.hid hd
 clear hd HY1
 refine hK.out _ _ (HP.out _ HY2.out) (fun hSn => ?_)
 clear hK K hSw0
 have hSw0 := hSn
 clear hSn
 refine Kn.takeS 42 ⟨some 113, _, _, _, _, _⟩ ?_
 refine Kn.takeS 43 ⟨some 114, _, _, _, _, _⟩ ?_
 refine Kn.takeS 44 ⟨some 115, _, _, _, _, _⟩ ?_
 refine Kn.takeS 45 ⟨some 0, _, _, _, _, _⟩ ?_
 refine wpAnyH_done (by kernel_rfl) ?_ _
 clear hSw0
 go_wp2
 (try simp only [Exit.inBlock, Exit.then])
 refine bodyPost_ret (v := .bool true) (by kernel_rfl) rfl ⟨rfl, HY2.out.only⟩
end Go.Proofs.YtgcfdjcpcclcjaaGreat
namespace Go.Proofs.YtgcfdjcpcclcjaaGreat
open Go.ChangeShapes Go.WideShapes Go.ChangeAt Go.RowKit Go.Kn
theorem own : ownKnob Tryz.prog.godebug = none := by kernel_rfl
theorem laidOut : laidOutB Tryz.prog = true := by kernel_rfl
/-- a slice of integers that came in: nil, or a row of cap cells. -/
def IsRow (k : IntKind) (w : World) (a : Option Addr) (len cap : Nat) (zs : List Int) : Prop :=
 (a = none ∧ len = 0 ∧ cap = 0 ∧ zs = []) ∨
 ∃ x, a = some x ∧ len ≤ cap ∧ cap ≤ maxLen ∧ zs.length = cap ∧ (∀ i, i < zs.length → w.cell? (x.add i) = some (.int k (zs.getD i 0))) ∧ ∀ n ∈ zs, (Lit.int k n).wf = true
theorem add_none {w : World} {x : Addr} {i : Nat} {v : Value} (h : w.cell? (x.add i) = some v) (h0 : ∃ u, w.cell? (x.add 0) = some u) : x.add i = ⟨x.block, x.off + i, none⟩ := by
 obtain ⟨u, hu⟩ := h0
 have hs : x.spot = none := by
  have := World.cell?_spot hu
  simpa [Addr.add] using this
 obtain ⟨b, o, s⟩ := x
 simp only at hs
 subst hs
 unfold Addr.add
 split <;> simp_all
theorem IsRow.row1 {k : IntKind} {w : World} {a : Option Addr} {len cap : Nat} {zs : List Int} (h : IsRow k w a len cap zs) : Row1 w a len cap ((zs.take len).map (Value.int k)) := by
 rcases h with ⟨rfl, rfl, rfl, rfl⟩ | ⟨x, rfl, hl, hm, hz, hcell, hwz⟩
 ·exact Row1.nil w
 ·refine ⟨by simp; omega, hl, hm, fun hn => ⟨x.block, x.off, ?_, fun i hi => ?_⟩⟩
  ·have h0 := hcell 0 (by omega)
   have := add_none h0 ⟨_, h0⟩
   unfold Addr.add at this
   simp at this
   rw [this]
  ·have hi' : i < len := by simp at hi; omega
   have h0 := hcell 0 (by omega)
   have h1 := hcell i (by omega)
   rw [add_none h1 ⟨_, h0⟩] at h1
   rw [h1]
   simp [List.getElem_take, show i < zs.length by omega]
theorem IsRow.ins {w : World} {a : Option Addr} {len cap : Nat} {zs : List Int} (h : IsRow .i64 w a len cap zs) : Ins w a len cap (zs.take len) := h.row1
theorem IsRow.wf {k : IntKind} {w : World} {a : Option Addr} {len cap : Nat} {zs : List Int} (h : IsRow k w a len cap zs) : ∀ z ∈ zs.take len, (Lit.int k z).wf = true := by
 intro z hz
 rcases h with ⟨rfl, rfl, rfl, rfl⟩ | ⟨x, rfl, hl, hm, hz', hcell, hwz⟩
 ·simp at hz
 ·exact hwz z (List.mem_of_mem_take hz)
section
open Go.Deep
variable {H : Type} {enc : TypeId × Value → H} {P : Program} {w : World} {base : Nat} {spare : Nat → Bool} {held : Bool}
/-- a slice of structs of one-cell fields, opened to its cells -/
theorem open_slice_fields {t e : TypeId} {fs : Array Field} {fuel : Nat} {cs : List Value} {x : DataW H × List MemPlace} (ht : P.underlying t = some (.slice e)) (he : P.underlying e = some (.struct fs))
  (hone : oneCellFields P fs = true) (hC : P.cellsOf e = fs.size) (h : DataW.trod enc P w base spare held fuel t cs = some x) :
  (cs = [.slice none 0 0] ∧ x = (.nil, [])) ∨
  ∃ (a : Addr) (len cap m : Nat), cs = [.slice (some a) len cap] ∧ len ≤ cap ∧ cap ≤ maxLen ∧ len ≤ m ∧
   ∀ i, i < m → ∃ (ys : List (DataW H × List MemPlace)) (n : Nat), ys.length = fs.size ∧
    ∀ (j : Nat) (f : Field), fs[j]? = some f → ∃ (v : Value) (y : DataW H × List MemPlace), w.cell? (a.add (i * fs.size + j)) = some v ∧ DataW.trod enc P w base spare held n f.type [v] = some y := by
 rcases open_slice ht h with h0 | ⟨a, len, cap, m, n, D, Pl, hcs, hb, hl, hm, hmm, hx, hi⟩
 ·exact .inl h0
 ·refine .inr ⟨a, len, cap, m, hcs, hl, hm, by rw [hmm]; split <;> omega, fun i him => ?_⟩
  obtain ⟨cs', hc, ht'⟩ := hi i him
  rw [hC] at hc
  obtain ⟨ys, n', hn', hy, hlen, hyl, hf⟩ := DataW.trod_struct he ht'
  obtain ⟨_, hcl, hat⟩ := World.cells?_some hc
  refine ⟨ys, n', hyl, fun j f hj => ?_⟩
  obtain ⟨ho, hk⟩ := hone_of hone j f hj
  have hjl : j < fs.size := (Array.getElem?_eq_some_iff.1 hj).1
  have hcell := hat j hjl
  have hv : cs'[j]? = some (cs'[j]'(by omega)) := List.getElem?_eq_getElem (by omega)
  have h1 := hf j f hj
  rw [ho, hk] at h1
  have hone' : (cs'.drop j).take 1 = [cs'[j]'(by omega)] := by
   rw [List.drop_eq_getElem_cons (by omega)]
   rfl
  rw [hone'] at h1
  have hys : ys[j]? = some (ys[j]'(by omega)) := List.getElem?_eq_getElem (by omega)
  refine ⟨_, _, ?_, h1.trans hys⟩
  rw [← Go.Deep.add_add, hcell, hv]
theorem open_int1 {t : TypeId} {k : IntKind} {fuel : Nat} {v : Value} {y : DataW H × List MemPlace} (ht : P.underlying t = some (.int k)) (h : DataW.trod enc P w base spare held fuel t [v] = some y) : ∃ z, v = .int k z ∧ (Lit.int k z).wf = true := by
 obtain ⟨a, e0, _, wa⟩ := DataW.trod_int ht h
 simp at e0
 exact ⟨a, e0, wa⟩
theorem open_row {t e : TypeId} {k : IntKind} {fuel : Nat} {v : Value} {y : DataW H × List MemPlace} (ht : P.underlying t = some (.slice e)) (he : P.underlying e = some (.int k)) (hC : P.cellsOf e = 1) (h : DataW.trod enc P w base (fun _ => true) held fuel t [v] = some y) :
  ∃ a len cap zs, v = .slice a len cap ∧ IsRow k w a len cap zs := by
 rcases open_ints ht he hC h with ⟨hcs, _⟩ | ⟨x, l, c, zs, hcs, _, hl, hm, hz, _, hcell, hwz⟩
 ·simp at hcs
  exact ⟨none, 0, 0, [], hcs, .inl ⟨rfl, rfl, rfl, rfl⟩⟩
 ·simp at hcs
  exact ⟨some x, l, c, zs, hcs, .inr ⟨_, rfl, hl, hm, by simpa using hz, hcell, hwz⟩⟩
end
end Go.Proofs.YtgcfdjcpcclcjaaGreat
namespace Go.Proofs.YtgcfdjcpcclcjaaGreat
open Go.ChangeShapes Go.WideShapes Go.ChangeAt Go.RowKit Go.Kn Go.Deep
variable {H : Type} {enc : TypeId × Value → H}
theorem list_of {α : Type} {n : Nat} {p : Nat → α → Prop} (h : ∀ i, i < n → ∃ x, p i x) : ∃ l : List α, l.length = n ∧ ∀ i (hi : i < l.length), p i l[i] := by
 induction n with
 | zero => exact ⟨[], rfl, fun i hi => by simp at hi⟩
 | succ n ih =>
  obtain ⟨l, hl, hp⟩ := ih fun i hi => h i (by omega)
  obtain ⟨x, hx⟩ := h n (by omega)
  refine ⟨l ++ [x], by simp [hl], fun i hi => ?_⟩
  by_cases h1 : i < l.length
  ·rw [List.getElem_append_left h1]; exact hp i h1
  ·have : i = l.length := by simp at hi; omega
   subst this
   simpa [hl] using hx
end Go.Proofs.YtgcfdjcpcclcjaaGreat
namespace Go.Kn
open Go Go.RowKit
/-- the numbers of a record of the kit fit their kinds -/
structure WfK (e : KR) : Prop where
 ks : ∀ z ∈ e.kinds, (Lit.int .i64 z).wf = true
 f : (Lit.int .i64 e.fill).wf = true
 s : (Lit.int .i64 e.skew).wf = true
 t : (Lit.int .i64 e.twist).wf = true
 u : (Lit.int .i64 e.up).wf = true
/-- a slice of slices of numbers -/
def Inss (w : World) (A : Option Addr) (n c : Nat) (l : List (List Int)) : Prop := ∃ sl : List (Option Addr × Nat × Nat), Row1 w A n c (sl.map slv) ∧ sl.length = l.length ∧ ∀ i (h1 : i < sl.length) (h2 : i < l.length), Ins w sl[i].1 sl[i].2.1 sl[i].2.2 l[i]
theorem Inss.nil (w : World) : Inss w none 0 0 [] := ⟨[], Row1.nil w, rfl, fun i h1 => by simp at h1⟩
theorem Inss.len {w : World} {A : Option Addr} {n c : Nat} {l : List (List Int)} (h : Inss w A n c l) : l.length = n := by
 obtain ⟨sl, h1, h2, _⟩ := h
 have := h1.len
 simp at this
 omega
theorem Krs.nil (w : World) : Krs w none 0 0 [] [] := ⟨rfl, rfl, Nat.le_refl _, Nat.zero_le _, fun h => absurd h (by omega), fun i h => by simp at h⟩
end Go.Kn
namespace Go.Proofs.YtgcfdjcpcclcjaaGreat
open Go.ChangeShapes Go.WideShapes Go.ChangeAt Go.RowKit Go.Kn Go.Deep
variable {H : Type} {enc : TypeId × Value → H}
theorem open_krs {w : World} {base : Nat} {held : Bool} {fuel : Nat} {a : Option Addr} {len cap : Nat} {x : DataW H × List MemPlace}
  (h : DataW.trod enc Tryz.prog w base (fun _ => true) held fuel 39 [.slice a len cap] = some x) : ∃ l ss, Krs w a len cap l ss ∧ ∀ e ∈ l, WfK e := by
 rcases open_slice_fields Tryz.underlying39 Tryz.underlying38 (by kernel_rfl) (by kernel_rfl) h with ⟨hcs, _⟩ | ⟨b, l, c, m, hcs, hl, hm, hmm, hf⟩
 ·simp at hcs
  obtain ⟨rfl, rfl, rfl⟩ := hcs
  exact ⟨[], [], Krs.nil _, by simp⟩
 ·simp at hcs
  obtain ⟨rfl, rfl, rfl⟩ := hcs
  have hx : ∀ i, i < len → ∃ p : KR × (Option Addr × Nat × Nat), (w.cell? (b.add (i * 5)) = some (slv p.2) ∧ w.cell? (b.add (i * 5 + 1)) = some (.int .i64 p.1.fill) ∧ w.cell? (b.add (i * 5 + 2)) = some (.int .i64 p.1.skew) ∧ w.cell? (b.add (i * 5 + 3)) = some (.int .i64 p.1.twist) ∧ w.cell? (b.add (i * 5 + 4)) = some (.int .i64 p.1.up)) ∧
    Ins w p.2.1 p.2.2.1 p.2.2.2 p.1.kinds ∧ WfK p.1 := by
   intro i hi
   obtain ⟨ys, n, hy, hj⟩ := hf i (by omega)
   obtain ⟨v0, y0, h0, t0⟩ := hj 0 _ rfl
   obtain ⟨v1, y1, h1, t1⟩ := hj 1 _ rfl
   obtain ⟨v2, y2, h2, t2⟩ := hj 2 _ rfl
   obtain ⟨v3, y3, h3, t3⟩ := hj 3 _ rfl
   obtain ⟨v4, y4, h4, t4⟩ := hj 4 _ rfl
   obtain ⟨B, m, d, zs, rfl, w4⟩ := open_row Tryz.underlying34 Tryz.underlying3 (by kernel_rfl) t0
   obtain ⟨z1, rfl, w1⟩ := open_int1 (k := .i64) (by kernel_rfl) t1
   obtain ⟨z2, rfl, w2⟩ := open_int1 (k := .i64) (by kernel_rfl) t2
   obtain ⟨z3, rfl, w3⟩ := open_int1 (k := .i64) (by kernel_rfl) t3
   obtain ⟨z4, rfl, w5⟩ := open_int1 (k := .i64) (by kernel_rfl) t4
   exact ⟨(⟨zs.take m, z1, z2, z3, z4⟩, (B, m, d)), ⟨h0, h1, h2, h3, h4⟩, w4.ins, w4.wf, w1, w2, w3, w5⟩
  obtain ⟨L, hL, hp⟩ := list_of hx
  refine ⟨L.map (·.1), L.map (·.2), ⟨by simpa using hL, by simpa using hL, hl, hm, fun hn => ?_, fun i h1 h2 => ?_⟩, fun e he => ?_⟩
  ·have h00 := (hp 0 (by omega)).1.1
   have hz : ∃ u, w.cell? (b.add 0) = some u := ⟨_, by simpa using h00⟩
   have hb := add_none (i := 0) (by simpa using h00) hz
   have hb' : b = ⟨b.block, b.off, none⟩ := by
    have := hb
    unfold Addr.add at this
    simpa using this
   refine ⟨b.block, b.off, by rw [← hb'], fun i hi hi2 => ?_⟩
   obtain ⟨⟨p0, p1, p2, p3, p4⟩, _⟩ := hp i (by simpa using hi)
   rw [add_none p0 hz] at p0
   rw [add_none p1 hz] at p1
   rw [add_none p2 hz] at p2
   rw [add_none p3 hz] at p3
   rw [add_none p4 hz] at p4
   simp only [List.getElem_map]
   exact ⟨p0, p1, p2, p3, p4⟩
  ·simpa using (hp i (by simpa using h1)).2.1
  ·obtain ⟨p, hpm, rfl⟩ := List.mem_map.1 he
   obtain ⟨i, hi, rfl⟩ := List.getElem_of_mem hpm
   exact (hp i hi).2.2
end Go.Proofs.YtgcfdjcpcclcjaaGreat
namespace Go.Kn
open Go Go.RowKit
def InRows (sl : List (Option Addr × Nat × Nat)) (l : List (List Int)) (W : World) : Prop := ∀ (i : Nat) (s : Option Addr × Nat × Nat) (z : List Int), sl[i]? = some s → l[i]? = some z → Ins W s.1 s.2.1 s.2.2 z
/-- a slice of slices, as two facts -/
theorem Inss.old {w : World} {A : Option Addr} {n c : Nat} {l : List (List Int)} (h : Inss w A n c l) : ∃ sl, sl.length = l.length ∧ Wc w w [] [] [InRows sl l, fun W => Row1 W A n c (sl.map slv)] := by
 obtain ⟨sl, hr, hl, hi⟩ := h
 have h1 := (Wc.start w).old (f := fun W => Row1 W A n c (sl.map slv)) (Row1.fc hr (by simp))
 refine ⟨sl, hl, h1.old (f := InRows sl l) (fun W hW i s z hs hz => ?_)⟩
 obtain ⟨hi1, rfl⟩ := List.getElem?_eq_some_iff.1 hs
 obtain ⟨hi2, rfl⟩ := List.getElem?_eq_some_iff.1 hz
 exact Row1.fc (hi i hi1 hi2) (M := fun _ => False) (by simp) W hW
theorem Kb.hd {w w' : World} {D : Nat} {x : Option (List Deferred)} (hk : Kb w.heap.size w w') (h : w.heap[D]? = some (.deferred x)) : w'.heap[D]? = some (.deferred x) := hk.keep D _ (lt_of_obj h) h rfl
theorem Laid.cut {d : Dk} {c : Cf} {q' : Ps} {l2 : List (Ps × Rc)} : ∀ {l1 : List (Ps × Rc)} {q : Ps}, Laid d c q (l1 ++ l2) q' → ∃ qm, Laid d c q l1 qm ∧ Laid d c qm l2 q'
 | [], q, h => ⟨q, .nil _, h⟩
 | x :: l1, q, h => by
  cases h with
  | cons h1 h2 h3 =>
   obtain ⟨qm, g1, g2⟩ := Laid.cut h3
   exact ⟨qm, .cons h1 h2 g1, g2⟩
theorem Laid.last {d : Dk} {c : Cf} {q' x : Ps} {r : Rc} : ∀ {l : List (Ps × Rc)} {q : Ps}, Laid d c q (l ++ [(x, r)]) q' → follow d c x = (some (r, q'), 0)
 | [], q, h => by
  cases h with
  | cons h1 h2 h3 =>
   cases h3
   exact h1
 | y :: l, q, h => by
  cases h with
  | cons h1 h2 h3 => exact Laid.last h3
/-- stopped behind some records it goes on there -/
theorem Lg.stop {d : Dk} {c : Cf} {q0 q e x : Ps} {r : Rc} {l pre : List (Ps × Rc)} (h : Lg d c q0 l q) (hc : c.Ok) (hp : pre ++ [(x, r)] <+: l) (hf : follow d c x = (some (r, e), 0)) :
  (e.s = q0.s ∧ 1 ≤ e.o ∧ e.o ≤ c.l - 1) ∧ scanG d c 65 e = (l.drop (pre.length + 1), q, 0) := by
 obtain ⟨l2, rfl⟩ := hp
 obtain ⟨qm, g1, g2⟩ := h.laid.cut
 have g3 := g1.last
 rw [hf] at g3
 injection g3 with g3 _
 injection g3 with g3
 injection g3 with _ g3
 subst g3
 have p1 := g1.place
 have p2 := g2.place
 have ho := h.o0
 have ho1 := h.o1
 have hl := hc.2.2
 refine ⟨⟨p1.1, by omega, by omega⟩, ?_⟩
 have hd : (pre ++ [(x, r)] ++ l2).drop (pre.length + 1) = l2 := List.drop_left' (by simp)
 rw [hd]
 exact g2.told (by omega) (by omega) (h.none_ hc)
end Go.Kn
namespace Go.Kn
open Go Go.RowKit
theorem bits_xor_u8_nat (a b : Nat) (ha : a < 256) (hb : b < 256) : bits .xor .u8 (a : Int) (b : Int) = ((a ^^^ b : Nat) : Int) := by
 have hx : a ^^^ b < 2 ^ 8 := Nat.xor_lt_two_pow (by omega) (by omega)
 have h1 : (BitVec.ofInt 8 (a : Int)).toNat = a := by
  rw [BitVec.ofInt_natCast, BitVec.toNat_ofNat]; exact Nat.mod_eq_of_lt (by omega)
 have h2 : (BitVec.ofInt 8 (b : Int)).toNat = b := by
  rw [BitVec.ofInt_natCast, BitVec.toNat_ofNat]; exact Nat.mod_eq_of_lt (by omega)
 show IntKind.u8.wrap ((BitVec.ofInt 8 (a : Int) ^^^ BitVec.ofInt 8 (b : Int)).toNat : Int) = _
 rw [BitVec.toNat_xor, h1, h2]
 simp [IntKind.wrap, IntKind.signed, IntKind.bits]
 omega
theorem flip_byte (c : UInt8) (k : Nat) (hk : k < 8) : bits .xor .u8 (c.toNat : Int) (2 ^ k) = ((UInt8.ofNat (c.toNat ^^^ 2 ^ k)).toNat : Int) := by
 have h := bits_xor_u8_nat c.toNat (2 ^ k) c.toNat_lt (Nat.pow_lt_pow_right (by omega) hk)
 rw [UInt8.toNat_ofNat', Nat.mod_eq_of_lt (xor_pow_lt c k hk), ← h]
 simp
end Go.Kn
namespace Go.Kn
open Go Go.RowKit
/-- a gathered slice that is written no more: a fact -/
theorem Wc.gout {w0 w : World} {L : List (Nat × List Value)} {G : List Gs} {F : List (World → Prop)} {e n c : Nat} {A : Option Addr} {xs : List Value} (h : Wc w0 w L (⟨e, 1, .slice A n c, n, xs⟩ :: G) F) : Wc w0 w L G ((fun W => Row1 W A n c xs) :: F) := by
 have hr := (Row1.of_owns (h.gi 0 rfl)).1
 refine h.gdrop.addF _ (Row1.fc hr fun hn a ha hm => ?_)
 subst ha
 have hob : (Value.slice (some a) n c).ownBlock = some a.block := rfl
 rcases hm with hm | ⟨y, hy, hk⟩
 ·obtain ⟨x, hx, e1⟩ := List.mem_map.1 hm
  exact h.g3 x hx _ List.mem_cons_self (by rw [hob, e1])
 ·exact (List.pairwise_cons.1 h.g2).1 y hy _ hob hk
theorem ownsRow_zero {w : World} {b e sz n c g o : Nat} {p : Option Nat} {xs : List Value} (h : w.ownsRow b e sz (.slice (some ⟨g, o, p⟩) n c) n xs) : o = 0 ∧ p = none := by
 rcases h.2 with ⟨hv, _⟩ | ⟨g', cap, cur, hv, _⟩
 ·cases hv
 ·injection hv with e1
  injection e1 with e1
  injection e1 with e1 e2 e3
  exact ⟨e2, e3⟩
/-- where the records of a log stand -/
theorem Laid.first {d : Dk} {c : Cf} {q q' : Ps} {l : List (Ps × Rc)} (h : Laid d c q l q') : (l.map (·.1.o) ++ [q'.o])[0]? = some q.o := by
 cases h with
 | nil _ => rfl
 | cons h1 h2 h3 => rfl
end Go.Kn
namespace Go.Proofs.YtgcfdjcpcclcjaaGreat
open Go Go.RowKit Go.Kn
section
variable {w0 w w' : World} {p : PD} {r : RD} {d e : Dk} {L : List (Nat × List Value)} {G : List Gs} {F : List (World → Prop)}
theorem Duo.gnew (h : Duo w0 w p r d e ⟨L, G, F⟩) (t sz : Nat) : Duo w0 w p r d e ⟨L, ⟨t, sz, .slice none 0 0, 0, []⟩ :: G, F⟩ := by
 obtain ⟨L0, G0, F0, hw, back⟩ := h.fr
 exact back w ⟨L, _ :: G, F⟩ (hw.gnew t sz)
theorem Duo.gapp (h : Duo w0 w p r d e ⟨L, G, F⟩) (i : Nat) {x : Gs} (hi : G[i]? = some x) {v' : Value} {n' : Nat} {ys : List Value} (ho : w'.ownsRow w0.heap.size x.e x.sz v' n' ys) (hg : w.grownBy w' x.v.ownBlock) (hat : v'.ownBlock = x.v.ownBlock ∨ v'.ownBlock = some w.heap.size) : Duo w0 w' p r d e ⟨L, G.set i ⟨x.e, x.sz, v', n', ys⟩, F⟩ := by
 obtain ⟨L0, G0, F0, hw, back⟩ := h.fr
 have hlt : i < G.length := (List.getElem?_eq_some_iff.1 hi).1
 have hw2 := hw.gapp i (x := x) (by show (G ++ G0)[i]? = _; rw [List.getElem?_append_left hlt]; exact hi) ho hg hat
 refine back _ ⟨L, G.set i ⟨x.e, x.sz, v', n', ys⟩, F⟩ ?_
 show Wc w0 w' (L ++ L0) (G.set i ⟨x.e, x.sz, v', n', ys⟩ ++ G0) (F ++ F0)
 rw [← List.set_append_left _ _ hlt]
 exact hw2
theorem Duo.gset (h : Duo w0 w p r d e ⟨L, G, F⟩) (i : Nat) {x : Gs} (hi : G[i]? = some x) {g : Nat} (hg : x.v.ownBlock = some g) (o : Nat) (u : Value) : Duo w0 (w.setCell ⟨g, o, none⟩ u) p r d e ⟨L, G.set i ⟨x.e, x.sz, x.v, x.n, x.xs.set o u⟩, F⟩ := by
 obtain ⟨L0, G0, F0, hw, back⟩ := h.fr
 have hlt : i < G.length := (List.getElem?_eq_some_iff.1 hi).1
 have hw2 := hw.gset i (x := x) (by show (G ++ G0)[i]? = _; rw [List.getElem?_append_left hlt]; exact hi) hg o u
 refine back _ ⟨L, G.set i ⟨x.e, x.sz, x.v, x.n, x.xs.set o u⟩, F⟩ ?_
 show Wc w0 _ (L ++ L0) (G.set i ⟨x.e, x.sz, x.v, x.n, x.xs.set o u⟩ ++ G0) (F ++ F0)
 rw [← List.set_append_left _ _ hlt]
 exact hw2
theorem Duo.gadd (h : Duo w0 w p r d e ⟨L, G, F⟩) (hO : Only [] w w') {t sz n : Nat} {v : Value} {xs : List Value} (ho : w'.ownsRow w.heap.size t sz v n xs) : Duo w0 w' p r d e ⟨L, ⟨t, sz, v, n, xs⟩ :: G, F⟩ := by
 obtain ⟨L0, G0, F0, hw, back⟩ := h.fr
 exact back w' ⟨L, _ :: G, F⟩ (hw.gadd hO ho)
theorem Duo.gdrop {x : Gs} (h : Duo w0 w p r d e ⟨L, x :: G, F⟩) : Duo w0 w p r d e ⟨L, G, F⟩ := by
 obtain ⟨L0, G0, F0, hw, back⟩ := h.fr
 exact back w ⟨L, G, F⟩ hw.gdrop
theorem Duo.gout {t n c : Nat} {A : Option Addr} {xs : List Value} (h : Duo w0 w p r d e ⟨L, ⟨t, 1, .slice A n c, n, xs⟩ :: G, F⟩) : Duo w0 w p r d e ⟨L, G, (fun W => Row1 W A n c xs) :: F⟩ := by
 obtain ⟨L0, G0, F0, hw, back⟩ := h.fr
 exact back w ⟨L, G, _ :: F⟩ hw.gout
theorem Duo.gown {t sz n g c : Nat} {xs : List Value} (h : Duo w0 w p r d e ⟨L, ⟨t, sz, .slice (some ⟨g, 0, none⟩) n c, n, xs⟩ :: G, F⟩) : Kn.Own w g xs := by
 obtain ⟨L0, G0, F0, hw, back⟩ := h.fr
 exact (Wc.gbox hw).boxi 0 rfl
theorem Duo.gform (h : Duo w0 w p r d e ⟨L, G, F⟩) (i : Nat) {t sz n : Nat} {v : Value} {xs : List Value} (hi : G[i]? = some ⟨t, sz, v, n, xs⟩) : ∃ A c, v = .slice A n c := by
 obtain ⟨L0, G0, F0, hw, back⟩ := h.fr
 have hlt : i < G.length := (List.getElem?_eq_some_iff.1 hi).1
 exact hw.gform i (by show (G ++ G0)[i]? = _; rw [List.getElem?_append_left hlt]; exact hi)
theorem Duo.gi (h : Duo w0 w p r d e ⟨L, G, F⟩) (i : Nat) {x : Gs} (hi : G[i]? = some x) : w.ownsRow w0.heap.size x.e x.sz x.v x.n x.xs := h.row (List.mem_of_getElem? hi)
/-- the cells of a gathered row of single cells -/
theorem Duo.grow (h : Duo w0 w p r d e ⟨L, G, F⟩) (i : Nat) {t n c : Nat} {A : Option Addr} {xs : List Value} (hi : G[i]? = some ⟨t, 1, .slice A n c, n, xs⟩) : Row1 w A n c xs := (Row1.of_owns (h.gi i hi)).1
theorem duo_fault {c : Fr3} (h : Duo w0 w p r d e c) (a : Int) (on : Bool) :
  Calls Tryz.prog 34 #[.pointer (some ⟨p.D, 0, none⟩), .int .i64 a, .bool on] w fun en w' => en = .returned (.int .i64 (d.fault a on).2) ∧ Duo w0 w' p r (d.fault a on).1 e c := by
 obtain ⟨c1, hF, hP, back⟩ := h.ofP
 refine (dk_fault_any w0 w p d c1 a on hP).mono ?_
 rintro en w1 ⟨rfl, h1⟩
 exact ⟨rfl, back _ _ h1⟩
theorem duo_rfault {c : Fr3} (h : Duo w0 w p r d e c) (a : Int) (on : Bool) :
  Calls Tryz.prog 35 #[.pointer (some ⟨r.M, 0, none⟩), .int .i64 a, .bool on] w fun en w' => en = .returned (.int .i64 (e.fault a on).2) ∧ Duo w0 w' p r d (e.fault a on).1 c := by
 obtain ⟨c1, hF, hP, back⟩ := h.ofR
 refine (rk_fault_any w0 w r e c1 a on hP).mono ?_
 rintro en w1 ⟨rfl, h1⟩
 exact ⟨rfl, back _ _ h1⟩
theorem duo_rread_own (h : Duo w0 w p r d e ⟨L, G, F⟩) (hh : e.held.length ≤ 1000000) (a : Int) :
  Calls Tryz.prog 33 #[.pointer (some ⟨r.M, 0, none⟩), .int .i64 a] w fun en w' => ∃ A n c, en = .returned (.tuple #[.slice A n c, .int .i64 (e.err a)]) ∧ Duo w0 w' p r d e ⟨L, ⟨5, 1, .slice A n c, n, bvs (e.read a)⟩ :: G, F⟩ ∧ Only [] w w' := by
 obtain ⟨c1, hF, hP, back⟩ := h.ofR
 refine (rk_read_own w0 w r e c1 a hP hh).mono ?_
 rintro en w1 ⟨v, n, rfl, ho, hO⟩
 obtain ⟨L0, G0, F0, hw, back2⟩ := h.fr
 have hw2 := hw.gadd hO ho
 obtain ⟨A, c, rfl⟩ := hw2.gform 0 rfl
 exact ⟨A, n, c, rfl, back2 w1 ⟨L, _ :: G, F⟩ hw2, hO⟩
end
end Go.Proofs.YtgcfdjcpcclcjaaGreat
namespace Go.Kn
open Go Go.RowKit
/-- a record of a lower Mount stands at a place -/
def Low (d : Dk) (c : Cf) (q : Ps) : Prop := ∃ r : Rc, rcMay r = true ∧ r.bl = [] ∧ gat d (c.at_ q.s + q.o) 1 = rcBytes r ∧ gerr d (c.at_ q.s + q.o) 1 = 0 ∧ r.m < q.m
theorem Low.none_ {d : Dk} {c : Cf} {q : Ps} (h : Low d c q) : follow d c q = (none, 0) := by
 obtain ⟨r, hm, hb, hg, he, hl⟩ := h
 by_cases hin : 1 ≤ q.o ∧ q.o ≤ c.l - 1
 ·have hlen := rcBytes_length hm
  rw [hb] at hlen
  have hs := sizeRc_laid hm
  rw [hb, List.take_of_length_le (by rw [hlen]; decide)] at hs
  rw [gat_one] at hg
  have he2 := he
  rw [gerr_one] at he2
  have hsz : sizeRc (d.read (c.at_ q.s + q.o)) = 1 := by rw [hg]; exact hs
  rw [follow_rec hin rfl he2 hsz (by omega) he (by rw [gat_one, hg]; exact dec_rc hm), if_neg (by intro h; omega)]
 ·exact follow_out hin
theorem Low.agr {d d' : Dk} {c : Cf} {q : Ps} {lo hi : Int} (h : Low d c q) (ha : Agr d d' lo hi) (h1 : lo ≤ c.at_ q.s + q.o) (h2 : c.at_ q.s + q.o + 1 ≤ hi) : Low d' c q := by
 obtain ⟨r, hm, hb, hg, he, hl⟩ := h
 obtain ⟨e1, e2⟩ := gat_agr ha h1 1 (by omega)
 exact ⟨r, hm, hb, e1.trans hg, e2.trans he, hl⟩
structure Mt (d : Dk) (c : Cf) (q0 q : Ps) (want : Nat) (down : Bool) : Prop where
 rdy : Rdy d
 len : (d.safe.length : Int) = c.sectors
 zs : ∀ x, c.at_ q.s + q.o ≤ x → x < c.at_ q.s + c.l → d.read x = List.replicate 64 0
 s : q.s = q0.s
 o0 : 1 ≤ q0.o ∧ q0.o + want ≤ q.o
 o1 : q.o ≤ c.l - 1
 s0 : 0 ≤ q0.s ∧ q0.s ≤ c.s - 1
 st : (down = false ∧ ∃ l : List (Ps × Rc), l.length = want ∧ Laid d c q0 l q ∧ q.o = q0.o + want) ∨ (down = true ∧ ∃ (l : List (Ps × Rc)) (qf : Ps), l.length = want ∧ Laid d c q0 l qf ∧ qf.o = q0.o + want ∧ Low d c qf ∧ qf.o + 1 ≤ q.o)
theorem Mt.start {d : Dk} {c : Cf} {q0 q : Ps} (h : Lg d c q0 [] q) (hq : q = q0) : Mt d c q0 q 0 false := by
 subst hq
 exact ⟨h.rdy, h.len, h.zs, rfl, ⟨h.o0, by simp⟩, h.o1, h.s0, .inl ⟨rfl, [], rfl, h.laid, by simp⟩⟩
theorem Mt.scan {d : Dk} {c : Cf} {q0 q : Ps} {want : Nat} {down : Bool} (h : Mt d c q0 q want down) (hc : c.Ok) : ∃ (l : List (Ps × Rc)) (qf : Ps), scanG d c 65 q0 = (l, qf, 0) ∧ l.length = want ∧ qf.o = q0.o + want := by
 have hll := hc.2.2
 have ho1 := h.o1
 obtain ⟨ho0, ho2⟩ := h.o0
 rcases h.st with ⟨rfl, l, h1, h2, h3⟩ | ⟨rfl, l, qf, h1, h2, h3, h4, h5⟩
 ·refine ⟨l, q, h2.told ho0 (by omega) ?_, h1, h3⟩
  obtain ⟨g1, g2, g3⟩ := Cf.sec c hc q.s (by rw [h.s]; exact h.s0.1) (by rw [h.s]; exact h.s0.2)
  have hl := h.len
  exact follow_zero (h.rdy.err0 (has_of (by omega) (by omega))) (h.zs _ (Int.le_refl _) (by omega))
 ·exact ⟨l, qf, h2.told ho0 (by omega) h4.none_, h1, h3⟩
end Go.Kn
namespace Go.Kn
open Go Go.RowKit
theorem Krs.fc0 {w : World} {A : Option Addr} {n c : Nat} {l : List KR} {ss : List (Option Addr × Nat × Nat)} (h : Krs w A n c l ss) : Fc w (fun _ => False) (fun W => Krs W A n c l ss) := fun W hW =>
 ⟨h.len, h.sl, h.le, h.cm, fun hn => by
  obtain ⟨g, o, e, hc⟩ := h.at_ hn
  exact ⟨g, o, e, fun i h1 h2 => by
   obtain ⟨a0, a1, a2, a3, a4⟩ := hc i h1 h2
   exact ⟨fc_cell a0 (by simp) W hW, fc_cell a1 (by simp) W hW, fc_cell a2 (by simp) W hW, fc_cell a3 (by simp) W hW, fc_cell a4 (by simp) W hW⟩⟩,
  fun i h1 h2 => Row1.fc (h.ks i h1 h2) (by simp) W hW⟩
/-- a disk of a device, ready, of which nothing is held -/
structure Std (d : Dk) (c : Cf) : Prop where
 rdy : Rdy d
 len : (d.safe.length : Int) = c.sectors
 held : d.held = []
theorem Std.start (c : Cf) (hc : c.Ok) : Std (Dk.new c.sectors.toNat) c := by
 obtain ⟨g1, g2, g3⟩ := Cf.sec c hc 0 (by decide) (by have := hc.2.1; omega)
 have hl := hc.2.2
 exact ⟨Rdy.new (by omega) (by omega), by simp [Dk.new]; omega, rfl⟩
theorem Std.puts {d : Dk} {c : Cf} (h : Std d c) {a : Int} {b : List UInt8} {n : Nat} (ha : 0 ≤ a) (hb : b.length = 64 * n) (hr : a + n ≤ c.sectors) : Std (d.puts a b) c := by
 have hl := h.len
 obtain ⟨h1, h2, h3⟩ := h.rdy.puts (a := a) (b := b) (n := n) ha hb (by omega)
 exact ⟨h1, by rw [h3]; exact hl, (h.rdy.live.puts a b).2⟩
theorem Std.head {d : Dk} {c : Cf} (h : Std d c) (hc : c.Ok) (p : Ps) (hs : 0 ≤ p.s ∧ p.s ≤ c.s - 1) : Std (d.puts (c.at_ p.s) (headB p)) c := by
 obtain ⟨g1, g2, g3⟩ := Cf.sec c hc p.s hs.1 hs.2
 have hl := hc.2.2
 exact h.puts (n := 1) (by omega) (headB_length p) (by omega)
theorem Std.log {c : Cf} (hc : c.Ok) : ∀ (l : List KR) (q : Ps) (d : Dk), Std d c → PsOk c q → Std (logRun c l q d).2 c
 | [], q, d, h, _ => h
 | r :: rs, q, d, h, hq => by
  cases he : encRc (kMade q r) with
  | none => rw [Go.Proofs.YtgcfdjcpcclcjaaGreat.logRun_none he]; exact h
  | some x =>
   obtain ⟨b, s⟩ := x
   by_cases hf : c.l - 1 < q.o + ((b.length / 64 : Nat) : Int)
   ·rw [Go.Proofs.YtgcfdjcpcclcjaaGreat.logRun_far he hf]; exact h
   ·rw [Go.Proofs.YtgcfdjcpcclcjaaGreat.logRun_go he hf]
    obtain ⟨g1, g2, g3⟩ := Cf.sec c hc q.s hq.s.1 hq.s.2
    obtain ⟨_, _, _, hb, _⟩ := enc_some he
    have ho := hq.o
    refine Std.log hc rs _ _ (h.puts (n := b.length / 64) (by omega) (by omega) (by omega)) (hq.next hc he hf)
theorem fewK_wf {l : List KR} (h : fewK l = true) (hw : ∀ e ∈ l, (∀ z ∈ e.kinds, (Lit.int .i64 z).wf = true) ∧ (Lit.int .i64 e.fill).wf = true ∧ (Lit.int .i64 e.twist).wf = true) : ∀ e ∈ l, e.Wf := by
 intro e he
 unfold fewK at h
 rw [Bool.and_eq_true] at h
 have h1 := List.all_eq_true.1 h.1 e he
 unfold fewOne at h1
 simp only [decide_eq_true_eq] at h1
 obtain ⟨w1, w2, w3⟩ := hw e he
 exact ⟨w1, w2, w3, by omega, by omega⟩
theorem fault_held (d : Dk) (a : Int) (on : Bool) : (d.fault a on).1.held = d.held := by
 unfold Dk.fault
 split <;> rfl
def plc (a q p : Ps) (j : Nat) : Ps := if j = 0 then a else if j = 1 then q else p
theorem pos_cells {w : World} {g : Nat} {a q p : Ps} (h : Own w g [.int .i64 a.s, .int .i64 a.o, .int .i64 a.l, .int .i64 a.p, .int .i64 a.m, .int .i64 q.s, .int .i64 q.o, .int .i64 q.l, .int .i64 q.p, .int .i64 q.m, .int .i64 p.s, .int .i64 p.o, .int .i64 p.l, .int .i64 p.p, .int .i64 p.m]) {j : Nat} (hj : j < 3) :
  w.cell? ⟨g, j * 5, none⟩ = some (.int .i64 (plc a q p j).s) ∧ w.cell? ⟨g, j * 5 + 1, none⟩ = some (.int .i64 (plc a q p j).o) ∧ w.cell? ⟨g, j * 5 + 2, none⟩ = some (.int .i64 (plc a q p j).l) ∧ w.cell? ⟨g, j * 5 + 3, none⟩ = some (.int .i64 (plc a q p j).p) ∧ w.cell? ⟨g, j * 5 + 4, none⟩ = some (.int .i64 (plc a q p j).m) := by
 rcases (by omega : j = 0 ∨ j = 1 ∨ j = 2) with rfl | rfl | rfl
 ·exact ⟨h.cellv 0, h.cellv 1, h.cellv 2, h.cellv 3, h.cellv 4⟩
 ·exact ⟨h.cellv 5, h.cellv 6, h.cellv 7, h.cellv 8, h.cellv 9⟩
 ·exact ⟨h.cellv 10, h.cellv 11, h.cellv 12, h.cellv 13, h.cellv 14⟩
theorem pos_head {x1 x2 x3 x4 : Int} (h1 : 0 ≤ x1 ∧ x1 ≤ 31) (h2 : 1 ≤ x2 ∧ x2 ≤ 1048576) (h3 : 0 ≤ x3 ∧ x3 ≤ 4294967295) (h4 : 1 ≤ x4 ∧ x4 ≤ 1048576) (o : Int) : headMay (⟨x1, o, x2, x3, x4⟩ : Ps).head = true := by
 rw [headMay_iff]
 simp only [Ps.head]
 omega
theorem pos_ok {c : Cf} {x1 x2 x3 x4 : Int} (h1 : 0 ≤ x1 ∧ x1 ≤ c.s - 1) (h2 : 1 ≤ x2 ∧ x2 ≤ 1048576) (h3 : 0 ≤ x3 ∧ x3 ≤ 4294967295) (h4 : 1 ≤ x4 ∧ x4 ≤ 1048576) : PsOk c ⟨x1, 1, x2, x3, x4⟩ :=
 ⟨⟨by simp only; omega, by simp only; omega, by simp only; omega⟩, h1, by show (0 : Int) ≤ 1 ∧ (1 : Int) ≤ 64; decide⟩
end Go.Kn
namespace Go.Proofs.YtgcfdjcpcclcjaaGreat
open Go Go.RowKit Go.Kn
section
variable {w0 w w' : World} {p : PD} {r : RD} {d e : Dk} {L : List (Nat × List Value)} {G : List Gs} {F : List (World → Prop)}
theorem Duo.sub (h : Duo w0 w p r d e ⟨L, G, F⟩) {L' : List (Nat × List Value)} {G' : List Gs} {F' : List (World → Prop)} (hL : L'.Sublist L) (hG : G'.Sublist G) (hF : ∀ f ∈ F', f ∈ F) : Duo w0 w p r d e ⟨L', G', F'⟩ := by
 obtain ⟨L0, G0, F0, hw, back⟩ := h.fr
 exact back w ⟨L', G', F'⟩ ((hw.sub (hL.append_right L0) (F' := F' ++ F0) (fun f hf => (List.mem_append.1 hf).elim (fun h => List.mem_append_left _ (hF f h)) (List.mem_append_right _))).subG (hG.append_right G0))
theorem FdP.ofDuo {A : Option Addr} {c : Nat} {xs : List Fnd} (h : Duo w0 w p r d e ⟨L, G, F⟩) (i : Nat) (hi : G[i]? = some ⟨58, 6, .slice A xs.length c, xs.length, fndV xs⟩) (hf : ∀ y ∈ xs, y.fct ∈ F) : FdP w A xs.length c xs := FdP.of_owns (h.gi i hi) fun y hy => h.fact (hf y hy)
theorem FdR.ofDuo {A : Option Addr} {c : Nat} {xs : List Fnd} (h : Duo w0 w p r d e ⟨L, G, F⟩) (i : Nat) (hi : G[i]? = some ⟨183, 10, .slice A xs.length c, xs.length, rfndV xs⟩) (hf : ∀ y ∈ xs, y.fct ∈ F) : FdR w A xs.length c xs := FdR.of_owns (h.gi i hi) fun y hy => h.fact (hf y hy)
end
end Go.Proofs.YtgcfdjcpcclcjaaGreat
namespace Go.Proofs.YtgcfdjcpcclcjaaGreat.scanPlays
open Go Go.RowKit Go.Kn Go.ChangeShapes Go.WideShapes Go.ChangeAt
set_option maxRecDepth 100000 in
set_option maxHeartbeats 16000000 in
theorem plays (z0 z1 z2 : Int) (u : Ps) (A : Option Addr) (n c : Nat) (l : List KR) (ss : List (Option Addr × Nat × Nat)) (hb : Bool) (tu fa0 : Int) (w : World)
  (hz0 : (Lit.int .i64 z0).wf = true) (hz1 : (Lit.int .i64 z1).wf = true) (hz2 : (Lit.int .i64 z2).wf = true) (hwu : (Lit.int .i64 u.s).wf = true ∧ (Lit.int .i64 u.l).wf = true ∧ (Lit.int .i64 u.p).wf = true ∧ (Lit.int .i64 u.m).wf = true)
  (hk : Krs w A n c l ss) (hkw : ∀ e ∈ l, (∀ z ∈ e.kinds, (Lit.int .i64 z).wf = true) ∧ (Lit.int .i64 e.fill).wf = true ∧ (Lit.int .i64 e.twist).wf = true) (htu : (Lit.int .i64 tu).wf = true) (hfa : (Lit.int .i64 fa0).wf = true) :
  Calls Tryz.prog 6 #[.agg #[.int .i64 z0, .int .i64 z1, .int .i64 z2], .agg #[.int .i64 u.s, .int .i64 u.o, .int .i64 u.l, .int .i64 u.p, .int .i64 u.m], .slice A n c, .bool hb, .int .i64 tu, .int .i64 fa0] w fun en w' => en = .returned (.bool true) ∧ Only [] w w' := by
 have HZ := Lib.hid (⟨hz0, hz1, hz2⟩ : (Lit.int .i64 z0).wf = true ∧ (Lit.int .i64 z1).wf = true ∧ (Lit.int .i64 z2).wf = true)
 have HWU := Lib.hid hwu
 have HK0 := Lib.hid hk
 have H1 := Lib.hid ((((Wc.start w).old (f := (fun W => Krs W A n c l ss)) hk.fc0).newB #[.int .i64 z0, .int .i64 z1, .int .i64 z2] 71 (b := w.heap.size) rfl).newB #[.int .i64 u.s, .int .i64 u.o, .int .i64 u.l, .int .i64 u.p, .int .i64 u.m] 32 (b := w.heap.size + 1) (by simp))
 have HKW := Lib.hid hkw
 clear hz0 hz1 hz2 hwu hk hkw
 go_enter Tryz.func6, Tryz.ntmps6
 go_upto_region 1 with (fail)
 generalize hz1 : (w.alloc (.cells #[.int .i64 z0, .int .i64 z1, .int .i64 z2] 71)).alloc (.cells #[.int .i64 u.s, .int .i64 u.o, .int .i64 u.l, .int .i64 u.p, .int .i64 u.m] 32) = w1 at *
 have hs1 : (w.alloc (.cells #[.int .i64 z0, .int .i64 z1, .int .i64 z2] 71)).heap.size = w.heap.size + 1 := by simp
 try rw [hs1]
 clear hz1 hs1
 obtain ⟨fz, hfz⟩ : ∃ k, k = w.heap.size := ⟨_, rfl⟩
 rw [← hfz] at H1 ⊢
 obtain ⟨fu, hfu⟩ : ∃ k, k = fz + 1 := ⟨_, rfl⟩
 rw [← hfu] at H1 ⊢
 clear hfz hfu
 go_wp2_with fail
 refine (few13_any A n c l ss _ (H1.out.fact (fun W => Krs W A n c l ss) (by simp))).mono ?_
 rintro en w2 ⟨rfl, rfl⟩
 cases hfew : fewK l with
 | false =>
  go_wp2_with fail
  refine (awake13_any _).mono ?_
  rintro en w9 ⟨rfl, hO⟩
  have HO := Lib.hid (H1.out.only.trans' hO)
  clear hO H1
  go_wp2_with fail
  refine bodyPost_ret (v := .bool true) (by kernel_rfl) rfl ⟨rfl, HO.out⟩
 | true =>
  have HWF := Lib.hid (fewK_wf hfew HKW.out)
  clear hfew HKW
  have b6 := H1.out.boxi 1 rfl
  obtain ⟨q0, q1, q2⟩ := Kn.own3 b6
  clear b6
  go_wp2_with fail
  refine (alike_config_small z0 z1 z2 _ HZ.out.1 HZ.out.2.1 HZ.out.2.2).mono ?_
  rintro en w3 ⟨rfl, hO⟩
  have hzz0 := Int.emod_nonneg z0 (b := 24) (by decide)
  have hzz1 := Int.emod_lt_of_pos z0 (b := 24) (by decide)
  have hzz2 := Int.emod_nonneg z1 (b := 3) (by decide)
  have hzz3 := Int.emod_lt_of_pos z1 (b := 3) (by decide)
  have hzz4 := Int.emod_nonneg z2 (b := 4) (by decide)
  have hzz5 := Int.emod_lt_of_pos z2 (b := 4) (by decide)
  obtain ⟨cf, hcf⟩ : ∃ cf : Cf, cf = ⟨1 + z0 % 24, 8 + z1 % 3, 24 + z2 % 4⟩ := ⟨_, rfl⟩
  have hcb : 1 + z0 % 24 = cf.b := by rw [hcf]
  have hcs : 8 + z1 % 3 = cf.s := by rw [hcf]
  have hcl : 24 + z2 % 4 = cf.l := by rw [hcf]
  rw [hcb, hcs, hcl]
  have hc : cf.Ok := by rw [hcf]; exact ⟨by simp only; omega, by simp only; omega, by simp only; omega⟩
  have hcr : (8 ≤ cf.s ∧ cf.s ≤ 10) ∧ 24 ≤ cf.l ∧ cf.l ≤ 27 := by omega
  obtain ⟨⟨hcs0, hcs1⟩, hcl0, hcl1⟩ := hcr
  have HC := Lib.hid hc
  have H2 := Lib.hid ((H1.out.keep0 hO).newB #[.int .i64 cf.b, .int .i64 cf.s, .int .i64 cf.l] 25 rfl)
  clear hO hcf hcb hcs hcl hc H1 HZ hzz0 hzz1 hzz2 hzz3 hzz4 hzz5 q0 q1 q2
  go_upto_region 4 with (fail)
  generalize hz1 : w3.alloc (.cells #[.int .i64 cf.b, .int .i64 cf.s, .int .i64 cf.l] 25) = w1 at *
  generalize hf3 : w3.heap.size = fc at *
  clear hz1 hf3 w3
  have b3 := H2.out.boxi 0 rfl
  obtain ⟨e0, e1, e2⟩ := Kn.own3 b3
  clear b3
  go_wp2_with fail
  refine (desk13_any w w1 cf ⟨(fc, [.int .i64 cf.b, .int .i64 cf.s, .int .i64 cf.l]) :: (fu, [.int .i64 u.s, .int .i64 u.o, .int .i64 u.l, .int .i64 u.p, .int .i64 u.m]) :: (fz, [.int .i64 z0, .int .i64 z1, .int .i64 z2]) :: [], [], [(fun W => Krs W A n c l ss)]⟩ H2.out HC.out).mono ?_
  rintro en w3 ⟨p, rr, gb, rfl, hd⟩
  obtain ⟨d0, hd0⟩ : ∃ z, Dk.new cf.sectors.toNat = z := ⟨_, rfl⟩
  have hs0 := Std.start cf HC.out
  rw [hd0] at hd hs0
  have HD := Lib.hid hd
  have HS0 := Lib.hid hs0
  obtain ⟨x1, hx1⟩ : ∃ z, u.s % cf.s = z := ⟨_, rfl⟩
  have hx1b : 0 ≤ x1 ∧ x1 ≤ cf.s - 1 := by
   have := Int.emod_nonneg u.s (b := cf.s) (by omega)
   have := Int.emod_lt_of_pos u.s (b := cf.s) (by omega)
   omega
  obtain ⟨x3, hx3⟩ : ∃ z, u.p % 4294967296 = z := ⟨_, rfl⟩
  obtain ⟨x2, hx2⟩ : ∃ z, 1 + u.l % 1048576 = z := ⟨_, rfl⟩
  obtain ⟨x4, hx4⟩ : ∃ z, 1 + u.m % 1048576 = z := ⟨_, rfl⟩
  have hx3b : 0 ≤ x3 ∧ x3 ≤ 4294967295 := by omega
  have hx2b : 1 ≤ x2 ∧ x2 ≤ 1048576 := by omega
  have hx4b : 1 ≤ x4 ∧ x4 ≤ 1048576 := by omega
  have HX1 := Lib.hid hx1
  have HX3 := Lib.hid hx3
  have hw2 : IntKind.i64.wrap (1 + u.l % 1048576) = x2 := by rw [← hx2]; exact IntWalk.i64_in _ (by omega)
  have hw4 : IntKind.i64.wrap (1 + u.m % 1048576) = x4 := by rw [← hx4]; exact IntWalk.i64_in _ (by omega)
  have HMY := Lib.hid (pos_head (⟨hx1b.1, by omega⟩ : 0 ≤ x1 ∧ x1 ≤ 31) hx2b hx3b hx4b 0)
  have HPO := Lib.hid (pos_ok hx1b hx2b hx3b hx4b)
  have HXS := Lib.hid hx1b
  obtain ⟨e1, e2, e3⟩ := Cf.sec cf HC.out x1 hx1b.1 hx1b.2
  obtain ⟨sa, hsa⟩ : ∃ s, cf.at_ x1 = s := ⟨_, rfl⟩
  rw [hsa] at e1 e2
  have HSA := Lib.hid hsa
  have HSE : Hid (sa + cf.l ≤ cf.sectors) := Lib.hid e2
  have e4 : sa ≤ 4096 := by omega
  clear hd hs0 hd0 H2 e2 e3 hx1 hx2 hx3 hx4 hsa hx1b hx2b hx3b hx4b
  clear e0
  go_upto_region 7 with (fail)
  go_cut [18] (fun s18 wy => ∃ fa : Nat, s18 = .pointer (some ⟨fa, 0, none⟩) ∧ Duo w wy p rr d0 d0 ⟨(fa, [.int .i64 x1, .int .i64 0, .int .i64 x2, .int .i64 x3, .int .i64 x4]) :: (fc, [.int .i64 cf.b, .int .i64 cf.s, .int .i64 cf.l]) :: (fu, [.int .i64 u.s, .int .i64 u.o, .int .i64 u.l, .int .i64 u.p, .int .i64 u.m]) :: (fz, [.int .i64 z0, .int .i64 z1, .int .i64 z2]) :: [], [], (fun W => GeoAt W gb cf.b cf.s cf.l) :: (fun W => Krs W A n c l ss) :: []⟩)
  case first =>
   as_aux_lemma =>
    have HY := Lib.hid HD.out.drew
    clear HD
    refine wp_region_held_drew (S := (fun w' => Kn.Own w' fu [.int .i64 u.s, .int .i64 u.o, .int .i64 u.l, .int .i64 u.p, .int .i64 u.m] ∧ Kn.Own w' fc [.int .i64 cf.b, .int .i64 cf.s, .int .i64 cf.l])) (by kernel_rfl) ⟨HY.out.box (x := (fu, [.int .i64 u.s, .int .i64 u.o, .int .i64 u.l, .int .i64 u.p, .int .i64 u.m])) (by simp), HY.out.box (x := (fc, [.int .i64 cf.b, .int .i64 cf.s, .int .i64 cf.l])) (by simp)⟩ (fun hSw0 => ?_)
    generalize w3.drew = wz at *
    refine Kn.takeS 0 ⟨some 48, _, _, _, _, _⟩ ?_
    refine Kn.takeS 1 ⟨some 49, _, _, _, _, _⟩ (v := (.int .i64 u.s)) (hy := fun w hSw => by
     have q0 := hSw.1.cellv 0
     go_simp) ?_
    refine Kn.takeS 2 ⟨some 50, _, _, _, _, _⟩ ?_
    refine Kn.takeS 3 ⟨some 51, _, _, _, _, _⟩ (v := (.int .i64 cf.s)) (hy := fun w hSw => by
     have q0 := hSw.2.cellv 1
     go_simp) ?_
    refine Kn.takeS 5 ⟨some 53, _, _, _, _, _⟩ ?_
    refine Kn.takeS 6 ⟨some 54, _, _, _, _, _⟩ (v := (.int .i64 u.l)) (hy := fun w hSw => by
     have q0 := hSw.1.cellv 2
     go_simp) ?_
    refine Kn.takeS 9 ⟨some 57, _, _, _, _, _⟩ ?_
    refine Kn.takeS 10 ⟨some 58, _, _, _, _, _⟩ (v := (.int .i64 u.p)) (hy := fun w hSw => by
     have q0 := hSw.1.cellv 3
     go_simp) ?_
    refine Kn.takeS 12 ⟨some 60, _, _, _, _, _⟩ ?_
    refine Kn.takeS 13 ⟨some 61, _, _, _, _, _⟩ (v := (.int .i64 u.m)) (hy := fun w hSw => by
     have q0 := hSw.1.cellv 4
     go_simp) ?_
    refine wpAnyH_ready (rs := [4, 17]) (by kernel_rfl) (by simp) ?_
    refine AllReadyH.cons (o := ⟨some 52, _, _, _, _, _⟩) rfl (fun K hK => ?_) ?_
    ·go_simp
     refine (round_any u.s cf.s _ HWU.out.1 (by omega) (by omega)).mono ?_
     rintro en wk ⟨rfl, rfl⟩
     rw [HX1.out]
     refine hK.out _ _ hSw0 (fun hSn => ?_)
     clear hK K hSw0
     have hSw0 := hSn
     clear hSn
     refine wpAnyH_ready (rs := [7, 17]) (by kernel_rfl) (by simp) ?_
     refine AllReadyH.cons (o := ⟨some 55, _, _, _, _, _⟩) rfl (fun K hK => ?_) ?_
     ·go_simp
      refine (round_any u.l 1048576 _ HWU.out.2.1 (by omega) (by omega)).mono ?_
      rintro en wk ⟨rfl, rfl⟩
      refine hK.out _ _ hSw0 (fun hSn => ?_)
      clear hK K hSw0
      have hSw0 := hSn
      clear hSn
      refine Kn.takeS 8 ⟨some 56, _, _, _, _, _⟩ ?_
      refine wpAnyH_ready (rs := [11, 17]) (by kernel_rfl) (by simp) ?_
      refine AllReadyH.cons (o := ⟨some 59, _, _, _, _, _⟩) rfl (fun K hK => ?_) ?_
      ·go_simp
       refine (round_any u.p 4294967296 _ HWU.out.2.2.1 (by omega) (by omega)).mono ?_
       rintro en wk ⟨rfl, rfl⟩
       rw [HX3.out]
       refine hK.out _ _ hSw0 (fun hSn => ?_)
       clear hK K hSw0
       have hSw0 := hSn
       clear hSn
       refine wpAnyH_ready (rs := [14, 17]) (by kernel_rfl) (by simp) ?_
       refine AllReadyH.cons (o := ⟨some 62, _, _, _, _, _⟩) rfl (fun K hK => ?_) ?_
       ·go_simp
        refine (round_any u.m 1048576 _ HWU.out.2.2.2 (by omega) (by omega)).mono ?_
        rintro en wk ⟨rfl, rfl⟩
        refine hK.out _ _ hSw0 (fun hSn => ?_)
        clear hK K hSw0
        have hSw0 := hSn
        clear hSn
        refine Kn.takeS 15 ⟨some 63, _, _, _, _, _⟩ ?_
        refine Kn.takeS 16 ⟨some 64, _, _, _, _, _⟩ ?_
        refine Kn.takeR 17 ⟨some 18, _, _, _, _, _⟩ fun K hK => ?_
        go_simp
        have HYa := Lib.hid (Duo.newB HY.out #[.int .i64 0, .int .i64 0, .int .i64 0, .int .i64 0, .int .i64 0] 32 rfl)
        clear HY
        generalize hvb : wz.alloc (.cells #[.int .i64 0, .int .i64 0, .int .i64 0, .int .i64 0, .int .i64 0] 32) = wy at *
        generalize wz.heap.size = fa at *
        clear hvb
        refine hK.out _ _ ⟨HYa.out.box (x := (fu, [.int .i64 u.s, .int .i64 u.o, .int .i64 u.l, .int .i64 u.p, .int .i64 u.m])) (by simp), HYa.out.box (x := (fc, [.int .i64 cf.b, .int .i64 cf.s, .int .i64 cf.l])) (by simp)⟩ (fun hSn => ?_)
        clear hK K hSw0
        have hSw0 := hSn
        clear hSn
        refine Kn.takeR 18 ⟨none, _, _, _, _, _⟩ fun K hK => ?_
        refine step_store_own rfl 32 (.tmp 18) (.tmp 64) rfl fa [.int .i64 0, .int .i64 0, .int .i64 0, .int .i64 0, .int .i64 0] [.int .i64 x1, .int .i64 0, .int .i64 x2, .int .i64 x3, .int .i64 x4] (by kernel_rfl) rfl rfl (HYa.out.box (x := (fa, [.int .i64 0, .int .i64 0, .int .i64 0, .int .i64 0, .int .i64 0])) (by simp)) rfl (by intro v hv; simp at hv; rcases hv with rfl | rfl | rfl | rfl | rfl <;> rfl) ?_
        intro wc ho9 hO9
        have HYb := Lib.hid (HYa.out.head ho9 hO9)
        clear ho9 hO9 HYa
        refine hK.out _ _ ⟨HYb.out.box (x := (fu, [.int .i64 u.s, .int .i64 u.o, .int .i64 u.l, .int .i64 u.p, .int .i64 u.m])) (by simp), HYb.out.box (x := (fc, [.int .i64 cf.b, .int .i64 cf.s, .int .i64 cf.l])) (by simp)⟩ (fun hSn => ?_)
        clear hK K hSw0
        have hSw0 := hSn
        clear hSn
        refine wpAnyH_done (by kernel_rfl) ?_ _
        clear hSw0
        go_wp2
        go_meet
        case rel => exact ⟨fa, rfl, HYb.out⟩
       refine AllReadyH.cons (o := ⟨some 18, _, _, _, _, _⟩) rfl (fun K hK => ?_) ?_
       ·go_simp
        have HYa := Lib.hid (Duo.newB HY.out #[.int .i64 0, .int .i64 0, .int .i64 0, .int .i64 0, .int .i64 0] 32 rfl)
        clear HY
        generalize hvb : wz.alloc (.cells #[.int .i64 0, .int .i64 0, .int .i64 0, .int .i64 0, .int .i64 0] 32) = wy at *
        generalize wz.heap.size = fa at *
        clear hvb
        refine hK.out _ _ ⟨HYa.out.box (x := (fu, [.int .i64 u.s, .int .i64 u.o, .int .i64 u.l, .int .i64 u.p, .int .i64 u.m])) (by simp), HYa.out.box (x := (fc, [.int .i64 cf.b, .int .i64 cf.s, .int .i64 cf.l])) (by simp)⟩ (fun hSn => ?_)
        clear hK K hSw0
        have hSw0 := hSn
        clear hSn
        refine Kn.takeR 14 ⟨some 62, _, _, _, _, _⟩ fun K hK => ?_
        go_simp
        refine (round_any u.m 1048576 _ HWU.out.2.2.2 (by omega) (by omega)).mono ?_
        rintro en wk ⟨rfl, rfl⟩
        refine hK.out _ _ hSw0 (fun hSn => ?_)
        clear hK K hSw0
        have hSw0 := hSn
        clear hSn
        refine Kn.takeS 15 ⟨some 63, _, _, _, _, _⟩ ?_
        refine Kn.takeS 16 ⟨some 64, _, _, _, _, _⟩ ?_
        refine Kn.takeR 18 ⟨none, _, _, _, _, _⟩ fun K hK => ?_
        refine step_store_own rfl 32 (.tmp 18) (.tmp 64) rfl fa [.int .i64 0, .int .i64 0, .int .i64 0, .int .i64 0, .int .i64 0] [.int .i64 x1, .int .i64 0, .int .i64 x2, .int .i64 x3, .int .i64 x4] (by kernel_rfl) rfl rfl (HYa.out.box (x := (fa, [.int .i64 0, .int .i64 0, .int .i64 0, .int .i64 0, .int .i64 0])) (by simp)) rfl (by intro v hv; simp at hv; rcases hv with rfl | rfl | rfl | rfl | rfl <;> rfl) ?_
        intro wc ho9 hO9
        have HYb := Lib.hid (HYa.out.head ho9 hO9)
        clear ho9 hO9 HYa
        refine hK.out _ _ ⟨HYb.out.box (x := (fu, [.int .i64 u.s, .int .i64 u.o, .int .i64 u.l, .int .i64 u.p, .int .i64 u.m])) (by simp), HYb.out.box (x := (fc, [.int .i64 cf.b, .int .i64 cf.s, .int .i64 cf.l])) (by simp)⟩ (fun hSn => ?_)
        clear hK K hSw0
        have hSw0 := hSn
        clear hSn
        refine wpAnyH_done (by kernel_rfl) ?_ _
        clear hSw0
        go_wp2
        go_meet
        case rel => exact ⟨fa, rfl, HYb.out⟩
       exact AllReadyH.nil
      refine AllReadyH.cons (o := ⟨some 18, _, _, _, _, _⟩) rfl (fun K hK => ?_) ?_
      ·go_simp
       have HYa := Lib.hid (Duo.newB HY.out #[.int .i64 0, .int .i64 0, .int .i64 0, .int .i64 0, .int .i64 0] 32 rfl)
       clear HY
       generalize hvb : wz.alloc (.cells #[.int .i64 0, .int .i64 0, .int .i64 0, .int .i64 0, .int .i64 0] 32) = wy at *
       generalize wz.heap.size = fa at *
       clear hvb
       refine hK.out _ _ ⟨HYa.out.box (x := (fu, [.int .i64 u.s, .int .i64 u.o, .int .i64 u.l, .int .i64 u.p, .int .i64 u.m])) (by simp), HYa.out.box (x := (fc, [.int .i64 cf.b, .int .i64 cf.s, .int .i64 cf.l])) (by simp)⟩ (fun hSn => ?_)
       clear hK K hSw0
       have hSw0 := hSn
       clear hSn
       refine Kn.takeR 11 ⟨some 59, _, _, _, _, _⟩ fun K hK => ?_
       go_simp
       refine (round_any u.p 4294967296 _ HWU.out.2.2.1 (by omega) (by omega)).mono ?_
       rintro en wk ⟨rfl, rfl⟩
       rw [HX3.out]
       refine hK.out _ _ hSw0 (fun hSn => ?_)
       clear hK K hSw0
       have hSw0 := hSn
       clear hSn
       refine Kn.takeR 14 ⟨some 62, _, _, _, _, _⟩ fun K hK => ?_
       go_simp
       refine (round_any u.m 1048576 _ HWU.out.2.2.2 (by omega) (by omega)).mono ?_
       rintro en wk ⟨rfl, rfl⟩
       refine hK.out _ _ hSw0 (fun hSn => ?_)
       clear hK K hSw0
       have hSw0 := hSn
       clear hSn
       refine Kn.takeS 15 ⟨some 63, _, _, _, _, _⟩ ?_
       refine Kn.takeS 16 ⟨some 64, _, _, _, _, _⟩ ?_
       refine Kn.takeR 18 ⟨none, _, _, _, _, _⟩ fun K hK => ?_
       refine step_store_own rfl 32 (.tmp 18) (.tmp 64) rfl fa [.int .i64 0, .int .i64 0, .int .i64 0, .int .i64 0, .int .i64 0] [.int .i64 x1, .int .i64 0, .int .i64 x2, .int .i64 x3, .int .i64 x4] (by kernel_rfl) rfl rfl (HYa.out.box (x := (fa, [.int .i64 0, .int .i64 0, .int .i64 0, .int .i64 0, .int .i64 0])) (by simp)) rfl (by intro v hv; simp at hv; rcases hv with rfl | rfl | rfl | rfl | rfl <;> rfl) ?_
       intro wc ho9 hO9
       have HYb := Lib.hid (HYa.out.head ho9 hO9)
       clear ho9 hO9 HYa
       refine hK.out _ _ ⟨HYb.out.box (x := (fu, [.int .i64 u.s, .int .i64 u.o, .int .i64 u.l, .int .i64 u.p, .int .i64 u.m])) (by simp), HYb.out.box (x := (fc, [.int .i64 cf.b, .int .i64 cf.s, .int .i64 cf.l])) (by simp)⟩ (fun hSn => ?_)
       clear hK K hSw0
       have hSw0 := hSn
       clear hSn
       refine wpAnyH_done (by kernel_rfl) ?_ _
       clear hSw0
       go_wp2
       go_meet
       case rel => exact ⟨fa, rfl, HYb.out⟩
      exact AllReadyH.nil
     refine AllReadyH.cons (o := ⟨some 18, _, _, _, _, _⟩) rfl (fun K hK => ?_) ?_
     ·go_simp
      have HYa := Lib.hid (Duo.newB HY.out #[.int .i64 0, .int .i64 0, .int .i64 0, .int .i64 0, .int .i64 0] 32 rfl)
      clear HY
      generalize hvb : wz.alloc (.cells #[.int .i64 0, .int .i64 0, .int .i64 0, .int .i64 0, .int .i64 0] 32) = wy at *
      generalize wz.heap.size = fa at *
      clear hvb
      refine hK.out _ _ ⟨HYa.out.box (x := (fu, [.int .i64 u.s, .int .i64 u.o, .int .i64 u.l, .int .i64 u.p, .int .i64 u.m])) (by simp), HYa.out.box (x := (fc, [.int .i64 cf.b, .int .i64 cf.s, .int .i64 cf.l])) (by simp)⟩ (fun hSn => ?_)
      clear hK K hSw0
      have hSw0 := hSn
      clear hSn
      refine Kn.takeR 7 ⟨some 55, _, _, _, _, _⟩ fun K hK => ?_
      go_simp
      refine (round_any u.l 1048576 _ HWU.out.2.1 (by omega) (by omega)).mono ?_
      rintro en wk ⟨rfl, rfl⟩
      refine hK.out _ _ hSw0 (fun hSn => ?_)
      clear hK K hSw0
      have hSw0 := hSn
      clear hSn
      refine Kn.takeS 8 ⟨some 56, _, _, _, _, _⟩ ?_
      refine Kn.takeR 11 ⟨some 59, _, _, _, _, _⟩ fun K hK => ?_
      go_simp
      refine (round_any u.p 4294967296 _ HWU.out.2.2.1 (by omega) (by omega)).mono ?_
      rintro en wk ⟨rfl, rfl⟩
      rw [HX3.out]
      refine hK.out _ _ hSw0 (fun hSn => ?_)
      clear hK K hSw0
      have hSw0 := hSn
      clear hSn
      refine Kn.takeR 14 ⟨some 62, _, _, _, _, _⟩ fun K hK => ?_
      go_simp
      refine (round_any u.m 1048576 _ HWU.out.2.2.2 (by omega) (by omega)).mono ?_
      rintro en wk ⟨rfl, rfl⟩
      refine hK.out _ _ hSw0 (fun hSn => ?_)
      clear hK K hSw0
      have hSw0 := hSn
      clear hSn
      refine Kn.takeS 15 ⟨some 63, _, _, _, _, _⟩ ?_
      refine Kn.takeS 16 ⟨some 64, _, _, _, _, _⟩ ?_
      refine Kn.takeR 18 ⟨none, _, _, _, _, _⟩ fun K hK => ?_
      refine step_store_own rfl 32 (.tmp 18) (.tmp 64) rfl fa [.int .i64 0, .int .i64 0, .int .i64 0, .int .i64 0, .int .i64 0] [.int .i64 x1, .int .i64 0, .int .i64 x2, .int .i64 x3, .int .i64 x4] (by kernel_rfl) rfl rfl (HYa.out.box (x := (fa, [.int .i64 0, .int .i64 0, .int .i64 0, .int .i64 0, .int .i64 0])) (by simp)) rfl (by intro v hv; simp at hv; rcases hv with rfl | rfl | rfl | rfl | rfl <;> rfl) ?_
      intro wc ho9 hO9
      have HYb := Lib.hid (HYa.out.head ho9 hO9)
      clear ho9 hO9 HYa
      refine hK.out _ _ ⟨HYb.out.box (x := (fu, [.int .i64 u.s, .int .i64 u.o, .int .i64 u.l, .int .i64 u.p, .int .i64 u.m])) (by simp), HYb.out.box (x := (fc, [.int .i64 cf.b, .int .i64 cf.s, .int .i64 cf.l])) (by simp)⟩ (fun hSn => ?_)
      clear hK K hSw0
      have hSw0 := hSn
      clear hSn
      refine wpAnyH_done (by kernel_rfl) ?_ _
      clear hSw0
      go_wp2
      go_meet
      case rel => exact ⟨fa, rfl, HYb.out⟩
     exact AllReadyH.nil
    refine AllReadyH.cons (o := ⟨some 18, _, _, _, _, _⟩) rfl (fun K hK => ?_) ?_
    ·go_simp
     have HYa := Lib.hid (Duo.newB HY.out #[.int .i64 0, .int .i64 0, .int .i64 0, .int .i64 0, .int .i64 0] 32 rfl)
     clear HY
     generalize hvb : wz.alloc (.cells #[.int .i64 0, .int .i64 0, .int .i64 0, .int .i64 0, .int .i64 0] 32) = wy at *
     generalize wz.heap.size = fa at *
     clear hvb
     refine hK.out _ _ ⟨HYa.out.box (x := (fu, [.int .i64 u.s, .int .i64 u.o, .int .i64 u.l, .int .i64 u.p, .int .i64 u.m])) (by simp), HYa.out.box (x := (fc, [.int .i64 cf.b, .int .i64 cf.s, .int .i64 cf.l])) (by simp)⟩ (fun hSn => ?_)
     clear hK K hSw0
     have hSw0 := hSn
     clear hSn
     refine Kn.takeR 4 ⟨some 52, _, _, _, _, _⟩ fun K hK => ?_
     go_simp
     refine (round_any u.s cf.s _ HWU.out.1 (by omega) (by omega)).mono ?_
     rintro en wk ⟨rfl, rfl⟩
     rw [HX1.out]
     refine hK.out _ _ hSw0 (fun hSn => ?_)
     clear hK K hSw0
     have hSw0 := hSn
     clear hSn
     refine Kn.takeR 7 ⟨some 55, _, _, _, _, _⟩ fun K hK => ?_
     go_simp
     refine (round_any u.l 1048576 _ HWU.out.2.1 (by omega) (by omega)).mono ?_
     rintro en wk ⟨rfl, rfl⟩
     refine hK.out _ _ hSw0 (fun hSn => ?_)
     clear hK K hSw0
     have hSw0 := hSn
     clear hSn
     refine Kn.takeS 8 ⟨some 56, _, _, _, _, _⟩ ?_
     refine Kn.takeR 11 ⟨some 59, _, _, _, _, _⟩ fun K hK => ?_
     go_simp
     refine (round_any u.p 4294967296 _ HWU.out.2.2.1 (by omega) (by omega)).mono ?_
     rintro en wk ⟨rfl, rfl⟩
     rw [HX3.out]
     refine hK.out _ _ hSw0 (fun hSn => ?_)
     clear hK K hSw0
     have hSw0 := hSn
     clear hSn
     refine Kn.takeR 14 ⟨some 62, _, _, _, _, _⟩ fun K hK => ?_
     go_simp
     refine (round_any u.m 1048576 _ HWU.out.2.2.2 (by omega) (by omega)).mono ?_
     rintro en wk ⟨rfl, rfl⟩
     refine hK.out _ _ hSw0 (fun hSn => ?_)
     clear hK K hSw0
     have hSw0 := hSn
     clear hSn
     refine Kn.takeS 15 ⟨some 63, _, _, _, _, _⟩ ?_
     refine Kn.takeS 16 ⟨some 64, _, _, _, _, _⟩ ?_
     refine Kn.takeR 18 ⟨none, _, _, _, _, _⟩ fun K hK => ?_
     refine step_store_own rfl 32 (.tmp 18) (.tmp 64) rfl fa [.int .i64 0, .int .i64 0, .int .i64 0, .int .i64 0, .int .i64 0] [.int .i64 x1, .int .i64 0, .int .i64 x2, .int .i64 x3, .int .i64 x4] (by kernel_rfl) rfl rfl (HYa.out.box (x := (fa, [.int .i64 0, .int .i64 0, .int .i64 0, .int .i64 0, .int .i64 0])) (by simp)) rfl (by intro v hv; simp at hv; rcases hv with rfl | rfl | rfl | rfl | rfl <;> rfl) ?_
     intro wc ho9 hO9
     have HYb := Lib.hid (HYa.out.head ho9 hO9)
     clear ho9 hO9 HYa
     refine hK.out _ _ ⟨HYb.out.box (x := (fu, [.int .i64 u.s, .int .i64 u.o, .int .i64 u.l, .int .i64 u.p, .int .i64 u.m])) (by simp), HYb.out.box (x := (fc, [.int .i64 cf.b, .int .i64 cf.s, .int .i64 cf.l])) (by simp)⟩ (fun hSn => ?_)
     clear hK K hSw0
     have hSw0 := hSn
     clear hSn
     refine wpAnyH_done (by kernel_rfl) ?_ _
     clear hSw0
     go_wp2
     go_meet
     case rel => exact ⟨fa, rfl, HYb.out⟩
    exact AllReadyH.nil
  case rest =>
   obtain ⟨fa, rfl, hd⟩ := hcut
   have HD2 := Lib.hid hd
   clear hd HD w3
   have b13 := HD2.out.box (x := (fc, [.int .i64 cf.b, .int .i64 cf.s, .int .i64 cf.l])) (by simp)
   obtain ⟨e0, e1, e2⟩ := Kn.own3 b13
   have b18 := HD2.out.box (x := (fa, [.int .i64 x1, .int .i64 0, .int .i64 x2, .int .i64 x3, .int .i64 x4])) (by simp)
   obtain ⟨q0, q1, q2, q3, q4⟩ := Kn.own5 b18
   clear b13 b18
   go_upto_region 8 with (fail)
   go_cut [73] (fun s73 wy => s73 = .bool false ∧ ∃ d, Duo w wy p rr d d ⟨(fa, [.int .i64 x1, .int .i64 0, .int .i64 x2, .int .i64 x3, .int .i64 x4]) :: (fc, [.int .i64 cf.b, .int .i64 cf.s, .int .i64 cf.l]) :: (fu, [.int .i64 u.s, .int .i64 u.o, .int .i64 u.l, .int .i64 u.p, .int .i64 u.m]) :: (fz, [.int .i64 z0, .int .i64 z1, .int .i64 z2]) :: [], [], (fun W => GeoAt W gb cf.b cf.s cf.l) :: (fun W => Krs W A n c l ss) :: []⟩ ∧ Std d cf)
   case first =>
    as_aux_lemma =>
     cases hb with
     | false =>
      go_wp2_with fail
      go_meet
      case rel => exact ⟨rfl, d0, HD2.out, HS0.out⟩
     | true =>
      go_wp2_with fail
      refine (kit_head_any w _ p rr d0 _ cf (⟨x1, 0, x2, x3, x4⟩ : Ps) HD2.out HC.out HMY.out (by have := HXS.out; exact this.2) (by rw [HS0.out.held]; decide)).mono ?_
      rintro en w5 ⟨rfl, hd⟩
      go_wp2_with fail
      go_meet
      case rel => exact ⟨rfl, _, hd, HS0.out.head HC.out (⟨x1, 0, x2, x3, x4⟩ : Ps) HXS.out⟩
   case rest =>
    obtain ⟨rfl, d1, hd, hs1⟩ := hcut
    have HD3 := Lib.hid hd
    have HS1 := Lib.hid hs1
    clear hd hs1 HD2 HS0 e0 e1 e2 q0 q1 q2 q3 q4
    have b13 := HD3.out.box (x := (fc, [.int .i64 cf.b, .int .i64 cf.s, .int .i64 cf.l])) (by simp)
    obtain ⟨e0, e1, e2⟩ := Kn.own3 b13
    have b18 := HD3.out.box (x := (fa, [.int .i64 x1, .int .i64 0, .int .i64 x2, .int .i64 x3, .int .i64 x4])) (by simp)
    obtain ⟨q0, q1, q2, q3, q4⟩ := Kn.own5 b18
    clear b13 b18
    have HD4 := Lib.hid (Duo.newB HD3.out #[.int .i64 x1, .int .i64 0, .int .i64 x2, .int .i64 x3, .int .i64 x4] 32 rfl)
    go_upto_region 11 with (fail)
    generalize hz4 : World.alloc wc (.cells #[.int .i64 x1, .int .i64 0, .int .i64 x2, .int .i64 x3, .int .i64 x4] 32) = w4 at *
    generalize hfq : (World.heap wc).size = fq at *
    clear hz4 hfq HD3
    clear e0 e1 e2 q0 q1 q2 q3 q4
    have b19 := HD4.out.box (x := (fq, [.int .i64 x1, .int .i64 0, .int .i64 x2, .int .i64 x3, .int .i64 x4])) (by simp)
    obtain ⟨q0, q1, q2, q3, q4⟩ := Kn.own5 b19
    have z1 := b19.frozen 1
    have l1 := b19.lt
    clear b19
    go_upto_region 12 with (fail)
    have HD5 := Lib.hid (HD4.out.put 0 (b := fq) rfl 1 (.int .i64 1))
    simp only [List.set_cons_zero, List.set_cons_succ] at HD5
    generalize hz5 : World.setCell w4 ⟨fq, 1, none⟩ (.int .i64 1) = w5 at *
    clear hz5 HD4 z1 l1 q0 q1 q2 q3 q4
    have b13 := HD5.out.box (x := (fc, [.int .i64 cf.b, .int .i64 cf.s, .int .i64 cf.l])) (by simp)
    obtain ⟨e0, e1, e2⟩ := Kn.own3 b13
    have b19 := HD5.out.box (x := (fq, [.int .i64 x1, .int .i64 1, .int .i64 x2, .int .i64 x3, .int .i64 x4])) (by simp)
    obtain ⟨q0, q1, q2, q3, q4⟩ := Kn.own5 b19
    clear b13 b19
    go_wp2_with fail
    refine (kit_log_any w _ p rr d1 _ cf (⟨x1, 1, x2, x3, x4⟩ : Ps) A n c l ss HD5.out (by simp) HWF.out HC.out HPO.out HS1.out.rdy.live HS1.out.held).mono ?_
    rintro en w6 ⟨rfl, hd⟩
    have hs2 := Std.log HC.out l (⟨x1, 1, x2, x3, x4⟩ : Ps) d1 HS1.out HPO.out
    obtain ⟨d2, hd2⟩ : ∃ z, (logRun cf l (⟨x1, 1, x2, x3, x4⟩ : Ps) d1).2 = z := ⟨_, rfl⟩
    rw [hd2] at hd hs2
    have HD6 := Lib.hid hd
    have HS2 := Lib.hid hs2
    clear hd hs2 hd2 HD5 HS1 e0 e1 e2 q0 q1 q2 q3 q4
    have b13 := HD6.out.box (x := (fc, [.int .i64 cf.b, .int .i64 cf.s, .int .i64 cf.l])) (by simp)
    obtain ⟨e0, e1, e2⟩ := Kn.own3 b13
    have b18 := HD6.out.box (x := (fa, [.int .i64 x1, .int .i64 0, .int .i64 x2, .int .i64 x3, .int .i64 x4])) (by simp)
    obtain ⟨q0, q1, q2, q3, q4⟩ := Kn.own5 b18
    clear b13 b18
    go_wp2_with fail
    refine (ref_segat_any cf x1 _ HC.out).mono ?_
    rintro en w7 ⟨rfl, hO⟩
    rw [HSA.out]
    have HD7 := Lib.hid (HD6.out.keep0 hO)
    clear hO HD6 e0 e1 e2 q0 q1 q2 q3 q4
    have b13 := HD7.out.box (x := (fc, [.int .i64 cf.b, .int .i64 cf.s, .int .i64 cf.l])) (by simp)
    obtain ⟨e0, e1, e2⟩ := Kn.own3 b13
    clear b13
    obtain ⟨tb, htb⟩ : ∃ b : Bool, decide (0 ≤ tu ∧ tu < cf.l) = b := ⟨_, rfl⟩
    go_upto_region 16 with (fail)
    have HTB := Lib.hid htb
    clear htb
    go_cut [98] (fun s98 wy => s98 = .bool tb ∧ Duo w wy p rr d2 d2 ⟨(fq, [.int .i64 x1, .int .i64 1, .int .i64 x2, .int .i64 x3, .int .i64 x4]) :: (fa, [.int .i64 x1, .int .i64 0, .int .i64 x2, .int .i64 x3, .int .i64 x4]) :: (fc, [.int .i64 cf.b, .int .i64 cf.s, .int .i64 cf.l]) :: (fu, [.int .i64 u.s, .int .i64 u.o, .int .i64 u.l, .int .i64 u.p, .int .i64 u.m]) :: (fz, [.int .i64 z0, .int .i64 z1, .int .i64 z2]) :: [], [], (fun W => GeoAt W gb cf.b cf.s cf.l) :: (fun W => Krs W A n c l ss) :: []⟩)
    case first =>
     as_aux_lemma =>
      by_cases h1 : 0 ≤ tu
      ·by_cases h2 : tu < cf.l
       ·go_wp2
        go_meet
        case rel => exact ⟨by rw [← HTB.out, decide_eq_true ⟨h1, h2⟩], HD7.out⟩
       ·go_wp2
        go_meet
        case rel => exact ⟨by rw [← HTB.out, decide_eq_false (by omega)], HD7.out⟩
      ·go_wp2
       go_meet
       case rel => exact ⟨by rw [← HTB.out, decide_eq_false (by omega)], HD7.out⟩
    case rest =>
     obtain ⟨rfl, hd⟩ := hcut
     have HD8 := Lib.hid hd
     clear hd HD7 e0 e1 e2
     go_upto_if 98 with (fail)
     go_cut [] (fun wy => ∃ d, Duo w wy p rr d d ⟨(fq, [.int .i64 x1, .int .i64 1, .int .i64 x2, .int .i64 x3, .int .i64 x4]) :: (fa, [.int .i64 x1, .int .i64 0, .int .i64 x2, .int .i64 x3, .int .i64 x4]) :: (fc, [.int .i64 cf.b, .int .i64 cf.s, .int .i64 cf.l]) :: (fu, [.int .i64 u.s, .int .i64 u.o, .int .i64 u.l, .int .i64 u.p, .int .i64 u.m]) :: (fz, [.int .i64 z0, .int .i64 z1, .int .i64 z2]) :: [], [], (fun W => GeoAt W gb cf.b cf.s cf.l) :: (fun W => Krs W A n c l ss) :: []⟩ ∧ Std d cf)
     case first =>
      as_aux_lemma =>
       cases tb with
       | false =>
        go_wp2
        go_meet
        case rel => exact ⟨d2, HD8.out, HS2.out⟩
       | true =>
        have htt := of_decide_eq_true HTB.out
        obtain ⟨ht0, htl⟩ := htt
        obtain ⟨tn, rfl⟩ : ∃ m : Nat, tu = m := ⟨tu.toNat, by omega⟩
        have ht64 : tn < 64 := by omega
        have hwt := IntWalk.i64_in (sa + (tn : Int)) (by omega)
        have hse := HSE.out
        have hlen := HS2.out.len
        have hhas : d2.has (sa + (tn : Int)) = true := has_of (by omega) (by omega)
        have hE := HS2.out.rdy.err0 hhas
        have h64 := Dk.read_64 HS2.out.rdy.ok hE
        obtain ⟨X, hX⟩ : ∃ z, d2.read (sa + (tn : Int)) = z := ⟨_, rfl⟩
        rw [hX] at h64
        have hXt : tn < X.length := by omega
        obtain ⟨xt, hxt⟩ : ∃ z, X[tn] = z := ⟨_, rfl⟩
        obtain ⟨v, hv⟩ : ∃ z, UInt8.ofNat (xt.toNat ^^^ 2 ^ 0) = z := ⟨_, rfl⟩
        have hfb : bits .xor .u8 (xt.toNat : Int) 1 = (v.toNat : Int) := by have h := flip_byte xt 0 (by decide); rw [hv] at h; simpa using h
        have hw64 : (X.set tn v).length = 64 * 1 := by rw [List.length_set]; exact h64
        have HPT := Lib.hid (HS2.out.puts (a := sa + (tn : Int)) (b := X.set tn v) (n := 1) (by omega) hw64 (by omega))
        have HHH : Hid (d2.held.length ≤ 1000) := Lib.hid (by rw [HS2.out.held]; decide)
        have HE := Lib.hid hE
        have HX := Lib.hid hX
        have HX64 := Lib.hid h64
        have HXT : Hid (∀ h : tn < X.length, X[tn] = xt) := Lib.hid (fun _ => hxt)
        clear hse hlen hhas hE hX h64 hxt hv hw64 hXt
        go_wp2_with fail
        refine (duo_rread_own HD8.out (Nat.le_trans HHH.out (by decide)) (sa + (tn : Int))).mono ?_
        rw [HE.out, HX.out]
        rintro en w9 ⟨A6, n6, c6, rfl, hd, -⟩
        have h6 := (hd.gi 0 rfl).1
        simp only [bvs_length] at h6
        obtain rfl : n6 = 64 := by rw [HX64.out] at h6; omega
        have hr6 := hd.grow 0 rfl
        obtain ⟨gx, ox, rfl, hc6⟩ := hr6.at_ (by decide)
        obtain ⟨rfl, -⟩ := ownsRow_zero (hd.gi 0 rfl)
        have q0 := hc6 tn (by rw [bvs_length, HX64.out]; exact ht64)
        rw [Nat.zero_add, bvs_get, HXT.out] at q0
        have f0 := hd.gown.frozen tn
        have hst := hd.gset 0 rfl (g := gx) rfl tn (.int .u8 (v.toNat : Int))
        have hse : (bvs X).set tn (.int .u8 (v.toNat : Int)) = bvs (X.set tn v) := by unfold bvs; rw [List.map_set]
        simp only [List.set_cons_zero, hse] at hst
        have HST := Lib.hid hst.gout
        clear hst hse hr6 hc6 h6 HD8 hd
        have hl6 : (tn : Int) < 64 := by omega
        go_upto_region 19 with (fail)
        generalize hw10 : w9.setCell ⟨gx, tn, none⟩ (.int .u8 (v.toNat : Int)) = w10 at *
        clear hw10 q0 f0 w9
        go_wp2_with fail
        refine (kit_put_any w _ p rr d2 _ (sa + (tn : Int)) (some ⟨gx, 0, none⟩) 64 c6 (X.set tn v) HST.out List.mem_cons_self HHH.out (by decide) ⟨by omega, by omega⟩).mono ?_
        rintro en w11 ⟨rfl, hd⟩
        have HV := Lib.hid (hd.subF (F' := (fun W => GeoAt W gb cf.b cf.s cf.l) :: (fun W => Krs W A n c l ss) :: []) (fun f hf => List.mem_cons_of_mem _ hf))
        clear hd HST
        go_wp2
        go_meet
        case rel => exact ⟨_, HV.out, HPT.out⟩
     case rest =>
      obtain ⟨d3, hd, hs3⟩ := hcut
      have HD9 := Lib.hid hd
      have HS3 := Lib.hid hs3
      clear hd hs3 HD8 HS2 HTB
      have b_e := HD9.out.box (x := (fc, [.int .i64 cf.b, .int .i64 cf.s, .int .i64 cf.l])) (by simp)
      obtain ⟨e0, e1, e2⟩ := Kn.own3 b_e
      clear b_e
      obtain ⟨fb, hfb⟩ : ∃ b : Bool, decide (0 ≤ fa0 ∧ fa0 < cf.l) = b := ⟨_, rfl⟩
      have HFB := Lib.hid hfb
      clear hfb
      go_upto_region 21 with (fail)
      go_cut [130] (fun s130 wy => s130 = .bool fb ∧ Duo w wy p rr d3 d3 ⟨(fq, [.int .i64 x1, .int .i64 1, .int .i64 x2, .int .i64 x3, .int .i64 x4]) :: (fa, [.int .i64 x1, .int .i64 0, .int .i64 x2, .int .i64 x3, .int .i64 x4]) :: (fc, [.int .i64 cf.b, .int .i64 cf.s, .int .i64 cf.l]) :: (fu, [.int .i64 u.s, .int .i64 u.o, .int .i64 u.l, .int .i64 u.p, .int .i64 u.m]) :: (fz, [.int .i64 z0, .int .i64 z1, .int .i64 z2]) :: [], [], (fun W => GeoAt W gb cf.b cf.s cf.l) :: (fun W => Krs W A n c l ss) :: []⟩)
      case first =>
       as_aux_lemma =>
        by_cases h1 : 0 ≤ fa0
        ·by_cases h2 : fa0 < cf.l
         ·go_wp2
          go_meet
          case rel => exact ⟨by rw [← HFB.out, decide_eq_true ⟨h1, h2⟩], HD9.out⟩
         ·go_wp2
          go_meet
          case rel => exact ⟨by rw [← HFB.out, decide_eq_false (by omega)], HD9.out⟩
        ·go_wp2
         go_meet
         case rel => exact ⟨by rw [← HFB.out, decide_eq_false (by omega)], HD9.out⟩
      case rest =>
       obtain ⟨rfl, hd⟩ := hcut
       have HDa := Lib.hid hd
       clear hd HD9 e0 e1 e2
       go_upto_if 130 with (fail)
       go_cut [] (fun wy => ∃ d, Duo w wy p rr d d ⟨(fq, [.int .i64 x1, .int .i64 1, .int .i64 x2, .int .i64 x3, .int .i64 x4]) :: (fa, [.int .i64 x1, .int .i64 0, .int .i64 x2, .int .i64 x3, .int .i64 x4]) :: (fc, [.int .i64 cf.b, .int .i64 cf.s, .int .i64 cf.l]) :: (fu, [.int .i64 u.s, .int .i64 u.o, .int .i64 u.l, .int .i64 u.p, .int .i64 u.m]) :: (fz, [.int .i64 z0, .int .i64 z1, .int .i64 z2]) :: [], [], (fun W => GeoAt W gb cf.b cf.s cf.l) :: (fun W => Krs W A n c l ss) :: []⟩ ∧ d.held.length ≤ 1000000)
       case first =>
        as_aux_lemma =>
         cases fb with
         | false =>
          go_wp2
          go_meet
          case rel => exact ⟨d3, HDa.out, by rw [HS3.out.held]; decide⟩
         | true =>
          have htt := of_decide_eq_true HFB.out
          obtain ⟨ht0, htl⟩ := htt
          have hwt := IntWalk.i64_in (sa + fa0) (by omega)
          go_wp2_with fail
          refine (duo_fault HDa.out (sa + fa0) true).mono ?_
          rintro en w9 ⟨rfl, hd⟩
          have HV := Lib.hid hd
          clear hd HDa
          go_wp2_with fail
          refine (duo_rfault HV.out (sa + fa0) true).mono ?_
          rintro en w10 ⟨rfl, hd⟩
          have HV2 := Lib.hid hd
          clear hd HV
          go_wp2
          go_meet
          case rel => exact ⟨_, HV2.out, by rw [fault_held, HS3.out.held]; decide⟩
       case rest =>
        obtain ⟨d4, hd, hs4⟩ := hcut
        have HDb := Lib.hid hd
        have HHD := Lib.hid hs4
        clear hd hs4 HDa HS3 HFB
        have b_q := HDb.out.box (x := (fa, [.int .i64 x1, .int .i64 0, .int .i64 x2, .int .i64 x3, .int .i64 x4])) (by simp)
        obtain ⟨q0, q1, q2, q3, q4⟩ := Kn.own5 b_q
        clear b_q
        have b_r := HDb.out.box (x := (fq, [.int .i64 x1, .int .i64 1, .int .i64 x2, .int .i64 x3, .int .i64 x4])) (by simp)
        obtain ⟨r0, r1, r2, r3, r4⟩ := Kn.own5 b_r
        clear b_r
        have b_s := HDb.out.box (x := (fu, [.int .i64 u.s, .int .i64 u.o, .int .i64 u.l, .int .i64 u.p, .int .i64 u.m])) (by simp)
        obtain ⟨s0, s1, s2, s3, s4⟩ := Kn.own5 b_s
        clear b_s
        have HDc := Lib.hid (Duo.newB HDb.out #[.int .i64 x1, .int .i64 0, .int .i64 x2, .int .i64 x3, .int .i64 x4, .int .i64 x1, .int .i64 1, .int .i64 x2, .int .i64 x3, .int .i64 x4, .int .i64 u.s, .int .i64 u.o, .int .i64 u.l, .int .i64 u.p, .int .i64 u.m] 32 rfl)
        clear HDb
        go_upto_region 25 with (fail)
        generalize hz4 : World.alloc wc (.cells #[.int .i64 x1, .int .i64 0, .int .i64 x2, .int .i64 x3, .int .i64 x4, .int .i64 x1, .int .i64 1, .int .i64 x2, .int .i64 x3, .int .i64 x4, .int .i64 u.s, .int .i64 u.o, .int .i64 u.l, .int .i64 u.p, .int .i64 u.m] 32) = w4 at *
        generalize hgp : (World.heap wc).size = gp at *
        clear hz4 hgp q0 q1 q2 q3 q4 r0 r1 r2 r3 r4 s0 s1 s2 s3 s4
        go_wp2_with fail
        go_loopg [24] 3 (fun gr i wr => ∃ j : Nat, j + gr = 3 ∧ i = .int .i64 j ∧ Duo w wr p rr d4 d4 ⟨(gp, [.int .i64 x1, .int .i64 0, .int .i64 x2, .int .i64 x3, .int .i64 x4, .int .i64 x1, .int .i64 1, .int .i64 x2, .int .i64 x3, .int .i64 x4, .int .i64 u.s, .int .i64 u.o, .int .i64 u.l, .int .i64 u.p, .int .i64 u.m]) :: (fq, [.int .i64 x1, .int .i64 1, .int .i64 x2, .int .i64 x3, .int .i64 x4]) :: (fa, [.int .i64 x1, .int .i64 0, .int .i64 x2, .int .i64 x3, .int .i64 x4]) :: (fc, [.int .i64 cf.b, .int .i64 cf.s, .int .i64 cf.l]) :: (fu, [.int .i64 u.s, .int .i64 u.o, .int .i64 u.l, .int .i64 u.p, .int .i64 u.m]) :: (fz, [.int .i64 z0, .int .i64 z1, .int .i64 z2]) :: [], [], (fun W => GeoAt W gb cf.b cf.s cf.l) :: (fun W => Krs W A n c l ss) :: []⟩)
        case atStart => exact ⟨0, by omega, rfl, HDc.out⟩
        clear HDc
        obtain ⟨j, hj, rfl, hd⟩ := hrel
        have HD := Lib.hid hd
        clear hd
        by_cases hlt : j < 3
        ·as_aux_lemma =>
          have hj3 : (j : Int) < 3 := by omega
          have hpc := pos_cells (a := (⟨x1, 0, x2, x3, x4⟩ : Ps)) (q := (⟨x1, 1, x2, x3, x4⟩ : Ps)) (p := u) (HD.out.box (x := (gp, [.int .i64 x1, .int .i64 0, .int .i64 x2, .int .i64 x3, .int .i64 x4, .int .i64 x1, .int .i64 1, .int .i64 x2, .int .i64 x3, .int .i64 x4, .int .i64 u.s, .int .i64 u.o, .int .i64 u.l, .int .i64 u.p, .int .i64 u.m])) (by simp)) hlt
          obtain ⟨pl, hpl⟩ : ∃ z, plc (⟨x1, 0, x2, x3, x4⟩ : Ps) (⟨x1, 1, x2, x3, x4⟩ : Ps) u j = z := ⟨_, rfl⟩
          rw [hpl] at hpc
          have HPC : Hid (∀ W : World, Kn.Own W gp [.int .i64 x1, .int .i64 0, .int .i64 x2, .int .i64 x3, .int .i64 x4, .int .i64 x1, .int .i64 1, .int .i64 x2, .int .i64 x3, .int .i64 x4, .int .i64 u.s, .int .i64 u.o, .int .i64 u.l, .int .i64 u.p, .int .i64 u.m] → W.cell? ⟨gp, j * 5, none⟩ = some (.int .i64 pl.s) ∧ W.cell? ⟨gp, j * 5 + 1, none⟩ = some (.int .i64 pl.o) ∧ W.cell? ⟨gp, j * 5 + 2, none⟩ = some (.int .i64 pl.l) ∧ W.cell? ⟨gp, j * 5 + 3, none⟩ = some (.int .i64 pl.p) ∧ W.cell? ⟨gp, j * 5 + 4, none⟩ = some (.int .i64 pl.m)) := Lib.hid (fun W h => hpl ▸ pos_cells (a := (⟨x1, 0, x2, x3, x4⟩ : Ps)) (q := (⟨x1, 1, x2, x3, x4⟩ : Ps)) (p := u) h hlt)
          obtain ⟨q0, q1, q2, q3, q4⟩ := hpc
          clear hpl
          go_wp2_with fail
          refine (duo_new HD.out gb pl).mono ?_
          rintro en w5 ⟨S, rfl, hd⟩
          have HE := Lib.hid hd
          clear hd HD q0 q1 q2 q3 q4
          obtain ⟨X1, X2, X3, hX⟩ : ∃ X1 X2 X3, scanR d4 cf false pl = (X1, X2, X3) := ⟨_, _, _, rfl⟩
          have HX := Lib.hid hX
          have HX65 : Hid (X1.length ≤ 99) := Lib.hid (by have h := scanR_len d4 cf false pl; rw [hX] at h; simp only at h; omega)
          clear hX
          go_wp2_with fail
          have HE1 := Lib.hid HE.out.drew
          clear HE
          refine wp_region_held_drew (S := (fun w' => w'.cell? ⟨gp, j * 5, none⟩ = some (.int .i64 pl.s) ∧ w'.cell? ⟨gp, j * 5 + 1, none⟩ = some (.int .i64 pl.o) ∧ w'.cell? ⟨gp, j * 5 + 2, none⟩ = some (.int .i64 pl.l) ∧ w'.cell? ⟨gp, j * 5 + 3, none⟩ = some (.int .i64 pl.p) ∧ w'.cell? ⟨gp, j * 5 + 4, none⟩ = some (.int .i64 pl.m))) (by kernel_rfl) (HPC.out _ (HE1.out.box (x := (gp, [.int .i64 x1, .int .i64 0, .int .i64 x2, .int .i64 x3, .int .i64 x4, .int .i64 x1, .int .i64 1, .int .i64 x2, .int .i64 x3, .int .i64 x4, .int .i64 u.s, .int .i64 u.o, .int .i64 u.l, .int .i64 u.p, .int .i64 u.m])) (by simp))) (fun hSw0 => ?_)
          generalize w5.drew = wz at *
          refine Kn.takeS 0 ⟨some 158, _, _, _, _, _⟩ ?_
          refine Kn.takeS 1 ⟨some 159, _, _, _, _, _⟩ ?_
          refine Kn.takeS 2 ⟨some 160, _, _, _, _, _⟩ ?_
          refine Kn.takeS 3 ⟨some 161, _, _, _, _, _⟩ ?_
          refine Kn.takeS 5 ⟨some 163, _, _, _, _, _⟩ ?_
          refine Kn.takeS 6 ⟨some 164, _, _, _, _, _⟩ ?_
          refine Kn.takeS 7 ⟨some 165, _, _, _, _, _⟩ ?_
          refine Kn.takeS 8 ⟨some 166, _, _, _, _, _⟩ (v := (.agg #[.int .i64 pl.s, .int .i64 pl.o, .int .i64 pl.l, .int .i64 pl.p, .int .i64 pl.m])) (hy := fun w hSw => by
           obtain ⟨q0, q1, q2, q3, q4⟩ := hSw
           go_simp) ?_
          refine Kn.takeR 4 ⟨some 162, _, _, _, _, _⟩ fun K hK => ?_
          go_simp
          refine (duo_end HE1.out (S := S) (gb := gb) (q := pl) (own := false) (en := pl) (er := 0) (by simp)).mono ?_
          rintro en wb ⟨rfl, hO⟩
          have HE2 := Lib.hid (HE1.out.keep0 hO)
          clear hO HE1
          refine hK.out _ _ (HPC.out _ (HE2.out.box (x := (gp, [.int .i64 x1, .int .i64 0, .int .i64 x2, .int .i64 x3, .int .i64 x4, .int .i64 x1, .int .i64 1, .int .i64 x2, .int .i64 x3, .int .i64 x4, .int .i64 u.s, .int .i64 u.o, .int .i64 u.l, .int .i64 u.p, .int .i64 u.m])) (by simp))) (fun hSn => ?_)
          clear hK K hSw0
          have hSw0 := hSn
          clear hSn
          refine Kn.takeS 9 ⟨some 167, _, _, _, _, _⟩ ?_
          refine Kn.takeS 10 ⟨some 168, _, _, _, _, _⟩ ?_
          refine Kn.takeS 11 ⟨some 169, _, _, _, _, _⟩ ?_
          refine Kn.takeS 12 ⟨some 170, _, _, _, _, _⟩ ?_
          refine Kn.takeR 13 ⟨some 171, _, _, _, _, _⟩ fun K hK => ?_
          go_simp
          refine (duo_err HE2.out (S := S) (gb := gb) (q := pl) (own := false) (en := pl) (er := 0) (by simp)).mono ?_
          rintro en wd ⟨rfl, rfl⟩
          refine hK.out _ _ (HPC.out _ (HE2.out.box (x := (gp, [.int .i64 x1, .int .i64 0, .int .i64 x2, .int .i64 x3, .int .i64 x4, .int .i64 x1, .int .i64 1, .int .i64 x2, .int .i64 x3, .int .i64 x4, .int .i64 u.s, .int .i64 u.o, .int .i64 u.l, .int .i64 u.p, .int .i64 u.m])) (by simp))) (fun hSn => ?_)
          clear hK K hSw0
          have hSw0 := hSn
          clear hSn
          refine Kn.takeS 14 ⟨some 172, _, _, _, _, _⟩ ?_
          refine Kn.takeS 15 ⟨some 173, _, _, _, _, _⟩ ?_
          refine wpAnyH_done (by kernel_rfl) ?_ _
          clear hSw0
          go_upto_region 31 with (fail)
          go_cut [26, 27, 28] (fun s26 s27 s28 wy => ∃ (ff : Nat) (ys : List Fnd) (B : Option Addr) (k : Nat) (fs : List (World → Prop)), s26 = .slice B ys.length k ∧ s27 = .pointer (some ⟨ff, 0, none⟩) ∧ s28 = .int .i64 X3 ∧ ys.map Fnd.pr = X1 ∧ (∀ y ∈ ys, y.fct ∈ fs) ∧ Duo w wy p rr d4 d4 ⟨(ff, [.int .i64 X2.s, .int .i64 X2.o, .int .i64 X2.l, .int .i64 X2.p, .int .i64 X2.m]) :: (S, SB p.D gb pl false pl 0) :: (gp, [.int .i64 x1, .int .i64 0, .int .i64 x2, .int .i64 x3, .int .i64 x4, .int .i64 x1, .int .i64 1, .int .i64 x2, .int .i64 x3, .int .i64 x4, .int .i64 u.s, .int .i64 u.o, .int .i64 u.l, .int .i64 u.p, .int .i64 u.m]) :: (fq, [.int .i64 x1, .int .i64 1, .int .i64 x2, .int .i64 x3, .int .i64 x4]) :: (fa, [.int .i64 x1, .int .i64 0, .int .i64 x2, .int .i64 x3, .int .i64 x4]) :: (fc, [.int .i64 cf.b, .int .i64 cf.s, .int .i64 cf.l]) :: (fu, [.int .i64 u.s, .int .i64 u.o, .int .i64 u.l, .int .i64 u.p, .int .i64 u.m]) :: (fz, [.int .i64 z0, .int .i64 z1, .int .i64 z2]) :: [], [⟨183, 10, .slice B ys.length k, ys.length, rfndV ys⟩], fs ++ (fun W => GeoAt W gb cf.b cf.s cf.l) :: (fun W => Krs W A n c l ss) :: []⟩)
          case first =>
           as_aux_lemma =>
            have HG := Lib.hid HE2.out.drew
            clear HE2
            refine wp_region_held_drew (S := (fun w' => (w'.cell? ⟨gp, j * 5, none⟩ = some (.int .i64 pl.s) ∧ w'.cell? ⟨gp, j * 5 + 1, none⟩ = some (.int .i64 pl.o) ∧ w'.cell? ⟨gp, j * 5 + 2, none⟩ = some (.int .i64 pl.l) ∧ w'.cell? ⟨gp, j * 5 + 3, none⟩ = some (.int .i64 pl.p) ∧ w'.cell? ⟨gp, j * 5 + 4, none⟩ = some (.int .i64 pl.m)) ∧ Kn.Own w' fc [.int .i64 cf.b, .int .i64 cf.s, .int .i64 cf.l])) (by kernel_rfl) ⟨HPC.out _ (HG.out.box (x := (gp, [.int .i64 x1, .int .i64 0, .int .i64 x2, .int .i64 x3, .int .i64 x4, .int .i64 x1, .int .i64 1, .int .i64 x2, .int .i64 x3, .int .i64 x4, .int .i64 u.s, .int .i64 u.o, .int .i64 u.l, .int .i64 u.p, .int .i64 u.m])) (by simp)), HG.out.box (x := (fc, [.int .i64 cf.b, .int .i64 cf.s, .int .i64 cf.l])) (by simp)⟩ (fun hSw0 => ?_)
            generalize wb.drew = wz2 at *
            refine Kn.takeS 0 ⟨some 175, _, _, _, _, _⟩ ?_
            refine Kn.takeS 1 ⟨some 176, _, _, _, _, _⟩ (v := (.agg #[.int .i64 cf.b, .int .i64 cf.s, .int .i64 cf.l])) (hy := fun w hSw => by
             have q0 := hSw.2
             obtain ⟨q00, q01, q02⟩ := Kn.own3 q0
             clear q0
             go_simp) ?_
            refine Kn.takeS 2 ⟨some 177, _, _, _, _, _⟩ ?_
            refine Kn.takeS 3 ⟨some 178, _, _, _, _, _⟩ ?_
            refine Kn.takeS 4 ⟨some 179, _, _, _, _, _⟩ ?_
            refine Kn.takeS 5 ⟨some 180, _, _, _, _, _⟩ (v := (.agg #[.int .i64 pl.s, .int .i64 pl.o, .int .i64 pl.l, .int .i64 pl.p, .int .i64 pl.m])) (hy := fun w hSw => by
             obtain ⟨⟨q0, q1, q2, q3, q4⟩, -⟩ := hSw
             go_simp) ?_
            refine wpAnyH_ready (rs := [6, 11]) (by kernel_rfl) (by simp) ?_
            refine AllReadyH.cons (o := ⟨some 181, _, _, _, _, _⟩) rfl (fun K hK => ?_) ?_
            ·go_simp
             refine (duo_rscan HG.out HHD.out HC.out pl).mono ?_
             rw [HX.out]
             rintro en wr2 ⟨ys, B, k, fs, rfl, hy, hf, hd⟩
             have HGc := Lib.hid hd
             have HYM := Lib.hid hy
             have HYF := Lib.hid hf
             clear hd hy hf HG
             refine hK.out _ _ ⟨HPC.out _ (HGc.out.box (x := (gp, [.int .i64 x1, .int .i64 0, .int .i64 x2, .int .i64 x3, .int .i64 x4, .int .i64 x1, .int .i64 1, .int .i64 x2, .int .i64 x3, .int .i64 x4, .int .i64 u.s, .int .i64 u.o, .int .i64 u.l, .int .i64 u.p, .int .i64 u.m])) (by simp)), HGc.out.box (x := (fc, [.int .i64 cf.b, .int .i64 cf.s, .int .i64 cf.l])) (by simp)⟩ (fun hSn => ?_)
             clear hK K hSw0
             have hSw0 := hSn
             clear hSn
             refine Kn.takeS 7 ⟨some 174, _, _, _, _, _⟩ ?_
             refine Kn.takeS 8 ⟨some 182, _, _, _, _, _⟩ ?_
             refine Kn.takeS 9 ⟨some 183, _, _, _, _, _⟩ ?_
             refine Kn.takeS 10 ⟨some 184, _, _, _, _, _⟩ ?_
             refine Kn.takeR 11 ⟨some 27, _, _, _, _, _⟩ fun K hK => ?_
             go_simp
             have HGca := Lib.hid (Duo.newB HGc.out #[.int .i64 0, .int .i64 0, .int .i64 0, .int .i64 0, .int .i64 0] 32 rfl)
             clear HGc
             generalize hvb : wr2.alloc (.cells #[.int .i64 0, .int .i64 0, .int .i64 0, .int .i64 0, .int .i64 0] 32) = wy2 at *
             generalize hff : (World.heap wr2).size = ff at *
             clear hvb hff
             refine hK.out _ _ ⟨HPC.out _ (HGca.out.box (x := (gp, [.int .i64 x1, .int .i64 0, .int .i64 x2, .int .i64 x3, .int .i64 x4, .int .i64 x1, .int .i64 1, .int .i64 x2, .int .i64 x3, .int .i64 x4, .int .i64 u.s, .int .i64 u.o, .int .i64 u.l, .int .i64 u.p, .int .i64 u.m])) (by simp)), HGca.out.box (x := (fc, [.int .i64 cf.b, .int .i64 cf.s, .int .i64 cf.l])) (by simp)⟩ (fun hSn => ?_)
             clear hK K hSw0
             have hSw0 := hSn
             clear hSn
             refine Kn.takeS 12 ⟨some 26, _, _, _, _, _⟩ ?_
             refine Kn.takeR 13 ⟨none, _, _, _, _, _⟩ fun K hK => ?_
             refine step_store_own rfl 32 (.tmp 27) (.tmp 183) rfl ff [.int .i64 0, .int .i64 0, .int .i64 0, .int .i64 0, .int .i64 0] [.int .i64 X2.s, .int .i64 X2.o, .int .i64 X2.l, .int .i64 X2.p, .int .i64 X2.m] (by kernel_rfl) rfl rfl (HGca.out.box (x := (ff, [.int .i64 0, .int .i64 0, .int .i64 0, .int .i64 0, .int .i64 0])) (by simp)) rfl (by intro v hv; simp at hv; rcases hv with rfl | rfl | rfl | rfl | rfl <;> rfl) ?_
             intro wc2 ho9 hO9
             have HGcas := Lib.hid (HGca.out.head ho9 hO9)
             clear ho9 hO9 HGca
             refine hK.out _ _ ⟨HPC.out _ (HGcas.out.box (x := (gp, [.int .i64 x1, .int .i64 0, .int .i64 x2, .int .i64 x3, .int .i64 x4, .int .i64 x1, .int .i64 1, .int .i64 x2, .int .i64 x3, .int .i64 x4, .int .i64 u.s, .int .i64 u.o, .int .i64 u.l, .int .i64 u.p, .int .i64 u.m])) (by simp)), HGcas.out.box (x := (fc, [.int .i64 cf.b, .int .i64 cf.s, .int .i64 cf.l])) (by simp)⟩ (fun hSn => ?_)
             clear hK K hSw0
             have hSw0 := hSn
             clear hSn
             refine Kn.takeS 14 ⟨some 28, _, _, _, _, _⟩ ?_
             refine wpAnyH_done (by kernel_rfl) ?_ _
             clear hSw0
             go_wp2
             go_meet
             case rel => exact ⟨ff, ys, B, k, fs, rfl, rfl, rfl, HYM.out, HYF.out, HGcas.out⟩
            refine AllReadyH.cons (o := ⟨some 27, _, _, _, _, _⟩) rfl (fun K hK => ?_) ?_
            ·go_simp
             have HGa := Lib.hid (Duo.newB HG.out #[.int .i64 0, .int .i64 0, .int .i64 0, .int .i64 0, .int .i64 0] 32 rfl)
             clear HG
             generalize hvb : wz2.alloc (.cells #[.int .i64 0, .int .i64 0, .int .i64 0, .int .i64 0, .int .i64 0] 32) = wy2 at *
             generalize hff : (World.heap wz2).size = ff at *
             clear hvb hff
             refine hK.out _ _ ⟨HPC.out _ (HGa.out.box (x := (gp, [.int .i64 x1, .int .i64 0, .int .i64 x2, .int .i64 x3, .int .i64 x4, .int .i64 x1, .int .i64 1, .int .i64 x2, .int .i64 x3, .int .i64 x4, .int .i64 u.s, .int .i64 u.o, .int .i64 u.l, .int .i64 u.p, .int .i64 u.m])) (by simp)), HGa.out.box (x := (fc, [.int .i64 cf.b, .int .i64 cf.s, .int .i64 cf.l])) (by simp)⟩ (fun hSn => ?_)
             clear hK K hSw0
             have hSw0 := hSn
             clear hSn
             refine Kn.takeR 6 ⟨some 181, _, _, _, _, _⟩ fun K hK => ?_
             go_simp
             refine (duo_rscan HGa.out HHD.out HC.out pl).mono ?_
             rw [HX.out]
             rintro en wr2 ⟨ys, B, k, fs, rfl, hy, hf, hd⟩
             have HGac := Lib.hid hd
             have HYM := Lib.hid hy
             have HYF := Lib.hid hf
             clear hd hy hf HGa
             refine hK.out _ _ ⟨HPC.out _ (HGac.out.box (x := (gp, [.int .i64 x1, .int .i64 0, .int .i64 x2, .int .i64 x3, .int .i64 x4, .int .i64 x1, .int .i64 1, .int .i64 x2, .int .i64 x3, .int .i64 x4, .int .i64 u.s, .int .i64 u.o, .int .i64 u.l, .int .i64 u.p, .int .i64 u.m])) (by simp)), HGac.out.box (x := (fc, [.int .i64 cf.b, .int .i64 cf.s, .int .i64 cf.l])) (by simp)⟩ (fun hSn => ?_)
             clear hK K hSw0
             have hSw0 := hSn
             clear hSn
             refine Kn.takeS 7 ⟨some 174, _, _, _, _, _⟩ ?_
             refine Kn.takeS 8 ⟨some 182, _, _, _, _, _⟩ ?_
             refine Kn.takeS 9 ⟨some 183, _, _, _, _, _⟩ ?_
             refine Kn.takeS 10 ⟨some 184, _, _, _, _, _⟩ ?_
             refine Kn.takeS 12 ⟨some 26, _, _, _, _, _⟩ ?_
             refine Kn.takeR 13 ⟨none, _, _, _, _, _⟩ fun K hK => ?_
             refine step_store_own rfl 32 (.tmp 27) (.tmp 183) rfl ff [.int .i64 0, .int .i64 0, .int .i64 0, .int .i64 0, .int .i64 0] [.int .i64 X2.s, .int .i64 X2.o, .int .i64 X2.l, .int .i64 X2.p, .int .i64 X2.m] (by kernel_rfl) rfl rfl (HGac.out.box (x := (ff, [.int .i64 0, .int .i64 0, .int .i64 0, .int .i64 0, .int .i64 0])) (by simp)) rfl (by intro v hv; simp at hv; rcases hv with rfl | rfl | rfl | rfl | rfl <;> rfl) ?_
             intro wc2 ho9 hO9
             have HGacs := Lib.hid (HGac.out.head ho9 hO9)
             clear ho9 hO9 HGac
             refine hK.out _ _ ⟨HPC.out _ (HGacs.out.box (x := (gp, [.int .i64 x1, .int .i64 0, .int .i64 x2, .int .i64 x3, .int .i64 x4, .int .i64 x1, .int .i64 1, .int .i64 x2, .int .i64 x3, .int .i64 x4, .int .i64 u.s, .int .i64 u.o, .int .i64 u.l, .int .i64 u.p, .int .i64 u.m])) (by simp)), HGacs.out.box (x := (fc, [.int .i64 cf.b, .int .i64 cf.s, .int .i64 cf.l])) (by simp)⟩ (fun hSn => ?_)
             clear hK K hSw0
             have hSw0 := hSn
             clear hSn
             refine Kn.takeS 14 ⟨some 28, _, _, _, _, _⟩ ?_
             refine wpAnyH_done (by kernel_rfl) ?_ _
             clear hSw0
             go_wp2
             go_meet
             case rel => exact ⟨ff, ys, B, k, fs, rfl, rfl, rfl, HYM.out, HYF.out, HGacs.out⟩
            exact AllReadyH.nil
          case rest =>
           obtain ⟨ff, ys, B, k, fs, rfl, rfl, rfl, hy, hf, hd⟩ := hcut
           have HM := Lib.hid hd
           have HYM := Lib.hid hy
           have HYF := Lib.hid hf
           have HYL : Hid (ys.length = X1.length) := Lib.hid (by rw [← hy, List.length_map])
           clear hd hy hf HE2 HPC
           go_upto_region 32 with (fail)
           have HN := Lib.hid HM.out.drew
           clear HM
           refine wp_region_held_drew (S := (fun w' => Kn.Own w' ff [.int .i64 X2.s, .int .i64 X2.o, .int .i64 X2.l, .int .i64 X2.p, .int .i64 X2.m])) (by kernel_rfl) (HN.out.box (x := (ff, [.int .i64 X2.s, .int .i64 X2.o, .int .i64 X2.l, .int .i64 X2.p, .int .i64 X2.m])) (by simp)) (fun hSw0 => ?_)
           generalize wc.drew = wm at *
           refine Kn.takeS 0 ⟨some 185, _, _, _, _, _⟩ ?_
           refine Kn.takeS 2 ⟨some 187, _, _, _, _, _⟩ ?_
           refine Kn.takeR 1 ⟨some 186, _, _, _, _, _⟩ fun K hK => ?_
           go_simp
           have hmv := Duo.permL HN.out (List.Perm.swap _ _ _)
           refine (duo_walk13 (cf := cf) hmv (by simp) HC.out 99 (by rw [HX.out]; exact HX65.out) (by decide)).mono ?_
           clear hmv
           rw [HX.out]
           rintro en wa ⟨xs, A2, k2, gs, rfl, hx, hf, hd⟩
           have HM1 := Lib.hid (Duo.permL hd (List.Perm.swap _ _ _))
           have HXF := Lib.hid hf
           have HXM := Lib.hid hx
           clear hd hx hf HN
           refine hK.out _ _ (HM1.out.box (x := (ff, [.int .i64 X2.s, .int .i64 X2.o, .int .i64 X2.l, .int .i64 X2.p, .int .i64 X2.m])) (by simp)) (fun hSn => ?_)
           clear hK K hSw0
           have hSw0 := hSn
           clear hSn
           refine Kn.takeR 3 ⟨some 188, _, _, _, _, _⟩ fun K hK => ?_
           go_simp
           refine (same13_eq _ _ _ xs _ _ _ ys _ (FdP.ofDuo HM1.out 0 rfl (fun y hy => List.mem_append_left _ (HXF.out y hy))) (FdR.ofDuo HM1.out 1 rfl (fun y hy => List.mem_append_right _ (List.mem_append_left _ (HYF.out y hy)))) (HXM.out.trans HYM.out.symm)).mono ?_
           rintro en wb ⟨rfl, hO⟩
           have HM2 := Lib.hid (HM1.out.keep0 hO)
           clear hO HM1
           refine hK.out _ _ (HM2.out.box (x := (ff, [.int .i64 X2.s, .int .i64 X2.o, .int .i64 X2.l, .int .i64 X2.p, .int .i64 X2.m])) (by simp)) (fun hSn => ?_)
           clear hK K hSw0
           have hSw0 := hSn
           clear hSn
           refine Kn.takeS 4 ⟨some 189, _, _, _, _, _⟩ ?_
           refine Kn.takeS 5 ⟨some 190, _, _, _, _, _⟩ ?_
           refine Kn.takeS 6 ⟨some 191, _, _, _, _, _⟩ ?_
           refine Kn.takeS 8 ⟨some 193, _, _, _, _, _⟩ (v := (.agg #[.int .i64 X2.s, .int .i64 X2.o, .int .i64 X2.l, .int .i64 X2.p, .int .i64 X2.m])) (hy := fun w hSw => by
            have q0 := hSw
            obtain ⟨q00, q01, q02, q03, q04⟩ := Kn.own5 q0
            clear q0
            go_simp) ?_
           refine Kn.takeR 7 ⟨some 192, _, _, _, _, _⟩ fun K hK => ?_
           go_simp
           refine (duo_end HM2.out (S := S) (gb := gb) (q := pl) (own := false) (en := X2) (er := X3) (by simp)).mono ?_
           rintro en wd ⟨rfl, hO⟩
           have HM3 := Lib.hid (HM2.out.keep0 hO)
           clear hO HM2
           refine hK.out _ _ (HM3.out.box (x := (ff, [.int .i64 X2.s, .int .i64 X2.o, .int .i64 X2.l, .int .i64 X2.p, .int .i64 X2.m])) (by simp)) (fun hSn => ?_)
           clear hK K hSw0
           have hSw0 := hSn
           clear hSn
           refine Kn.takeS 9 ⟨some 194, _, _, _, _, _⟩ ?_
           refine Kn.takeS 10 ⟨some 195, _, _, _, _, _⟩ ?_
           refine Kn.takeS 11 ⟨some 196, _, _, _, _, _⟩ ?_
           refine Kn.takeS 12 ⟨some 197, _, _, _, _, _⟩ ?_
           refine Kn.takeS 14 ⟨some 199, _, _, _, _, _⟩ ?_
           refine Kn.takeR 13 ⟨some 198, _, _, _, _, _⟩ fun K hK => ?_
           go_simp
           refine (duo_err HM3.out (S := S) (gb := gb) (q := pl) (own := false) (en := X2) (er := X3) (by simp)).mono ?_
           rintro en we ⟨rfl, rfl⟩
           refine hK.out _ _ (HM3.out.box (x := (ff, [.int .i64 X2.s, .int .i64 X2.o, .int .i64 X2.l, .int .i64 X2.p, .int .i64 X2.m])) (by simp)) (fun hSn => ?_)
           clear hK K hSw0
           have hSw0 := hSn
           clear hSn
           refine Kn.takeS 15 ⟨some 200, _, _, _, _, _⟩ ?_
           refine Kn.takeS 16 ⟨some 201, _, _, _, _, _⟩ ?_
           refine wpAnyH_done (by kernel_rfl) ?_ _
           clear hSw0
           go_wp2
           go_roundg (gk - 1)
           case measure => omega
           case rel => exact ⟨j + 1, by omega, by go_num, HM3.out.sub (.cons _ (.cons _ (List.Sublist.refl _))) (List.nil_sublist _) (fun f hf => List.mem_append_right _ (List.mem_append_right _ hf))⟩
        ·as_aux_lemma =>
          obtain rfl : j = 3 := by omega
          clear hlt hj
          have b_q := HD.out.box (x := (fa, [.int .i64 x1, .int .i64 0, .int .i64 x2, .int .i64 x3, .int .i64 x4])) (by simp)
          obtain ⟨q0, q1, q2, q3, q4⟩ := Kn.own5 b_q
          clear b_q
          go_wp2_with fail
          refine (duo_seg HD.out (cf := cf) x1 (by simp) HC.out HXS.out).mono ?_
          rintro en w5 ⟨S, rfl, hd⟩
          have HE := Lib.hid hd
          clear hd HD q0 q1 q2 q3 q4
          obtain ⟨X1, X2, X3, hX⟩ : ∃ X1 X2 X3, scanR d4 cf true (⟨x1, 0, 0, 0, 0⟩ : Ps) = (X1, X2, X3) := ⟨_, _, _, rfl⟩
          have HX := Lib.hid hX
          have HX65 : Hid (X1.length ≤ 99) := Lib.hid (by have h := scanR_len d4 cf true (⟨x1, 0, 0, 0, 0⟩ : Ps); rw [hX] at h; simp only at h; omega)
          clear hX
          go_wp2_with fail
          have HE1 := Lib.hid HE.out.drew
          clear HE
          refine wp_region_held_drew (S := (fun w' => Kn.Own w' fa [.int .i64 x1, .int .i64 0, .int .i64 x2, .int .i64 x3, .int .i64 x4])) (by kernel_rfl) (HE1.out.box (x := (fa, [.int .i64 x1, .int .i64 0, .int .i64 x2, .int .i64 x3, .int .i64 x4])) (by simp)) (fun hSw0 => ?_)
          generalize w5.drew = wz at *
          refine Kn.takeS 0 ⟨some 207, _, _, _, _, _⟩ ?_
          refine Kn.takeS 1 ⟨some 208, _, _, _, _, _⟩ ?_
          refine Kn.takeS 2 ⟨some 209, _, _, _, _, _⟩ ?_
          refine Kn.takeS 3 ⟨some 210, _, _, _, _, _⟩ ?_
          refine Kn.takeS 5 ⟨some 212, _, _, _, _, _⟩ ?_
          refine Kn.takeS 6 ⟨some 213, _, _, _, _, _⟩ (v := (.int .i64 x1)) (hy := fun w hSw => by
           have q0 := hSw.cellv 0
           go_simp) ?_
          refine Kn.takeS 7 ⟨some 214, _, _, _, _, _⟩ ?_
          refine Kn.takeR 4 ⟨some 211, _, _, _, _, _⟩ fun K hK => ?_
          go_simp
          refine (duo_end HE1.out (S := S) (gb := gb) (q := (⟨x1, 0, 0, 0, 0⟩ : Ps)) (own := true) (en := (⟨x1, 0, 0, 0, 0⟩ : Ps)) (er := 0) (by simp)).mono ?_
          rintro en wb ⟨rfl, hO⟩
          have HE2 := Lib.hid (HE1.out.keep0 hO)
          clear hO HE1
          refine hK.out _ _ (HE2.out.box (x := (fa, [.int .i64 x1, .int .i64 0, .int .i64 x2, .int .i64 x3, .int .i64 x4])) (by simp)) (fun hSn => ?_)
          clear hK K hSw0
          have hSw0 := hSn
          clear hSn
          refine Kn.takeS 8 ⟨some 215, _, _, _, _, _⟩ ?_
          refine Kn.takeS 9 ⟨some 216, _, _, _, _, _⟩ ?_
          refine wpAnyH_done (by kernel_rfl) ?_ _
          clear hSw0
          have b_q := HE2.out.box (x := (fa, [.int .i64 x1, .int .i64 0, .int .i64 x2, .int .i64 x3, .int .i64 x4])) (by simp)
          obtain ⟨q0, q1, q2, q3, q4⟩ := Kn.own5 b_q
          clear b_q
          have b_e := HE2.out.box (x := (fc, [.int .i64 cf.b, .int .i64 cf.s, .int .i64 cf.l])) (by simp)
          obtain ⟨e0, e1, e2⟩ := Kn.own3 b_e
          clear b_e
          go_wp2_with fail
          refine (duo_rseg HE2.out HHD.out HC.out x1 HXS.out).mono ?_
          rw [HX.out]
          rintro en wr2 ⟨ys, B, k, fs, rfl, hy, hf, hd⟩
          have HG := Lib.hid (Duo.newB hd #[.int .i64 X2.s, .int .i64 X2.o, .int .i64 X2.l, .int .i64 X2.p, .int .i64 X2.m] 32 rfl)
          have HYM := Lib.hid hy
          have HYF := Lib.hid hf
          clear hd hy hf HE2 q0 q1 q2 q3 q4 e0 e1 e2
          go_upto_region 38 with (fail)
          generalize hz4 : wr2.alloc (.cells #[.int .i64 X2.s, .int .i64 X2.o, .int .i64 X2.l, .int .i64 X2.p, .int .i64 X2.m] 32) = wc at *
          generalize hgf : (World.heap wr2).size = ff at *
          clear hz4 hgf wr2
          have HN := Lib.hid HG.out.drew
          clear HG
          refine wp_region_held_drew (S := (fun w' => Kn.Own w' ff [.int .i64 X2.s, .int .i64 X2.o, .int .i64 X2.l, .int .i64 X2.p, .int .i64 X2.m])) (by kernel_rfl) (HN.out.box (x := (ff, [.int .i64 X2.s, .int .i64 X2.o, .int .i64 X2.l, .int .i64 X2.p, .int .i64 X2.m])) (by simp)) (fun hSw0 => ?_)
          generalize wc.drew = wm at *
          refine Kn.takeS 0 ⟨some 226, _, _, _, _, _⟩ ?_
          refine Kn.takeS 2 ⟨some 228, _, _, _, _, _⟩ ?_
          refine Kn.takeR 1 ⟨some 227, _, _, _, _, _⟩ fun K hK => ?_
          go_simp
          have hmv := Duo.permL HN.out (List.Perm.swap _ _ _)
          refine (duo_walk13 (cf := cf) hmv (by simp) HC.out 99 (by rw [HX.out]; exact HX65.out) (by decide)).mono ?_
          clear hmv
          rw [HX.out]
          rintro en wa ⟨xs, A2, k2, gs, rfl, hx, hf, hd⟩
          have HM1 := Lib.hid (Duo.permL hd (List.Perm.swap _ _ _))
          have HXF := Lib.hid hf
          have HXM := Lib.hid hx
          clear hd hx hf HN
          refine hK.out _ _ (HM1.out.box (x := (ff, [.int .i64 X2.s, .int .i64 X2.o, .int .i64 X2.l, .int .i64 X2.p, .int .i64 X2.m])) (by simp)) (fun hSn => ?_)
          clear hK K hSw0
          have hSw0 := hSn
          clear hSn
          refine Kn.takeR 3 ⟨some 229, _, _, _, _, _⟩ fun K hK => ?_
          go_simp
          refine (same13_eq _ _ _ xs _ _ _ ys _ (FdP.ofDuo HM1.out 0 rfl (fun y hy => List.mem_append_left _ (HXF.out y hy))) (FdR.ofDuo HM1.out 1 rfl (fun y hy => List.mem_append_right _ (List.mem_append_left _ (HYF.out y hy)))) (HXM.out.trans HYM.out.symm)).mono ?_
          rintro en wb ⟨rfl, hO⟩
          have HM2 := Lib.hid (HM1.out.keep0 hO)
          clear hO HM1
          refine hK.out _ _ (HM2.out.box (x := (ff, [.int .i64 X2.s, .int .i64 X2.o, .int .i64 X2.l, .int .i64 X2.p, .int .i64 X2.m])) (by simp)) (fun hSn => ?_)
          clear hK K hSw0
          have hSw0 := hSn
          clear hSn
          refine Kn.takeS 4 ⟨some 230, _, _, _, _, _⟩ ?_
          refine Kn.takeS 5 ⟨some 231, _, _, _, _, _⟩ ?_
          refine Kn.takeS 7 ⟨some 233, _, _, _, _, _⟩ (v := (.agg #[.int .i64 X2.s, .int .i64 X2.o, .int .i64 X2.l, .int .i64 X2.p, .int .i64 X2.m])) (hy := fun w hSw => by
           have q0 := hSw
           obtain ⟨q00, q01, q02, q03, q04⟩ := Kn.own5 q0
           clear q0
           go_simp) ?_
          refine Kn.takeR 6 ⟨some 232, _, _, _, _, _⟩ fun K hK => ?_
          go_simp
          refine (duo_end HM2.out (S := S) (gb := gb) (q := (⟨x1, 0, 0, 0, 0⟩ : Ps)) (own := true) (en := X2) (er := X3) (by simp)).mono ?_
          rintro en wd ⟨rfl, hO⟩
          have HM3 := Lib.hid (HM2.out.keep0 hO)
          clear hO HM2
          refine hK.out _ _ (HM3.out.box (x := (ff, [.int .i64 X2.s, .int .i64 X2.o, .int .i64 X2.l, .int .i64 X2.p, .int .i64 X2.m])) (by simp)) (fun hSn => ?_)
          clear hK K hSw0
          have hSw0 := hSn
          clear hSn
          refine Kn.takeS 8 ⟨some 234, _, _, _, _, _⟩ ?_
          refine Kn.takeS 9 ⟨some 235, _, _, _, _, _⟩ ?_
          refine Kn.takeS 10 ⟨some 236, _, _, _, _, _⟩ ?_
          refine Kn.takeS 11 ⟨some 237, _, _, _, _, _⟩ ?_
          refine Kn.takeS 13 ⟨some 239, _, _, _, _, _⟩ ?_
          refine Kn.takeR 12 ⟨some 238, _, _, _, _, _⟩ fun K hK => ?_
          go_simp
          refine (duo_err HM3.out (S := S) (gb := gb) (q := (⟨x1, 0, 0, 0, 0⟩ : Ps)) (own := true) (en := X2) (er := X3) (by simp)).mono ?_
          rintro en we ⟨rfl, rfl⟩
          refine hK.out _ _ (HM3.out.box (x := (ff, [.int .i64 X2.s, .int .i64 X2.o, .int .i64 X2.l, .int .i64 X2.p, .int .i64 X2.m])) (by simp)) (fun hSn => ?_)
          clear hK K hSw0
          have hSw0 := hSn
          clear hSn
          refine Kn.takeS 14 ⟨some 240, _, _, _, _, _⟩ ?_
          refine Kn.takeS 15 ⟨some 241, _, _, _, _, _⟩ ?_
          refine Kn.takeS 16 ⟨some 242, _, _, _, _, _⟩ ?_
          refine Kn.takeR 17 ⟨some 243, _, _, _, _, _⟩ fun K hK => ?_
          go_simp
          refine (awake13_any _).mono ?_
          rintro en wf ⟨rfl, hO⟩
          have HO := Lib.hid (HM3.out.only.trans' hO)
          have HM4 := Lib.hid (HM3.out.keep0 hO)
          clear hO HM3
          refine hK.out _ _ (HM4.out.box (x := (ff, [.int .i64 X2.s, .int .i64 X2.o, .int .i64 X2.l, .int .i64 X2.p, .int .i64 X2.m])) (by simp)) (fun hSn => ?_)
          clear hK K hSw0
          have hSw0 := hSn
          clear hSn
          refine Kn.takeS 18 ⟨some 244, _, _, _, _, _⟩ ?_
          refine Kn.takeS 19 ⟨some 12, _, _, _, _, _⟩ ?_
          refine wpAnyH_done (by kernel_rfl) ?_ _
          clear hSw0
          go_wp2
          refine bodyPost_ret (v := .bool true) (by kernel_rfl) rfl ⟨rfl, HO.out⟩
end Go.Proofs.YtgcfdjcpcclcjaaGreat.scanPlays
