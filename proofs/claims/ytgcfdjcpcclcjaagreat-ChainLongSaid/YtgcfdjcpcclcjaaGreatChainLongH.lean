/- RingA, Awake14, LgT: joined by pack.py, without what the claim does not use. -/
import Derived.Test.YtgcfdjcpcclcjaaGreatChainLongG
set_option linter.unusedVariables false
set_option linter.unusedSimpArgs false
namespace Go.Kn
open Go Go.RowKit
/-- cells of a slice that begins its block -/
def Cel (W : World) (A : Option Addr) (n c : Nat) (xs : List Value) : Prop := n ≤ c ∧ c ≤ maxLen ∧ (0 < n → ∃ g, A = some ⟨g, 0, none⟩ ∧ ∀ j u, xs[j]? = some u → W.cell? ⟨g, j, none⟩ = some u)
theorem Cel.fc {w : World} {M : Nat → Prop} {A : Option Addr} {n c : Nat} {xs : List Value} (h : Cel w A n c xs) (hm : ∀ a, A = some a → ¬ M a.block) : Fc w M (fun W => Cel W A n c xs) := fun W hW => ⟨h.1, h.2.1, fun hn => by
 obtain ⟨g, e, hc⟩ := h.2.2 hn
 exact ⟨g, e, fun j u hj => fc_cell (hc j u hj) (show ¬ M g from hm ⟨g, 0, none⟩ e) W hW⟩⟩
theorem Wc.goutN {w0 w : World} {L : List (Nat × List Value)} {G : List Gs} {F : List (World → Prop)} {e sz n c : Nat} {A : Option Addr} {xs : List Value} (h : Wc w0 w L (⟨e, sz, .slice A n c, n, xs⟩ :: G) F) : Wc w0 w L G ((fun W => Cel W A n c xs) :: F) := by
 have hr : Cel w A n c xs := cells_owns (h.gi 0 rfl)
 refine h.gdrop.addF _ (hr.fc fun a ha hm => ?_)
 subst ha
 have hob : (Value.slice (some a) n c).ownBlock = some a.block := rfl
 rcases hm with hm | ⟨y, hy, hk⟩
 ·obtain ⟨x, hx, e1⟩ := List.mem_map.1 hm
  exact h.g3 x hx _ List.mem_cons_self (by rw [hob, e1])
 ·exact (List.pairwise_cons.1 h.g2).1 y hy _ hob hk
structure Prx where
 pr : PR
 s : Option Addr × Nat × Nat
 ss : List (Option Addr × Nat × Nat)
def Prx.one (x : Prx) : List Value := [slv x.s, .int .i64 x.pr.next, .bool x.pr.lost]
def Prx.fct (x : Prx) : World → Prop := fun W => Krs W x.s.1 x.s.2.1 x.s.2.2 x.pr.recs x.ss
def prxV (xs : List Prx) : List Value := xs.flatMap Prx.one
theorem prxV_snoc (xs : List Prx) (x : Prx) : prxV (xs ++ [x]) = prxV xs ++ x.one := by simp [prxV]
theorem prx_one_one (x : Prx) : ∀ u ∈ x.one, u.oneCell' = true := by
 intro u hu
 simp only [Prx.one, slv, List.mem_cons, List.mem_nil_iff, or_false] at hu
 rcases hu with rfl | rfl | rfl <;> rfl
theorem Prts.of_cel {W : World} {A : Option Addr} {c : Nat} {xs : List Prx} (h : Cel W A xs.length c (prxV xs)) (hf : ∀ y ∈ xs, y.fct W) : Prts W A xs.length c (xs.map Prx.pr) (xs.map fun x => (x.s, x.ss)) := by
 refine ⟨by simp, by simp, h.1, h.2.1, fun hn => ?_, fun i h1 h2 => ?_⟩
 ·obtain ⟨g, e, hc⟩ := h.2.2 hn
  refine ⟨g, 0, e, fun i h1 h2 => ?_⟩
  have hi : i < xs.length := by simpa using h1
  have hk : ∀ k, k < 3 → (prxV xs)[i * 3 + k]? = (Prx.one xs[i])[k]? := fun k hk => flatMap_get Prx.one 3 (fun x => rfl) xs i k hi hk
  simp only [Nat.zero_add, List.getElem_map]
  exact ⟨hc _ _ ((hk 0 (by decide)).trans rfl), hc _ _ ((hk 1 (by decide)).trans rfl), hc _ _ ((hk 2 (by decide)).trans rfl)⟩
 ·have hi : i < xs.length := by simpa using h1
  simp only [List.getElem_map]
  exact hf _ (List.getElem_mem hi)
theorem Ins.nil0 (w : World) : Ins w none 0 0 [] := Row1.nil w
theorem madeCells_at (n i t : Nat) (hi : i < n) (ht : t < 5) : (madeCells #[.slice none 0 0, .int .i64 0, .int .i64 0, .int .i64 0, .int .i64 0] (n * 5)).toList[i * 5 + t]? = #[.slice none 0 0, .int .i64 0, .int .i64 0, .int .i64 0, .int .i64 0].toList[t]? := by
 have h1 : i * 5 + t < n * 5 := by omega
 have h2 : (i * 5 + t) % 5 = t := by omega
 unfold madeCells
 simp only [Array.toList_map, Array.toList_range, List.getElem?_map, List.getElem?_range h1, Option.map_some, List.size_toArray, List.length_cons, List.length_nil]
 rw [h2]
 rcases (show t = 0 ∨ t = 1 ∨ t = 2 ∨ t = 3 ∨ t = 4 from by omega) with rfl | rfl | rfl | rfl | rfl <;> rfl
theorem krs_made {w : World} {g n : Nat} (hn : n ≤ 1000) (h : Own w g (madeCells #[.slice none 0 0, .int .i64 0, .int .i64 0, .int .i64 0, .int .i64 0] (n * 5)).toList) : Krs w (some ⟨g, 0, none⟩) n n (List.replicate n kr0) (List.replicate n (none, 0, 0)) := by
 refine ⟨by simp, by simp, Nat.le_refl _, by unfold maxLen; omega, fun _ => ⟨g, 0, rfl, fun i h1 h2 => ?_⟩, fun i h1 h2 => ?_⟩
 ·have hi : i < n := by simpa using h1
  have hc : ∀ t v, t < 5 → #[.slice none 0 0, .int .i64 0, .int .i64 0, .int .i64 0, .int .i64 0].toList[t]? = some v → w.cell? ⟨g, i * 5 + t, none⟩ = some v := by
   intro t v ht hv
   obtain ⟨h3, h4⟩ := List.getElem?_eq_some_iff.1 ((madeCells_at n i t hi ht).trans hv)
   exact (h.cell (i * 5 + t) h3).trans (congrArg some h4)
  simp only [List.getElem_replicate, Nat.zero_add]
  exact ⟨hc 0 _ (by decide) rfl, hc 1 _ (by decide) rfl, hc 2 _ (by decide) rfl, hc 3 _ (by decide) rfl, hc 4 _ (by decide) rfl⟩
 ·simp only [List.getElem_replicate]
  exact Ins.nil0 w
set_option maxRecDepth 100000 in
theorem ringL_ok {e : Nat} (he : e ≤ 20) : ∀ (f left : Nat) (s : Int), -1000 ≤ s → s ≤ 1000 - (f : Int) → ∀ x ∈ ringL e f left s, x.Ok
 | 0, _, _, _, _, x, hx => by simp [ringL] at hx
 | f + 1, left, s, h1, h2, x, hx => by
  unfold ringL at hx
  split at hx
  ·simp at hx
  ·rcases List.mem_cons.1 hx with rfl | hx
   ·refine ⟨by simp; omega, fun y hy => ?_, ?_⟩
    ·obtain ⟨_, rfl⟩ := List.mem_replicate.1 hy
     exact ⟨by simp [kr0], by decide, by decide, by decide, by decide⟩
    ·exact wf_small (by show -4611686018427387904 ≤ s + 1; omega) (by show s + 1 ≤ _; push_cast at h2; omega)
   ·exact ringL_ok he f _ (s + 1) (by omega) (by push_cast at h2 ⊢; omega) x hx
end Go.Kn
namespace Go.Proofs.YtgcfdjcpcclcjaaGreat
open Go Go.RowKit Go.Kn
theorem infoRecK : (Tryz.prog.info? 38).map (fun i => (i.zero, i.size, i.bytes)) = some (some (.agg #[.slice none 0 0, .int .i64 0, .int .i64 0, .int .i64 0, .int .i64 0]), 5, 56) := by kernel_rfl
theorem infoPart : (Tryz.prog.info? 203).map (fun i => (i.zero, i.size, i.bytes)) = some (some (.agg #[.slice none 0 0, .int .i64 0, .bool false]), 3, 40) := by kernel_rfl
theorem make_recs (n : Nat) (hn : n ≤ 1000) (w : World) : (Instr.makeSlice 39 (.int .i64 n) (.int .i64 n)).run Tryz.prog w = .ok (.slice (some ⟨w.heap.size, 0, none⟩) n n) (w.alloc (.cells (madeCells #[.slice none 0 0, .int .i64 0, .int .i64 0, .int .i64 0, .int .i64 0] (n * 5)) 38)) := by
 obtain ⟨i0, hi, hz0, hz1, hz2⟩ := info_parts infoRecK
 have h := run_make (P := Tryz.prog) w 39 38 i0 _ Tryz.underlying39 hi hz0 .i64 .i64 n n (by omega) (by omega) (by rw [hz2]; omega) (by omega)
 rw [h, hz1]
 rfl
theorem Duo.goutN {w0 w : World} {p : PD} {r : RD} {d e : Dk} {L : List (Nat × List Value)} {G : List Gs} {F : List (World → Prop)} {t sz n c : Nat} {A : Option Addr} {xs : List Value} (h : Duo w0 w p r d e ⟨L, ⟨t, sz, .slice A n c, n, xs⟩ :: G, F⟩) : Duo w0 w p r d e ⟨L, G, (fun W => Cel W A n c xs) :: F⟩ := by
 obtain ⟨L0, G0, F0, hw, back⟩ := h.fr
 exact back w ⟨L, G, _ :: F⟩ (Wc.goutN hw)
set_option maxRecDepth 100000 in
set_option maxHeartbeats 8000000 in
theorem ring14_any (w0 w : World) (p : PD) (r : RD) (d : Dk) (c : Fr3) (cf : Cf) (q : Ps) (n e : Nat) (h : Duo w0 w p r d d c) (hc : cf.Ok) (h8 : cf.s = 8) (hn : 1 ≤ n ∧ n ≤ 100) (he : 1 ≤ e ∧ e ≤ 20) (hq : headMay q.head = true) (hs : q.s ≤ cf.s - 1) (hm : q.m ≤ 2097152) (hll : q.l ≤ 2097152) (hlv : d.Live) (hh : d.held = []) :
  Calls Tryz.prog 55 #[.pointer (some ⟨p.D, 0, none⟩), .pointer (some ⟨r.M, 0, none⟩), .agg #[.int .i64 cf.b, .int .i64 cf.s, .int .i64 cf.l], .agg #[.int .i64 q.s, .int .i64 q.o, .int .i64 q.l, .int .i64 q.p, .int .i64 q.m], .int .i64 (n : Int), .int .i64 (e : Int)] w (LogSays w0 p r c (laidRun cf (ringL e 8 n q.s) q d)) := by
 have hres : Tryz.f55.results = #[.cell 12 32, .tmp 13] := by kernel_rfl
 have HRES := Lib.hid hres
 have hqb := headMay_iff.1 hq
 simp only [Ps.head] at hqb
 obtain ⟨hb1, hb2, hb3, hb4⟩ := hqb
 obtain ⟨hqs0, hqs1⟩ := hb1
 have HC := Lib.hid hc
 have HQ := Lib.hid hq
 have H8 := Lib.hid h8
 have HH := Lib.hid hh
 have HLV := Lib.hid hlv
 have HSS := Lib.hid hs
 obtain ⟨hn1, hn2⟩ := hn
 obtain ⟨he1, he2⟩ := he
 obtain ⟨i0, hi0, hz0, hz1, hz2⟩ := info_parts infoPart
 have hs1 : (w.alloc (.cells #[.int .i64 cf.b, .int .i64 cf.s, .int .i64 cf.l] 25)).heap.size = w.heap.size + 1 := by simp
 have hs2 : ((w.alloc (.cells #[.int .i64 cf.b, .int .i64 cf.s, .int .i64 cf.l] 25)).alloc (.cells #[.int .i64 q.s, .int .i64 q.o, .int .i64 q.l, .int .i64 q.p, .int .i64 q.m] 32)).heap.size = w.heap.size + 1 + 1 := by simp
 have H := Lib.hid (((((h.newB #[.int .i64 cf.b, .int .i64 cf.s, .int .i64 cf.l] 25 rfl).newB #[.int .i64 q.s, .int .i64 q.o, .int .i64 q.l, .int .i64 q.p, .int .i64 q.m] 32 hs1).newB #[.int .i64 0, .int .i64 0, .int .i64 0, .int .i64 0, .int .i64 0] 32 hs2)).gnew 203 3)
 clear h hres hc hq hb2 hb3 hb4 h8 hh hlv hs
 go_enter Tryz.func55, Tryz.ntmps55
 go_upto_region 1 with (fail)
 (try rw [hs2])
 (try rw [hs1])
 generalize hz : ((w.alloc (.cells #[.int .i64 cf.b, .int .i64 cf.s, .int .i64 cf.l] 25)).alloc (.cells #[.int .i64 q.s, .int .i64 q.o, .int .i64 q.l, .int .i64 q.p, .int .i64 q.m] 32)).alloc (.cells #[.int .i64 0, .int .i64 0, .int .i64 0, .int .i64 0, .int .i64 0] 32) = w1 at *
 clear hz hs1 hs2
 generalize w.heap.size = fb at *
 generalize fb + 1 = fp at *
 generalize fp + 1 = fo at *
 have q0 := Kn.own1 (H.out.box (x := (fp, [.int .i64 q.s, .int .i64 q.o, .int .i64 q.l, .int .i64 q.p, .int .i64 q.m])) (by simp))
 go_wp2_with fail
 clear q0
 go_loopg [14, 15, 16] 8 (fun gr t14 t15 t16 wr => ∃ (t left : Nat) (A : Option Addr) (cA : Nat) (xs : List Prx) (fs : List (World → Prop)), t + gr = 8 ∧ t14 = .slice A t cA ∧ t15 = .int .i64 (left : Int) ∧ t16 = .int .i64 (q.s + (t : Int)) ∧ left ≤ n ∧ xs.length = t ∧ xs.map Prx.pr ++ ringL e (8 - t) left (q.s + (t : Nat)) = ringL e 8 n q.s ∧ (∀ y ∈ xs, y.fct ∈ fs) ∧ Duo w0 wr p r d d ⟨(fo, [.int .i64 0, .int .i64 0, .int .i64 0, .int .i64 0, .int .i64 0]) :: (fp, [.int .i64 q.s, .int .i64 q.o, .int .i64 q.l, .int .i64 q.p, .int .i64 q.m]) :: (fb, [.int .i64 cf.b, .int .i64 cf.s, .int .i64 cf.l]) :: c.L, ⟨203, 3, .slice A t cA, t, prxV xs⟩ :: c.G, fs ++ c.F⟩)
 case atStart => exact ⟨0, n, none, 0, [], [], by omega, rfl, rfl, by simp, Nat.le_refl _, rfl, by simp, by simp, H.out⟩
 clear H
 obtain ⟨t, left, A, cA, xs, fs, ht, rfl, rfl, rfl, hln, hxl, hring, hfs, hd⟩ := hrel
 have HD := Lib.hid hd
 have HRG := Lib.hid hring
 have HFS := Lib.hid hfs
 have HXL := Lib.hid hxl
 clear hd hring hfs hxl
 have c1 := (HD.out.box (x := (fb, [.int .i64 cf.b, .int .i64 cf.s, .int .i64 cf.l])) (by simp)).cell 1 (by simp)
 simp only [List.getElem_cons_zero, List.getElem_cons_succ] at c1
 rw [H8.out] at c1
 by_cases hgo : 0 < left ∧ t < 8
 ·obtain ⟨hl0, ht8⟩ := hgo
  have hl0' : (left : Int) > 0 := by omega
  have ht8' : (t : Int) < 8 := by omega
  have hw1 := IntWalk.i64_in (q.s + (t : Int) + 1) (by omega)
  go_upto_region 7 with (fail)
  obtain ⟨k, hk⟩ : ∃ k : Nat, k = min left e := ⟨_, rfl⟩
  have hmin : (if e < left then (e : Int) else (left : Int)) = (k : Int) := by split <;> omega
  rw [hmin]
  have hk1 : k ≤ 20 ∧ k ≤ left := by omega
  obtain ⟨hk20, hkl⟩ := hk1
  have hw2 := IntWalk.i64_in ((left : Int) - (k : Int)) (by omega)
  have hmk : ∀ w : World, (Instr.makeSlice 39 (.int .i64 (k : Int)) (.int .i64 (k : Int))).run Tryz.prog w = .ok (.slice (some ⟨w.heap.size, 0, none⟩) k k) (w.alloc (.cells (madeCells #[.slice none 0 0, .int .i64 0, .int .i64 0, .int .i64 0, .int .i64 0] (k * 5)) 38)) := make_recs k (by omega)
  obtain ⟨y, hy⟩ : ∃ y : Prx, y = ⟨⟨List.replicate k kr0, q.s + (t : Int) + 1, false⟩, (some ⟨wr.heap.size, 0, none⟩, k, k), List.replicate k (none, 0, 0)⟩ := ⟨_, rfl⟩
  have hyo : y.one = [.slice (some ⟨wr.heap.size, 0, none⟩) k k, .int .i64 (q.s + (t : Int) + 1), .bool false] := by rw [hy]; rfl
  have HD1 : Hid (Duo w0 (wr.alloc (.cells (madeCells #[.slice none 0 0, .int .i64 0, .int .i64 0, .int .i64 0, .int .i64 0] (k * 5)) 38)) p r d d ⟨(fo, [.int .i64 0, .int .i64 0, .int .i64 0, .int .i64 0, .int .i64 0]) :: (fp, [.int .i64 q.s, .int .i64 q.o, .int .i64 q.l, .int .i64 q.p, .int .i64 q.m]) :: (fb, [.int .i64 cf.b, .int .i64 cf.s, .int .i64 cf.l]) :: c.L, ⟨203, 3, .slice A t cA, t, prxV xs⟩ :: c.G, y.fct :: (fs ++ c.F)⟩) := Lib.hid (by
   have h1 := HD.out.addFc ((Only.refl _ _).alloc _) (Kn.Own.fc (Kn.Own.new wr (madeCells #[.slice none 0 0, .int .i64 0, .int .i64 0, .int .i64 0, .int .i64 0] (k * 5)) 38) (M := fun k => k < wr.heap.size) (by omega))
   refine h1.impF fun g hg W hW => ?_
   rcases List.mem_cons.1 hg with rfl | hg
   ·rw [hy]
    exact krs_made (n := k) (by omega) (hW _ List.mem_cons_self)
   ·exact hW g (List.mem_cons_of_mem _ hg))
  have HRG2 : Hid ((xs ++ [y]).map Prx.pr ++ ringL e (8 - (t + 1)) (left - k) (q.s + ((t + 1 : Nat) : Int)) = ringL e 8 n q.s) := Lib.hid (by
   rw [← HRG.out, List.map_append, List.append_assoc]
   congr 1
   obtain ⟨f, hf⟩ : ∃ f, 8 - t = f + 1 := ⟨7 - t, by omega⟩
   rw [hf, show 8 - (t + 1) = f from by omega, hy]
   conv => rhs; unfold ringL
   rw [if_neg (by omega), ← hk, show q.s + ((t + 1 : Nat) : Int) = q.s + (t : Nat) + 1 from by push_cast; omega]
   rfl)
  have HAL := Lib.hid (HD1.out.alloc (.cells #[.slice (some ⟨wr.heap.size, 0, none⟩) k k, .int .i64 (q.s + (t : Int) + 1), .bool false] 203))
  have hnw := news_new (wr.alloc (.cells (madeCells #[.slice none 0 0, .int .i64 0, .int .i64 0, .int .i64 0, .int .i64 0] (k * 5)) 38)) #[.slice (some ⟨wr.heap.size, 0, none⟩) k k, .int .i64 (q.s + (t : Int) + 1), .bool false] 203 (by simp [maxLen])
  rw [show (wr.alloc (.cells (madeCells #[.slice none 0 0, .int .i64 0, .int .i64 0, .int .i64 0, .int .i64 0] (k * 5)) 38)).heap.size = wr.heap.size + 1 from by simp] at hnw
  have HNW := Lib.hid hnw
  have HON := Lib.hid (prx_one_one y)
  rw [hyo] at HON
  have HYO := Lib.hid hyo
  have HBS := Lib.hid HAL.out.only.size
  have HYF : Hid (∀ z ∈ xs ++ [y], z.fct ∈ y.fct :: fs) := Lib.hid (fun z hz => by
   rcases List.mem_append.1 hz with hz | hz
   ·exact List.mem_cons_of_mem _ (HFS.out z hz)
   ·rw [List.mem_singleton.1 hz]; exact List.mem_cons_self)
  have HYL : Hid ((xs ++ [y]).length = t + 1) := Lib.hid (by simp [HXL.out])
  clear hnw hy hyo hk hmin HD HD1 HRG HFS HXL c1
  go_upto_region 8 with (first
   | (at_builtin; refine wpList_append_own_at _ rfl (.tmp 35) (.tmp 41) 122 rfl w0.heap.size 203 i0 _ 3 40 Tryz.underlying122 hi0 hz0 hz1 hz2 rfl (by decide) (.slice A t cA) t (prxV xs) rfl (HAL.out.gi 0 rfl) ⟨wr.heap.size + 1, 0, none⟩ 1 1 [.slice (some ⟨wr.heap.size, 0, none⟩) k k, .int .i64 (q.s + (t : Int) + 1), .bool false] rfl rfl HNW.out HON.out (by unfold maxLen; omega) (by omega) HBS.out ?_; intro v5 w5 hown hgrow _ hat2; rw [← HYO.out, ← prxV_snoc] at hown; have hdd := HAL.out.gapp 0 rfl hown hgrow hat2; obtain ⟨A6, k6, rfl⟩ := hdd.gform 0 rfl; simp only [List.set_cons_zero, List.set_cons_succ] at hdd; have HD5 := Lib.hid hdd; clear hdd hown hgrow hat2 HNW HON HBS HAL HYO)
   | fail)
  clear hmk
  go_wp2_with fail
  go_roundg (gk - 1)
  case measure => omega
  case rel => exact ⟨t + 1, left - k, A6, k6, xs ++ [y], y.fct :: fs, by omega, rfl, by go_num, by go_num, by omega, HYL.out, HRG2.out, HYF.out, HD5.out⟩
 ·have hrl : xs.map Prx.pr = ringL e 8 n q.s := by
   rw [← HRG.out]
   have : ringL e (8 - t) left (q.s + (t : Nat)) = [] := by
    rcases Nat.eq_zero_or_pos left with h0 | h0
    ·rw [h0]
     cases 8 - t with
     | zero => rfl
     | succ f => unfold ringL; rw [if_pos rfl]
    ·rw [show 8 - t = 0 from by omega]; rfl
   rw [this, List.append_nil]
  have hpr : Duo w0 wr p r d d ⟨(fo, [.int .i64 0, .int .i64 0, .int .i64 0, .int .i64 0, .int .i64 0]) :: (fp, [.int .i64 q.s, .int .i64 q.o, .int .i64 q.l, .int .i64 q.p, .int .i64 q.m]) :: (fb, [.int .i64 cf.b, .int .i64 cf.s, .int .i64 cf.l]) :: c.L, c.G, (fun W => Prts W A t cA (ringL e 8 n q.s) (xs.map fun x => (x.s, x.ss))) :: (fs ++ c.F)⟩ := by
   have h1 := HD.out.goutN
   refine h1.impF fun g hg W hW => ?_
   rcases List.mem_cons.1 hg with rfl | hg
   ·have h2 := Prts.of_cel (xs := xs) (W := W) (A := A) (c := cA) (by rw [HXL.out]; exact hW _ List.mem_cons_self) (fun y hy => hW _ (List.mem_cons_of_mem _ (List.mem_append_left _ (HFS.out y hy))))
    rw [hrl, HXL.out] at h2
    exact h2
   ·exact hW g (List.mem_cons_of_mem _ hg)
  have HP := Lib.hid hpr
  have HRO := Lib.hid (ringL_ok (e := e) (by omega) 8 n q.s (by omega) (by omega))
  obtain ⟨q2, d2, hrun⟩ : ∃ q2 d2, laidRun cf (ringL e 8 n q.s) q d = (q2, d2) := ⟨_, _, rfl⟩
  have HRUN := Lib.hid hrun
  clear hrl hpr hrun HD HRG HFS HXL c1
  obtain ⟨e0, e1, e2⟩ := own3 (HP.out.box (x := (fb, [.int .i64 cf.b, .int .i64 cf.s, .int .i64 cf.l])) (by simp))
  obtain ⟨p0, p1, p2, p3, p4⟩ := own5 (HP.out.box (x := (fp, [.int .i64 q.s, .int .i64 q.o, .int .i64 q.l, .int .i64 q.p, .int .i64 q.m])) (by simp))
  rw [H8.out] at e1
  have hexit : (left : Int) = 0 ∨ (0 < (left : Int) ∧ (t : Int) = 8) := by omega
  have fin : ∀ (P : Prop), P → P := fun _ h => h
  rcases hexit with hx | ⟨hx, hx2⟩
  all_goals (
   have hx3 : ¬ ((t : Int) < 8 ∧ 0 < (left : Int)) := by omega
   go_wp2_with fail
   rw [← H8.out]
   refine (laid14_any w0 _ p r d _ cf q A t cA (ringL e 8 n q.s) (xs.map fun x => (x.s, x.ss)) HP.out List.mem_cons_self HRO.out (by omega) HC.out HQ.out HSS.out hm hll HLV.out HH.out).mono ?_
   rw [HRUN.out]
   rintro en w2 ⟨rfl, hd⟩
   have HE := Lib.hid hd
   clear hd HP e0 e1 e2 p0 p1 p2 p3 p4
   have z := HE.out.box (x := (fo, [.int .i64 0, .int .i64 0, .int .i64 0, .int .i64 0, .int .i64 0])) (by simp)
   have z0 := z.frozen 0
   have z1 := z.frozen 1
   have z2 := z.frozen 2
   have z3 := z.frozen 3
   have z4 := z.frozen 4
   have zl := z.lt
   obtain ⟨o0, o1, o2, o3, o4⟩ := own5 z
   clear z
   go_wp2_with fail
   have HEND := Lib.hid (Duo.subF ((HE.out.call 0 rfl (own_set5 (HE.out.box (x := (fo, [.int .i64 0, .int .i64 0, .int .i64 0, .int .i64 0, .int .i64 0])) (by simp)) (.int .i64 q2.s) (.int .i64 q2.o) (.int .i64 q2.l) (.int .i64 q2.p) (.int .i64 q2.m)) (only_set5 _ fo _ _ _ _ _)).ldrop.ldrop.ldrop) (F' := c.F) (fun f hf => by simp [hf]))
   (try simp only [Exit.inBlock, Exit.then])
   refine bodyPost_ret (v := .tuple #[.agg #[.int .i64 q2.s, .int .i64 q2.o, .int .i64 q2.l, .int .i64 q2.p, .int .i64 q2.m], .bool true]) ?_ rfl ?_
   ·simp only [results, HRES.out]
    go_simp
   ·rw [HRUN.out]
    exact ⟨rfl, HEND.out⟩)
end Go.Proofs.YtgcfdjcpcclcjaaGreat
namespace Go.Kn
open Go Go.RowKit
theorem Cel.of_own {W : World} {g n c : Nat} {xs : List Value} (h : Own W g xs) (h1 : n ≤ c) (h2 : c ≤ maxLen) : Cel W (some ⟨g, 0, none⟩) n c xs := ⟨h1, h2, fun _ => ⟨g, rfl, fun j u hj => by
 obtain ⟨h3, h4⟩ := List.getElem?_eq_some_iff.1 hj
 exact (h.cell j h3).trans (congrArg some h4)⟩⟩
theorem krs_zero {w : World} {g : Nat} (h : Own w g [.slice none 0 0, .int .i64 0, .int .i64 0, .int .i64 0, .int .i64 0]) : Krs w (some ⟨g, 0, none⟩) 1 1 [kr0] [(none, 0, 0)] := by
 refine ⟨rfl, rfl, Nat.le_refl _, by decide, fun _ => ⟨g, 0, rfl, fun i h1 h2 => ?_⟩, fun i h1 h2 => ?_⟩
 ·obtain rfl : i = 0 := by simp at h1; omega
  exact ⟨h.cell 0 (by simp), h.cell 1 (by simp), h.cell 2 (by simp), h.cell 3 (by simp), h.cell 4 (by simp)⟩
 ·obtain rfl : i = 0 := by simp at h1; omega
  exact Ins.nil0 w
def sgA (t : Nat) : Int := if t = 0 then 2 else 6
theorem sgs_aw (hc : Cf.Ok (⟨2, 8, 24⟩ : Cf)) : Sgs (⟨2, 8, 24⟩ : Cf) sgA 2 := ⟨hc, rfl, rfl, fun t ht => by unfold sgA; split <;> decide, fun t u ht hu h => by
 unfold sgA at h
 split at h <;> split at h <;> first | omega | (exfalso; revert h; decide)⟩
/-- the two segments of law14.awake -/
theorem awake_two (hc : Cf.Ok (⟨2, 8, 24⟩ : Cf)) : ∃ (x1 x2 x3 : Ps × Rc) (qe : Ps) (de : Dk), laidRun (⟨2, 8, 24⟩ : Cf) [⟨[kr0], 6, false⟩, ⟨[kr0], 0, false⟩] (⟨2, 0, 5, 9, 1⟩ : Ps) (Dk.new (Cf.sectors (⟨2, 8, 24⟩ : Cf)).toNat) = (qe, de) ∧ chainR de (⟨2, 8, 24⟩ : Cf) (⟨2, 0, 5, 9, 1⟩ : Ps) = ([x1, x2, x3], qe, 0) ∧ x3.1.s = 6 ∧ x3.1.o = 1 := by
 have hs := sgs_aw hc
 have h0 : RL (⟨2, 8, 24⟩ : Cf) sgA 2 ((Dk.new (Cf.sectors (⟨2, 8, 24⟩ : Cf)).toNat).puts (Cf.at_ (⟨2, 8, 24⟩ : Cf) 2) (headB (⟨2, 0, 5, 9, 1⟩ : Ps))) ⟨2, 1, 5, 9, 1⟩ [] 1 ⟨2, 1, 5, 9, 1⟩ := RL.start hs (by decide) (p := (⟨2, 0, 5, 9, 1⟩ : Ps)) rfl (by decide) (by decide) (by decide)
 obtain ⟨r1, q1, d1, e1, h1⟩ := h0.mark hs (by decide) (by decide) []
 obtain ⟨q2, d2, e2, h2⟩ := h1.turn hs (by decide) (by decide) (by decide)
 obtain ⟨r3, q3, d3, e3, h3⟩ := h2.mark hs (by decide) (by decide) []
 have hsg : sgA ((1 + 1) / 24 + 1) = 6 := rfl
 rw [hsg] at e2 h2 h3
 have hp := h2.run.pl.2.1
 refine ⟨_, _, _, q3, d3, ?_, h3.run.told hs (by decide) (p := (⟨2, 0, 5, 9, 1⟩ : Ps)) h3.hd (h3.none_ hs) (by decide) rfl, hp.s, hp.o⟩
 unfold laidRun
 show laidGo (⟨2, 8, 24⟩ : Cf) [⟨[kr0], 6, false⟩, ⟨[kr0], 0, false⟩] ⟨2, 1, 5, 9, 1⟩ _ = _
 rw [laidGo_on (by simp) rfl]
 show laidGo (⟨2, 8, 24⟩ : Cf) [⟨[kr0], 0, false⟩] (turnRun (⟨2, 8, 24⟩ : Cf) (6 % 8) true (logRun (⟨2, 8, 24⟩ : Cf) [kr0] _ _).1 (logRun (⟨2, 8, 24⟩ : Cf) [kr0] _ _).2).1 (turnRun (⟨2, 8, 24⟩ : Cf) (6 % 8) true (logRun (⟨2, 8, 24⟩ : Cf) [kr0] _ _).1 (logRun (⟨2, 8, 24⟩ : Cf) [kr0] _ _).2).2 = _
 rw [e1]
 show laidGo (⟨2, 8, 24⟩ : Cf) [⟨[kr0], 0, false⟩] (turnRun (⟨2, 8, 24⟩ : Cf) 6 true q1 d1).1 (turnRun (⟨2, 8, 24⟩ : Cf) 6 true q1 d1).2 = _
 rw [e2, laidGo_one]
 exact e3
end Go.Kn
namespace Go.Proofs.YtgcfdjcpcclcjaaGreat
open Go Go.RowKit Go.Kn
set_option maxRecDepth 100000 in
set_option maxHeartbeats 16000000 in
theorem awake14_any (w : World) : Calls Tryz.prog 60 #[] w fun e w' => e = .returned (.bool true) ∧ Only [] w w' := by
 have hc : Cf.Ok (⟨2, 8, 24⟩ : Cf) := c13ok
 obtain ⟨x1, x2, x3, qe, de, hrun, hch, hx3, hx3o⟩ := awake_two hc
 have HRUN := Lib.hid hrun
 have HCH := Lib.hid hch
 have HX3 := Lib.hid hx3
 have HX3O := Lib.hid hx3o
 have HC := Lib.hid hc
 clear hrun hch hx3 hx3o hc
 have H1 := Lib.hid ((Wc.start w).newB #[.int .i64 2, .int .i64 8, .int .i64 24] 25 rfl)
 go_enter Tryz.func60, Tryz.ntmps60
 go_upto_region 2 with (fail)
 generalize hz : w.alloc (.cells #[.int .i64 2, .int .i64 8, .int .i64 24] 25) = w1 at *
 obtain ⟨f1, hf1⟩ : ∃ k, k = w.heap.size := ⟨_, rfl⟩
 rw [← hf1] at H1 ⊢
 clear hz hf1
 obtain ⟨e0, e1, e2⟩ := own3 (H1.out.boxi 0 rfl)
 go_wp2_with fail
 refine (desk14_any w w1 (⟨2, 8, 24⟩ : Cf) ⟨[(f1, [.int .i64 2, .int .i64 8, .int .i64 24])], [], []⟩ H1.out HC.out).mono ?_
 rintro en w2 ⟨p, rr, gb, rfl, hd⟩
 have HD := Lib.hid (Duo.newB hd #[.int .i64 2, .int .i64 0, .int .i64 5, .int .i64 9, .int .i64 1] 32 rfl)
 clear hd H1 e0 e1 e2
 go_upto_region 4 with (fail)
 generalize hz : w2.alloc (.cells #[.int .i64 2, .int .i64 0, .int .i64 5, .int .i64 9, .int .i64 1] 32) = w3 at *
 generalize w2.heap.size = f6 at *
 clear hz w2 w1
 obtain ⟨q0, q1, q2, q3, q4⟩ := own5 (HD.out.box (x := (f6, [.int .i64 2, .int .i64 0, .int .i64 5, .int .i64 9, .int .i64 1])) (by simp))
 obtain ⟨e0, e1, e2⟩ := own3 (HD.out.box (x := (f1, [.int .i64 2, .int .i64 8, .int .i64 24])) (by simp))
 obtain ⟨g1, hg1⟩ : ∃ k, k = w3.heap.size := ⟨_, rfl⟩
 have hs1 : (w3.alloc (.cells #[.slice none 0 0, .int .i64 0, .int .i64 0, .int .i64 0, .int .i64 0] 38)).heap.size = g1 + 1 := by simp [hg1]
 have hs2 : ((w3.alloc (.cells #[.slice none 0 0, .int .i64 0, .int .i64 0, .int .i64 0, .int .i64 0] 38)).alloc (.cells #[.slice none 0 0, .int .i64 0, .int .i64 0, .int .i64 0, .int .i64 0] 38)).heap.size = g1 + 1 + 1 := by simp [hg1]
 have HP3 : Hid (Duo w (((w3.alloc (.cells #[.slice none 0 0, .int .i64 0, .int .i64 0, .int .i64 0, .int .i64 0] 38)).alloc (.cells #[.slice none 0 0, .int .i64 0, .int .i64 0, .int .i64 0, .int .i64 0] 38)).alloc (.cells #[.slice (some ⟨g1, 0, none⟩) 1 1, .int .i64 6, .bool false, .slice (some ⟨g1 + 1, 0, none⟩) 1 1, .int .i64 0, .bool false] 203)) p rr (Dk.new (Cf.sectors (⟨2, 8, 24⟩ : Cf)).toNat) (Dk.new (Cf.sectors (⟨2, 8, 24⟩ : Cf)).toNat) ⟨(f6, [.int .i64 2, .int .i64 0, .int .i64 5, .int .i64 9, .int .i64 1]) :: (f1, [.int .i64 2, .int .i64 8, .int .i64 24]) :: [], [], (fun W => Prts W (some ⟨g1 + 1 + 1, 0, none⟩) 2 2 [⟨[kr0], 6, false⟩, ⟨[kr0], 0, false⟩] [((some ⟨g1, 0, none⟩, 1, 1), [(none, 0, 0)]), ((some ⟨g1 + 1, 0, none⟩, 1, 1), [(none, 0, 0)])]) :: (fun W => GeoAt W gb 2 8 24) :: []⟩) := Lib.hid (by
  have k1 := HD.out.addFc ((Only.refl _ _).alloc _) (Kn.Own.fc (Kn.Own.new w3 #[.slice none 0 0, .int .i64 0, .int .i64 0, .int .i64 0, .int .i64 0] 38) (M := fun k => k < w3.heap.size) (by omega))
  have k2 := k1.addFc ((Only.refl _ _).alloc _) (Kn.Own.fc (Kn.Own.new (w3.alloc (.cells #[.slice none 0 0, .int .i64 0, .int .i64 0, .int .i64 0, .int .i64 0] 38)) #[.slice none 0 0, .int .i64 0, .int .i64 0, .int .i64 0, .int .i64 0] 38) (M := fun k => k < (w3.alloc (.cells #[.slice none 0 0, .int .i64 0, .int .i64 0, .int .i64 0, .int .i64 0] 38)).heap.size) (by omega))
  have k3 := k2.addFc ((Only.refl _ _).alloc _) (Kn.Own.fc (Kn.Own.new ((w3.alloc (.cells #[.slice none 0 0, .int .i64 0, .int .i64 0, .int .i64 0, .int .i64 0] 38)).alloc (.cells #[.slice none 0 0, .int .i64 0, .int .i64 0, .int .i64 0, .int .i64 0] 38)) #[.slice (some ⟨g1, 0, none⟩) 1 1, .int .i64 6, .bool false, .slice (some ⟨g1 + 1, 0, none⟩) 1 1, .int .i64 0, .bool false] 203) (M := fun k => k < ((w3.alloc (.cells #[.slice none 0 0, .int .i64 0, .int .i64 0, .int .i64 0, .int .i64 0] 38)).alloc (.cells #[.slice none 0 0, .int .i64 0, .int .i64 0, .int .i64 0, .int .i64 0] 38)).heap.size) (by omega))
  rw [hs2, hs1, ← hg1] at k3
  refine k3.impF fun g hg W hW => ?_
  rcases List.mem_cons.1 hg with rfl | hg
  ·exact Prts.of_cel (xs := [⟨⟨[kr0], 6, false⟩, (some ⟨g1, 0, none⟩, 1, 1), [(none, 0, 0)]⟩, ⟨⟨[kr0], 0, false⟩, (some ⟨g1 + 1, 0, none⟩, 1, 1), [(none, 0, 0)]⟩]) (Cel.of_own (hW _ List.mem_cons_self) (Nat.le_refl _) (by decide)) (fun y hy => by
    simp only [List.mem_cons, List.mem_nil_iff, or_false] at hy
    rcases hy with rfl | rfl
    ·exact krs_zero (hW (fun W => Kn.Own W g1 [.slice none 0 0, .int .i64 0, .int .i64 0, .int .i64 0, .int .i64 0]) (by simp))
    ·exact krs_zero (hW _ (List.mem_cons_of_mem _ List.mem_cons_self)))
  ·exact hW g (by simp only [List.mem_cons, List.mem_nil_iff, or_false] at hg ⊢; rcases hg with rfl; simp))
 clear HD
 (try rw [hg1] at HP3)
 go_wp2_with fail
 refine (laid14_any w _ p rr _ _ (⟨2, 8, 24⟩ : Cf) (⟨2, 0, 5, 9, 1⟩ : Ps) _ 2 2 _ _ HP3.out List.mem_cons_self ?hok (by decide) HC.out (by decide) (by decide) (by decide) (by decide) ⟨rfl, rfl⟩ rfl).mono ?_
 case hok =>
  intro x hx
  simp only [List.mem_cons, List.mem_nil_iff, or_false] at hx
  rcases hx with rfl | rfl
  ·exact ⟨by decide, fun y hy => by rw [List.mem_singleton.1 hy]; exact ⟨by simp [kr0], by decide, by decide, by decide, by decide⟩, by decide⟩
  ·exact ⟨by decide, fun y hy => by rw [List.mem_singleton.1 hy]; exact ⟨by simp [kr0], by decide, by decide, by decide, by decide⟩, by decide⟩
 rw [HRUN.out]
 rintro en w4 ⟨rfl, hd⟩
 have HD4 := Lib.hid (Duo.newB hd #[.int .i64 qe.s, .int .i64 qe.o, .int .i64 qe.l, .int .i64 qe.p, .int .i64 qe.m] 32 rfl)
 clear hd HP3 q0 q1 q2 q3 q4 e0 e1 e2 hs1 hs2
 go_upto_region 7 with (fail)
 generalize hz : w4.alloc (.cells #[.int .i64 qe.s, .int .i64 qe.o, .int .i64 qe.l, .int .i64 qe.p, .int .i64 qe.m] 32) = w5 at *
 generalize w4.heap.size = f7 at *
 clear hz
 obtain ⟨q0, q1, q2, q3, q4⟩ := own5 (HD4.out.box (x := (f6, [.int .i64 2, .int .i64 0, .int .i64 5, .int .i64 9, .int .i64 1])) (by simp))
 go_wp2_with fail
 refine (duo_chnew HD4.out gb (⟨2, 0, 5, 9, 1⟩ : Ps)).mono ?_
 rintro en w6 ⟨C, rfl, hd⟩
 have HD6 := Lib.hid hd
 clear hd HD4 q0 q1 q2 q3 q4
 obtain ⟨q0, q1, q2, q3, q4⟩ := own5 (HD6.out.box (x := (f6, [.int .i64 2, .int .i64 0, .int .i64 5, .int .i64 9, .int .i64 1])) (by simp))
 go_wp2_with fail
 refine (chain_new_none w6 gb (⟨2, 0, 5, 9, 1⟩ : Ps)).mono ?_
 rintro en w7 ⟨rfl, hO⟩
 have HD7 := Lib.hid (HD6.out.keep0 hO)
 clear hO HD6 q0 q1 q2 q3 q4
 go_wp2_with fail
 refine (duo_chend HD7.out List.mem_cons_self).mono ?_
 rintro en w8 ⟨rfl, hO⟩
 have HD8 := Lib.hid (((HD7.out.keep0 hO).newB #[.int .i64 2, .int .i64 0, .int .i64 5, .int .i64 9, .int .i64 1] 32 rfl).lswap)
 clear hO HD7
 go_upto_region 11 with (fail)
 generalize hz : w8.alloc (.cells #[.int .i64 2, .int .i64 0, .int .i64 5, .int .i64 9, .int .i64 1] 32) = w8b at *
 generalize w8.heap.size = f10 at *
 clear hz
 go_wp2_with fail
 refine (duo_walk14 (cf := (⟨2, 8, 24⟩ : Cf)) HD8.out (List.mem_cons_of_mem _ List.mem_cons_self) HC.out 9 (by rw [HCH.out]; simp) (by decide)).mono ?_
 rw [HCH.out]
 rintro en w9 ⟨xs, A1, k1, fs1, rfl, hx1, hf1, hd⟩
 have hxl : xs.length = 3 := by have h := congrArg List.length hx1; simpa using h
 have HD9 := Lib.hid hd
 obtain ⟨g, rfl, hcel⟩ := (cells_owns (hd.gi 0 rfl)).2.2 (by rw [hxl]; decide)
 obtain ⟨y1, y2, y3, rfl⟩ : ∃ y1 y2 y3, xs = [y1, y2, y3] := by
  match xs, hxl with
  | [a, b, c], _ => exact ⟨a, b, c, rfl⟩
 have hy3 : y3.p = x3.1 := by
  simp only [List.map_cons, List.map_nil, List.cons.injEq] at hx1
  rw [← hx1.2.2.1]
  rfl
 simp only [List.length_cons, List.length_nil] at HD9 ⊢
 have HP : Hid (∀ (W : World) (F' : List (World → Prop)), Duo w W p rr de de ⟨(C, CB p.D gb (⟨2, 0, 5, 9, 1⟩ : Ps) qe 0) :: (f10, [.int .i64 2, .int .i64 0, .int .i64 5, .int .i64 9, .int .i64 1]) :: (f7, [.int .i64 qe.s, .int .i64 qe.o, .int .i64 qe.l, .int .i64 qe.p, .int .i64 qe.m]) :: (f6, [.int .i64 2, .int .i64 0, .int .i64 5, .int .i64 9, .int .i64 1]) :: (f1, [.int .i64 2, .int .i64 8, .int .i64 24]) :: [], [⟨118, 10, .slice (some ⟨g, 0, none⟩) 3 k1, 3, rfndV [y1, y2, y3]⟩], F'⟩ → (fun w' => Kn.Own w' f10 [.int .i64 2, .int .i64 0, .int .i64 5, .int .i64 9, .int .i64 1] ∧ Kn.Own w' f6 [.int .i64 2, .int .i64 0, .int .i64 5, .int .i64 9, .int .i64 1] ∧ Kn.Own w' f7 [.int .i64 qe.s, .int .i64 qe.o, .int .i64 qe.l, .int .i64 qe.p, .int .i64 qe.m] ∧ w'.cell? ⟨g, 20, none⟩ = some (.int .i64 6) ∧ w'.cell? ⟨g, 21, none⟩ = some (.int .i64 1)) W) := Lib.hid (fun W F' hW => by
  obtain ⟨g', hg', hc'⟩ := (cells_owns (hW.gi 0 rfl)).2.2 (by decide)
  injection hg' with hg'
  injection hg' with hg'
  subst hg'
  have h20 := hc' 20 (.int .i64 y3.p.s) rfl
  have h21 := hc' 21 (.int .i64 y3.p.o) rfl
  rw [hy3, HX3.out] at h20
  rw [hy3, HX3O.out] at h21
  exact ⟨hW.box (x := (f10, [.int .i64 2, .int .i64 0, .int .i64 5, .int .i64 9, .int .i64 1])) (by simp), hW.box (x := (f6, [.int .i64 2, .int .i64 0, .int .i64 5, .int .i64 9, .int .i64 1])) (by simp), hW.box (x := (f7, [.int .i64 qe.s, .int .i64 qe.o, .int .i64 qe.l, .int .i64 qe.p, .int .i64 qe.m])) (by simp), h20, h21⟩)
 clear hd HD8 hcel hxl hx1 hf1 hy3
 have hn3 : (2 : Nat) < 3 := by decide
 go_wp2_with fail
 have HY := Lib.hid HD9.out.drew
 clear HD9
 refine wp_region_held_drew (S := (fun w' => Kn.Own w' f10 [.int .i64 2, .int .i64 0, .int .i64 5, .int .i64 9, .int .i64 1] ∧ Kn.Own w' f6 [.int .i64 2, .int .i64 0, .int .i64 5, .int .i64 9, .int .i64 1] ∧ Kn.Own w' f7 [.int .i64 qe.s, .int .i64 qe.o, .int .i64 qe.l, .int .i64 qe.p, .int .i64 qe.m] ∧ w'.cell? ⟨g, 20, none⟩ = some (.int .i64 6) ∧ w'.cell? ⟨g, 21, none⟩ = some (.int .i64 1))) (by kernel_rfl) (HP.out _ _ HY.out) (fun hSw0 => ?_)
 generalize w9.drew = wz at *
 refine Kn.takeS 0 ⟨some 59, _, _, _, _, _⟩ (v := (.agg #[.int .i64 2, .int .i64 0, .int .i64 5, .int .i64 9, .int .i64 1])) (hy := fun w hSw => by
  have q0 := hSw.1
  obtain ⟨q00, q01, q02, q03, q04⟩ := Kn.own5 q0
  clear q0
  go_simp) ?_
 refine Kn.takeS 1 ⟨some 60, _, _, _, _, _⟩ (v := (.agg #[.int .i64 2, .int .i64 0, .int .i64 5, .int .i64 9, .int .i64 1])) (hy := fun w hSw => by
  have q0 := hSw.2.1
  obtain ⟨q00, q01, q02, q03, q04⟩ := Kn.own5 q0
  clear q0
  go_simp) ?_
 refine Kn.takeS 2 ⟨some 61, _, _, _, _, _⟩ ?_
 refine Kn.takeS 3 ⟨some 62, _, _, _, _, _⟩ ?_
 refine Kn.takeS 4 ⟨some 63, _, _, _, _, _⟩ ?_
 refine Kn.takeS 5 ⟨some 64, _, _, _, _, _⟩ ?_
 refine Kn.takeS 6 ⟨some 65, _, _, _, _, _⟩ ?_
 refine Kn.takeS 7 ⟨some 66, _, _, _, _, _⟩ ?_
 refine Kn.takeS 8 ⟨some 67, _, _, _, _, _⟩ ?_
 refine Kn.takeS 9 ⟨some 68, _, _, _, _, _⟩ ?_
 refine Kn.takeS 10 ⟨some 69, _, _, _, _, _⟩ ?_
 refine Kn.takeS 11 ⟨some 70, _, _, _, _, _⟩ ?_
 refine Kn.takeS 12 ⟨some 71, _, _, _, _, _⟩ ?_
 refine Kn.takeS 13 ⟨some 72, _, _, _, _, _⟩ (v := (.int .i64 6)) (hy := fun w hSw => by
  have q0 := hSw.2.2.2.1
  go_simp) ?_
 refine Kn.takeS 14 ⟨some 73, _, _, _, _, _⟩ ?_
 refine Kn.takeS 15 ⟨some 74, _, _, _, _, _⟩ ?_
 refine Kn.takeS 16 ⟨some 75, _, _, _, _, _⟩ ?_
 refine Kn.takeS 17 ⟨some 76, _, _, _, _, _⟩ ?_
 refine Kn.takeS 18 ⟨some 77, _, _, _, _, _⟩ ?_
 refine Kn.takeS 19 ⟨some 78, _, _, _, _, _⟩ ?_
 refine Kn.takeS 20 ⟨some 79, _, _, _, _, _⟩ ?_
 refine Kn.takeS 21 ⟨some 80, _, _, _, _, _⟩ (v := (.int .i64 1)) (hy := fun w hSw => by
  have q0 := hSw.2.2.2.2
  go_simp) ?_
 refine Kn.takeS 22 ⟨some 81, _, _, _, _, _⟩ ?_
 refine Kn.takeS 23 ⟨some 82, _, _, _, _, _⟩ ?_
 refine Kn.takeS 24 ⟨some 83, _, _, _, _, _⟩ ?_
 refine Kn.takeS 25 ⟨some 84, _, _, _, _, _⟩ ?_
 refine Kn.takeS 27 ⟨some 86, _, _, _, _, _⟩ (v := (.agg #[.int .i64 qe.s, .int .i64 qe.o, .int .i64 qe.l, .int .i64 qe.p, .int .i64 qe.m])) (hy := fun w hSw => by
  have q0 := hSw.2.2.1
  obtain ⟨q00, q01, q02, q03, q04⟩ := Kn.own5 q0
  clear q0
  go_simp) ?_
 refine Kn.takeR 26 ⟨some 85, _, _, _, _, _⟩ fun K hK => ?_
 go_simp
 refine (duo_chend HY.out List.mem_cons_self).mono ?_
 rintro en wa ⟨rfl, hO⟩
 have HY1 := Lib.hid (HY.out.keep0 hO)
 clear hO HY
 refine hK.out _ _ (HP.out _ _ HY1.out) (fun hSn => ?_)
 clear hK K hSw0
 have hSw0 := hSn
 clear hSn
 refine Kn.takeS 28 ⟨some 87, _, _, _, _, _⟩ ?_
 refine Kn.takeS 29 ⟨some 88, _, _, _, _, _⟩ ?_
 refine Kn.takeS 30 ⟨some 89, _, _, _, _, _⟩ ?_
 refine Kn.takeS 31 ⟨some 90, _, _, _, _, _⟩ ?_
 refine Kn.takeR 32 ⟨some 91, _, _, _, _, _⟩ fun K hK => ?_
 go_simp
 refine (duo_cherr HY1.out List.mem_cons_self).mono ?_
 rintro en wb ⟨rfl, rfl⟩
 refine hK.out _ _ (HP.out _ _ HY1.out) (fun hSn => ?_)
 clear hK K hSw0
 have hSw0 := hSn
 clear hSn
 refine Kn.takeS 33 ⟨some 92, _, _, _, _, _⟩ ?_
 refine Kn.takeS 34 ⟨some 93, _, _, _, _, _⟩ ?_
 refine Kn.takeS 35 ⟨some 94, _, _, _, _, _⟩ ?_
 refine Kn.takeS 36 ⟨some 95, _, _, _, _, _⟩ ?_
 refine Kn.takeR 37 ⟨some 96, _, _, _, _, _⟩ fun K hK => ?_
 go_simp
 refine (chain_err_none _).mono ?_
 rintro en wc ⟨rfl, rfl⟩
 refine hK.out _ _ (HP.out _ _ HY1.out) (fun hSn => ?_)
 clear hK K hSw0
 have hSw0 := hSn
 clear hSn
 refine Kn.takeS 38 ⟨some 97, _, _, _, _, _⟩ ?_
 refine Kn.takeS 39 ⟨some 98, _, _, _, _, _⟩ ?_
 refine Kn.takeS 40 ⟨some 99, _, _, _, _, _⟩ ?_
 refine Kn.takeS 41 ⟨some 100, _, _, _, _, _⟩ ?_
 refine Kn.takeR 42 ⟨some 101, _, _, _, _, _⟩ fun K hK => ?_
 go_simp
 refine (duo_walk14_nil HY1.out 3 (by decide)).mono ?_
 rintro en wd ⟨rfl, hd⟩
 have HY2 := Lib.hid hd
 clear hd HY1
 refine hK.out _ _ (HP.out _ _ HY2.out) (fun hSn => ?_)
 clear hK K hSw0
 have hSw0 := hSn
 clear hSn
 refine Kn.takeS 43 ⟨some 102, _, _, _, _, _⟩ ?_
 refine Kn.takeS 44 ⟨some 103, _, _, _, _, _⟩ ?_
 refine Kn.takeS 45 ⟨some 104, _, _, _, _, _⟩ ?_
 refine Kn.takeS 46 ⟨some 0, _, _, _, _, _⟩ ?_
 refine wpAnyH_done (by kernel_rfl) ?_ _
 clear hSw0
 go_wp2
 (try simp only [Exit.inBlock, Exit.then])
 refine bodyPost_ret (v := .bool true) (by kernel_rfl) rfl ⟨rfl, HY2.out.only⟩
end Go.Proofs.YtgcfdjcpcclcjaaGreat
namespace Go.Kn
open Go Go.RowKit
theorem rfnd_cell {w : World} {b t n c : Nat} {A : Option Addr} {xs : List Fnd} (h : w.ownsRow b t 10 (.slice A n c) n (Go.Proofs.YtgcfdjcpcclcjaaGreat.rfndV xs)) {i : Nat} (hi : i < xs.length) (hn : xs.length = n) : ∃ g, A = some ⟨g, 0, none⟩ ∧ ∀ j u, (Go.Proofs.YtgcfdjcpcclcjaaGreat.rfnd xs[i])[j]? = some u → w.cell? ⟨g, i * 10 + j, none⟩ = some u := by
 obtain ⟨_, _, h3⟩ := cells_owns h
 obtain ⟨g, e, hc⟩ := h3 (by omega)
 refine ⟨g, e, fun j u hj => hc _ _ ?_⟩
 have hj2 : j < 10 := by
  have := (List.getElem?_eq_some_iff.1 hj).1
  simpa [Go.Proofs.YtgcfdjcpcclcjaaGreat.rfnd, Rc.cells] using this
 exact (flatMap_get Go.Proofs.YtgcfdjcpcclcjaaGreat.rfnd 10 (fun x => rfl) xs i j hi hj2).trans hj
end Go.Kn
namespace Go.Proofs.YtgcfdjcpcclcjaaGreat
open Go Go.RowKit Go.Kn
set_option maxRecDepth 100000 in
set_option maxHeartbeats 16000000 in
theorem long14_any (g0 n0 e0 : Int) (w : World) (hg : (Lit.int .i64 g0).wf = true) (hn : (Lit.int .i64 n0).wf = true) (he : (Lit.int .i64 e0).wf = true) :
  Calls Tryz.prog 8 #[.int .i64 g0, .int .i64 n0, .int .i64 e0] w fun en w' => en = .returned (.bool true) ∧ Only [] w w' := by
 obtain ⟨s0, hs0⟩ : ∃ x, g0 % 8 = x := ⟨_, rfl⟩
 have hs1 : 0 ≤ s0 ∧ s0 ≤ 7 := by omega
 obtain ⟨k, hk⟩ : ∃ k : Nat, 1 + n0 % 40 = (k : Int) := ⟨(1 + n0 % 40).toNat, by omega⟩
 obtain ⟨e, hee⟩ : ∃ k : Nat, 6 + e0 % 10 = (k : Int) := ⟨(6 + e0 % 10).toNat, by omega⟩
 have hk2 : 1 ≤ k ∧ k ≤ 40 := by omega
 have he2 : 6 ≤ e ∧ e ≤ 15 := by omega
 obtain ⟨l, qe, de, Y, hrun, hrl, hlen, hl46, hch, hqs, hql⟩ := ring_told (s0 := s0) (l0 := 3) (p0 := 8) (m0 := 2) hs1 (by decide) (by decide) (by decide) hk2 (e := e) ⟨he2.1, by omega⟩
 obtain ⟨t, ht⟩ : ∃ t, t = (k - 1) / e := ⟨_, rfl⟩
 rw [← ht] at hlen hqs hql
 obtain ⟨N, hN⟩ : ∃ N, l.length = N := ⟨_, rfl⟩
 have htd : ((k : Int) - 1).tdiv (e : Int) = (t : Int) := by
  rw [ht, show (k : Int) - 1 = ((k - 1 : Nat) : Int) from by omega]
  exact (Int.ofNat_tdiv (k - 1) e).symm
 have ht6 : t ≤ 39 := by
  have : (k - 1) / e ≤ k - 1 := Nat.div_le_self _ _
  omega
 have hnum := hrl.run.nums.2
 have hwk : IntKind.i64.wrap (1 + n0 % 40) = (k : Int) := by rw [hk]; exact IntWalk.i64_in _ (by omega)
 have hwe : IntKind.i64.wrap (6 + e0 % 10) = (e : Int) := by rw [hee]; exact IntWalk.i64_in _ (by omega)
 have hw1 := IntWalk.i64_in ((k : Int) - 1) (by omega)
 have hwt := IntWalk.i64_in (t : Int) (by omega)
 have hwN : IntKind.i64.wrap ((k : Int) + (t : Int)) = (N : Int) := by rw [show (k : Int) + (t : Int) = (N : Int) from by omega]; exact IntWalk.i64_in _ (by omega)
 have hwa := IntWalk.i64_in (3 + (k : Int)) (by omega)
 have hwb := IntWalk.i64_in (3 + (k : Int) + (t : Int)) (by omega)
 have hws := IntWalk.i64_in (s0 + (t : Int)) (by omega)
 have HREM : Hid ((s0 + (t : Int)).tmod 8 = qe.s) := Lib.hid (by rw [hqs, Int.tmod_eq_emod_of_nonneg (by omega)])
 have HLQ : Hid (qe.l = 3 + (k : Int) + (t : Int)) := Lib.hid hql
 have HS0 := Lib.hid hs0
 have HRUN := Lib.hid hrun
 have HCH := Lib.hid hch
 have HN := Lib.hid hN
 have HNUM : Hid (∀ i (x : Ps × Rc), l[i]? = some x → x.1.l = 3 + (i : Nat) ∧ x.2.n = 3 + (i : Nat) ∧ x.2.p = x.1.p) := Lib.hid hnum
 have HMAY : Hid (headMay (⟨s0, 0, 3, 8, 2⟩ : Ps).head = true) := Lib.hid (head_may ⟨hs1.1, by omega⟩ (by decide) (by decide) (by decide))
 have HSB : Hid (s0 ≤ c38.s - 1) := Lib.hid (by show s0 ≤ 8 - 1; omega)
 obtain ⟨hk1, hk2⟩ := hk2
 obtain ⟨he1, he2⟩ := he2
 obtain ⟨hs1, hs2⟩ := hs1
 have hN46 : N ≤ 46 := by omega
 clear hrun hrl hlen hch hqs hql hs0 hnum hk hee ht hN
 have H1 := Lib.hid ((Wc.start w).newB #[.int .i64 3, .int .i64 8, .int .i64 24] 25 rfl)
 go_enter Tryz.func8, Tryz.ntmps8
 go_upto_region 2 with (fail)
 generalize hz : w.alloc (.cells #[.int .i64 3, .int .i64 8, .int .i64 24] 25) = w1 at *
 obtain ⟨f7, hf7⟩ : ∃ k, k = w.heap.size := ⟨_, rfl⟩
 rw [← hf7] at H1 ⊢
 clear hz hf7
 obtain ⟨e0, e1, e2⟩ := own3 (H1.out.boxi 0 rfl)
 go_wp2_with fail
 refine (desk14_any w w1 c38 ⟨[(f7, [.int .i64 3, .int .i64 8, .int .i64 24])], [], []⟩ H1.out c38ok).mono ?_
 rintro en w2 ⟨p, rr, gb, rfl, hd⟩
 have HD0 := Lib.hid hd
 clear hd H1 e0 e1 e2
 go_wp2_with fail
 refine (round_any n0 40 _ hn (by decide) (by decide)).mono ?_
 rintro en wq ⟨rfl, rfl⟩
 go_wp2_with fail
 refine (round_any e0 10 _ he (by decide) (by decide)).mono ?_
 rintro en wq ⟨rfl, rfl⟩
 go_wp2_with fail
 refine (round_any g0 8 _ hg (by decide) (by decide)).mono ?_
 rintro en wq ⟨rfl, rfl⟩
 rw [HS0.out]
 have HD := Lib.hid (Duo.newB HD0.out #[.int .i64 s0, .int .i64 0, .int .i64 3, .int .i64 8, .int .i64 2] 32 rfl)
 clear HD0
 go_upto_region 5 with (fail)
 generalize hz : w2.alloc (.cells #[.int .i64 s0, .int .i64 0, .int .i64 3, .int .i64 8, .int .i64 2] 32) = w3 at *
 generalize w2.heap.size = f14 at *
 clear hz w2 w1
 obtain ⟨q0, q1, q2, q3, q4⟩ := own5 (HD.out.boxi 0 rfl)
 obtain ⟨e0, e1, e2⟩ := own3 (HD.out.boxi 1 rfl)
 go_wp2_with fail
 refine (ring14_any w _ p rr _ _ c38 (⟨s0, 0, 3, 8, 2⟩ : Ps) k e HD.out c38ok rfl ⟨hk1, by omega⟩ ⟨by omega, by omega⟩ HMAY.out HSB.out (by show (2 : Int) ≤ 2097152; decide) (by show (3 : Int) ≤ 2097152; decide) ⟨rfl, rfl⟩ rfl).mono ?_
 rw [HRUN.out]
 rintro en w4 ⟨rfl, hd⟩
 have HD1 := Lib.hid (Duo.newB hd #[.int .i64 qe.s, .int .i64 qe.o, .int .i64 qe.l, .int .i64 qe.p, .int .i64 qe.m] 32 rfl)
 clear hd HD q0 q1 q2 q3 q4 e0 e1 e2
 go_upto_region 8 with (fail)
 generalize hz : w4.alloc (.cells #[.int .i64 qe.s, .int .i64 qe.o, .int .i64 qe.l, .int .i64 qe.p, .int .i64 qe.m] 32) = w5 at *
 generalize w4.heap.size = f15 at *
 clear hz
 obtain ⟨q0, q1, q2, q3, q4⟩ := own5 (HD1.out.boxi 1 rfl)
 go_wp2_with fail
 refine (duo_chnew HD1.out gb (⟨s0, 0, 3, 8, 2⟩ : Ps)).mono ?_
 rintro en w6 ⟨C, rfl, hd⟩
 have HD2 := Lib.hid hd
 clear hd HD1 q0 q1 q2 q3 q4
 go_wp2_with fail
 refine (duo_walk14 (cf := c38) HD2.out (by simp) c38ok 99 (by rw [HCH.out]; show l.length ≤ 99; omega) (by decide)).mono ?_
 rw [HCH.out]
 rintro en w7 ⟨xs, A, c, fs, rfl, hx, -, hd⟩
 have hxl : xs.length = N := by have h := congrArg List.length hx; simp only [List.length_map] at h; rw [h]; exact HN.out
 rw [hxl] at hd ⊢
 have HD3 := Lib.hid hd
 have HX := Lib.hid hx
 have HXL := Lib.hid hxl
 clear hd hx hxl HD2
 go_upto_region 13 with (fail)
 have HY := Lib.hid HD3.out.drew
 clear HD3
 refine wp_region_held_drew (S := (fun w' => Kn.Own w' f15 [.int .i64 qe.s, .int .i64 qe.o, .int .i64 qe.l, .int .i64 qe.p, .int .i64 qe.m])) (by kernel_rfl) (HY.out.box (x := (f15, [.int .i64 qe.s, .int .i64 qe.o, .int .i64 qe.l, .int .i64 qe.p, .int .i64 qe.m])) (by simp)) (fun hSw0 => ?_)
 generalize w7.drew = w8 at *
 refine Kn.takeS 0 ⟨some 65, _, _, _, _, _⟩ ?_
 refine Kn.takeS 1 ⟨some 66, _, _, _, _, _⟩ ?_
 refine Kn.takeS 2 ⟨some 67, _, _, _, _, _⟩ ?_
 refine Kn.takeS 3 ⟨some 68, _, _, _, _, _⟩ ?_
 refine Kn.takeS 4 ⟨some 69, _, _, _, _, _⟩ ?_
 refine Kn.takeS 5 ⟨some 70, _, _, _, _, _⟩ ?_
 refine Kn.takeS 6 ⟨some 71, _, _, _, _, _⟩ ?_
 refine Kn.takeS 7 ⟨some 72, _, _, _, _, _⟩ ?_
 refine Kn.takeS 9 ⟨some 74, _, _, _, _, _⟩ (v := (.agg #[.int .i64 qe.s, .int .i64 qe.o, .int .i64 qe.l, .int .i64 qe.p, .int .i64 qe.m])) (hy := fun w hSw => by
  have q0 := hSw
  obtain ⟨q00, q01, q02, q03, q04⟩ := Kn.own5 q0
  clear q0
  go_simp) ?_
 refine Kn.takeR 8 ⟨some 73, _, _, _, _, _⟩ fun K hK => ?_
 go_simp
 refine (duo_chend HY.out (C := C) (gb := gb) (q := (⟨s0, 0, 3, 8, 2⟩ : Ps)) (en := qe) (er := 0) (by simp)).mono ?_
 rintro en wa ⟨rfl, hO⟩
 have HY1 := Lib.hid (HY.out.keep0 hO)
 clear hO HY
 refine hK.out _ _ (HY1.out.box (x := (f15, [.int .i64 qe.s, .int .i64 qe.o, .int .i64 qe.l, .int .i64 qe.p, .int .i64 qe.m])) (by simp)) (fun hSn => ?_)
 clear hK K hSw0
 have hSw0 := hSn
 clear hSn
 refine Kn.takeS 10 ⟨some 75, _, _, _, _, _⟩ ?_
 refine Kn.takeS 11 ⟨some 76, _, _, _, _, _⟩ ?_
 refine Kn.takeS 12 ⟨some 77, _, _, _, _, _⟩ ?_
 refine Kn.takeS 13 ⟨some 78, _, _, _, _, _⟩ ?_
 refine Kn.takeR 14 ⟨some 79, _, _, _, _, _⟩ fun K hK => ?_
 go_simp
 refine (duo_cherr HY1.out (C := C) (gb := gb) (q := (⟨s0, 0, 3, 8, 2⟩ : Ps)) (en := qe) (er := 0) (by simp)).mono ?_
 rintro en wb ⟨rfl, rfl⟩
 refine hK.out _ _ (HY1.out.box (x := (f15, [.int .i64 qe.s, .int .i64 qe.o, .int .i64 qe.l, .int .i64 qe.p, .int .i64 qe.m])) (by simp)) (fun hSn => ?_)
 clear hK K hSw0
 have hSw0 := hSn
 clear hSn
 refine Kn.takeS 15 ⟨some 80, _, _, _, _, _⟩ ?_
 refine Kn.takeS 16 ⟨some 81, _, _, _, _, _⟩ ?_
 refine wpAnyH_done (by kernel_rfl) ?_ _
 clear hSw0
 go_wp2_with fail
 go_loopg [19] N (fun gr t19 wr => ∃ i : Nat, i + gr = N ∧ t19 = .int .i64 i ∧ Duo w wr p rr de de ⟨(C, CB p.D gb (⟨s0, 0, 3, 8, 2⟩ : Ps) qe 0) :: (f15, [.int .i64 qe.s, .int .i64 qe.o, .int .i64 qe.l, .int .i64 qe.p, .int .i64 qe.m]) :: (f14, [.int .i64 s0, .int .i64 0, .int .i64 3, .int .i64 8, .int .i64 2]) :: (f7, [.int .i64 3, .int .i64 8, .int .i64 24]) :: [], [⟨118, 10, .slice A N c, N, rfndV xs⟩], fs ++ ((fun W => GeoAt W gb c38.b c38.s c38.l) :: [])⟩)
 case atStart => exact ⟨0, by omega, rfl, HY1.out⟩
 clear HY1
 obtain ⟨i, hi, rfl, hd⟩ := hrel
 have HD := Lib.hid hd
 clear hd
 by_cases hlt : i < N
 ·have hxi : i < xs.length := by rw [HXL.out]; exact hlt
  obtain ⟨g, rfl, hc⟩ := rfnd_cell (HD.out.gi 0 rfl) hxi HXL.out
  have hxp : l[i]? = some xs[i].pr := by rw [← HX.out, List.getElem?_map, List.getElem?_eq_getElem hxi]; rfl
  obtain ⟨n1, n2, n3⟩ := HNUM.out i _ hxp
  have c2 : wr.cell? ⟨g, i * 10 + 2, none⟩ = some (.int .i64 (3 + (i : Int))) := hc 2 _ (by show some (Value.int .i64 xs[i].p.l) = _; rw [show xs[i].p.l = 3 + (i : Int) from n1])
  have c3 : wr.cell? ⟨g, i * 10 + 3, none⟩ = some (.int .i64 xs[i].p.p) := hc 3 _ rfl
  have c6 : wr.cell? ⟨g, i * 10 + 5 + 1, none⟩ = some (.int .i64 (3 + (i : Int))) := hc 6 _ (by show some (Value.int .i64 xs[i].r.n) = _; rw [show xs[i].r.n = 3 + (i : Int) from n2])
  have c7 : wr.cell? ⟨g, i * 10 + 5 + 2, none⟩ = some (.int .i64 xs[i].p.p) := hc 7 _ (by rw [← show xs[i].r.p = xs[i].p.p from n3]; rfl)
  have hlt2 : (i : Int) < (N : Int) := by omega
  have hw3 := IntWalk.i64_in (3 + (i : Int)) (by omega)
  clear hc hxp n1 n2 n3
  generalize xs[i].p.p = pv at *
  go_wp2_with fail
  go_quiet (fail)
  go_wp2_with fail
  go_roundg (gk - 1)
  case measure => omega
  case rel => exact ⟨i + 1, by omega, by go_num, HD.out.keep0 ((Only.refl _ _).drewN _)⟩
 ·obtain rfl : i = N := by omega
  obtain ⟨q0, q1, q2, q3, q4⟩ := own5 (HD.out.boxi 1 rfl)
  obtain ⟨r0, r1, r2, r3, r4⟩ := own5 (HD.out.boxi 2 rfl)
  have hrem := HREM.out
  have hlq := HLQ.out
  go_wp2_with fail
  refine (awake14_any _).mono ?_
  rintro en w9 ⟨rfl, hO⟩
  have HO := Lib.hid (HD.out.only.trans' hO)
  clear hO HD
  go_wp2_with fail
  refine bodyPost_ret (v := .bool true) (by kernel_rfl) rfl ⟨rfl, HO.out⟩
end Go.Proofs.YtgcfdjcpcclcjaaGreat
