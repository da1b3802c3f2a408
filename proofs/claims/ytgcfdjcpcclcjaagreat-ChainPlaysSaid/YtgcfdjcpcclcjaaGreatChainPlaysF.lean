/- ScnE, ScnF, ScnG, ScnH, ScnJ, RecH: joined by pack.py, without what the claim does not use. -/
import Derived.Test.YtgcfdjcpcclcjaaGreatChainPlaysE
set_option linter.unusedVariables false
set_option linter.unusedSimpArgs false
set_option maxHeartbeats 16000000
set_option maxRecDepth 100000
namespace Go.Kn
open Go Go.RowKit
section
variable {d : Dk} {c : Cf} {p : Ps} {a : Int} {n : Nat}
theorem follow_out (h : ¬ (1 ≤ p.o ∧ p.o ≤ c.l - 1)) : follow d c p = (none, 0) := if_neg h
theorem follow_err (h : 1 ≤ p.o ∧ p.o ≤ c.l - 1) (ha : c.at_ p.s + p.o = a) (he : d.err a ≠ 0) : follow d c p = (none, d.err a) := by
 unfold follow
 rw [if_pos h, ha, if_neg he]
theorem follow_size (h : 1 ≤ p.o ∧ p.o ≤ c.l - 1) (ha : c.at_ p.s + p.o = a) (he : d.err a = 0) (hn : sizeRc (d.read a) = n) (hs : n = 0 ∨ c.l < p.o + (n : Int)) : follow d c p = (none, 0) := by
 unfold follow
 rw [if_pos h, ha, if_pos he, hn, if_pos hs]
theorem follow_gerr (h : 1 ≤ p.o ∧ p.o ≤ c.l - 1) (ha : c.at_ p.s + p.o = a) (he : d.err a = 0) (hn : sizeRc (d.read a) = n) (hs : ¬ (n = 0 ∨ c.l < p.o + (n : Int))) (hg : gerr d a n ≠ 0) : follow d c p = (none, gerr d a n) := by
 unfold follow
 rw [if_pos h, ha, if_pos he, hn, if_neg hs, if_neg hg]
theorem follow_dec (h : 1 ≤ p.o ∧ p.o ≤ c.l - 1) (ha : c.at_ p.s + p.o = a) (he : d.err a = 0) (hn : sizeRc (d.read a) = n) (hs : ¬ (n = 0 ∨ c.l < p.o + (n : Int))) (hg : gerr d a n = 0) (hd : decRc (gat d a n) = none) : follow d c p = (none, 0) := by
 unfold follow
 rw [if_pos h, ha, if_pos he, hn, if_neg hs, if_pos hg, hd]
theorem follow_rec (h : 1 ≤ p.o ∧ p.o ≤ c.l - 1) (ha : c.at_ p.s + p.o = a) (he : d.err a = 0) (hn : sizeRc (d.read a) = n) (hs : ¬ (n = 0 ∨ c.l < p.o + (n : Int))) (hg : gerr d a n = 0) {r : Rc} {sum : Nat} (hd : decRc (gat d a n) = some (r, sum)) :
  follow d c p = if r.n = p.l ∧ r.p = p.p ∧ p.m ≤ r.m then (some (r, ⟨p.s, p.o + (n : Int), p.l + 1, (sum : Nat), r.m⟩), 0) else (none, 0) := by
 unfold follow
 rw [if_pos h, ha, if_pos he, hn, if_neg hs, if_pos hg, hd]
end
theorem sizeRc_le (b : List UInt8) : sizeRc b ≤ 7 := by
 unfold sizeRc
 split
 ·rename_i h
  have h2 := h.2
  unfold rcHd at h2
  simp only [Bool.and_eq_true, decide_eq_true_eq] at h2
  omega
 omega
end Go.Kn
namespace Go.Proofs.YtgcfdjcpcclcjaaGreat
open Go Go.RowKit Go.Kn
def OneSays (w0 wb : World) (S D gb : Nat) (p : Ps) (own : Bool) (e : Ps) (L : List (Nat × List Value)) (G : List Gs) (F : List (World → Prop)) (x : Option (Rc × Ps) × Int) (en : Ending) (w' : World) : Prop :=
 match x with
 | (none, er) => en = .returned (.tuple #[.agg #[.int .i64 0, .int .i64 0, .int .i64 0, .slice none 0 0, .slice none 0 0], .agg #[.int .i64 0, .int .i64 0, .int .i64 0, .int .i64 0, .int .i64 0], .bool false]) ∧ Wk w0 wb w' ((S, SB D gb p own e er) :: L) G F
 | (some (r, nx), _) => ∃ s t, en = .returned (.tuple #[.agg (r.cells s t), .agg #[.int .i64 nx.s, .int .i64 nx.o, .int .i64 nx.l, .int .i64 nx.p, .int .i64 nx.m], .bool true]) ∧ Wk w0 wb w' ((S, SB D gb p own e 0) :: L) G ((fun W => RcAt W r s t) :: F)
theorem OneSays.no {w0 wb w' : World} {S D gb : Nat} {p : Ps} {own : Bool} {e : Ps} {L : List (Nat × List Value)} {G : List Gs} {F : List (World → Prop)} {x : Option (Rc × Ps) × Int} {er : Int} (hx : x = (none, er)) (hw : Wk w0 wb w' ((S, SB D gb p own e er) :: L) G F) : OneSays w0 wb S D gb p own e L G F x (.returned (.tuple #[.agg #[.int .i64 0, .int .i64 0, .int .i64 0, .slice none 0 0, .slice none 0 0], .agg #[.int .i64 0, .int .i64 0, .int .i64 0, .int .i64 0, .int .i64 0], .bool false])) w' := by
 subst hx
 exact ⟨rfl, hw⟩
theorem scan_one_any {wb : World} (w0 w : World) (S gb : Nat) (pd : PD) (d : Dk) (cf : Cf) (p : Ps) (own : Bool) (e q : Ps) (L : List (Nat × List Value)) (G : List Gs) (F : List (World → Prop))
  (hw : Wk w0 wb w ((S, SB pd.D gb p own e 0) :: L) G F) (hd : DkIn pd d L) (hg : (fun W => GeoAt W gb cf.b cf.s cf.l) ∈ F) (hc : cf.Ok) (hqo : 1 ≤ q.o ∧ q.o ≤ 64) (hqs : 0 ≤ q.s ∧ q.s ≤ cf.s - 1) :
  Calls Tryz.prog 153 #[.pointer (some ⟨S, 0, none⟩), .agg #[.int .i64 q.s, .int .i64 q.o, .int .i64 q.l, .int .i64 q.p, .int .i64 q.m]] w (OneSays w0 wb S pd.D gb p own e L G F (Kn.follow d cf q)) := by
 have hres : Tryz.f153.results = #[.cell 4 56, .cell 5 32, .tmp 6] := by kernel_rfl
 have HRES := hH hres
 have HG := hH hg
 have HC := hH hc
 have HDK := hH hd
 have hat : 0 ≤ cf.at_ q.s ∧ cf.at_ q.s ≤ 100000 := by
  obtain ⟨m1, m2⟩ := Cf.prod cf hc q.s hqs.1 (by omega)
  have h1 := rln_bounds hc
  have h2 := pgs_bounds hc
  unfold Cf.at_
  rw [if_pos hqs]
  omega
 obtain ⟨ho0, ho1⟩ := hqo
 obtain ⟨hl0, hl1⟩ := hc.2.2
 have HW0 := hH ((((hw.newB #[.int .i64 q.s, .int .i64 q.o, .int .i64 q.l, .int .i64 q.p, .int .i64 q.m] 32 rfl).newB #[.int .i64 0, .int .i64 0, .int .i64 0, .slice none 0 0, .slice none 0 0] 56 rfl).newB #[.int .i64 0, .int .i64 0, .int .i64 0, .int .i64 0, .int .i64 0] 32 rfl).perm (List.perm_middle (l₁ := [_, _, _])) (List.Perm.refl _))
 clear hres hg hc hd hw
 go_enter Tryz.func153, Tryz.ntmps153
 go_wp2_with fail
 generalize hz1 : ((w.alloc (.cells #[.int .i64 q.s, .int .i64 q.o, .int .i64 q.l, .int .i64 q.p, .int .i64 q.m] 32)).alloc (.cells #[.int .i64 0, .int .i64 0, .int .i64 0, .slice none 0 0, .slice none 0 0] 56)).alloc (.cells #[.int .i64 0, .int .i64 0, .int .i64 0, .int .i64 0, .int .i64 0] 32) = w1 at *
 have hs1 : (w.alloc (.cells #[.int .i64 q.s, .int .i64 q.o, .int .i64 q.l, .int .i64 q.p, .int .i64 q.m] 32)).heap.size = w.heap.size + 1 := by simp
 have hs2 : ((w.alloc (.cells #[.int .i64 q.s, .int .i64 q.o, .int .i64 q.l, .int .i64 q.p, .int .i64 q.m] 32)).alloc (.cells #[.int .i64 0, .int .i64 0, .int .i64 0, .slice none 0 0, .slice none 0 0] 56)).heap.size = w.heap.size + 1 + 1 := by simp
 rw [hs1, hs2] at HW0
 clear hz1 hs1 hs2
 generalize w.heap.size = fq at *
 generalize fq + 1 = fr at *
 generalize fr + 1 = fn at *
 have HW1 : Hid (Wk w0 wb w1 ((S, SB pd.D gb p own e 0) :: (fn, [.int .i64 0, .int .i64 0, .int .i64 0, .int .i64 0, .int .i64 0]) :: (fr, [.int .i64 0, .int .i64 0, .int .i64 0, .slice none 0 0, .slice none 0 0]) :: (fq, [.int .i64 q.s, .int .i64 q.o, .int .i64 q.l, .int .i64 q.p, .int .i64 q.m]) :: L) G F) := hH HW0.out
 clear HW0
 have hfl := field_cfg2 cf.b cf.s cf.l
 have hw3 := IntWalk.i64_in (cf.at_ q.s + q.o) (by omega)
 obtain ⟨a, ha⟩ : ∃ a, cf.at_ q.s + q.o = a := ⟨_, rfl⟩
 have hab : 0 ≤ a ∧ a ≤ 200000 := by omega
 have HA := hH ha
 obtain ⟨ha0, ha1⟩ := hab
 obtain ⟨sa, hsa⟩ : ∃ z, cf.at_ q.s = z := ⟨_, rfl⟩
 have HSA := hH hsa
 rw [hsa] at hw3 hat ha
 have hw4 : IntKind.i64.wrap (sa + q.o) = a := by rw [hw3, ha]
 obtain ⟨hat0, hat1⟩ := hat
 clear ha hsa hw3
 go_wp2_with fail
 have HY := hH HW1.out.drew
 clear HW1
 refine wp_region_held_drew (S := (fun w' => Kn.Own w' fq [.int .i64 q.s, .int .i64 q.o, .int .i64 q.l, .int .i64 q.p, .int .i64 q.m] ∧ w'.cell? ⟨S, 1, none⟩ = some (.pointer (some ⟨gb, 0, none⟩)))) (by kernel_rfl) ⟨HY.out.boxi 3 rfl, by simpa [SB] using (HY.out.boxi 0 (p := S) rfl).cell 1 (by simp [SB])⟩ (fun hSw0 => ?_)
 generalize w1.drew = wz at *
 refine tS 0 15 ?_
 refine tS 1 16 (v := (.int .i64 q.o)) (hy := fun w hSw => by
  have q0 := hSw.1.cell 1 (by simp)
  simp only [g0, gs] at q0
  go_simp) ?_
 refine tS 2 17 ?_
 refine tS 3 18 ?_
 refine tS 4 19 ?_
 refine tS 5 20 ?_
 refine tR 6 21 fun K hK => ?_
 go_simp
 refine (geom_config_any gb cf.b cf.s cf.l _ (HY.out.fact (fun W => GeoAt W gb cf.b cf.s cf.l) HG.out)).mono ?_
 rintro en w2 ⟨rfl, hO⟩
 have HW2 := hH (HY.out.keep0 hO)
 clear hO HY
 refine hK.out _ _ ⟨HW2.out.boxi 3 rfl, by simpa [SB] using (HW2.out.boxi 0 (p := S) rfl).cell 1 (by simp [SB])⟩ (fun hSn => ?_)
 clear hK K hSw0
 have hSw0 := hSn
 clear hSn
 refine tS 7 22 ?_
 refine tS 8 23 ?_
 refine tD ?_ _
 clear hSw0
 by_cases hfar : cf.l ≤ q.o
 ·have hfar2 : q.o ≥ cf.l := hfar
  go_wp2_with fail
  have HY := hH HW2.out.drew
  clear HW2
  refine wp_region_held_drew (S := (fun w' => Kn.Own w' fr [.int .i64 0, .int .i64 0, .int .i64 0, .slice none 0 0, .slice none 0 0] ∧ Kn.Own w' fn [.int .i64 0, .int .i64 0, .int .i64 0, .int .i64 0, .int .i64 0])) (by kernel_rfl) ⟨HY.out.boxi 2 rfl, HY.out.boxi 1 rfl⟩ (fun hSw0 => ?_)
  generalize w2.drew = wz at *
  refine tS 0 24 (v := (.agg #[.int .i64 0, .int .i64 0, .int .i64 0, .slice none 0 0, .slice none 0 0])) (hy := fun w hSw => by
   have q0 := hSw.1
   obtain ⟨q00, q01, q02, q03, q04⟩ := Kn.own5 q0
   clear q0
   go_simp) ?_
  refine tS 1 25 (v := (.agg #[.int .i64 0, .int .i64 0, .int .i64 0, .int .i64 0, .int .i64 0])) (hy := fun w hSw => by
   have q0 := hSw.2
   obtain ⟨q00, q01, q02, q03, q04⟩ := Kn.own5 q0
   clear q0
   go_simp) ?_
  refine Kn.takeR 2 ⟨none, _, _, _, _, _⟩ fun K hK => ?_
  refine step_store_own rfl 56 (.tmp 4) (.tmp 24) rfl fr [.int .i64 0, .int .i64 0, .int .i64 0, .slice none 0 0, .slice none 0 0] [.int .i64 0, .int .i64 0, .int .i64 0, .slice none 0 0, .slice none 0 0] (by kernel_rfl) rfl rfl (HY.out.boxi 2 rfl) rfl (by intro u hu; simp at hu; rcases hu with rfl | rfl <;> rfl) ?_
  intro wa ho hO
  have HY1 := hH (HY.out.call1 2 rfl ho hO)
  clear ho hO HY
  refine hK.out _ _ ⟨HY1.out.boxi 2 rfl, HY1.out.boxi 1 rfl⟩ (fun hSn => ?_)
  clear hK K hSw0
  have hSw0 := hSn
  clear hSn
  refine Kn.takeR 3 ⟨none, _, _, _, _, _⟩ fun K hK => ?_
  refine step_store_own rfl 32 (.tmp 5) (.tmp 25) rfl fn [.int .i64 0, .int .i64 0, .int .i64 0, .int .i64 0, .int .i64 0] [.int .i64 0, .int .i64 0, .int .i64 0, .int .i64 0, .int .i64 0] (by kernel_rfl) rfl rfl (HY1.out.boxi 1 rfl) rfl (by intro u hu; simp at hu; subst hu; rfl) ?_
  intro wy ho hO
  have HY2 := hH (HY1.out.call1 1 rfl ho hO)
  clear ho hO HY1
  refine hK.out _ _ ⟨HY2.out.boxi 2 rfl, HY2.out.boxi 1 rfl⟩ (fun hSn => ?_)
  clear hK K hSw0
  have hSw0 := hSn
  clear hSn
  refine tS 4 6 ?_
  refine tD ?_ _
  clear hSw0
  have HFOL := hH (follow_out (d := d) (c := cf) (p := q) (by omega))
  have br := HY2.out.boxi 2 rfl
  have bn := HY2.out.boxi 1 rfl
  obtain ⟨r0, r1, r2, r3, r4⟩ := Kn.own5 br
  obtain ⟨n0, n1, n2, n3, n4⟩ := Kn.own5 bn
  clear br bn
  go_wp2
  (try simp only [Exit.inBlock, Exit.then])
  refine bodyPost_ret (v := .tuple #[.agg #[.int .i64 0, .int .i64 0, .int .i64 0, .slice none 0 0, .slice none 0 0], .agg #[.int .i64 0, .int .i64 0, .int .i64 0, .int .i64 0, .int .i64 0], .bool false]) ?_ rfl ?_
  ·simp only [results, HRES.out]
   go_simp
  have HYs : Wk w0 wb wy ((S, SB pd.D gb p own e 0) :: (fn, [.int .i64 0, .int .i64 0, .int .i64 0, .int .i64 0, .int .i64 0]) :: (fr, [.int .i64 0, .int .i64 0, .int .i64 0, .slice none 0 0, .slice none 0 0]) :: (fq, [.int .i64 q.s, .int .i64 q.o, .int .i64 q.l, .int .i64 q.p, .int .i64 q.m]) :: L) G F := HY2.out
  exact OneSays.no HFOL.out ((HYs.sub (L' := (S, SB pd.D gb p own e 0) :: L) (F' := F) (.cons_cons _ (.cons _ (.cons _ (.cons _ (List.Sublist.refl _))))) (fun f hf => hf)).subG (G' := G) (by simp))
 go_wp2_with fail
 have HY := hH HW2.out.drew
 clear HW2
 refine wp_region_held_drew (S := (fun w' => Kn.Own w' fq [.int .i64 q.s, .int .i64 q.o, .int .i64 q.l, .int .i64 q.p, .int .i64 q.m] ∧ w'.cell? ⟨S, 1, none⟩ = some (.pointer (some ⟨gb, 0, none⟩)))) (by kernel_rfl) ⟨HY.out.boxi 3 rfl, by simpa [SB] using (HY.out.boxi 0 (p := S) rfl).cell 1 (by simp [SB])⟩ (fun hSw0 => ?_)
 generalize w2.drew = wz at *
 refine tS 0 26 ?_
 refine tS 1 27 ?_
 refine tS 2 28 ?_
 refine tS 3 29 ?_
 refine tS 4 30 ?_
 refine tS 5 31 (v := (.int .i64 q.s)) (hy := fun w hSw => by
  have q0 := Kn.own1 hSw.1
  go_simp) ?_
 refine tS 7 33 ?_
 refine tS 8 34 (v := (.int .i64 q.o)) (hy := fun w hSw => by
  have q0 := hSw.1.cell 1 (by simp)
  simp only [g0, gs] at q0
  go_simp) ?_
 refine tR 6 32 fun K hK => ?_
 go_simp
 refine (geom_seg_any gb cf q.s _ (HY.out.fact (fun W => GeoAt W gb cf.b cf.s cf.l) HG.out) HC.out).mono ?_
 rintro en w3 ⟨rfl, hO⟩
 rw [HSA.out]
 have HW3 := hH (HY.out.keep0 hO)
 clear hO HY
 refine hK.out _ _ ⟨HW3.out.boxi 3 rfl, by simpa [SB] using (HW3.out.boxi 0 (p := S) rfl).cell 1 (by simp [SB])⟩ (fun hSn => ?_)
 clear hK K hSw0
 have hSw0 := hSn
 clear hSn
 refine tS 9 35 ?_
 refine tS 10 7 ?_
 refine tD ?_ _
 clear hSw0
 go_wp2_with fail
 refine (scan_read_own w0 _ S gb pd d p own e 0 _ G F a HW3.out (HDK.out.mono (fun x hx => by simp [hx]))).mono ?_
 rintro en w4 ⟨A, n, cc, rfl, hrd⟩
 have HW4 := hH hrd
 clear hrd HW3
 have hbo := (Row1.of_owns (HW4.out.gi 0 rfl)).1
 have hnl := hbo.len
 rw [bvs_length] at hnl
 have hn64 : n ≤ 65536 := by rw [← hnl, Dk.read_len HDK.out.ok]; split <;> omega
 have HBO := hH hbo
 have HNL := hH hnl
 obtain ⟨z, hz⟩ : ∃ z, d.err a = z := ⟨_, rfl⟩
 rw [hz] at HW4 ⊢
 have HZ := hH hz
 clear hbo hnl hz
 go_wp2_with fail
 refine (rec_size_any A n cc _ _ HBO.out hn64).mono ?_
 rintro en w5 ⟨rfl, hO⟩
 have HW5 := hH (HW4.out.keep0 hO)
 clear hO HW4 HBO
 obtain ⟨N, hN⟩ : ∃ N, sizeRc (d.read a) = N := ⟨_, rfl⟩
 have hN7 : N ≤ 7 := by rw [← hN]; exact sizeRc_le _
 rw [hN]
 have HN := hH hN
 clear hN
 go_wp2_with fail
 have HQ6 := hH HW5.out.drew
 clear HW5
 refine wp_region_held_drew (S := (fun w' => Kn.Own w' fq [.int .i64 q.s, .int .i64 q.o, .int .i64 q.l, .int .i64 q.p, .int .i64 q.m] ∧ w'.cell? ⟨S, 1, none⟩ = some (.pointer (some ⟨gb, 0, none⟩)))) (by kernel_rfl) ⟨HQ6.out.boxi 3 rfl, by simpa [SB] using (HQ6.out.boxi 0 (p := S) rfl).cell 1 (by simp [SB])⟩ (fun hSw7 => ?_)
 generalize w5.drew = v7 at *
 by_cases hz0 : z = 0
 ·subst hz0
  by_cases hN0 : N = 0
  ·subst hN0
   refine tS 0 44 (hy := fun w hSw => by
    (try dsimp only at hSw); have q0 := hSw.1.cell 1 (by simp); have q2 := hSw.2; simp only [g0, gs] at q0
    go_simp
    all_goals (try with_reducible rfl)) ?_
   refine tS 1 45 (hy := fun w hSw => by
    (try dsimp only at hSw); have q0 := hSw.1.cell 1 (by simp); have q2 := hSw.2; simp only [g0, gs] at q0
    go_simp
    all_goals (try with_reducible rfl)) ?_
   refine tS 2 46 (hy := fun w hSw => by
    (try dsimp only at hSw); have q0 := hSw.1.cell 1 (by simp); have q2 := hSw.2; simp only [g0, gs] at q0
    go_simp
    all_goals (try with_reducible rfl)) ?_
   refine tS 3 47 (hy := fun w hSw => by
    (try dsimp only at hSw); have q0 := hSw.1.cell 1 (by simp); have q2 := hSw.2; simp only [g0, gs] at q0
    go_simp
    all_goals (try with_reducible rfl)) ?_
   refine tS 4 48 (hy := fun w hSw => by
    (try dsimp only at hSw); have q0 := hSw.1.cell 1 (by simp); have q2 := hSw.2; simp only [g0, gs] at q0
    go_simp
    all_goals (try with_reducible rfl)) ?_
   refine tS 5 49 (hy := fun w hSw => by
    (try dsimp only at hSw); have q0 := hSw.1.cell 1 (by simp); have q2 := hSw.2; simp only [g0, gs] at q0
    go_simp
    all_goals (try with_reducible rfl)) ?_
   refine tS 6 50 (hy := fun w hSw => by
    (try dsimp only at hSw); have q0 := hSw.1.cell 1 (by simp); have q2 := hSw.2; simp only [g0, gs] at q0
    go_simp
    all_goals (try with_reducible rfl)) ?_
   refine tN 7 51 ?_
   refine tN 8 52 ?_
   refine tN 9 53 ?_
   refine tN 10 54 ?_
   refine tN 11 55 ?_
   refine tN 12 56 ?_
   refine tN 13 57 ?_
   refine tN 14 58 ?_
   refine tN 15 59 ?_
   refine tN 16 60 ?_
   refine tN 17 61 ?_
   refine tS 18 62 (hy := fun w hSw => by
    (try dsimp only at hSw); have q0 := hSw.1.cell 1 (by simp); have q2 := hSw.2; simp only [g0, gs] at q0
    go_simp
    all_goals (try with_reducible rfl)) ?_
   refine tD ?_ _
   clear hSw7
   go_wp2_with fail
   have HY := hH HQ6.out.drew
   clear HQ6
   refine wp_region_held_drew (S := (fun w' => Kn.Own w' fr [.int .i64 0, .int .i64 0, .int .i64 0, .slice none 0 0, .slice none 0 0] ∧ Kn.Own w' fn [.int .i64 0, .int .i64 0, .int .i64 0, .int .i64 0, .int .i64 0])) (by kernel_rfl) ⟨HY.out.boxi 2 rfl, HY.out.boxi 1 rfl⟩ (fun hSw0 => ?_)
   generalize v7.drew = wz at *
   refine tS 0 63 (v := (.agg #[.int .i64 0, .int .i64 0, .int .i64 0, .slice none 0 0, .slice none 0 0])) (hy := fun w hSw => by
    have q0 := hSw.1
    obtain ⟨q00, q01, q02, q03, q04⟩ := Kn.own5 q0
    clear q0
    go_simp) ?_
   refine tS 1 64 (v := (.agg #[.int .i64 0, .int .i64 0, .int .i64 0, .int .i64 0, .int .i64 0])) (hy := fun w hSw => by
    have q0 := hSw.2
    obtain ⟨q00, q01, q02, q03, q04⟩ := Kn.own5 q0
    clear q0
    go_simp) ?_
   refine Kn.takeR 2 ⟨none, _, _, _, _, _⟩ fun K hK => ?_
   refine step_store_own rfl 56 (.tmp 4) (.tmp 63) rfl fr [.int .i64 0, .int .i64 0, .int .i64 0, .slice none 0 0, .slice none 0 0] [.int .i64 0, .int .i64 0, .int .i64 0, .slice none 0 0, .slice none 0 0] (by kernel_rfl) rfl rfl (HY.out.boxi 2 rfl) rfl (by intro u hu; simp at hu; rcases hu with rfl | rfl <;> rfl) ?_
   intro wa ho hO
   have HY1 := hH (HY.out.call1 2 rfl ho hO)
   clear ho hO HY
   refine hK.out _ _ ⟨HY1.out.boxi 2 rfl, HY1.out.boxi 1 rfl⟩ (fun hSn => ?_)
   clear hK K hSw0
   have hSw0 := hSn
   clear hSn
   refine Kn.takeR 3 ⟨none, _, _, _, _, _⟩ fun K hK => ?_
   refine step_store_own rfl 32 (.tmp 5) (.tmp 64) rfl fn [.int .i64 0, .int .i64 0, .int .i64 0, .int .i64 0, .int .i64 0] [.int .i64 0, .int .i64 0, .int .i64 0, .int .i64 0, .int .i64 0] (by kernel_rfl) rfl rfl (HY1.out.boxi 1 rfl) rfl (by intro u hu; simp at hu; subst hu; rfl) ?_
   intro wy ho hO
   have HY2 := hH (HY1.out.call1 1 rfl ho hO)
   clear ho hO HY1
   refine hK.out _ _ ⟨HY2.out.boxi 2 rfl, HY2.out.boxi 1 rfl⟩ (fun hSn => ?_)
   clear hK K hSw0
   have hSw0 := hSn
   clear hSn
   refine tS 4 6 ?_
   refine tD ?_ _
   clear hSw0
   have HFOL := hH (follow_size (d := d) (c := cf) (p := q) ⟨ho0, by omega⟩ HA.out HZ.out HN.out (.inl rfl))
   have br := HY2.out.boxi 2 rfl
   have bn := HY2.out.boxi 1 rfl
   obtain ⟨r0, r1, r2, r3, r4⟩ := Kn.own5 br
   obtain ⟨n0, n1, n2, n3, n4⟩ := Kn.own5 bn
   clear br bn
   go_wp2
   (try simp only [Exit.inBlock, Exit.then])
   refine bodyPost_ret (v := .tuple #[.agg #[.int .i64 0, .int .i64 0, .int .i64 0, .slice none 0 0, .slice none 0 0], .agg #[.int .i64 0, .int .i64 0, .int .i64 0, .int .i64 0, .int .i64 0], .bool false]) ?_ rfl ?_
   ·simp only [results, HRES.out]
    go_simp
   have HYs : Wk w0 wb wy ((S, SB pd.D gb p own e 0) :: (fn, [.int .i64 0, .int .i64 0, .int .i64 0, .int .i64 0, .int .i64 0]) :: (fr, [.int .i64 0, .int .i64 0, .int .i64 0, .slice none 0 0, .slice none 0 0]) :: (fq, [.int .i64 q.s, .int .i64 q.o, .int .i64 q.l, .int .i64 q.p, .int .i64 q.m]) :: L) (_ :: G) F := HY2.out
   exact OneSays.no HFOL.out ((HYs.sub (L' := (S, SB pd.D gb p own e 0) :: L) (F' := F) (.cons_cons _ (.cons _ (.cons _ (.cons _ (List.Sublist.refl _))))) (fun f hf => hf)).subG (G' := G) (by simp))
  have hN1 : ((N : Int) == 0) = false := by simp; omega
  have hwN := IntWalk.i64_in (q.o + (N : Int)) (by omega)
  by_cases hfar2 : cf.l < q.o + (N : Int)
  ·refine tS 0 44 (hy := fun w hSw => by
    (try dsimp only at hSw); have q0 := hSw.1.cell 1 (by simp); have q2 := hSw.2; simp only [g0, gs] at q0
    go_simp
    all_goals (try with_reducible rfl)) ?_
   refine tS 1 45 (hy := fun w hSw => by
    (try dsimp only at hSw); have q0 := hSw.1.cell 1 (by simp); have q2 := hSw.2; simp only [g0, gs] at q0
    go_simp
    all_goals (try with_reducible rfl)) ?_
   refine tS 2 46 (hy := fun w hSw => by
    (try dsimp only at hSw); have q0 := hSw.1.cell 1 (by simp); have q2 := hSw.2; simp only [g0, gs] at q0
    go_simp
    all_goals (try with_reducible rfl)) ?_
   refine tS 3 47 (hy := fun w hSw => by
    (try dsimp only at hSw); have q0 := hSw.1.cell 1 (by simp); have q2 := hSw.2; simp only [g0, gs] at q0
    go_simp
    all_goals (try with_reducible rfl)) ?_
   refine tS 4 48 (hy := fun w hSw => by
    (try dsimp only at hSw); have q0 := hSw.1.cell 1 (by simp); have q2 := hSw.2; simp only [g0, gs] at q0
    go_simp
    all_goals (try with_reducible rfl)) ?_
   refine tS 5 49 (hy := fun w hSw => by
    (try dsimp only at hSw); have q0 := hSw.1.cell 1 (by simp); have q2 := hSw.2; simp only [g0, gs] at q0
    go_simp
    all_goals (try with_reducible rfl)) ?_
   refine tS 6 50 (hy := fun w hSw => by
    (try dsimp only at hSw); have q0 := hSw.1.cell 1 (by simp); have q2 := hSw.2; simp only [g0, gs] at q0
    go_simp
    all_goals (try with_reducible rfl)) ?_
   refine tS 7 51 (hy := fun w hSw => by
    (try dsimp only at hSw); have q0 := hSw.1.cell 1 (by simp); have q2 := hSw.2; simp only [g0, gs] at q0
    go_simp
    all_goals (try with_reducible rfl)) ?_
   refine tS 8 52 (hy := fun w hSw => by
    (try dsimp only at hSw); have q0 := hSw.1.cell 1 (by simp); have q2 := hSw.2; simp only [g0, gs] at q0
    go_simp
    all_goals (try with_reducible rfl)) ?_
   refine tS 9 53 (hy := fun w hSw => by
    (try dsimp only at hSw); have q0 := hSw.1.cell 1 (by simp); have q2 := hSw.2; simp only [g0, gs] at q0
    go_simp
    all_goals (try with_reducible rfl)) ?_
   refine tS 10 54 (hy := fun w hSw => by
    (try dsimp only at hSw); have q0 := hSw.1.cell 1 (by simp); have q2 := hSw.2; simp only [g0, gs] at q0
    go_simp
    all_goals (try with_reducible rfl)) ?_
   refine tS 11 55 (hy := fun w hSw => by
    (try dsimp only at hSw); have q0 := hSw.1.cell 1 (by simp); have q2 := hSw.2; simp only [g0, gs] at q0
    go_simp
    all_goals (try with_reducible rfl)) ?_
   refine tS 12 56 (hy := fun w hSw => by
    (try dsimp only at hSw); have q0 := hSw.1.cell 1 (by simp); have q2 := hSw.2; simp only [g0, gs] at q0
    go_simp
    all_goals (try with_reducible rfl)) ?_
   refine tS 13 57 (hy := fun w hSw => by
    (try dsimp only at hSw); have q0 := hSw.1.cell 1 (by simp); have q2 := hSw.2; simp only [g0, gs] at q0
    go_simp
    all_goals (try with_reducible rfl)) ?_
   refine tS 14 58 (hy := fun w hSw => by
    (try dsimp only at hSw); have q0 := hSw.1.cell 1 (by simp); have q2 := hSw.2; simp only [g0, gs] at q0
    go_simp
    all_goals (try with_reducible rfl)) ?_
   refine tR 15 59 fun K hK => ?_
   go_simp
   refine (geom_config_any gb cf.b cf.s cf.l _ (HQ6.out.fact (fun W => GeoAt W gb cf.b cf.s cf.l) HG.out)).mono ?_
   rintro en v8 ⟨rfl, hO⟩
   have HQ7 := hH (HQ6.out.keep0 hO)
   clear hO HQ6
   have HQ6 := hH HQ7.out
   clear HQ7
   refine hK.out _ _ ⟨HQ6.out.boxi 3 rfl, by simpa [SB] using (HQ6.out.boxi 0 (p := S) rfl).cell 1 (by simp [SB])⟩ (fun hSw8 => ?_)
   clear hK K
   clear hSw7
   refine tS 16 60 (hy := fun w hSw => by
    (try dsimp only at hSw); have q0 := hSw.1.cell 1 (by simp); have q2 := hSw.2; simp only [g0, gs] at q0
    go_simp
    all_goals (try with_reducible rfl)) ?_
   refine tS 17 61 (hy := fun w hSw => by
    (try dsimp only at hSw); have q0 := hSw.1.cell 1 (by simp); have q2 := hSw.2; simp only [g0, gs] at q0
    go_simp
    all_goals (try with_reducible rfl)) ?_
   refine tS 18 62 (hy := fun w hSw => by
    (try dsimp only at hSw); have q0 := hSw.1.cell 1 (by simp); have q2 := hSw.2; simp only [g0, gs] at q0
    go_simp
    all_goals (try with_reducible rfl)) ?_
   refine tD ?_ _
   clear hSw8
   go_wp2_with fail
   have HY := hH HQ6.out.drew
   clear HQ6
   refine wp_region_held_drew (S := (fun w' => Kn.Own w' fr [.int .i64 0, .int .i64 0, .int .i64 0, .slice none 0 0, .slice none 0 0] ∧ Kn.Own w' fn [.int .i64 0, .int .i64 0, .int .i64 0, .int .i64 0, .int .i64 0])) (by kernel_rfl) ⟨HY.out.boxi 2 rfl, HY.out.boxi 1 rfl⟩ (fun hSw0 => ?_)
   generalize v8.drew = wz at *
   refine tS 0 63 (v := (.agg #[.int .i64 0, .int .i64 0, .int .i64 0, .slice none 0 0, .slice none 0 0])) (hy := fun w hSw => by
    have q0 := hSw.1
    obtain ⟨q00, q01, q02, q03, q04⟩ := Kn.own5 q0
    clear q0
    go_simp) ?_
   refine tS 1 64 (v := (.agg #[.int .i64 0, .int .i64 0, .int .i64 0, .int .i64 0, .int .i64 0])) (hy := fun w hSw => by
    have q0 := hSw.2
    obtain ⟨q00, q01, q02, q03, q04⟩ := Kn.own5 q0
    clear q0
    go_simp) ?_
   refine Kn.takeR 2 ⟨none, _, _, _, _, _⟩ fun K hK => ?_
   refine step_store_own rfl 56 (.tmp 4) (.tmp 63) rfl fr [.int .i64 0, .int .i64 0, .int .i64 0, .slice none 0 0, .slice none 0 0] [.int .i64 0, .int .i64 0, .int .i64 0, .slice none 0 0, .slice none 0 0] (by kernel_rfl) rfl rfl (HY.out.boxi 2 rfl) rfl (by intro u hu; simp at hu; rcases hu with rfl | rfl <;> rfl) ?_
   intro wa ho hO
   have HY1 := hH (HY.out.call1 2 rfl ho hO)
   clear ho hO HY
   refine hK.out _ _ ⟨HY1.out.boxi 2 rfl, HY1.out.boxi 1 rfl⟩ (fun hSn => ?_)
   clear hK K hSw0
   have hSw0 := hSn
   clear hSn
   refine Kn.takeR 3 ⟨none, _, _, _, _, _⟩ fun K hK => ?_
   refine step_store_own rfl 32 (.tmp 5) (.tmp 64) rfl fn [.int .i64 0, .int .i64 0, .int .i64 0, .int .i64 0, .int .i64 0] [.int .i64 0, .int .i64 0, .int .i64 0, .int .i64 0, .int .i64 0] (by kernel_rfl) rfl rfl (HY1.out.boxi 1 rfl) rfl (by intro u hu; simp at hu; subst hu; rfl) ?_
   intro wy ho hO
   have HY2 := hH (HY1.out.call1 1 rfl ho hO)
   clear ho hO HY1
   refine hK.out _ _ ⟨HY2.out.boxi 2 rfl, HY2.out.boxi 1 rfl⟩ (fun hSn => ?_)
   clear hK K hSw0
   have hSw0 := hSn
   clear hSn
   refine tS 4 6 ?_
   refine tD ?_ _
   clear hSw0
   have HFOL := hH (follow_size (d := d) (c := cf) (p := q) ⟨ho0, by omega⟩ HA.out HZ.out HN.out (.inr hfar2))
   have br := HY2.out.boxi 2 rfl
   have bn := HY2.out.boxi 1 rfl
   obtain ⟨r0, r1, r2, r3, r4⟩ := Kn.own5 br
   obtain ⟨n0, n1, n2, n3, n4⟩ := Kn.own5 bn
   clear br bn
   go_wp2
   (try simp only [Exit.inBlock, Exit.then])
   refine bodyPost_ret (v := .tuple #[.agg #[.int .i64 0, .int .i64 0, .int .i64 0, .slice none 0 0, .slice none 0 0], .agg #[.int .i64 0, .int .i64 0, .int .i64 0, .int .i64 0, .int .i64 0], .bool false]) ?_ rfl ?_
   ·simp only [results, HRES.out]
    go_simp
   have HYs : Wk w0 wb wy ((S, SB pd.D gb p own e 0) :: (fn, [.int .i64 0, .int .i64 0, .int .i64 0, .int .i64 0, .int .i64 0]) :: (fr, [.int .i64 0, .int .i64 0, .int .i64 0, .slice none 0 0, .slice none 0 0]) :: (fq, [.int .i64 q.s, .int .i64 q.o, .int .i64 q.l, .int .i64 q.p, .int .i64 q.m]) :: L) (_ :: G) F := HY2.out
   exact OneSays.no HFOL.out ((HYs.sub (L' := (S, SB pd.D gb p own e 0) :: L) (F' := F) (.cons_cons _ (.cons _ (.cons _ (.cons _ (List.Sublist.refl _))))) (fun f hf => hf)).subG (G' := G) (by simp))
  refine tS 0 44 (hy := fun w hSw => by
   (try dsimp only at hSw); have q0 := hSw.1.cell 1 (by simp); have q2 := hSw.2; simp only [g0, gs] at q0
   go_simp
   all_goals (try with_reducible rfl)) ?_
  refine tS 1 45 (hy := fun w hSw => by
   (try dsimp only at hSw); have q0 := hSw.1.cell 1 (by simp); have q2 := hSw.2; simp only [g0, gs] at q0
   go_simp
   all_goals (try with_reducible rfl)) ?_
  refine tS 2 46 (hy := fun w hSw => by
   (try dsimp only at hSw); have q0 := hSw.1.cell 1 (by simp); have q2 := hSw.2; simp only [g0, gs] at q0
   go_simp
   all_goals (try with_reducible rfl)) ?_
  refine tS 3 47 (hy := fun w hSw => by
   (try dsimp only at hSw); have q0 := hSw.1.cell 1 (by simp); have q2 := hSw.2; simp only [g0, gs] at q0
   go_simp
   all_goals (try with_reducible rfl)) ?_
  refine tS 4 48 (hy := fun w hSw => by
   (try dsimp only at hSw); have q0 := hSw.1.cell 1 (by simp); have q2 := hSw.2; simp only [g0, gs] at q0
   go_simp
   all_goals (try with_reducible rfl)) ?_
  refine tS 5 49 (hy := fun w hSw => by
   (try dsimp only at hSw); have q0 := hSw.1.cell 1 (by simp); have q2 := hSw.2; simp only [g0, gs] at q0
   go_simp
   all_goals (try with_reducible rfl)) ?_
  refine tS 6 50 (hy := fun w hSw => by
   (try dsimp only at hSw); have q0 := hSw.1.cell 1 (by simp); have q2 := hSw.2; simp only [g0, gs] at q0
   go_simp
   all_goals (try with_reducible rfl)) ?_
  refine tS 7 51 (hy := fun w hSw => by
   (try dsimp only at hSw); have q0 := hSw.1.cell 1 (by simp); have q2 := hSw.2; simp only [g0, gs] at q0
   go_simp
   all_goals (try with_reducible rfl)) ?_
  refine tS 8 52 (hy := fun w hSw => by
   (try dsimp only at hSw); have q0 := hSw.1.cell 1 (by simp); have q2 := hSw.2; simp only [g0, gs] at q0
   go_simp
   all_goals (try with_reducible rfl)) ?_
  refine tS 9 53 (hy := fun w hSw => by
   (try dsimp only at hSw); have q0 := hSw.1.cell 1 (by simp); have q2 := hSw.2; simp only [g0, gs] at q0
   go_simp
   all_goals (try with_reducible rfl)) ?_
  refine tS 10 54 (hy := fun w hSw => by
   (try dsimp only at hSw); have q0 := hSw.1.cell 1 (by simp); have q2 := hSw.2; simp only [g0, gs] at q0
   go_simp
   all_goals (try with_reducible rfl)) ?_
  refine tS 11 55 (hy := fun w hSw => by
   (try dsimp only at hSw); have q0 := hSw.1.cell 1 (by simp); have q2 := hSw.2; simp only [g0, gs] at q0
   go_simp
   all_goals (try with_reducible rfl)) ?_
  refine tS 12 56 (hy := fun w hSw => by
   (try dsimp only at hSw); have q0 := hSw.1.cell 1 (by simp); have q2 := hSw.2; simp only [g0, gs] at q0
   go_simp
   all_goals (try with_reducible rfl)) ?_
  refine tS 13 57 (hy := fun w hSw => by
   (try dsimp only at hSw); have q0 := hSw.1.cell 1 (by simp); have q2 := hSw.2; simp only [g0, gs] at q0
   go_simp
   all_goals (try with_reducible rfl)) ?_
  refine tS 14 58 (hy := fun w hSw => by
   (try dsimp only at hSw); have q0 := hSw.1.cell 1 (by simp); have q2 := hSw.2; simp only [g0, gs] at q0
   go_simp
   all_goals (try with_reducible rfl)) ?_
  refine tR 15 59 fun K hK => ?_
  go_simp
  refine (geom_config_any gb cf.b cf.s cf.l _ (HQ6.out.fact (fun W => GeoAt W gb cf.b cf.s cf.l) HG.out)).mono ?_
  rintro en v8 ⟨rfl, hO⟩
  have HQ7 := hH (HQ6.out.keep0 hO)
  clear hO HQ6
  have HQ6 := hH HQ7.out
  clear HQ7
  refine hK.out _ _ ⟨HQ6.out.boxi 3 rfl, by simpa [SB] using (HQ6.out.boxi 0 (p := S) rfl).cell 1 (by simp [SB])⟩ (fun hSw8 => ?_)
  clear hK K
  clear hSw7
  refine tS 16 60 (hy := fun w hSw => by
   (try dsimp only at hSw); have q0 := hSw.1.cell 1 (by simp); have q2 := hSw.2; simp only [g0, gs] at q0
   go_simp
   all_goals (try with_reducible rfl)) ?_
  refine tS 17 61 (hy := fun w hSw => by
   (try dsimp only at hSw); have q0 := hSw.1.cell 1 (by simp); have q2 := hSw.2; simp only [g0, gs] at q0
   go_simp
   all_goals (try with_reducible rfl)) ?_
  refine tS 18 62 (hy := fun w hSw => by
   (try dsimp only at hSw); have q0 := hSw.1.cell 1 (by simp); have q2 := hSw.2; simp only [g0, gs] at q0
   go_simp
   all_goals (try with_reducible rfl)) ?_
  refine tD ?_ _
  clear hSw8
  have hlz : N = 0 ∨ cf.l < q.o + (N : Int) → False := fun h => h.elim (fun h => hN0 h) (fun h => hfar2 h)
  have HLZ := hH hlz
  clear hlz
  have hg1 : gerr d a 1 = 0 := by rw [gerr_one]; exact HZ.out
  have hga : gat d a 1 = d.read a := gat_one d a
  have HWS : Hid (Wk w0 wb v8 ((S, SB pd.D gb p own e 0) :: (fn, [.int .i64 0, .int .i64 0, .int .i64 0, .int .i64 0, .int .i64 0]) :: (fr, [.int .i64 0, .int .i64 0, .int .i64 0, .slice none 0 0, .slice none 0 0]) :: (fq, [.int .i64 q.s, .int .i64 q.o, .int .i64 q.l, .int .i64 q.p, .int .i64 q.m]) :: L) (⟨5, 1, .slice A n cc, n, bvs (gat d a 1)⟩ :: G) F) := hH (by rw [hga]; exact HQ6.out)
  have HG1 := hH hg1
  clear hg1 hga HQ6
  obtain ⟨i0, hi0, hy0, hy1, hy2⟩ := info_parts Tryz.infoU8
  have hNge : 1 ≤ N := by omega
  clear hN0 HNL hn64
  go_wp2_with fail
  go_loopg [8, 10] (N - 1) (fun rr t8 i wr => ∃ (j : Nat) (A : Option Addr) (n cc : Nat), j + rr = N ∧ 1 ≤ j ∧ i = .int .i64 j ∧ t8 = .slice A n cc ∧ gerr d a j = 0 ∧ Wk w0 wb wr ((S, SB pd.D gb p own e 0) :: (fn, [.int .i64 0, .int .i64 0, .int .i64 0, .int .i64 0, .int .i64 0]) :: (fr, [.int .i64 0, .int .i64 0, .int .i64 0, .slice none 0 0, .slice none 0 0]) :: (fq, [.int .i64 q.s, .int .i64 q.o, .int .i64 q.l, .int .i64 q.p, .int .i64 q.m]) :: L) (⟨5, 1, .slice A n cc, n, bvs (gat d a j)⟩ :: G) F)
  case atStart => exact ⟨1, A, n, cc, by omega, by omega, rfl, rfl, HG1.out, HWS.out⟩
  obtain ⟨j, A, n, cc, hj, hj1, rfl, rfl, hge, hw⟩ := hrel
  have HGE := hH hge
  have HW6 := hH hw
  have hnl := (hw.gi 0 rfl).1
  rw [bvs_length, gat_len HDK.out.ok j hge] at hnl
  have hn4 : n = 64 * j := by simpa using hnl.symm
  have hn448 : n ≤ 448 := by omega
  have HN4 := hH hn4
  clear HWS HG1 hge hw hnl hn4
  by_cases hlt : j < N
  ·have hlt2 : (j : Int) < (N : Int) := by omega
   go_wp2_with fail
   refine (scan_read_own w0 _ S gb pd d p own e 0 _ _ F (a + (j : Int)) HW6.out (HDK.out.mono (fun x hx => by simp [hx]))).mono ?_
   rintro en w7 ⟨AX, nx, ccx, rfl, hrd⟩
   have HW7 := hH hrd
   clear hrd HW6
   obtain ⟨z2, hz2⟩ : ∃ z, d.err (a + (j : Int)) = z := ⟨_, rfl⟩
   rw [hz2] at HW7 ⊢
   have HZ2 := hH hz2
   clear hz2
   have hgs := gerr_succ d a j
   rw [if_pos HGE.out, HZ2.out] at hgs
   have HGS := hH hgs
   clear hgs
   by_cases hz20 : z2 = 0
   ·subst hz20
    have hrx := (Row1.of_owns (HW7.out.gi 0 rfl)).1
    have hnx := hrx.len
    rw [bvs_length] at hnx
    have hnx64 : nx ≤ 64 := by rw [← hnx, Dk.read_len HDK.out.ok]; split <;> omega
    have HRX := hH hrx
    have HBS := hH HW7.out.only.size
    clear hrx hnx
    go_wp2_with (first
     | (at_builtin; refine wpList_append_row1 rfl (.tmp 82) (.tmp 83) 47 rfl w0.heap.size 5 i0 _ 1 Tryz.underlying47 hi0 hy0 hy1 hy2 rfl (.slice A n cc) n (bvs (gat d a j)) rfl (HW7.out.gi 1 rfl) AX nx ccx (bvs (d.read (a + (j : Int)))) rfl HRX.out (bvs_one _) (by unfold maxLen; omega) (by omega) HBS.out ?_; intro v8 w8 hown hgrow hat; have hdd := HW7.out.gapp 1 rfl hown hgrow hat; obtain ⟨A8, c8, rfl⟩ := hdd.gform 1 rfl; simp only [List.set_cons_zero, List.set_cons_succ] at hdd; have HW8 := hH hdd.gdrop; clear hdd hown hgrow hat HRX HBS HW7)
     | fail)
    have hba : bvs (gat d a j) ++ bvs (d.read (a + (j : Int))) = bvs (gat d a (j + 1)) := by rw [gat_succ]; simp [bvs]
    rw [hba] at HW8
    clear hba
    go_roundg (gk - 1)
    case measure => omega
    case rel => exact ⟨j + 1, A8, n + nx, c8, by omega, by omega, by go_num, rfl, HGS.out, HW8.out⟩
   have hzb : decide (z2 = 0) = false := by simpa using hz20
   go_wp2_with fail
   have HY := hH HW7.out.drew
   clear HW7
   refine wp_region_held_drew (S := (fun w' => Kn.Own w' fr [.int .i64 0, .int .i64 0, .int .i64 0, .slice none 0 0, .slice none 0 0] ∧ Kn.Own w' fn [.int .i64 0, .int .i64 0, .int .i64 0, .int .i64 0, .int .i64 0])) (by kernel_rfl) ⟨HY.out.boxi 2 rfl, HY.out.boxi 1 rfl⟩ (fun hSw0 => ?_)
   generalize w7.drew = wz at *
   refine tS 0 80 (v := (.agg #[.int .i64 0, .int .i64 0, .int .i64 0, .slice none 0 0, .slice none 0 0])) (hy := fun w hSw => by
    have q0 := hSw.1
    obtain ⟨q00, q01, q02, q03, q04⟩ := Kn.own5 q0
    clear q0
    go_simp) ?_
   refine tS 1 81 (v := (.agg #[.int .i64 0, .int .i64 0, .int .i64 0, .int .i64 0, .int .i64 0])) (hy := fun w hSw => by
    have q0 := hSw.2
    obtain ⟨q00, q01, q02, q03, q04⟩ := Kn.own5 q0
    clear q0
    go_simp) ?_
   refine Kn.takeR 2 ⟨none, _, _, _, _, _⟩ fun K hK => ?_
   refine step_store_own rfl 56 (.tmp 4) (.tmp 80) rfl fr [.int .i64 0, .int .i64 0, .int .i64 0, .slice none 0 0, .slice none 0 0] [.int .i64 0, .int .i64 0, .int .i64 0, .slice none 0 0, .slice none 0 0] (by kernel_rfl) rfl rfl (HY.out.boxi 2 rfl) rfl (by intro u hu; simp at hu; rcases hu with rfl | rfl <;> rfl) ?_
   intro wa ho hO
   have HY1 := hH (HY.out.call1 2 rfl ho hO)
   clear ho hO HY
   refine hK.out _ _ ⟨HY1.out.boxi 2 rfl, HY1.out.boxi 1 rfl⟩ (fun hSn => ?_)
   clear hK K hSw0
   have hSw0 := hSn
   clear hSn
   refine Kn.takeR 3 ⟨none, _, _, _, _, _⟩ fun K hK => ?_
   refine step_store_own rfl 32 (.tmp 5) (.tmp 81) rfl fn [.int .i64 0, .int .i64 0, .int .i64 0, .int .i64 0, .int .i64 0] [.int .i64 0, .int .i64 0, .int .i64 0, .int .i64 0, .int .i64 0] (by kernel_rfl) rfl rfl (HY1.out.boxi 1 rfl) rfl (by intro u hu; simp at hu; subst hu; rfl) ?_
   intro wy ho hO
   have HY2 := hH (HY1.out.call1 1 rfl ho hO)
   clear ho hO HY1
   refine hK.out _ _ ⟨HY2.out.boxi 2 rfl, HY2.out.boxi 1 rfl⟩ (fun hSn => ?_)
   clear hK K hSw0
   have hSw0 := hSn
   clear hSn
   refine tS 4 6 ?_
   refine tD ?_ _
   clear hSw0
   have HFOL := hH ((follow_gerr (d := d) (c := cf) (p := q) ⟨ho0, by omega⟩ HA.out HZ.out HN.out (fun h => HLZ.out h) (by rw [gerr_stop (m := j + 1) (by rw [HGS.out]; exact hz20) (by omega), HGS.out]; exact hz20)).trans (by rw [gerr_stop (m := j + 1) (by rw [HGS.out]; exact hz20) (by omega), HGS.out]))
   have br := HY2.out.boxi 2 rfl
   have bn := HY2.out.boxi 1 rfl
   obtain ⟨r0, r1, r2, r3, r4⟩ := Kn.own5 br
   obtain ⟨n0, n1, n2, n3, n4⟩ := Kn.own5 bn
   clear br bn
   go_wp2
   (try simp only [Exit.inBlock, Exit.then])
   refine bodyPost_ret (v := .tuple #[.agg #[.int .i64 0, .int .i64 0, .int .i64 0, .slice none 0 0, .slice none 0 0], .agg #[.int .i64 0, .int .i64 0, .int .i64 0, .int .i64 0, .int .i64 0], .bool false]) ?_ rfl ?_
   ·simp only [results, HRES.out]
    go_simp
   have HYs : Wk w0 wb wy ((S, SB pd.D gb p own e z2) :: (fn, [.int .i64 0, .int .i64 0, .int .i64 0, .int .i64 0, .int .i64 0]) :: (fr, [.int .i64 0, .int .i64 0, .int .i64 0, .slice none 0 0, .slice none 0 0]) :: (fq, [.int .i64 q.s, .int .i64 q.o, .int .i64 q.l, .int .i64 q.p, .int .i64 q.m]) :: L) (_ :: _ :: G) F := HY2.out
   exact OneSays.no HFOL.out ((HYs.sub (L' := (S, SB pd.D gb p own e z2) :: L) (F' := F) (.cons_cons _ (.cons _ (.cons _ (.cons _ (List.Sublist.refl _))))) (fun f hf => hf)).subG (G' := G) (by simp))
  obtain rfl : j = N := by omega
  have hbo := (Row1.of_owns (HW6.out.gi 0 rfl)).1
  have HBO := hH hbo
  clear hbo
  go_wp2_with fail
  refine (rec_dec_any A n cc (gat d a j) _ HBO.out (by omega)).mono ?_
  rintro en w8 ⟨s, t, rfl, hfc, hO⟩
  obtain ⟨s1, s2, s3⟩ := s
  obtain ⟨t1, t2, t3⟩ := t
  have hwA := HW6.out.addFc hO hfc
  have HWA := hH hwA
  have bfr := hwA.boxi 2 rfl
  obtain ⟨o0, o1, o2, o3, o4⟩ := Kn.own5 bfr
  have g0 := bfr.frozen 0
  have g1 := bfr.frozen 1
  have g2 := bfr.frozen 2
  have g3 := bfr.frozen 3
  have g4 := bfr.frozen 4
  have bfq := hwA.boxi 3 rfl
  obtain ⟨p0, p1, p2, p3, p4⟩ := Kn.own5 bfq
  cases hdec : decRc (gat d a j) with
  | none =>
   have HDEC := hH hdec
   rw [hdec] at HWA
   have HB9 := hH (own_set5 bfr (.int .i64 0) (.int .i64 0) (.int .i64 0) (.slice s1 s2 s3) (.slice t1 t2 t3))
   have HX := hH (HWA.out.call1 2 rfl (own_set5 bfr (.int .i64 0) (.int .i64 0) (.int .i64 0) (.slice s1 s2 s3) (.slice t1 t2 t3)) (only_set5 _ fr _ _ _ _ _))
   simp only [List.set_cons_zero, List.set_cons_succ] at HX
   clear hwA bfr bfq HWA HBO HW6 hfc hO
   clear hdec
   simp only [Option.map_none, Option.getD_none, Option.isSome_none, rcZ, Rc.cells, slv]
   go_wp2_with fail
   have HY := hH HX.out.drew
   clear HX
   refine wp_region_held_drew (S := (fun w' => Kn.Own w' fn [.int .i64 0, .int .i64 0, .int .i64 0, .int .i64 0, .int .i64 0])) (by kernel_rfl) (HY.out.boxi 1 rfl) (fun hSw0 => ?_)
   generalize (((((w8.setCell ⟨fr, 0, none⟩ (.int .i64 0)).setCell ⟨fr, 1, none⟩ (.int .i64 0)).setCell ⟨fr, 2, none⟩ (.int .i64 0)).setCell ⟨fr, 3, none⟩ (.slice s1 s2 s3)).setCell ⟨fr, 4, none⟩ (.slice t1 t2 t3)).drew = wz at *
   refine tS 0 114 ?_
   refine tS 1 115 (v := (.agg #[.int .i64 0, .int .i64 0, .int .i64 0, .int .i64 0, .int .i64 0])) (hy := fun w hSw => by
    have q0 := hSw
    obtain ⟨q00, q01, q02, q03, q04⟩ := Kn.own5 q0
    clear q0
    go_simp) ?_
   refine Kn.takeR 2 ⟨none, _, _, _, _, _⟩ fun K hK => ?_
   refine step_store_own rfl 56 (.tmp 4) (.tmp 114) rfl fr [.int .i64 0, .int .i64 0, .int .i64 0, .slice s1 s2 s3, .slice t1 t2 t3] [.int .i64 0, .int .i64 0, .int .i64 0, .slice none 0 0, .slice none 0 0] (by kernel_rfl) rfl rfl (HY.out.boxi 2 rfl) rfl (by intro u hu; simp at hu; rcases hu with rfl | rfl <;> rfl) ?_
   intro wa ho hO
   have HY1 := hH (HY.out.call1 2 rfl ho hO)
   clear ho hO HY
   refine hK.out _ _ (HY1.out.boxi 1 rfl) (fun hSn => ?_)
   clear hK K hSw0
   have hSw0 := hSn
   clear hSn
   refine Kn.takeR 3 ⟨none, _, _, _, _, _⟩ fun K hK => ?_
   refine step_store_own rfl 32 (.tmp 5) (.tmp 115) rfl fn [.int .i64 0, .int .i64 0, .int .i64 0, .int .i64 0, .int .i64 0] [.int .i64 0, .int .i64 0, .int .i64 0, .int .i64 0, .int .i64 0] (by kernel_rfl) rfl rfl (HY1.out.boxi 1 rfl) rfl (by intro u hu; simp at hu; subst hu; rfl) ?_
   intro wy ho hO
   have HY2 := hH (HY1.out.call1 1 rfl ho hO)
   clear ho hO HY1
   refine hK.out _ _ (HY2.out.boxi 1 rfl) (fun hSn => ?_)
   clear hK K hSw0
   have hSw0 := hSn
   clear hSn
   refine tS 4 6 ?_
   refine tD ?_ _
   clear hSw0
   have HFOL := hH (follow_dec (d := d) (c := cf) (p := q) ⟨ho0, by omega⟩ HA.out HZ.out HN.out (fun h => HLZ.out h) HGE.out HDEC.out)
   have br := HY2.out.boxi 2 rfl
   have bn := HY2.out.boxi 1 rfl
   obtain ⟨r0, r1, r2, r3, r4⟩ := Kn.own5 br
   obtain ⟨n0, n1, n2, n3, n4⟩ := Kn.own5 bn
   clear br bn
   go_wp2
   (try simp only [Exit.inBlock, Exit.then])
   refine bodyPost_ret (v := .tuple #[.agg #[.int .i64 0, .int .i64 0, .int .i64 0, .slice none 0 0, .slice none 0 0], .agg #[.int .i64 0, .int .i64 0, .int .i64 0, .int .i64 0, .int .i64 0], .bool false]) ?_ rfl ?_
   ·simp only [results, HRES.out]
    go_simp
   have HYs : Wk w0 wb wy ((S, SB pd.D gb p own e 0) :: (fn, [.int .i64 0, .int .i64 0, .int .i64 0, .int .i64 0, .int .i64 0]) :: (fr, [.int .i64 0, .int .i64 0, .int .i64 0, .slice none 0 0, .slice none 0 0]) :: (fq, [.int .i64 q.s, .int .i64 q.o, .int .i64 q.l, .int .i64 q.p, .int .i64 q.m]) :: L) (_ :: G) (_ :: F) := HY2.out
   exact OneSays.no HFOL.out ((HYs.sub (L' := (S, SB pd.D gb p own e 0) :: L) (F' := F) (.cons_cons _ (.cons _ (.cons _ (.cons _ (List.Sublist.refl _))))) (fun f hf => mc _ hf)).subG (G' := G) (by simp))
  | some x =>
   obtain ⟨⟨rm, rn, rp, ri, rb⟩, sm⟩ := x
   have HDEC := hH hdec
   obtain ⟨he1, _, _⟩ := encRc_of_dec hdec
   obtain ⟨hq1, hq2, hq3, hq4, hq5, hq6, hq7, hq8⟩ := enc_some he1
   simp only at hq6 hq7
   obtain ⟨hrn0, hrn1⟩ := hq7
   rw [hdec] at HWA
   have HB9 := hH (own_set5 bfr (.int .i64 rm) (.int .i64 rn) (.int .i64 rp) (.slice s1 s2 s3) (.slice t1 t2 t3))
   have HX := hH (HWA.out.call1 2 rfl (own_set5 bfr (.int .i64 rm) (.int .i64 rn) (.int .i64 rp) (.slice s1 s2 s3) (.slice t1 t2 t3)) (only_set5 _ fr _ _ _ _ _))
   simp only [List.set_cons_zero, List.set_cons_succ] at HX
   clear hwA bfr bfq HWA HBO HW6 hfc hO
   clear hdec he1 hq1 hq2 hq3 hq4 hq5 hq6 hq8
   have hFR := follow_rec (d := d) (c := cf) (p := q) ⟨ho0, by omega⟩ HA.out HZ.out HN.out (fun h => HLZ.out h) HGE.out HDEC.out
   have HFR := hH hFR
   clear hFR
   simp only [Option.map_some, Option.getD_some, Option.isSome_some, Rc.cells, slv]
   go_upto_region 16 with (fail)
   generalize hwc : (((((w8.setCell ⟨fr, 0, none⟩ (.int .i64 rm)).setCell ⟨fr, 1, none⟩ (.int .i64 rn)).setCell ⟨fr, 2, none⟩ (.int .i64 rp)).setCell ⟨fr, 3, none⟩ (.slice s1 s2 s3)).setCell ⟨fr, 4, none⟩ (.slice t1 t2 t3)) = w9 at *
   clear hwc o0 o1 o2 o3 o4 g0 g1 g2 g3 g4 p0 p1 p2 p3 p4
   have k9 := HX.out.boxi 2 rfl
   obtain ⟨k0, k1, k2, k3, k4⟩ := Kn.own5 k9
   clear k9 HB9
   have p9 := HX.out.boxi 3 rfl
   obtain ⟨p0, p1, p2, p3, p4⟩ := Kn.own5 p9
   clear p9
   by_cases c1 : rn = q.l
   ·by_cases c2 : rp = q.p
    ·by_cases c3 : q.m ≤ rm
     ·have HFOL := hH (HFR.out.trans (if_pos ⟨c1, c2, c3⟩))
      have hb1 : (rn != q.l) = false := by simp [c1]
      have hb2 : (rp != q.p) = false := by simp [c2]
      have hb3 : ¬ rm < q.m := by omega
      have hwn := IntWalk.i64_in (rn + 1) (by omega)
      have HC1 := hH c1
      clear c1 c2
      go_wp2_with fail
      have HY := hH HX.out.drew
      clear HX
      refine wp_region_held_drew (S := (fun w' => Kn.Own w' fr [.int .i64 rm, .int .i64 rn, .int .i64 rp, .slice s1 s2 s3, .slice t1 t2 t3] ∧ Kn.Own w' fq [.int .i64 q.s, .int .i64 q.o, .int .i64 q.l, .int .i64 q.p, .int .i64 q.m])) (by kernel_rfl) ⟨HY.out.boxi 2 rfl, HY.out.boxi 3 rfl⟩ (fun hSw0 => ?_)
      generalize w9.drew = wz at *
      refine tS 0 116 (v := (.agg #[.int .i64 rm, .int .i64 rn, .int .i64 rp, .slice s1 s2 s3, .slice t1 t2 t3])) (hy := fun w hSw => by
       have q0 := hSw.1
       obtain ⟨q00, q01, q02, q03, q04⟩ := Kn.own5 q0
       clear q0
       go_simp) ?_
      refine tS 1 117 ?_
      refine tS 2 118 (v := (.int .i64 q.s)) (hy := fun w hSw => by
       have q0 := Kn.own1 hSw.2
       go_simp) ?_
      refine tS 3 119 ?_
      refine tS 4 120 (v := (.int .i64 q.o)) (hy := fun w hSw => by
       have q0 := hSw.2.cell 1 (by simp)
       simp only [g0, gs] at q0
       go_simp) ?_
      refine tS 5 121 ?_
      refine tS 6 122 ?_
      refine tS 7 123 ?_
      refine tS 8 124 (v := (.int .i64 rn)) (hy := fun w hSw => by
       have q0 := hSw.1.cell 1 (by simp)
       simp only [g0, gs] at q0
       go_simp) ?_
      refine tS 9 125 ?_
      refine tS 10 126 ?_
      refine tS 11 127 ?_
      refine tS 12 128 (v := (.int .i64 rm)) (hy := fun w hSw => by
       have q0 := Kn.own1 hSw.1
       go_simp) ?_
      refine tS 13 129 ?_
      refine Kn.takeR 14 ⟨none, _, _, _, _, _⟩ fun K hK => ?_
      refine step_store_own rfl 56 (.tmp 4) (.tmp 116) rfl fr [.int .i64 rm, .int .i64 rn, .int .i64 rp, .slice s1 s2 s3, .slice t1 t2 t3] [.int .i64 rm, .int .i64 rn, .int .i64 rp, .slice s1 s2 s3, .slice t1 t2 t3] (by kernel_rfl) rfl rfl (HY.out.boxi 2 rfl) rfl (by intro u hu; simp at hu; rcases hu with rfl | rfl | rfl | rfl | rfl <;> rfl) ?_
      intro wa ho hO
      have HY1 := hH (HY.out.call1 2 rfl ho hO)
      clear ho hO HY
      refine hK.out _ _ ⟨HY1.out.boxi 2 rfl, HY1.out.boxi 3 rfl⟩ (fun hSn => ?_)
      clear hK K hSw0
      have hSw0 := hSn
      clear hSn
      refine Kn.takeR 15 ⟨none, _, _, _, _, _⟩ fun K hK => ?_
      refine step_store_own rfl 32 (.tmp 5) (.tmp 129) rfl fn [.int .i64 0, .int .i64 0, .int .i64 0, .int .i64 0, .int .i64 0] [.int .i64 q.s, .int .i64 (q.o + (j : Int)), .int .i64 (rn + 1), .int .i64 (sm : Nat), .int .i64 rm] (by kernel_rfl) rfl rfl (HY1.out.boxi 1 rfl) rfl (by intro u hu; simp at hu; rcases hu with rfl | rfl | rfl | rfl | rfl <;> rfl) ?_
      intro wy ho hO
      have HY2 := hH (HY1.out.call1 1 rfl ho hO)
      clear ho hO HY1
      refine hK.out _ _ ⟨HY2.out.boxi 2 rfl, HY2.out.boxi 3 rfl⟩ (fun hSn => ?_)
      clear hK K hSw0
      have hSw0 := hSn
      clear hSn
      refine tS 16 6 ?_
      refine tD ?_ _
      clear hSw0
      have br := HY2.out.boxi 2 rfl
      have bn := HY2.out.boxi 1 rfl
      obtain ⟨r0, r1, r2, r3, r4⟩ := Kn.own5 br
      obtain ⟨n0, n1, n2, n3, n4⟩ := Kn.own5 bn
      clear br bn
      go_wp2
      (try simp only [Exit.inBlock, Exit.then])
      refine bodyPost_ret (v := .tuple #[.agg #[.int .i64 rm, .int .i64 rn, .int .i64 rp, .slice s1 s2 s3, .slice t1 t2 t3], .agg #[.int .i64 q.s, .int .i64 (q.o + (j : Int)), .int .i64 (rn + 1), .int .i64 (sm : Nat), .int .i64 rm], .bool true]) ?_ rfl ?_
      ·simp only [results, HRES.out]
       go_simp
      rw [HFOL.out]
      have HYs : Wk w0 wb wy ((S, SB pd.D gb p own e 0) :: _ :: _ :: _ :: L) (_ :: G) (_ :: F) := HY2.out
      exact ⟨(s1, s2, s3), (t1, t2, t3), by have h := HC1.out; subst h; rfl, ((HYs.sub (L' := (S, SB pd.D gb p own e 0) :: L) (.cons_cons _ (.cons _ (.cons _ (.cons _ (List.Sublist.refl _))))) (fun f hf => hf)).subG (G' := G) (by simp))⟩
     have hb1 : (rn != q.l) = false := by simp [c1]
     have hb2 : (rp != q.p) = false := by simp [c2]
     have hb3 : rm < q.m := by omega
     clear c1 c2
     go_wp2_with fail
     have HY := hH HX.out.drew
     clear HX
     refine wp_region_held_drew (S := (fun w' => Kn.Own w' fn [.int .i64 0, .int .i64 0, .int .i64 0, .int .i64 0, .int .i64 0])) (by kernel_rfl) (HY.out.boxi 1 rfl) (fun hSw0 => ?_)
     generalize w9.drew = wz at *
     refine tS 0 114 ?_
     refine tS 1 115 (v := (.agg #[.int .i64 0, .int .i64 0, .int .i64 0, .int .i64 0, .int .i64 0])) (hy := fun w hSw => by
      have q0 := hSw
      obtain ⟨q00, q01, q02, q03, q04⟩ := Kn.own5 q0
      clear q0
      go_simp) ?_
     refine Kn.takeR 2 ⟨none, _, _, _, _, _⟩ fun K hK => ?_
     refine step_store_own rfl 56 (.tmp 4) (.tmp 114) rfl fr [.int .i64 rm, .int .i64 rn, .int .i64 rp, .slice s1 s2 s3, .slice t1 t2 t3] [.int .i64 0, .int .i64 0, .int .i64 0, .slice none 0 0, .slice none 0 0] (by kernel_rfl) rfl rfl (HY.out.boxi 2 rfl) rfl (by intro u hu; simp at hu; rcases hu with rfl | rfl <;> rfl) ?_
     intro wa ho hO
     have HY1 := hH (HY.out.call1 2 rfl ho hO)
     clear ho hO HY
     refine hK.out _ _ (HY1.out.boxi 1 rfl) (fun hSn => ?_)
     clear hK K hSw0
     have hSw0 := hSn
     clear hSn
     refine Kn.takeR 3 ⟨none, _, _, _, _, _⟩ fun K hK => ?_
     refine step_store_own rfl 32 (.tmp 5) (.tmp 115) rfl fn [.int .i64 0, .int .i64 0, .int .i64 0, .int .i64 0, .int .i64 0] [.int .i64 0, .int .i64 0, .int .i64 0, .int .i64 0, .int .i64 0] (by kernel_rfl) rfl rfl (HY1.out.boxi 1 rfl) rfl (by intro u hu; simp at hu; subst hu; rfl) ?_
     intro wy ho hO
     have HY2 := hH (HY1.out.call1 1 rfl ho hO)
     clear ho hO HY1
     refine hK.out _ _ (HY2.out.boxi 1 rfl) (fun hSn => ?_)
     clear hK K hSw0
     have hSw0 := hSn
     clear hSn
     refine tS 4 6 ?_
     refine tD ?_ _
     clear hSw0
     have HFOL := hH (HFR.out.trans (if_neg (by intro h; omega)))
     have br := HY2.out.boxi 2 rfl
     have bn := HY2.out.boxi 1 rfl
     obtain ⟨r0, r1, r2, r3, r4⟩ := Kn.own5 br
     obtain ⟨n0, n1, n2, n3, n4⟩ := Kn.own5 bn
     clear br bn
     go_wp2
     (try simp only [Exit.inBlock, Exit.then])
     refine bodyPost_ret (v := .tuple #[.agg #[.int .i64 0, .int .i64 0, .int .i64 0, .slice none 0 0, .slice none 0 0], .agg #[.int .i64 0, .int .i64 0, .int .i64 0, .int .i64 0, .int .i64 0], .bool false]) ?_ rfl ?_
     ·simp only [results, HRES.out]
      go_simp
     have HYs : Wk w0 wb wy ((S, SB pd.D gb p own e 0) :: (fn, [.int .i64 0, .int .i64 0, .int .i64 0, .int .i64 0, .int .i64 0]) :: (fr, [.int .i64 0, .int .i64 0, .int .i64 0, .slice none 0 0, .slice none 0 0]) :: (fq, [.int .i64 q.s, .int .i64 q.o, .int .i64 q.l, .int .i64 q.p, .int .i64 q.m]) :: L) (_ :: G) (_ :: F) := HY2.out
     exact OneSays.no HFOL.out ((HYs.sub (L' := (S, SB pd.D gb p own e 0) :: L) (F' := F) (.cons_cons _ (.cons _ (.cons _ (.cons _ (List.Sublist.refl _))))) (fun f hf => mc _ hf)).subG (G' := G) (by simp))
    have hb1 : (rn != q.l) = false := by simp [c1]
    have hb2 : (rp != q.p) = true := by simpa using c2
    clear c1
    go_wp2_with fail
    have HY := hH HX.out.drew
    clear HX
    refine wp_region_held_drew (S := (fun w' => Kn.Own w' fn [.int .i64 0, .int .i64 0, .int .i64 0, .int .i64 0, .int .i64 0])) (by kernel_rfl) (HY.out.boxi 1 rfl) (fun hSw0 => ?_)
    generalize w9.drew = wz at *
    refine tS 0 114 ?_
    refine tS 1 115 (v := (.agg #[.int .i64 0, .int .i64 0, .int .i64 0, .int .i64 0, .int .i64 0])) (hy := fun w hSw => by
     have q0 := hSw
     obtain ⟨q00, q01, q02, q03, q04⟩ := Kn.own5 q0
     clear q0
     go_simp) ?_
    refine Kn.takeR 2 ⟨none, _, _, _, _, _⟩ fun K hK => ?_
    refine step_store_own rfl 56 (.tmp 4) (.tmp 114) rfl fr [.int .i64 rm, .int .i64 rn, .int .i64 rp, .slice s1 s2 s3, .slice t1 t2 t3] [.int .i64 0, .int .i64 0, .int .i64 0, .slice none 0 0, .slice none 0 0] (by kernel_rfl) rfl rfl (HY.out.boxi 2 rfl) rfl (by intro u hu; simp at hu; rcases hu with rfl | rfl <;> rfl) ?_
    intro wa ho hO
    have HY1 := hH (HY.out.call1 2 rfl ho hO)
    clear ho hO HY
    refine hK.out _ _ (HY1.out.boxi 1 rfl) (fun hSn => ?_)
    clear hK K hSw0
    have hSw0 := hSn
    clear hSn
    refine Kn.takeR 3 ⟨none, _, _, _, _, _⟩ fun K hK => ?_
    refine step_store_own rfl 32 (.tmp 5) (.tmp 115) rfl fn [.int .i64 0, .int .i64 0, .int .i64 0, .int .i64 0, .int .i64 0] [.int .i64 0, .int .i64 0, .int .i64 0, .int .i64 0, .int .i64 0] (by kernel_rfl) rfl rfl (HY1.out.boxi 1 rfl) rfl (by intro u hu; simp at hu; subst hu; rfl) ?_
    intro wy ho hO
    have HY2 := hH (HY1.out.call1 1 rfl ho hO)
    clear ho hO HY1
    refine hK.out _ _ (HY2.out.boxi 1 rfl) (fun hSn => ?_)
    clear hK K hSw0
    have hSw0 := hSn
    clear hSn
    refine tS 4 6 ?_
    refine tD ?_ _
    clear hSw0
    have HFOL := hH (HFR.out.trans (if_neg (by intro h; exact c2 h.2.1)))
    have br := HY2.out.boxi 2 rfl
    have bn := HY2.out.boxi 1 rfl
    obtain ⟨r0, r1, r2, r3, r4⟩ := Kn.own5 br
    obtain ⟨n0, n1, n2, n3, n4⟩ := Kn.own5 bn
    clear br bn
    go_wp2
    (try simp only [Exit.inBlock, Exit.then])
    refine bodyPost_ret (v := .tuple #[.agg #[.int .i64 0, .int .i64 0, .int .i64 0, .slice none 0 0, .slice none 0 0], .agg #[.int .i64 0, .int .i64 0, .int .i64 0, .int .i64 0, .int .i64 0], .bool false]) ?_ rfl ?_
    ·simp only [results, HRES.out]
     go_simp
    have HYs : Wk w0 wb wy ((S, SB pd.D gb p own e 0) :: (fn, [.int .i64 0, .int .i64 0, .int .i64 0, .int .i64 0, .int .i64 0]) :: (fr, [.int .i64 0, .int .i64 0, .int .i64 0, .slice none 0 0, .slice none 0 0]) :: (fq, [.int .i64 q.s, .int .i64 q.o, .int .i64 q.l, .int .i64 q.p, .int .i64 q.m]) :: L) (_ :: G) (_ :: F) := HY2.out
    exact OneSays.no HFOL.out ((HYs.sub (L' := (S, SB pd.D gb p own e 0) :: L) (F' := F) (.cons_cons _ (.cons _ (.cons _ (.cons _ (List.Sublist.refl _))))) (fun f hf => mc _ hf)).subG (G' := G) (by simp))
   have hb1 : (rn != q.l) = true := by simpa using c1
   go_wp2_with fail
   have HY := hH HX.out.drew
   clear HX
   refine wp_region_held_drew (S := (fun w' => Kn.Own w' fn [.int .i64 0, .int .i64 0, .int .i64 0, .int .i64 0, .int .i64 0])) (by kernel_rfl) (HY.out.boxi 1 rfl) (fun hSw0 => ?_)
   generalize w9.drew = wz at *
   refine tS 0 114 ?_
   refine tS 1 115 (v := (.agg #[.int .i64 0, .int .i64 0, .int .i64 0, .int .i64 0, .int .i64 0])) (hy := fun w hSw => by
    have q0 := hSw
    obtain ⟨q00, q01, q02, q03, q04⟩ := Kn.own5 q0
    clear q0
    go_simp) ?_
   refine Kn.takeR 2 ⟨none, _, _, _, _, _⟩ fun K hK => ?_
   refine step_store_own rfl 56 (.tmp 4) (.tmp 114) rfl fr [.int .i64 rm, .int .i64 rn, .int .i64 rp, .slice s1 s2 s3, .slice t1 t2 t3] [.int .i64 0, .int .i64 0, .int .i64 0, .slice none 0 0, .slice none 0 0] (by kernel_rfl) rfl rfl (HY.out.boxi 2 rfl) rfl (by intro u hu; simp at hu; rcases hu with rfl | rfl <;> rfl) ?_
   intro wa ho hO
   have HY1 := hH (HY.out.call1 2 rfl ho hO)
   clear ho hO HY
   refine hK.out _ _ (HY1.out.boxi 1 rfl) (fun hSn => ?_)
   clear hK K hSw0
   have hSw0 := hSn
   clear hSn
   refine Kn.takeR 3 ⟨none, _, _, _, _, _⟩ fun K hK => ?_
   refine step_store_own rfl 32 (.tmp 5) (.tmp 115) rfl fn [.int .i64 0, .int .i64 0, .int .i64 0, .int .i64 0, .int .i64 0] [.int .i64 0, .int .i64 0, .int .i64 0, .int .i64 0, .int .i64 0] (by kernel_rfl) rfl rfl (HY1.out.boxi 1 rfl) rfl (by intro u hu; simp at hu; subst hu; rfl) ?_
   intro wy ho hO
   have HY2 := hH (HY1.out.call1 1 rfl ho hO)
   clear ho hO HY1
   refine hK.out _ _ (HY2.out.boxi 1 rfl) (fun hSn => ?_)
   clear hK K hSw0
   have hSw0 := hSn
   clear hSn
   refine tS 4 6 ?_
   refine tD ?_ _
   clear hSw0
   have HFOL := hH (HFR.out.trans (if_neg (by intro h; exact c1 h.1)))
   have br := HY2.out.boxi 2 rfl
   have bn := HY2.out.boxi 1 rfl
   obtain ⟨r0, r1, r2, r3, r4⟩ := Kn.own5 br
   obtain ⟨n0, n1, n2, n3, n4⟩ := Kn.own5 bn
   clear br bn
   go_wp2
   (try simp only [Exit.inBlock, Exit.then])
   refine bodyPost_ret (v := .tuple #[.agg #[.int .i64 0, .int .i64 0, .int .i64 0, .slice none 0 0, .slice none 0 0], .agg #[.int .i64 0, .int .i64 0, .int .i64 0, .int .i64 0, .int .i64 0], .bool false]) ?_ rfl ?_
   ·simp only [results, HRES.out]
    go_simp
   have HYs : Wk w0 wb wy ((S, SB pd.D gb p own e 0) :: (fn, [.int .i64 0, .int .i64 0, .int .i64 0, .int .i64 0, .int .i64 0]) :: (fr, [.int .i64 0, .int .i64 0, .int .i64 0, .slice none 0 0, .slice none 0 0]) :: (fq, [.int .i64 q.s, .int .i64 q.o, .int .i64 q.l, .int .i64 q.p, .int .i64 q.m]) :: L) (_ :: G) (_ :: F) := HY2.out
   exact OneSays.no HFOL.out ((HYs.sub (L' := (S, SB pd.D gb p own e 0) :: L) (F' := F) (.cons_cons _ (.cons _ (.cons _ (.cons _ (List.Sublist.refl _))))) (fun f hf => mc _ hf)).subG (G' := G) (by simp))
 have hzb : decide (z = 0) = false := by simpa using hz0
 refine tS 0 44 (hy := fun w hSw => by
  (try dsimp only at hSw); have q0 := hSw.1.cell 1 (by simp); have q2 := hSw.2; simp only [g0, gs] at q0
  go_simp
  all_goals (try with_reducible rfl)) ?_
 refine tS 1 45 (hy := fun w hSw => by
  (try dsimp only at hSw); have q0 := hSw.1.cell 1 (by simp); have q2 := hSw.2; simp only [g0, gs] at q0
  go_simp
  all_goals (try with_reducible rfl)) ?_
 refine tS 2 46 (hy := fun w hSw => by
  (try dsimp only at hSw); have q0 := hSw.1.cell 1 (by simp); have q2 := hSw.2; simp only [g0, gs] at q0
  go_simp
  all_goals (try with_reducible rfl)) ?_
 refine tN 3 47 ?_
 refine tN 4 48 ?_
 refine tS 5 49 (hy := fun w hSw => by
  (try dsimp only at hSw); have q0 := hSw.1.cell 1 (by simp); have q2 := hSw.2; simp only [g0, gs] at q0
  go_simp
  all_goals (try with_reducible rfl)) ?_
 refine tS 6 50 (hy := fun w hSw => by
  (try dsimp only at hSw); have q0 := hSw.1.cell 1 (by simp); have q2 := hSw.2; simp only [g0, gs] at q0
  go_simp
  all_goals (try with_reducible rfl)) ?_
 refine tN 7 51 ?_
 refine tN 8 52 ?_
 refine tN 9 53 ?_
 refine tN 10 54 ?_
 refine tN 11 55 ?_
 refine tN 12 56 ?_
 refine tN 13 57 ?_
 refine tN 14 58 ?_
 refine tN 15 59 ?_
 refine tN 16 60 ?_
 refine tN 17 61 ?_
 refine tS 18 62 (hy := fun w hSw => by
  (try dsimp only at hSw); have q0 := hSw.1.cell 1 (by simp); have q2 := hSw.2; simp only [g0, gs] at q0
  go_simp
  all_goals (try with_reducible rfl)) ?_
 refine tD ?_ _
 clear hSw7
 go_wp2_with fail
 have HY := hH HQ6.out.drew
 clear HQ6
 refine wp_region_held_drew (S := (fun w' => Kn.Own w' fr [.int .i64 0, .int .i64 0, .int .i64 0, .slice none 0 0, .slice none 0 0] ∧ Kn.Own w' fn [.int .i64 0, .int .i64 0, .int .i64 0, .int .i64 0, .int .i64 0])) (by kernel_rfl) ⟨HY.out.boxi 2 rfl, HY.out.boxi 1 rfl⟩ (fun hSw0 => ?_)
 generalize v7.drew = wz at *
 refine tS 0 63 (v := (.agg #[.int .i64 0, .int .i64 0, .int .i64 0, .slice none 0 0, .slice none 0 0])) (hy := fun w hSw => by
  have q0 := hSw.1
  obtain ⟨q00, q01, q02, q03, q04⟩ := Kn.own5 q0
  clear q0
  go_simp) ?_
 refine tS 1 64 (v := (.agg #[.int .i64 0, .int .i64 0, .int .i64 0, .int .i64 0, .int .i64 0])) (hy := fun w hSw => by
  have q0 := hSw.2
  obtain ⟨q00, q01, q02, q03, q04⟩ := Kn.own5 q0
  clear q0
  go_simp) ?_
 refine Kn.takeR 2 ⟨none, _, _, _, _, _⟩ fun K hK => ?_
 refine step_store_own rfl 56 (.tmp 4) (.tmp 63) rfl fr [.int .i64 0, .int .i64 0, .int .i64 0, .slice none 0 0, .slice none 0 0] [.int .i64 0, .int .i64 0, .int .i64 0, .slice none 0 0, .slice none 0 0] (by kernel_rfl) rfl rfl (HY.out.boxi 2 rfl) rfl (by intro u hu; simp at hu; rcases hu with rfl | rfl <;> rfl) ?_
 intro wa ho hO
 have HY1 := hH (HY.out.call1 2 rfl ho hO)
 clear ho hO HY
 refine hK.out _ _ ⟨HY1.out.boxi 2 rfl, HY1.out.boxi 1 rfl⟩ (fun hSn => ?_)
 clear hK K hSw0
 have hSw0 := hSn
 clear hSn
 refine Kn.takeR 3 ⟨none, _, _, _, _, _⟩ fun K hK => ?_
 refine step_store_own rfl 32 (.tmp 5) (.tmp 64) rfl fn [.int .i64 0, .int .i64 0, .int .i64 0, .int .i64 0, .int .i64 0] [.int .i64 0, .int .i64 0, .int .i64 0, .int .i64 0, .int .i64 0] (by kernel_rfl) rfl rfl (HY1.out.boxi 1 rfl) rfl (by intro u hu; simp at hu; subst hu; rfl) ?_
 intro wy ho hO
 have HY2 := hH (HY1.out.call1 1 rfl ho hO)
 clear ho hO HY1
 refine hK.out _ _ ⟨HY2.out.boxi 2 rfl, HY2.out.boxi 1 rfl⟩ (fun hSn => ?_)
 clear hK K hSw0
 have hSw0 := hSn
 clear hSn
 refine tS 4 6 ?_
 refine tD ?_ _
 clear hSw0
 have HFOL := hH ((follow_err (d := d) (c := cf) (p := q) ⟨ho0, by omega⟩ HA.out (by rw [HZ.out]; exact hz0)).trans (by rw [HZ.out]))
 have br := HY2.out.boxi 2 rfl
 have bn := HY2.out.boxi 1 rfl
 obtain ⟨r0, r1, r2, r3, r4⟩ := Kn.own5 br
 obtain ⟨n0, n1, n2, n3, n4⟩ := Kn.own5 bn
 clear br bn
 go_wp2
 (try simp only [Exit.inBlock, Exit.then])
 refine bodyPost_ret (v := .tuple #[.agg #[.int .i64 0, .int .i64 0, .int .i64 0, .slice none 0 0, .slice none 0 0], .agg #[.int .i64 0, .int .i64 0, .int .i64 0, .int .i64 0, .int .i64 0], .bool false]) ?_ rfl ?_
 ·simp only [results, HRES.out]
  go_simp
 have HYs : Wk w0 wb wy ((S, SB pd.D gb p own e z) :: (fn, [.int .i64 0, .int .i64 0, .int .i64 0, .int .i64 0, .int .i64 0]) :: (fr, [.int .i64 0, .int .i64 0, .int .i64 0, .slice none 0 0, .slice none 0 0]) :: (fq, [.int .i64 q.s, .int .i64 q.o, .int .i64 q.l, .int .i64 q.p, .int .i64 q.m]) :: L) (_ :: G) F := HY2.out
 exact OneSays.no HFOL.out ((HYs.sub (L' := (S, SB pd.D gb p own e z) :: L) (F' := F) (.cons_cons _ (.cons _ (.cons _ (.cons _ (List.Sublist.refl _))))) (fun f hf => hf)).subG (G' := G) (by simp))
end Go.Proofs.YtgcfdjcpcclcjaaGreat
namespace Go.Kn
open Go Go.RowKit
/-- a record that was told, and where it stands -/
structure Fnd where
 p : Ps
 r : Rc
 s : Option Addr × Nat × Nat
 t : Option Addr × Nat × Nat
def Fnd.enc (x : Fnd) : Array Value := #[.agg #[.int .i64 x.p.s, .int .i64 x.p.o, .int .i64 x.p.l, .int .i64 x.p.p, .int .i64 x.p.m], .agg (x.r.cells x.s x.t)]
def Fnd.fct (x : Fnd) : World → Prop := fun W => RcAt W x.r x.s x.t
def Fnd.pr (x : Fnd) : Ps × Rc := (x.p, x.r)
theorem scanG_some {d : Dk} {c : Cf} {k : Nat} {p q : Ps} {r : Rc} {e : Int} (h : follow d c p = (some (r, q), e)) : scanG d c (k + 1) p = if (nextOf r).isSome then ([(p, r)], q, 0) else ((p, r) :: (scanG d c k q).1, (scanG d c k q).2) := by
 rw [scanG, h]
theorem scanG_none {d : Dk} {c : Cf} {k : Nat} {p : Ps} {e : Int} (h : follow d c p = (none, e)) : scanG d c (k + 1) p = ([], p, e) := by
 rw [scanG, h]
theorem follow_place {d : Dk} {c : Cf} {p q : Ps} {r : Rc} {e : Int} (h : follow d c p = (some (r, q), e)) : q.s = p.s ∧ p.o < q.o ∧ q.o ≤ c.l ∧ e = 0 := by
 unfold follow at h
 split at h
 ·split at h
  ·split at h
   ·cases h
   rename_i hs
   split at h
   ·split at h
    ·cases h
    split at h
    ·injection h with h1 h2
     injection h1 with h1
     injection h1 with h1 h3
     subst h3
     simp only
     refine ⟨trivial, ?_, ?_, h2.symm⟩ <;> omega
    cases h
   cases h
  cases h
 cases h
theorem scanG_len (d : Dk) (c : Cf) : ∀ (k : Nat) (p : Ps), (scanG d c k p).1.length ≤ k
 | 0, _ => Nat.zero_le _
 | k + 1, p => by
  have ih := scanG_len d c k
  rcases h : follow d c p with ⟨_ | ⟨r, q⟩, e⟩
  ·rw [scanG_none h]; simp
  rw [scanG_some h]
  split
  ·simp
  simpa using ih q
theorem scanR_len (d : Dk) (c : Cf) (own : Bool) (p : Ps) : (scanR d c own p).1.length ≤ 65 := by
 unfold scanR
 split
 ·exact scanG_len _ _ _ _
 simp
/-- where a scan may begin -/
theorem scanB_place {d : Dk} {c : Cf} {own : Bool} {p : Ps} (hc : c.Ok) (h : (scanB d c own p).2.1 = true) : (0 ≤ (scanB d c own p).1.s ∧ (scanB d c own p).1.s ≤ c.s - 1) ∧ 1 ≤ (scanB d c own p).1.o ∧ (scanB d c own p).1.o ≤ 64 ∧ (scanB d c own p).2.2 = 0 := by
 have hl := hc.2.2
 unfold scanB at h ⊢
 split
 ·rename_i hp
  split
  ·refine ⟨hp.1, ?_, ?_, rfl⟩ <;> simp only <;> omega
  split
  ·split
   ·rename_i h1 h2 h3 h4
    rw [if_pos hp, if_neg h1, if_pos h2, h4] at h
    cases h
   rename_i h1 h2 h3 hd h4
   split
   ·exact ⟨hp.1, by simp, by simp, rfl⟩
   rename_i h5
   rw [if_pos hp, if_neg h1, if_pos h2, h4] at h
   simp only at h
   rw [if_neg h5] at h
   cases h
  rename_i h1 h2
  rw [if_pos hp, if_neg h1, if_neg h2] at h
  cases h
 rename_i hp
 rw [if_neg hp] at h
 cases h
theorem at3_mk {w0 w : World} {L L' : List (Nat × List Value)} {G G' : List Gs} {fs F F' : List (World → Prop)} (h : Wc w0 w (L ++ L') (G ++ G') (fs ++ (F ++ F'))) : At3 w0 w ⟨L, G, fs ++ F⟩ ⟨L', G', F'⟩ := by
 show Wc w0 w _ _ ((fs ++ F) ++ F')
 rw [List.append_assoc]
 exact h
theorem at3_get {w0 w : World} {L : List (Nat × List Value)} {G : List Gs} {fs F : List (World → Prop)} {c : Fr3} (h : At3 w0 w ⟨L, G, fs ++ F⟩ c) : Wc w0 w (L ++ c.L) (G ++ c.G) (fs ++ (F ++ c.F)) := by
 have h2 : Wc w0 w (L ++ c.L) (G ++ c.G) ((fs ++ F) ++ c.F) := h
 rwa [List.append_assoc] at h2
def offAt (w : World) (b : Nat) : Nat := match w.cell? ⟨b, 1, none⟩ with | some (.int _ o) => o.toNat | _ => 0
theorem offAt_eq {w : World} {b : Nat} {k : IntKind} {o : Int} (h : w.cell? ⟨b, 1, none⟩ = some (.int k o)) : offAt w b = o.toNat := by
 unfold offAt
 rw [h]
end Go.Kn
namespace Go.Proofs.YtgcfdjcpcclcjaaGreat
open Go Go.RowKit Go.Kn
attribute [local go_sem] Oper.semAt_some
section
variable (S D gb : Nat) (d : Dk) (cf : Cf) (p : Ps) (own : Bool) (L : List (Nat × List Value)) (G : List Gs) (F : List (World → Prop))
def PlPre (pre : List Fnd) (x : Fnd) (φ : Fr3) : Prop := ∃ (b3 : Nat) (q : Ps) (fs : List (World → Prop)), φ = ⟨(S, SB D gb p own q 0) :: (b3, [.int .i64 x.p.s, .int .i64 x.p.o, .int .i64 x.p.l, .int .i64 x.p.p, .int .i64 x.p.m]) :: L, G, fs ++ F⟩ ∧ (∀ y ∈ pre ++ [x], y.fct ∈ fs) ∧ (pre ++ [x]).map Fnd.pr <+: (scanR d cf own p).1 ∧ Kn.follow d cf x.p = (some (x.r, q), 0)
def PlFin (xs : List Fnd) (φ : Fr3) : Prop := ∃ fs : List (World → Prop), φ = ⟨(S, SB D gb p own (scanR d cf own p).2.1 (scanR d cf own p).2.2) :: L, G, fs ++ F⟩ ∧ (∀ y ∈ xs, y.fct ∈ fs) ∧ xs.map Fnd.pr = (scanR d cf own p).1
def PlFix (pre : List Fnd) (φ : Fr3) : Prop := ∃ (e : Ps) (fs : List (World → Prop)), φ = ⟨(S, SB D gb p own e 0) :: L, G, fs ++ F⟩ ∧ (∀ y ∈ pre, y.fct ∈ fs) ∧ pre.map Fnd.pr <+: (scanR d cf own p).1 ∧ ∃ pre' x, pre = pre' ++ [x] ∧ Kn.follow d cf x.p = (some (x.r, e), 0)
end
theorem places1_seq (w0 W : World) (S b1 gb : Nat) (pd : PD) (d : Dk) (cf : Cf) (p : Ps) (own : Bool) (e : Ps) (er : Int) (L : List (Nat × List Value)) (G : List Gs) (F : List (World → Prop)) (n : Nat) (hn : 1 ≤ n)
  (hd : DkIn pd d L) (hb1 : (b1, [.pointer (some ⟨S, 0, none⟩)]) ∈ L) (hg : (fun W => GeoAt W gb cf.b cf.s cf.l) ∈ F) (hc : cf.Ok) :
  SeqW Fence.wide n Tryz.prog 151 #[.pointer (some ⟨b1, 0, none⟩)] Fnd.enc (PlPre S pd.D gb d cf p own L G F) (PlFin S pd.D gb d cf p own L G F) (PlFix S pd.D gb d cf p own L G F) 65 w0 W ⟨(S, SB pd.D gb p own e er) :: L, G, F⟩ := by
 intro l J c0 hJc hY hJ0 hA
 have hA' : Wc w0 W ((S, SB pd.D gb p own e er) :: (L ++ c0.L)) (G ++ c0.G) (F ++ c0.F) := hA
 have c1 : W.cell? ⟨b1, 0, none⟩ = some (.pointer (some ⟨S, 0, none⟩)) := (hA'.own _ (mc _ (List.mem_append_left _ hb1))).cell 0 (by simp)
 have HA := hH hA'
 have HB1 := hH hb1
 have HDK := hH hd
 have HG := hH hg
 have HC := hH hc
 clear hA hA' hd hg hb1
 refine callsIn_of_wp Tryz.func151 rfl trivial ?_ rfl
 simp only [Tryz.ntmps151, List.size_toArray, List.length_cons, List.length_nil, Nat.reduceAdd, Nat.reduceSub, Array.replicate_succ, Array.replicate_zero, List.push_toArray, List.append_toArray, List.nil_append, List.cons_append]
 gi_wp2_with fail
 refine ⟨trivial, callsIn_wide.2 ((scan_begin_any w0 W S gb pd d cf p own e er (L ++ c0.L) (G ++ c0.G) (F ++ c0.F) (Wk.start HA.out) (HDK.out.mono (fun x hx => List.mem_append_left _ hx)) (List.mem_append_left _ HG.out) HC.out).mono ?_)⟩
 rintro en w1 ⟨rfl, hw1⟩
 obtain ⟨⟨pj, ok, er2⟩, hbg⟩ : ∃ x, scanB d cf own p = x := ⟨_, rfl⟩
 rw [hbg] at hw1 ⊢
 simp only at hw1 ⊢
 have HW1 := hH hw1
 clear hw1 c1 HA
 have bS := HW1.out.boxi 0 (p := S) rfl
 have s8 := bS.cell 8 (by simp [SB])
 have s9 := bS.cell 9 (by simp [SB])
 have s10 := bS.cell 10 (by simp [SB])
 have s11 := bS.cell 11 (by simp [SB])
 have s12 := bS.cell 12 (by simp [SB])
 simp only [SB, g0, gs] at s8 s9 s10 s11 s12
 have z8 := bS.frozen 8
 have z9 := bS.frozen 9
 have z10 := bS.frozen 10
 have z11 := bS.frozen 11
 have z12 := bS.frozen 12
 have lS := bS.lt
 have bB := HW1.out.own _ (mc _ (List.mem_append_left _ HB1.out))
 have c1 := bB.cell 0 (by simp)
 have lB := bB.lt
 simp only [g0] at c1
 gi_wp2_with fail
 have hw2 : Wk w0 W ((((((w1.setCell ⟨S, 8, none⟩ (.int .i64 pj.s)).setCell ⟨S, 9, none⟩ (.int .i64 pj.o)).setCell ⟨S, 10, none⟩ (.int .i64 pj.l)).setCell ⟨S, 11, none⟩ (.int .i64 pj.p)).setCell ⟨S, 12, none⟩ (.int .i64 pj.m)).alloc (.cells #[.int .i64 pj.s, .int .i64 pj.o, .int .i64 pj.l, .int .i64 pj.p, .int .i64 pj.m] 32)) ((S, SB pd.D gb p own pj er2) :: (w1.heap.size, [.int .i64 pj.s, .int .i64 pj.o, .int .i64 pj.l, .int .i64 pj.p, .int .i64 pj.m]) :: (L ++ c0.L)) (G ++ c0.G) (F ++ c0.F) :=
  ((((((HW1.out.put 0 (p := S) rfl 8 (.int .i64 pj.s)).put 0 (p := S) rfl 9 (.int .i64 pj.o)).put 0 (p := S) rfl 10 (.int .i64 pj.l)).put 0 (p := S) rfl 11 (.int .i64 pj.p)).put 0 (p := S) rfl 12 (.int .i64 pj.m)).newB #[.int .i64 pj.s, .int .i64 pj.o, .int .i64 pj.l, .int .i64 pj.p, .int .i64 pj.m] 32 (by simp)).perm (List.Perm.swap _ _ _) (List.Perm.refl _)
 have HW2 := hH hw2
 clear hw2 bS bB c1 lB lS s8 s9 s10 s11 s12 z8 z9 z10 z11 z12 HW1
 generalize (((((w1.setCell ⟨S, 8, none⟩ (.int .i64 pj.s)).setCell ⟨S, 9, none⟩ (.int .i64 pj.o)).setCell ⟨S, 10, none⟩ (.int .i64 pj.l)).setCell ⟨S, 11, none⟩ (.int .i64 pj.p)).setCell ⟨S, 12, none⟩ (.int .i64 pj.m)).alloc (.cells #[.int .i64 pj.s, .int .i64 pj.o, .int .i64 pj.l, .int .i64 pj.p, .int .i64 pj.m] 32) = w2 at *
 generalize w1.heap.size = b3 at *
 have hs2 : W.heap.size ≤ w2.heap.size := HW2.out.hs
 have hJ2 : J none [] c0 w2 := hJc _ _ _ _ _ hJ0 HW2.out.kb
 gi_loopw [4] (fun t4 wr => ∃ (pre : List Fnd) (c : Fr3) (fs : List (World → Prop)) (pj : Ps) (ok : Bool) (er : Int) (k : Nat), t4 = .bool ok ∧ Wc w0 wr ((S, SB pd.D gb p own pj er) :: (b3, [.int .i64 pj.s, .int .i64 pj.o, .int .i64 pj.l, .int .i64 pj.p, .int .i64 pj.m]) :: (L ++ c.L)) (G ++ c.G) (fs ++ (F ++ c.F)) ∧ (∀ y ∈ pre, y.fct ∈ fs) ∧ J none pre c wr ∧ W.heap.size ≤ wr.heap.size ∧
  ((ok = true ∧ er = 0 ∧ scanR d cf own p = (pre.map Fnd.pr ++ (scanG d cf k pj).1, (scanG d cf k pj).2) ∧ 65 ≤ (k : Int) + pj.o ∧ 1 ≤ pj.o ∧ pj.o ≤ 64 ∧ 0 ≤ pj.s ∧ pj.s ≤ cf.s - 1) ∨ (ok = false ∧ scanR d cf own p = (pre.map Fnd.pr, pj, er)))) (fun _ wr => 65 - offAt wr b3)
 case atStart =>
  refine ⟨[], c0, [], pj, ok, er2, 65, rfl, HW2.out.toWc, by simp, hJ2, hs2, ?_⟩
  cases ok with
  | true =>
   have hpl := scanB_place (d := d) (own := own) (p := p) HC.out (by rw [hbg])
   rw [hbg] at hpl
   obtain ⟨⟨h1, h2⟩, h3, h4, h5⟩ := hpl
   simp only at h1 h2 h3 h4 h5
   refine .inl ⟨rfl, h5, ?_, by omega, h3, h4, h1, h2⟩
   unfold scanR
   rw [hbg]
   simp
  | false =>
   refine .inr ⟨rfl, ?_⟩
   unfold scanR
   rw [hbg]
   simp
 clear HW2 hs2 hJ2
 obtain ⟨pre, c, fs, pj, ok, er, k, rfl, hw, hfs, hJp, hsz, hst⟩ := hrel
 rcases hst with ⟨rfl, rfl, hsc, hk65, ho1, ho64, hs0, hs1⟩ | ⟨rfl, hsc⟩
 ·have HW := hH (Wk.start hw)
  have HS := hH hsc
  have HFS := hH hfs
  have HOF2 : Hid (offAt wr b3 = pj.o.toNat) := hH (offAt_eq (k := .i64) (by simpa using (HW.out.boxi 1 rfl).cell 1 (by simp)))
  have bS := HW.out.boxi 1 rfl
  obtain ⟨p0, p1, p2, p3, p4⟩ := Kn.own5 bS
  have c1 := Kn.own1 (HW.out.own _ (mc _ (mc _ (List.mem_append_left _ HB1.out))))
  clear hw bS hsc hfs
  gi_wp2_with fail
  refine ⟨trivial, callsIn_wide.2 ((scan_one_any w0 wr S gb pd d cf p own pj pj (_ :: (L ++ c.L)) (G ++ c.G) (fs ++ (F ++ c.F)) HW.out (HDK.out.mono (fun x hx => mc _ (List.mem_append_left _ hx))) (List.mem_append_right _ (List.mem_append_left _ HG.out)) HC.out ⟨ho1, ho64⟩ ⟨hs0, hs1⟩).mono ?_)⟩
  obtain ⟨x, hfo⟩ : ∃ x, Kn.follow d cf pj = x := ⟨_, rfl⟩
  have HFO := hH hfo
  rw [hfo]
  clear hfo HW p0 p1 p2 p3 p4 c1
  rcases x with ⟨_ | ⟨r, q⟩, e1⟩
  ·rintro en w3 ⟨rfl, hw3⟩
   have HW3 := hH hw3
   clear hw3
   gi_wp2_with fail
   obtain ⟨k, rfl⟩ : ∃ k', k = k' + 1 := ⟨k - 1, by omega⟩
   have he : scanR d cf own p = (pre.map Fnd.pr, pj, e1) := by rw [HS.out, scanG_none HFO.out, List.append_nil]
   have hO4 : Only [] w3 ((w3.alloc (.cells #[.int .i64 0, .int .i64 0, .int .i64 0, .slice none 0 0, .slice none 0 0] 56)).alloc (.cells #[.int .i64 0, .int .i64 0, .int .i64 0, .int .i64 0, .int .i64 0] 32)) := ((Only.refl _ _).alloc _).alloc _
   have hw4 := HW3.out.keep0 hO4
   refine bodyPost_ret (results_none rfl _ _ _) rfl ⟨⟨_, rfl⟩, Nat.le_trans hsz hw4.hs, ⟨(S, SB pd.D gb p own pj e1) :: L, G, fs ++ F⟩, c, ?_, .inl ⟨pre, ⟨fs, by rw [he], HFS.out, by rw [he]⟩, hJc _ _ _ _ _ hJp (hw4.kb.mono hsz)⟩⟩
   exact at3_mk (hw4.sub (L' := (S, SB pd.D gb p own pj e1) :: (L ++ c.L)) (F' := fs ++ (F ++ c.F)) (.cons_cons _ (.cons _ (List.Sublist.refl _))) (fun f hf => hf)).toWc
  rintro en w3 ⟨⟨s1, s2, s3⟩, ⟨t1, t2, t3⟩, rfl, hw3⟩
  have HW3 := hH hw3
  clear hw3
  have bS := HW3.out.boxi 0 (p := S) rfl
  have s8 := bS.cell 8 (by simp [SB])
  have s9 := bS.cell 9 (by simp [SB])
  have s10 := bS.cell 10 (by simp [SB])
  have s11 := bS.cell 11 (by simp [SB])
  have s12 := bS.cell 12 (by simp [SB])
  simp only [SB, g0, gs] at s8 s9 s10 s11 s12
  have z8 := bS.frozen 8
  have z9 := bS.frozen 9
  have z10 := bS.frozen 10
  have z11 := bS.frozen 11
  have z12 := bS.frozen 12
  have lS := bS.lt
  have bB := HW3.out.own _ (mc _ (mc _ (List.mem_append_left _ HB1.out)))
  have c1 := bB.cell 0 (by simp)
  have lB := bB.lt
  simp only [g0] at c1
  simp only [Rc.cells, slv]
  gi_wp2_with fail
  have hw4 : Wk w0 wr (((((((w3.setCell ⟨S, 8, none⟩ (.int .i64 q.s)).setCell ⟨S, 9, none⟩ (.int .i64 q.o)).setCell ⟨S, 10, none⟩ (.int .i64 q.l)).setCell ⟨S, 11, none⟩ (.int .i64 q.p)).setCell ⟨S, 12, none⟩ (.int .i64 q.m)).alloc (.cells #[.int .i64 r.m, .int .i64 r.n, .int .i64 r.p, .slice s1 s2 s3, .slice t1 t2 t3] 56)).alloc (.cells #[.int .i64 q.s, .int .i64 q.o, .int .i64 q.l, .int .i64 q.p, .int .i64 q.m] 32)) ((w3.heap.size + 1, [.int .i64 q.s, .int .i64 q.o, .int .i64 q.l, .int .i64 q.p, .int .i64 q.m]) :: (w3.heap.size, [.int .i64 r.m, .int .i64 r.n, .int .i64 r.p, .slice s1 s2 s3, .slice t1 t2 t3]) :: (S, SB pd.D gb p own q 0) :: (b3, [.int .i64 pj.s, .int .i64 pj.o, .int .i64 pj.l, .int .i64 pj.p, .int .i64 pj.m]) :: (L ++ c.L)) (G ++ c.G) ((fun W => RcAt W r (s1, s2, s3) (t1, t2, t3)) :: (fs ++ (F ++ c.F))) :=
   ((((((HW3.out.put 0 (p := S) rfl 8 (.int .i64 q.s)).put 0 (p := S) rfl 9 (.int .i64 q.o)).put 0 (p := S) rfl 10 (.int .i64 q.l)).put 0 (p := S) rfl 11 (.int .i64 q.p)).put 0 (p := S) rfl 12 (.int .i64 q.m)).newB #[.int .i64 r.m, .int .i64 r.n, .int .i64 r.p, .slice s1 s2 s3, .slice t1 t2 t3] 56 (b := w3.heap.size) (by simp [World.setCell])).newB #[.int .i64 q.s, .int .i64 q.o, .int .i64 q.l, .int .i64 q.p, .int .i64 q.m] 32 (by simp [World.setCell])
  have HW4 := hH hw4
  clear hw4 HW3 bS bB c1 lB lS s8 s9 s10 s11 s12 z8 z9 z10 z11 z12
  generalize hg4 : (((((((w3.setCell ⟨S, 8, none⟩ (.int .i64 q.s)).setCell ⟨S, 9, none⟩ (.int .i64 q.o)).setCell ⟨S, 10, none⟩ (.int .i64 q.l)).setCell ⟨S, 11, none⟩ (.int .i64 q.p)).setCell ⟨S, 12, none⟩ (.int .i64 q.m)).alloc (.cells #[.int .i64 r.m, .int .i64 r.n, .int .i64 r.p, .slice s1 s2 s3, .slice t1 t2 t3] 56)).alloc (.cells #[.int .i64 q.s, .int .i64 q.o, .int .i64 q.l, .int .i64 q.p, .int .i64 q.m] 32)) = w4 at *
  generalize w3.heap.size = b5 at *
  clear hg4 w3
  refine ⟨trivial, callsIn_wide.2 ((rec_next_any r (s1, s2, s3) (t1, t2, t3) _ (HW4.out.fact _ List.mem_cons_self).1).mono ?_)⟩
  rintro en w5 ⟨rfl, hO5⟩
  have HW5 := hH (HW4.out.keep0 hO5)
  clear hO5 HW4
  obtain ⟨hp1, hp2, hp3, rfl⟩ := follow_place HFO.out
  have HP1 := hH hp1
  clear hp1
  have hcl := HC.out.2.2
  obtain ⟨k, rfl⟩ : ∃ k', k = k' + 1 := ⟨k - 1, by omega⟩
  have hsc2 := HS.out
  rw [scanG_some HFO.out] at hsc2
  obtain ⟨x, hx⟩ : ∃ x : Fnd, x = ⟨pj, r, (s1, s2, s3), (t1, t2, t3)⟩ := ⟨_, rfl⟩
  have hxp : x.pr = (pj, r) := by rw [hx]; rfl
  have hxf : x.fct = (fun W => RcAt W r (s1, s2, s3) (t1, t2, t3)) := by rw [hx]; rfl
  have hfs2 : ∀ y ∈ pre ++ [x], y.fct ∈ (fun W => RcAt W r (s1, s2, s3) (t1, t2, t3)) :: fs := by
   intro y hy
   rcases List.mem_append.1 hy with hy | hy
   ·exact mc _ (HFS.out y hy)
   rw [List.mem_singleton] at hy
   subst hy
   rw [hxf]
   exact List.mem_cons_self
  have hpre : (pre ++ [x]).map Fnd.pr <+: (scanR d cf own p).1 := by
   rw [hsc2, List.map_append, List.map_cons, hxp]
   refine (List.prefix_append_right_inj _).2 ?_
   split
   ·exact List.prefix_refl _
   exact ⟨_, rfl⟩
  have hlen : pre.length < 65 := by
   have h1 := hpre.length_le
   have h2 := scanR_len d cf own p
   simp at h1
   omega
  have hat : At3 w0 w5 ⟨(S, SB pd.D gb p own q 0) :: (b3, [.int .i64 pj.s, .int .i64 pj.o, .int .i64 pj.l, .int .i64 pj.p, .int .i64 pj.m]) :: L, G, ((fun W => RcAt W r (s1, s2, s3) (t1, t2, t3)) :: fs) ++ F⟩ c := by
   exact at3_mk (fs := _ :: fs) (HW5.out.ldrop.ldrop).toWc
  have hj5 : J none pre c w5 := hJc _ _ _ _ _ hJp (HW5.out.kb.mono hsz)
  have hs5 : W.heap.size ≤ w5.heap.size := Nat.le_trans hsz HW5.out.hs
  obtain ⟨fn, tmps, assign, body, hy, hR⟩ := hY pre x _ c w5 ⟨b3, q, _, by rw [hx], hfs2, hpre, by rw [hx]; exact HFO.out⟩ hj5 hat hs5 hlen
  rw [hx] at hy
  simp only [Fnd.enc, Rc.cells, slv] at hy
  have HS2 := hH hsc2
  have HF2 := hH hfs2
  have HP2 := hH hpre
  have HXP := hH hxp
  have HXF : Hid (Kn.follow d cf x.p = (some (x.r, q), 0)) := hH (by rw [hx]; exact HFO.out)
  have b5o := HW5.out.boxi 1 rfl
  obtain ⟨r0, r1, r2, r3, r4⟩ := Kn.own5 b5o
  have b3o := HW5.out.boxi 3 rfl
  obtain ⟨p0, p1, p2, p3, p4⟩ := Kn.own5 b3o
  clear hsc2 hfs2 hpre hxp hxf hx hlen hat hj5 b5o b3o HFS HS
  cases hla : (nextOf r).isSome with
  | true =>
   gi_wp2_with fail
   refine hR.mono ?_
   rintro e2 W' ⟨c', hA', hkf, ⟨rfl, hj'⟩ | ⟨rfl, cd, hj'⟩⟩
   ·have hW' := Wk.start (at3_get (fs := (fun W => RcAt W r (s1, s2, s3) (t1, t2, t3)) :: fs) hA')
    have HW' := hH hW'
    have hs' : W.heap.size ≤ W'.heap.size := Nat.le_trans hs5 hkf.size
    have bS := HW'.out.boxi 0 (p := S) rfl
    have s8 := bS.cell 8 (by simp [SB])
    have s9 := bS.cell 9 (by simp [SB])
    have s10 := bS.cell 10 (by simp [SB])
    have s11 := bS.cell 11 (by simp [SB])
    have s12 := bS.cell 12 (by simp [SB])
    simp only [SB, g0, gs] at s8 s9 s10 s11 s12
    have bB := HW'.out.own _ (mc _ (mc _ (List.mem_append_left _ HB1.out)))
    have c1 := Kn.own1 bB
    have b3o := HW'.out.boxi 1 rfl
    obtain ⟨p0, p1, p2, p3, p4⟩ := Kn.own5 b3o
    have z0 := b3o.frozen 0
    have z1 := b3o.frozen 1
    have z2 := b3o.frozen 2
    have z3 := b3o.frozen 3
    have z4 := b3o.frozen 4
    have l3 := b3o.lt
    have hof := offAt_eq p1
    have HOF := hH hof
    clear hA' hW' bS bB hof
    gi_wp2_with fail
    go_roundw
    case rel =>
     refine ⟨pre ++ [x], c', (fun W => RcAt W r (s1, s2, s3) (t1, t2, t3)) :: fs, q, false, 0, k, rfl, ((((((HW'.out.put 1 (p := b3) rfl 0 (.int .i64 q.s)).put 1 (p := b3) rfl 1 (.int .i64 q.o)).put 1 (p := b3) rfl 2 (.int .i64 q.l)).put 1 (p := b3) rfl 3 (.int .i64 q.p)).put 1 (p := b3) rfl 4 (.int .i64 q.m))).toWc, HF2.out, hJc _ _ _ _ _ hj' ?_, ?_, ?_⟩
     ·exact (((((((HW'.out.put 1 (p := b3) rfl 0 (.int .i64 q.s)).put 1 (p := b3) rfl 1 (.int .i64 q.o)).put 1 (p := b3) rfl 2 (.int .i64 q.l)).put 1 (p := b3) rfl 3 (.int .i64 q.p)).put 1 (p := b3) rfl 4 (.int .i64 q.m))).kb).mono hs'
     ·simpa [World.setCell] using hs'
     have h := HS2.out
     rw [hla] at h
     refine .inr ⟨rfl, h.trans ?_⟩
     rw [List.map_append, List.map_cons, HXP.out]
     simp
    have h1 : offAt ((((((W'.setCell ⟨b3, 0, none⟩ (.int .i64 q.s)).setCell ⟨b3, 1, none⟩ (.int .i64 q.o)).setCell ⟨b3, 2, none⟩ (.int .i64 q.l)).setCell ⟨b3, 3, none⟩ (.int .i64 q.p)).setCell ⟨b3, 4, none⟩ (.int .i64 q.m))) b3 = q.o.toNat := offAt_eq (k := .i64) (by simpa using ((((((((HW'.out.put 1 (p := b3) rfl 0 (.int .i64 q.s)).put 1 (p := b3) rfl 1 (.int .i64 q.o)).put 1 (p := b3) rfl 2 (.int .i64 q.l)).put 1 (p := b3) rfl 3 (.int .i64 q.p)).put 1 (p := b3) rfl 4 (.int .i64 q.m))).boxi 1 rfl).cell 1 (by simp)))
    rw [HOF2.out, h1]
    omega
   gi_wp2_with fail
   refine bodyPost_ret (results_none rfl _ _ _) rfl ⟨⟨_, rfl⟩, Nat.le_trans hs5 hkf.size, ⟨(S, SB pd.D gb p own q 0) :: L, G, ((fun W => RcAt W r (s1, s2, s3) (t1, t2, t3)) :: fs) ++ F⟩, c', ?_, .inr ⟨pre ++ [x], cd, ⟨q, _, rfl, HF2.out, HP2.out, pre, x, rfl, HXF.out⟩, hj'⟩⟩
   exact at3_mk (fs := _ :: fs) ((at3_get (fs := (fun W => RcAt W r (s1, s2, s3) (t1, t2, t3)) :: fs) hA').sub (L' := (S, SB pd.D gb p own q 0) :: (L ++ c'.L)) (.cons_cons _ (.cons _ (List.Sublist.refl _))) (fun f hf => hf))
  | false =>
   gi_wp2_with fail
   refine hR.mono ?_
   rintro e2 W' ⟨c', hA', hkf, ⟨rfl, hj'⟩ | ⟨rfl, cd, hj'⟩⟩
   ·have hW' := Wk.start (at3_get (fs := (fun W => RcAt W r (s1, s2, s3) (t1, t2, t3)) :: fs) hA')
    have HW' := hH hW'
    have hs' : W.heap.size ≤ W'.heap.size := Nat.le_trans hs5 hkf.size
    have bS := HW'.out.boxi 0 (p := S) rfl
    have s8 := bS.cell 8 (by simp [SB])
    have s9 := bS.cell 9 (by simp [SB])
    have s10 := bS.cell 10 (by simp [SB])
    have s11 := bS.cell 11 (by simp [SB])
    have s12 := bS.cell 12 (by simp [SB])
    simp only [SB, g0, gs] at s8 s9 s10 s11 s12
    have bB := HW'.out.own _ (mc _ (mc _ (List.mem_append_left _ HB1.out)))
    have c1 := Kn.own1 bB
    have b3o := HW'.out.boxi 1 rfl
    obtain ⟨p0, p1, p2, p3, p4⟩ := Kn.own5 b3o
    have z0 := b3o.frozen 0
    have z1 := b3o.frozen 1
    have z2 := b3o.frozen 2
    have z3 := b3o.frozen 3
    have z4 := b3o.frozen 4
    have l3 := b3o.lt
    have hof := offAt_eq p1
    have HOF := hH hof
    clear hA' hW' bS bB hof
    gi_wp2_with fail
    go_roundw
    case rel =>
     refine ⟨pre ++ [x], c', (fun W => RcAt W r (s1, s2, s3) (t1, t2, t3)) :: fs, q, true, 0, k, rfl, ((((((HW'.out.put 1 (p := b3) rfl 0 (.int .i64 q.s)).put 1 (p := b3) rfl 1 (.int .i64 q.o)).put 1 (p := b3) rfl 2 (.int .i64 q.l)).put 1 (p := b3) rfl 3 (.int .i64 q.p)).put 1 (p := b3) rfl 4 (.int .i64 q.m))).toWc, HF2.out, hJc _ _ _ _ _ hj' ?_, ?_, ?_⟩
     ·exact (((((((HW'.out.put 1 (p := b3) rfl 0 (.int .i64 q.s)).put 1 (p := b3) rfl 1 (.int .i64 q.o)).put 1 (p := b3) rfl 2 (.int .i64 q.l)).put 1 (p := b3) rfl 3 (.int .i64 q.p)).put 1 (p := b3) rfl 4 (.int .i64 q.m))).kb).mono hs'
     ·simpa [World.setCell] using hs'
     have h := HS2.out
     rw [hla] at h
     refine .inl ⟨rfl, rfl, h.trans ?_, by omega, by omega, by omega, by rw [HP1.out]; exact hs0, by rw [HP1.out]; exact hs1⟩
     rw [List.map_append, List.map_cons, HXP.out]
     simp
    have h1 : offAt ((((((W'.setCell ⟨b3, 0, none⟩ (.int .i64 q.s)).setCell ⟨b3, 1, none⟩ (.int .i64 q.o)).setCell ⟨b3, 2, none⟩ (.int .i64 q.l)).setCell ⟨b3, 3, none⟩ (.int .i64 q.p)).setCell ⟨b3, 4, none⟩ (.int .i64 q.m))) b3 = q.o.toNat := offAt_eq (k := .i64) (by simpa using ((((((((HW'.out.put 1 (p := b3) rfl 0 (.int .i64 q.s)).put 1 (p := b3) rfl 1 (.int .i64 q.o)).put 1 (p := b3) rfl 2 (.int .i64 q.l)).put 1 (p := b3) rfl 3 (.int .i64 q.p)).put 1 (p := b3) rfl 4 (.int .i64 q.m))).boxi 1 rfl).cell 1 (by simp)))
    rw [HOF2.out, h1]
    omega
   gi_wp2_with fail
   refine bodyPost_ret (results_none rfl _ _ _) rfl ⟨⟨_, rfl⟩, Nat.le_trans hs5 hkf.size, ⟨(S, SB pd.D gb p own q 0) :: L, G, ((fun W => RcAt W r (s1, s2, s3) (t1, t2, t3)) :: fs) ++ F⟩, c', ?_, .inr ⟨pre ++ [x], cd, ⟨q, _, rfl, HF2.out, HP2.out, pre, x, rfl, HXF.out⟩, hj'⟩⟩
   exact at3_mk (fs := _ :: fs) ((at3_get (fs := (fun W => RcAt W r (s1, s2, s3) (t1, t2, t3)) :: fs) hA').sub (L' := (S, SB pd.D gb p own q 0) :: (L ++ c'.L)) (.cons_cons _ (.cons _ (List.Sublist.refl _))) (fun f hf => hf))
 have HE := hH hsc
 have HW := hH hw
 clear hsc hw
 gi_wp2_with fail
 go_end0
 refine ⟨⟨_, rfl⟩, hsz, ⟨(S, SB pd.D gb p own pj er) :: L, G, fs ++ F⟩, c, ?_, .inl ⟨pre, ⟨fs, by rw [HE.out], hfs, by rw [HE.out]⟩, hJp⟩⟩
 exact at3_mk <| HW.out.sub (L' := (S, SB pd.D gb p own pj er) :: (L ++ c.L)) (F' := fs ++ (F ++ c.F)) (.cons_cons _ (.cons _ (List.Sublist.refl _))) (fun f hf => hf)
end Go.Proofs.YtgcfdjcpcclcjaaGreat
namespace Go.Kn
open Go Go.RowKit
theorem round_wide {m : Nat} {P : Program} {l : Nat} {f : FuncId} {tmps : Array Value} {assign body : Code} {w : World} {R : Ending → World → Prop} (lr m' : Nat) (h : RoundIn Fence.wide m P l f tmps assign body w R) : RoundIn (Fence.wide.inRound lr) m' P l f tmps assign body w R :=
 ⟨h.1, fun c cs _ => h.2 c cs (room_wide _)⟩
theorem perm_mid2 {α : Type} (a b : α) (X C : List α) : (a :: b :: (X ++ C)).Perm (X ++ a :: b :: C) :=
 ((List.perm_middle (l₁ := X) (a := a) (l₂ := b :: C)).trans ((List.perm_middle (l₁ := X) (a := b) (l₂ := C)).cons _)).symm
theorem At3.new2 {w0 w : World} {φ c : Fr3} (h : At3 w0 w φ c) (u v : Array Value) (s t : TypeId) : At3 w0 ((w.alloc (.cells u s)).alloc (.cells v t)) φ ⟨(w.heap.size + 1, v.toList) :: (w.heap.size, u.toList) :: c.L, c.G, c.F⟩ :=
 ((Wc.newB (Wc.newB h u s rfl) v t (by simp)).perm (perm_mid2 _ _ _ _) (List.Perm.refl _) : Wc _ _ _ _ _)
end Go.Kn
namespace Go.Proofs.YtgcfdjcpcclcjaaGreat
open Go Go.RowKit Go.Kn Go.Shelf
attribute [local go_sem] Oper.semAt_some
theorem places_any (p : Option Addr) (w : World) : Calls Tryz.prog 98 #[.pointer p] w fun e w' => e = .returned (.func (.func 151) #[] #[.pointer (some ⟨w.heap.size, 0, none⟩)]) ∧ w' = w.alloc (.cells #[.pointer p] 40) := by
 go_enter Tryz.func98, Tryz.ntmps98
 go_wp2
 go_ret
 exact ⟨rfl, rfl⟩
end Go.Proofs.YtgcfdjcpcclcjaaGreat
namespace Go.Kn
open Go Go.RowKit
theorem run_equalIn_func_nil {P : Program} (w : World) (d : Nat) (t : TypeId) {a b : Array TypeId} {v : Bool} (h : P.underlying t = some (.func a b v)) (f : Fn) (x y : Array Value) : (Op.equalIn (d + 1) t (.func f x y) .nilFunc).run P w = .ok false w := by
 simp [Op.equalIn, run_underlying h]
theorem run_eql_func_nil {P : Program} (w : World) (t : TypeId) {a b : Array TypeId} {v : Bool} (h : P.underlying t = some (.func a b v)) (f : Fn) (x y : Array Value) : (binOp .eql t (.func f x y) .nilFunc).run P w = .ok (.bool false) w := by
 simp only [binOp]
 simp [Op.equal, Op.maxDepth, run_equalIn_func_nil w 9999 t h]
def Fnd.one (x : Fnd) : List Value := .int .i64 x.p.o :: (x.r.cells x.s x.t).toList
theorem Wk.gnew {w0 w1 w : World} {L : List (Nat × List Value)} {G : List Gs} {F : List (World → Prop)} (h : Wk w0 w1 w L G F) (e sz : Nat) : Wk w0 w1 w L (⟨e, sz, .slice none 0 0, 0, []⟩ :: G) F := h.same (h.toWc.gnew e sz)
theorem kf_of_kb {B : Nat} {X Y : World} (h : Kb X.heap.size X Y) : KeepsFrom B X Y := ⟨h.size, fun k o _ ho hc => h.keep k o (lt_of_obj ho) ho hc⟩
theorem At3.new1 {w0 w : World} {φ c : Fr3} (h : At3 w0 w φ c) (u : Array Value) (s : TypeId) : At3 w0 (w.alloc (.cells u s)) φ ⟨(w.heap.size, u.toList) :: c.L, c.G, c.F⟩ :=
 ((Wc.newB h u s rfl).perm (List.perm_middle).symm (List.Perm.refl _) : Wc _ _ _ _ _)
theorem At3.flip {w0 w : World} {a b : Fr3} (h : At3 w0 w a b) : Wc w0 w (b.L ++ a.L) (b.G ++ a.G) (a.F ++ b.F) := Wc.perm h List.perm_append_comm List.perm_append_comm
theorem At3.unflip {w0 w : World} {a b : Fr3} (h : Wc w0 w (b.L ++ a.L) (b.G ++ a.G) (a.F ++ b.F)) : At3 w0 w a b := Wc.perm h List.perm_append_comm List.perm_append_comm
theorem perm_w {α : Type} (a b c d : α) (L : List α) : (a :: b :: c :: d :: L).Perm (d :: b :: (L ++ [a, c])) :=
 (List.perm_middle (l₁ := [a, b, c]) (a := d) (l₂ := L)).trans (((List.Perm.swap b a (c :: L)).trans ((List.perm_append_comm (l₁ := [a, c]) (l₂ := L)).cons b)).cons d)
end Go.Kn
namespace Go.Proofs.YtgcfdjcpcclcjaaGreat
open Go Go.RowKit Go.Kn Go.Shelf
attribute [local go_sem] Oper.semAt_some
def fndV (xs : List Fnd) : List Value := xs.flatMap Kn.Fnd.one
end Go.Proofs.YtgcfdjcpcclcjaaGreat
namespace Go.Kn
open Go Go.RowKit
theorem wpList_copy_full {P : Program} {w : World} {ops : Array Oper} {rest : List Oper} {o : Oper} {a : Act} {Q : Exit → Act → World → Prop} (hgd : o.guard = none) (d s : Operand) (dT sT : TypeId)
  (ho : o.op = .call { callee := .builtin .copy, args := #[d, s], argTypes := #[dT, sT] }) (elem : TypeId) (hu : P.underlying dT = some (.slice elem)) (hsz : (P.info? elem).map (·.size) = some 1)
  (g m : Nat) (sp : Option Addr) (sCap : Nat) (hed : a.eval d = .slice (some ⟨g, 0, none⟩) m m) (hes : a.eval s = .slice sp m sCap)
  (cur : Array Value) (xs : List Value) (hs : Row1 w sp m sCap xs) (hx1 : ∀ u ∈ xs, u.oneCell' = true) (hc : w.heap[g]? = some (.cells cur elem (0, 0))) (hcs : cur.size = m) (hm : 0 < m) (hml : m ≤ maxLen) (base : Nat) (hb : base ≤ g)
  (h : ∀ w', w'.ownsRow base elem 1 (.slice (some ⟨g, 0, none⟩) m m) m xs → Only [g] w w' → wpList P ops Q rest (a.put o.dst (goInt m)) w') : wpList P ops Q (o :: rest) a w := by
 refine wpList_plain hgd fun K hK => ?_
 have hl := hs.len
 obtain ⟨ga, oa, rfl, _⟩ := hs.at_ (by omega)
 have hrun := run_copy_row (P := P) w dT sT o.type elem g 0 m m ⟨ga, oa, none⟩ m sCap cur elem xs hu hsz hc (by rw [hl]; exact (Nat.min_self m).symm) (hs.news rfl) (by omega) hx1
 rw [hl] at hrun
 unfold Oper.wp
 simp only [execOp, ho, resolve, invoke, builtin, hed, hes]
 have e1 : (cur.toList.take 0 ++ xs ++ cur.toList.drop (0 + m)).toArray = xs.toArray := by
  rw [List.take_zero, List.nil_append, List.drop_of_length_le (by simp; omega), List.append_nil]
 rw [e1] at hrun
 simp [hed, hes, hrun, Result.andThen, builtin]
 exact hK _ _ (h _ ⟨by omega, .inr ⟨g, m, xs.toArray, rfl, hb, setRow_heap w g _ _ elem _ hc, Nat.le_refl _, hml, by simp [hl], by simpa using List.take_of_length_le (by omega)⟩⟩ ⟨rfl, rfl, rfl, by simp [World.setRow], fun k _ hk => setRow_other w g k _ (by simpa using hk)⟩)
end Go.Kn
namespace Go.Proofs.YtgcfdjcpcclcjaaGreat
open Go Go.RowKit Go.Kn
theorem part64_own (A : Option Addr) (c : Nat) (bs : List UInt8) (w : World) (h : Bys w A 64 c bs) :
  Calls Tryz.prog 102 #[.slice A 64 c, .int .i64 0, .int .i64 64] w fun e w' => e = .returned (.slice (some ⟨w.heap.size, 0, none⟩) 64 64) ∧ w'.ownsRow w.heap.size 5 1 (.slice (some ⟨w.heap.size, 0, none⟩) 64 64) 64 (bvs bs) ∧ Only [] w w' := by
 have hlen := h.len
 rw [bvs_length] at hlen
 have hcm := h.cm
 have hcl := h.le
 unfold maxLen at hcm
 have hmk : ∀ w, (Instr.makeSlice 47 (.int .i64 64) (.int .i64 64)).run Tryz.prog w = .ok (.slice (some ⟨w.heap.size, 0, none⟩) 64 64) (w.alloc (.cells (bvs (List.replicate 64 0)).toArray 5)) := fun w => make_bys 64 (by omega) w
 have hsl := fun w => run_slice1 (P := Tryz.prog) w 47 5 Tryz.underlying47 (by kernel_rfl) A 64 c 0 64 0 64 64 .i64 .i64 rfl rfl (by omega) (by omega) (by omega)
 have hcut := (h.alloc (.cells (bvs (List.replicate 64 0)).toArray 5)).cut (l := 0) (m := 64) (by omega)
 rw [bvs_cut, List.drop_zero, List.take_of_length_le (by omega)] at hcut
 have HC := hH hcut
 have hown := World.alloc_heap_new w (.cells (bvs (List.replicate 64 0)).toArray 5)
 have HO := hH hown
 have HZ := hH (show (bvs (List.replicate 64 0)).toArray.size = 64 by simp)
 clear h hcut hown hlen
 generalize (bvs (List.replicate 64 0)).toArray = zs at *
 have hO0 : Only [] w (w.alloc (.cells zs 5)) := (Only.refl _ _).alloc _
 have HO0 := hH hO0
 clear hO0
 go_enter Tryz.func102, Tryz.ntmps102
 go_wp2_with (first
  | (with_reducible refine wpList_copy_full rfl (.tmp 12) (.tmp 16) 47 47 rfl 5 Tryz.underlying47 (by kernel_rfl) w.heap.size 64 (cutA A c 0) (c - 0) rfl rfl zs (bvs bs) HC.out (bvs_one _) HO.out HZ.out (by decide) (by decide) w.heap.size (Nat.le_refl _) ?_; intro w2 hown2 hO2))
 go_ret
 exact ⟨rfl, hown2, HO0.out.trans hO2 (by simp)⟩
theorem rk_read_own (w0 w : World) (r : RD) (d : Dk) (c : Fr3) (a : Int) (h : Rsk w0 w r d c) (hh : d.held.length ≤ 1000000) :
  Calls Tryz.prog 33 #[.pointer (some ⟨r.M, 0, none⟩), .int .i64 a] w (RdOwn w (d.read a) (d.err a)) := by
 obtain ⟨v, lv, kk, ls, sl, hs, hl, hm⟩ := h.mem
 have hbx := hm.boxi 0 (p := r.M) (cs := r.box v lv d) rfl
 have c0 := hbx.cell 0 (by simp [RD.box])
 have c1 := hbx.cell 1 (by simp [RD.box])
 have c2 := hbx.cell 2 (by simp [RD.box])
 have c4 := hbx.cell 4 (by simp [RD.box])
 simp only [RD.box, g0, gs] at c0 c1 c2 c4
 have hN := h.N
 have hF := h.ok.f
 have hn := h.ok.n
 have hN1 : 1 ≤ r.N ∧ r.N ≤ 4096 := by omega
 obtain ⟨hN1, hN2⟩ := hN1
 have HHA := hH (has_iff hN a)
 by_cases ho : d.has a = true
 ·have hr : 0 ≤ a ∧ a < (r.N : Int) := by unfold Dk.has at ho; simp only [decide_eq_true_eq] at ho; omega
  obtain ⟨k, rfl⟩ : ∃ k : Nat, a = k := ⟨a.toNat, by omega⟩
  have hkN : k < r.N := by omega
  have HO := hH ho
  by_cases hof : d.off = true
  ·obtain ⟨e1, e2⟩ := Dk.err_off ho hof
   rw [e1, e2]
   rw [hof] at c4
   clear hm hbx h hN hF hn ho hof e1 e2 c1 c2 hl
   go_enter Tryz.func33, Tryz.ntmps33
   go_wp2_with fail
   refine (within_any (k : Int) 0 ((r.N : Int) - 1) _).mono ?_
   rintro e w1 ⟨rfl, rfl⟩
   rw [HHA.out, HO.out]
   go_wp2
   go_ret2
   exact RdOwn.none _ _
  rw [Bool.not_eq_true] at hof
  have hfb := hm.boxi 2 (p := r.f) (cs := bls d.faults) rfl
  have hbl : k < (bls d.faults).length := by rw [bls_length]; omega
  have q0 := hfb.cell k hbl
  have hbg : (bls d.faults)[k] = .bool (d.bad k) := by
   unfold Dk.bad
   rw [bls_get, List.getD_eq_getElem?_getD, show ((k : Int)).toNat = k from by omega, List.getElem?_eq_getElem (by omega), Option.getD_some]
  rw [hbg] at q0
  rw [hof] at c4
  by_cases hb : d.bad k = true
  ·obtain ⟨e1, e2⟩ := Dk.err_bad ho hof hb
   rw [e1, e2]
   rw [hb] at q0
   clear hm hbx hfb h hN hF hn ho hof e1 e2 c1 hbg hbl hb hl
   go_enter Tryz.func33, Tryz.ntmps33
   go_wp2_with fail
   refine (within_any (k : Int) 0 ((r.N : Int) - 1) _).mono ?_
   rintro e w1 ⟨rfl, rfl⟩
   rw [HHA.out, HO.out]
   go_wp2
   go_ret2
   exact RdOwn.none _ _
  rw [Bool.not_eq_true] at hb
  obtain ⟨e1, e2⟩ := Dk.err_ok ho hof hb
  have hsec : d.sector k = (Dk.over d.safe (d.held.take d.held.length)).getD k [] := by
   rw [List.take_length]
   rfl
  rw [e1, e2, hsec]
  have HLS : Hid ((d.sector k).length = 64) := hH (Dk.sector_64 h.ok ho)
  rw [hsec] at HLS
  rw [hb] at q0
  have hsb := hm.boxi 1 (p := r.s) (cs := sl.map slv) rfl
  have hB1 := hm.fi 0 rfl
  have hB2 := hm.fi 1 rfl
  have hkl : k < sl.length := by rw [hB1.1]; omega
  have q1 := hsb.cell k (by simpa using hkl)
  rw [List.getElem_map] at q1
  have hs0 := hB1.2 k hkl (by omega)
  obtain ⟨⟨A0, n0, k0⟩, hsl⟩ : ∃ s, sl[k] = s := ⟨_, rfl⟩
  rw [hsl] at q1 hs0
  obtain rfl : n0 = 64 := by
   have h1 := hs0.len
   have h2 := h.ok.s d.safe[k] (List.getElem_mem _)
   rw [bvs_length] at h1
   have h3 : d.safe[k].length = n0 := h1
   omega
  have hs1 : Bys w A0 64 k0 ((Dk.over d.safe (d.held.take 0)).getD k []) := by
   have : (Dk.over d.safe (d.held.take 0)).getD k [] = d.safe[k] := by
    rw [List.take_zero]
    show d.safe.getD k [] = _
    rw [List.getD_eq_getElem?_getD, List.getElem?_eq_getElem (by omega), Option.getD_some]
   rw [this]
   exact hs0
  have HS1 := hH hs1
  obtain ⟨Ah, ch, rfl⟩ := hm.gform 0 rfl
  obtain ⟨A', c', hv, _, _, hcl, _⟩ := (hm.gath (x := ⟨175, 2, .slice Ah d.held.length ch, d.held.length, heldR d.held hs⟩) List.mem_cons_self).form (by show 0 < 2; omega)
  injection hv with e1 e2 e3
  subst e1 e3
  have HCL := hH hcl
  have HB2 := hH hB2
  have HHL := hH hl
  have H := hH h
  obtain ⟨n, hhn⟩ : ∃ n, d.held.length = n := ⟨_, rfl⟩
  rw [hhn] at c1 hh
  have HHN := hH hhn
  simp only [slv] at q1
  clear hm hbx hfb h hN hF hn ho hof e1 e2 hbg hbl hb hl hsec hsb hB1 hB2 hkl hs0 hsl hs1 hcl hhn
  go_enter Tryz.func33, Tryz.ntmps33
  go_wp2_with fail
  refine (within_any (k : Int) 0 ((r.N : Int) - 1) _).mono ?_
  rintro e w1 ⟨rfl, rfl⟩
  rw [HHA.out, HO.out]
  go_wp2_with fail
  rw [HHN.out]
  go_loopg [6, 7] n (fun r t6 i wr => ∃ (j : Nat) (A : Option Addr) (cc : Nat), j + r = n ∧ i = .int .i64 j ∧ t6 = .slice A 64 cc ∧ wr = w ∧ Bys w A 64 cc ((Dk.over d.safe (d.held.take j)).getD k []))
  case atStart => exact ⟨0, A0, k0, by omega, rfl, rfl, rfl, HS1.out⟩
  obtain ⟨j, A, cc, hj, rfl, rfl, rfl, hby⟩ := hrel
  have HBY := hH hby
  clear hby q1 q0
  by_cases hlt : j < n
  ·have hjl : j < d.held.length := by rw [HHN.out]; exact hlt
   obtain ⟨g, rfl, _, _, hcells⟩ := HCL.out (by omega)
   obtain ⟨g0, g1⟩ := heldR_get d.held hs HHL.out.symm j hjl
   have y0 := hcells _ _ g0
   have y1 := hcells _ _ g1
   have hjh : j < hs.length := by rw [HHL.out]; exact hjl
   have hbb := HB2.out.2 j hjh (by simpa using hjl)
   rw [List.getElem_map] at hbb
   have h64 := (H.out.ok.h d.held[j] (List.getElem_mem _)).2
   have hov := over_at d.safe d.held j k hjl (by rw [H.out.N]; exact hkN)
   obtain ⟨⟨A1, n1, k1⟩, hs1⟩ : ∃ s, hs[j] = s := ⟨_, rfl⟩
   rw [hs1] at y1 hbb
   obtain rfl : n1 = 64 := by
    have h1 := hbb.len
    rw [bvs_length] at h1
    have h3 : d.held[j].2.length = n1 := h1
    omega
   simp only [slv] at y1
   rw [Nat.mul_comm 2 j] at y0 y1
   have HOV := hH hov
   have HBB := hH hbb
   have hlt2 : (j : Int) < (n : Int) := by omega
   generalize d.held[j].1 = x at *
   generalize d.held[j].2 = b at *
   clear hcells g0 g1 hbb h64 hov hs1 hjl hjh
   by_cases hx : x = k
   ·subst hx
    clear c0 c2 c4
    go_wp2_with fail
    go_roundg (gk - 1)
    case measure => omega
    case rel => exact ⟨j + 1, A1, k1, by omega, by go_num, rfl, rfl, by rw [HOV.out, if_pos trivial]; exact HBB.out⟩
   have hx2 : ((x : Int) == (k : Int)) = false := by simp; omega
   have HX := hH hx
   clear hx c0 c2 c4
   go_wp2_with fail
   go_roundg (gk - 1)
   case measure => omega
   case rel => exact ⟨j + 1, A, cc, by omega, by go_num, rfl, rfl, by rw [HOV.out, if_neg HX.out]; exact HBY.out⟩
  obtain rfl : j = n := by omega
  clear c0 c2 c4
  have hnn := HHN.out
  go_wp2_with fail
  refine (part64_own A cc _ _ HBY.out).mono ?_
  rintro en wa ⟨rfl, ho7, hO⟩
  rw [← HHN.out] at ho7
  have HF := hH ho7
  have HO9 := hH hO
  clear ho7 hO hnn
  go_wp2
  go_ret2
  rw [← HHN.out]
  exact ⟨_, 64, rfl, HF.out, HO9.out⟩
 rw [Bool.not_eq_true] at ho
 obtain ⟨e1, e2⟩ := Dk.err_no ho
 rw [e1, e2]
 have HO := hH ho
 clear hm hbx h hN hF hn ho e1 e2 c1 c2 c4 hl
 go_enter Tryz.func33, Tryz.ntmps33
 go_wp2_with fail
 refine (within_any a 0 ((r.N : Int) - 1) _).mono ?_
 rintro e w1 ⟨rfl, rfl⟩
 rw [HHA.out, HO.out]
 go_wp2
 go_ret2
 exact RdOwn.none _ _
theorem ref_next_any (x : Rc) (s t : Option Addr × Nat × Nat) (w : World) (hi : Its w s.1 s.2.1 s.2.2 x.its) :
  Calls Tryz.prog 106 #[.agg (x.cells s t)] w fun e w' => e = .returned (.int .i64 ((nextOf x).getD (-1))) ∧ Only [] w w' := by
 obtain ⟨A, n, c⟩ := s
 obtain ⟨t1, t2, t3⟩ := t
 have hcm := hi.cm
 have hcl := hi.le
 have hlen := hi.len
 unfold maxLen at hcm
 simp only at hi hcm hcl hlen
 have HB := hH (Own.new w #[.int .i64 x.m, .int .i64 x.n, .int .i64 x.p, .slice A n c, .slice t1 t2 t3] 56)
 have HO := hH ((Only.refl [] w).alloc (.cells #[.int .i64 x.m, .int .i64 x.n, .int .i64 x.p, .slice A n c, .slice t1 t2 t3] 56))
 have HI := hH (hi.keep0 HO.out)
 have HL := hH hlen
 have HNX := hH (nextOf_eq x)
 clear hi hlen
 unfold Rc.cells
 simp only [slv]
 go_enter Tryz.func106, Tryz.ntmps106
 go_wp2_with fail
 generalize w.alloc (.cells #[.int .i64 x.m, .int .i64 x.n, .int .i64 x.p, .slice A n c, .slice t1 t2 t3] 56) = w1 at *
 obtain ⟨b1, hb1⟩ : ∃ b, b = w.heap.size := ⟨_, rfl⟩
 rw [← hb1] at HB ⊢
 clear hb1
 obtain ⟨l, hl⟩ : ∃ l, l = x.its := ⟨_, rfl⟩
 rw [← hl] at HI HL HNX
 have y3 := HB.out.cell 3 (by simp)
 simp only [g0, gs] at y3
 go_loopg [3] n (fun r i wr => ∃ j : Nat, j + r = n ∧ i = .int .i64 j ∧ wr = w1 ∧ (l.take j).find? is7 = none)
 case atStart => exact ⟨0, by omega, rfl, rfl, by simp⟩
 obtain ⟨j, hj, rfl, rfl, hal⟩ := hrel
 have HAL := hH hal
 clear hal
 by_cases hlt : j < n
 ·have hjz : j < l.length := by rw [HL.out]; exact hlt
  obtain ⟨a, o, rfl, hc⟩ := HI.out.at_ (by omega)
  obtain ⟨c0, c1, c2, c3⟩ := hc j hjz
  obtain ⟨⟨ik, ib, ic, iv⟩, hit⟩ : ∃ i, l[j] = i := ⟨_, rfl⟩
  rw [hit] at c0 c1 c2 c3
  simp only at c0 c1 c2 c3
  have h7 : is7 l[j] = (ik == 7) := by rw [hit]; rfl
  have H7 := hH h7
  have HIT := hH hit
  clear hc hit h7
  have hlt2 : (j : Int) < (n : Int) := by omega
  by_cases hm : ik = 7
  ·subst hm
   have H8 : Hid (is7 l[j] = true) := hH H7.out
   go_wp2
   go_ret
   refine ⟨?_, HO.out⟩
   rw [HNX.out, find_at hjz HAL.out H8.out, HIT.out]
   rfl
  have h1 : (ik == 7) = false := by simpa using hm
  have H8 : Hid (is7 l[j] = false) := hH (by rw [H7.out, h1])
  have HM := hH hm
  clear hm
  go_wp2
  go_roundg (gk - 1)
  case measure => omega
  case rel => exact ⟨j + 1, by omega, by go_num, rfl, find_step hjz HAL.out H8.out⟩
 obtain rfl : j = n := by omega
 have hfull : l.take j = l := List.take_of_length_le (by rw [HL.out]; omega)
 have hal := HAL.out
 rw [hfull] at hal
 have HAL' := hH hal
 clear hal hfull
 go_wp2
 go_ret
 refine ⟨?_, HO.out⟩
 rw [HNX.out, HAL'.out]
 rfl
end Go.Proofs.YtgcfdjcpcclcjaaGreat
namespace Go.Kn
open Go Go.RowKit
theorem rcFit_ref {b : List UInt8} (h : 64 ≤ b.length) : rcFit b = decide (64 * sizeRc (b.take 64) = b.length) := by
 have e1 : (b.take 64).take 2 = b.take 2 := by rw [List.take_take]; rfl
 have e2 : ((b.take 64).drop 14).take 1 = (b.drop 14).take 1 := by rw [List.drop_take, List.take_take]; rfl
 have e3 : ((b.take 64).drop 15).take 1 = (b.drop 15).take 1 := by rw [List.drop_take, List.take_take]; rfl
 have h1 : rcHd (b.take 64) = rcHd b := by unfold rcHd rcN rcK; rw [e1, e2, e3]
 have h2 : rcK (b.take 64) = rcK b := by unfold rcK; rw [e3]
 have h3 : (b.take 64).length = 64 := by rw [List.length_take]; omega
 unfold rcFit sizeRc
 rw [h1, h2, h3]
 cases hd : rcHd b with
 | false =>
  rw [if_neg (by simp), Bool.false_and]
  symm
  simp
  omega
 | true =>
  rw [if_pos ⟨rfl, rfl⟩, Bool.true_and]
  congr 1
  simp only [eq_iff_iff]
  omega
theorem rc_short {b : List UInt8} (h : b.length < 64) : rcFit b = false := by
 cases hf : rcFit b with
 | false => rfl
 | true =>
  obtain ⟨_, hl⟩ := rcFit_iff.1 hf
  omega
theorem addr_add0 (a : Addr) : a.add 0 = a := by rcases a with ⟨b, o, p⟩; cases p <;> rfl
theorem run_slice1_hi {P : Program} (w : World) (t e : TypeId) (ht : P.underlying t = some (.slice e)) (hs : (P.info? e).map (·.size) = some 1) (A : Option Addr) (len cap : Nat) (hi : Int) (h : Nat) (kh : IntKind)
  (e2 : hi = h) (hh : h ≤ cap) :
  (Instr.slice t (.slice A len cap) none (some (.int kh hi)) none).run P w = .ok (.slice A h cap) w := by
 subst e2
 cases hq : P.info? e with
 | none => simp [hq] at hs
 | some i =>
  simp [hq] at hs
  simp [Instr.slice, Instr.sliceBounds, Instr.sliceBound, run_underlying ht, sizeOf, typeInfo, hq, asIntOf, hh, hs, addr_add0]
/-- two boxes and a row that is read -/
structure Dr2 (w0 w : World) (p g k f fr : Nat) (bs : List UInt8) (vs us : List Value) : Prop where
 d : Decs w0 w p g k f bs vs
 r : Kn.Own w fr us
 rp : fr ≠ p
 rf : fr ≠ f
 hr : w0.heap.size ≤ fr
section
variable {w0 w w' : World} {p g k k' f fr : Nat} {bs : List UInt8} {vs us : List Value}
theorem Dr2.keep (h : Dr2 w0 w p g k f fr bs vs us) (hO : Only [] w w') : Dr2 w0 w' p g k f fr bs vs us := ⟨h.d.keep hO, h.r.keep0 hO, h.rp, h.rf, h.hr⟩
theorem Dr2.got (h : Dr2 w0 w p g k f fr bs vs us) (hr : RowAt w' p g bs k') (hO : Only [p] w w') : Dr2 w0 w' p g k' f fr bs vs us := ⟨h.d.got hr hO, h.r.keep hO (by simpa using h.rp), h.rp, h.rf, h.hr⟩
theorem Dr2.place (h : Dr2 w0 w p g k f fr bs vs us) (hk : k' ≤ bs.length) : Dr2 w0 (w.setCell ⟨p, 1, none⟩ (.int .i64 (k' : Int))) p g k' f fr bs vs us := ⟨h.d.place hk, h.r.far (Ne.symm h.rp) _, h.rp, h.rf, h.hr⟩
theorem Dr2.put (h : Dr2 w0 w p g k f fr bs vs us) (i : Nat) (u : Value) : Dr2 w0 (w.setCell ⟨f, i, none⟩ u) p g k f fr bs (vs.set i u) us := ⟨h.d.put i u, h.r.far (Ne.symm h.rf) _, h.rp, h.rf, h.hr⟩
end
theorem Wc.mk2 {w0 w : World} {f fr : Nat} {cs us : List Value} (hO : Only [] w0 w) (ho : Kn.Own w f cs) (hf : w0.heap.size ≤ f) (ho2 : Kn.Own w fr us) (hf2 : w0.heap.size ≤ fr) (hne : fr ≠ f) : Wc w0 w [(f, cs), (fr, us)] [] [] :=
 ⟨hO, by intro x hx; simp at hx; rcases hx with rfl | rfl <;> assumption, by intro x hx; simp at hx; rcases hx with rfl | rfl <;> assumption, by simp; exact fun e => hne e.symm, by simp, by simp, by simp, by simp⟩
end Go.Kn
namespace Go.Proofs.YtgcfdjcpcclcjaaGreat
open Go Go.RowKit Go.Kn
theorem ref_rec_dec_any (A : Option Addr) (n c : Nat) (bs : List UInt8) (w : World) (hi : Bys w A n c bs) (hn : n ≤ 60000) :
  Calls Tryz.prog 160 #[.slice A n c] w (RcSays w (decRc bs) 2) := by
 have hres : Tryz.f160.results = #[.cell 2 56, .tmp 3, .tmp 4] := by kernel_rfl
 have HRES := hH hres
 obtain ⟨i0, hi0, hz0, hz1, hz2⟩ := info_parts Tryz.infoBys
 have hlen := hi.len
 have hnc := hi.le
 have hcm := hi.cm
 rw [bvs_length] at hlen
 have HI := hH hi
 have HL := hH hlen
 unfold maxLen at hcm
 have hB0 := (Own.new w #[.int .i64 0, .int .i64 0, .int .i64 0, .slice none 0 0, .slice none 0 0] 56).alloc (.cells #[.int .i64 0, .int .i64 0, .int .i64 0, .slice none 0 0, .slice none 0 0] 56)
 have hB1 := Own.new (w.alloc (.cells #[.int .i64 0, .int .i64 0, .int .i64 0, .slice none 0 0, .slice none 0 0] 56)) #[.int .i64 0, .int .i64 0, .int .i64 0, .slice none 0 0, .slice none 0 0] 56
 have hO0 := ((Only.refl [] w).alloc (.cells #[.int .i64 0, .int .i64 0, .int .i64 0, .slice none 0 0, .slice none 0 0] 56)).alloc (.cells #[.int .i64 0, .int .i64 0, .int .i64 0, .slice none 0 0, .slice none 0 0] 56)
 have hi0' := (HI.out.alloc (.cells #[.int .i64 0, .int .i64 0, .int .i64 0, .slice none 0 0, .slice none 0 0] 56)).alloc (.cells #[.int .i64 0, .int .i64 0, .int .i64 0, .slice none 0 0, .slice none 0 0] 56)
 have hsz : (w.alloc (.cells #[.int .i64 0, .int .i64 0, .int .i64 0, .slice none 0 0, .slice none 0 0] 56)).heap.size = w.heap.size + 1 := by simp
 rw [hsz] at hB1
 have hfl := hB1.lt
 have hrl := hB0.lt
 clear hi hlen hres hsz
 go_enter Tryz.func160, Tryz.ntmps160
 go_upto_region 2 with fail
 generalize (w.alloc (.cells #[.int .i64 0, .int .i64 0, .int .i64 0, .slice none 0 0, .slice none 0 0] 56)).alloc (.cells #[.int .i64 0, .int .i64 0, .int .i64 0, .slice none 0 0, .slice none 0 0] 56) = w0 at *
 obtain ⟨f, hf⟩ : ∃ f, f = w.heap.size + 1 := ⟨_, rfl⟩
 obtain ⟨fr, hfr⟩ : ∃ f, f = w.heap.size := ⟨_, rfl⟩
 rw [← hf] at hB1 hfl ⊢
 rw [← hfr] at hB0 hrl ⊢
 have hrf : fr ≠ f := by omega
 have hfw : w.heap.size ≤ f := by omega
 have hrw : w.heap.size ≤ fr := by omega
 clear hf hfr
 have HB0 := hH hB0
 have HB1 := hH hB1
 have HO0 := hH hO0
 have HI0 := hH hi0'
 obtain ⟨hx0, hx1, hx2, hx3, hx4⟩ := Kn.own5 hB1
 obtain ⟨hy0, hy1, hy2, hy3, hy4⟩ := Kn.own5 hB0
 have hz0 := hB0.frozen 0
 have hz1 := hB0.frozen 1
 have hz2 := hB0.frozen 2
 have hz3 := hB0.frozen 3
 have hz4 := hB0.frozen 4
 have hzl := hB0.lt
 clear hB0 hB1 hO0 hi0'
 by_cases h64 : n < 64
 ·have HNO : Hid (decRc bs = none) := hH (rc_not_fit (rc_short (by rw [HL.out]; exact h64)))
  have hd : decide ((n : Int) < 64) = true := by simp; omega
  go_wp2
  (try simp only [Exit.inBlock, Exit.then])
  refine bodyPost_ret (v := (.tuple #[.agg #[.int .i64 0, .int .i64 0, .int .i64 0, .slice none 0 0, .slice none 0 0], .int .i64 0, .int .i64 2])) ?_ rfl (RcSays.no HNO.out ?_)
  ·simp only [results, HRES.out]
   go_simp
  (repeat' first | (with_reducible refine Only.set ?_ (.inr hrw) _) | (with_reducible exact HO0.out))
 have hd64 : decide ((n : Int) < 64) = false := by simp; omega
 have hs60 : ∀ w, (Instr.slice 47 (.slice A n c) none (some (.int .i64 64)) none).run Tryz.prog w = .ok (.slice A 64 c) w := fun w => by
  have h := run_slice1_hi (P := Tryz.prog) w 47 5 Tryz.underlying47 (by kernel_rfl) A n c 64 64 .i64 rfl (by omega)
  exact h
 have HC1 : Hid (∀ V, Bys V A n c bs → Bys V A 64 c (bs.take 64)) := hH (fun V h => by
  have h2 := h.cut (l := 0) (m := 64) (by omega)
  rw [bvs_cut, List.drop_zero, Nat.sub_zero] at h2
  have e : cutA A c 0 = A := by
   rw [cutA, if_neg (by omega)]
   simp [addr_add0]
  rwa [e] at h2)
 have hsz6 : sizeRc (bs.take 64) ≤ 256 := by
  unfold sizeRc rcK
  have := num_lt (((bs.take 64).drop 15).take 1)
  have h2 : (((bs.take 64).drop 15).take 1).length ≤ 1 := by simp <;> omega
  have h3 : (256 : Nat) ^ (((bs.take 64).drop 15).take 1).length ≤ 256 ^ 1 := Nat.pow_le_pow_right (by decide) h2
  split <;> omega
 have hfe := rcFit_ref (b := bs) (by rw [HL.out]; omega)
 rw [HL.out] at hfe
 obtain ⟨sq, hsq⟩ : ∃ x, sizeRc (bs.take 64) = x := ⟨_, rfl⟩
 rw [hsq] at hsz6 hfe
 have HSQ := hH hsq
 have HFE := hH hfe
 have hw1 : IntKind.i64.wrap ((sq : Int) * 64) = (sq : Int) * 64 := IntWalk.i64_in _ (by omega)
 clear hsq hfe
 go_wp2_with fail
 refine (ref_rec_size_any A 64 c (bs.take 64) _ (HC1.out _ HI0.out)).mono ?_
 rintro en w1 ⟨rfl, hO1⟩
 rw [HSQ.out]
 have HB0n := hH (HB0.out.keep0 hO1)
 have HB1n := hH (HB1.out.keep0 hO1)
 have HO1 := hH (HO0.out.trans' hO1)
 have HI1 := hH (HI0.out.keep0 hO1)
 clear hO1 HB0 HB1 HO0 HI0 hs60 hx0 hx1 hx2 hx3 hx4 hy0 hy1 hy2 hy3 hy4 hz0 hz1 hz2 hz3 hz4 hzl hfl hrl
 obtain ⟨hx0, hx1, hx2, hx3, hx4⟩ := Kn.own5 HB1n.out
 obtain ⟨hy0, hy1, hy2, hy3, hy4⟩ := Kn.own5 HB0n.out
 have hz0 := HB0n.out.frozen 0
 have hz1 := HB0n.out.frozen 1
 have hz2 := HB0n.out.frozen 2
 have hz3 := HB0n.out.frozen 3
 have hz4 := HB0n.out.frozen 4
 have hzl := HB0n.out.lt
 by_cases hfit : ¬ (64 * sq = n)
 ·have HNO : Hid (decRc bs = none) := hH (rc_not_fit (by rw [HFE.out]; exact decide_eq_false hfit))
  have hd : ((sq : Int) * 64 != (n : Int)) = true := by simp; omega
  clear hfit
  go_wp2
  (try simp only [Exit.inBlock, Exit.then])
  refine bodyPost_ret (v := (.tuple #[.agg #[.int .i64 0, .int .i64 0, .int .i64 0, .slice none 0 0, .slice none 0 0], .int .i64 0, .int .i64 2])) ?_ rfl (RcSays.no HNO.out ?_)
  ·simp only [results, HRES.out]
   go_simp
  (repeat' first | (with_reducible refine Only.set ?_ (.inr hrw) _) | (with_reducible exact HO1.out))
 have hsn : 64 * sq = n := Classical.not_not.1 hfit
 have hd : ((sq : Int) * 64 != (n : Int)) = false := by simp; omega
 have hft : rcFit bs = true := by rw [HFE.out]; exact decide_eq_true hsn
 have HFT := hH hft
 obtain ⟨⟨-, ⟨h1N, hN6⟩, hKN⟩, hlk⟩ := rcFit_iff.1 hft
 rw [HL.out] at hlk
 obtain ⟨Nv, hNv⟩ : ∃ x, rcN bs = x := ⟨_, rfl⟩
 obtain ⟨kb, hkb⟩ : ∃ x, rcK bs = x := ⟨_, rfl⟩
 have HNR := hH hNv
 have HKR := hH hkb
 rw [hNv] at h1N hN6 hKN
 rw [hkb] at hKN hlk
 have HNK := hH hlk
 have hn7 : n ≤ 448 := by omega
 have hnb : 64 ≤ n := by omega
 clear hft hNv hkb hlk hfit HFE hsn
 go_wp2_with fail
 refine (ref_from_any A n c bs _ (by exact HI1.out) (by omega)).mono ?_
 rintro en w2 ⟨p, g, rfl, hp, hg, hr, hO⟩
 have hd2 : Dr2 w w2 p g 0 f fr bs [.int .i64 0, .int .i64 0, .int .i64 0, .slice none 0 0, .slice none 0 0] [.int .i64 0, .int .i64 0, .int .i64 0, .slice none 0 0, .slice none 0 0] := ⟨Decs.start HB1n.out hfw HO1.out hp hg hr hO, HB0n.out.keep0 hO, by omega, hrf, hrw⟩
 have HS := hH hd2
 clear hp hg hr hO hd2 HB0n HB1n HI1 HO1 hd hd64 hw1 hx0 hx1 hx2 hx3 hx4 hy0 hy1 hy2 hy3 hy4 hz0 hz1 hz2 hz3 hz4 hzl
 have hq0 := HS.out.d.row.fk
 have hq1 := HS.out.d.row.pz 1
 have hq2 := HS.out.d.row.lp
 go_upto_region 6 with fail
 have HSn := hH (HS.out.place (k' := 2) (by rw [HL.out]; omega))
 rw [show ((2 : Nat) : Int) = 2 from rfl] at HSn
 clear HS hq0 hq1 hq2
 have HS := HSn
 clear HSn
 generalize World.setCell w2 ⟨p, 1, none⟩ (.int .i64 2) = w3 at *
 have HRM : Hid (((num ((bs.drop 2).take 4) : Nat) : Int) = rd bs 2 4) := hH rfl
 have HRN : Hid (((num ((bs.drop 6).take 4) : Nat) : Int) = rd bs 6 4) := hH rfl
 have HRP : Hid (((num ((bs.drop 10).take 4) : Nat) : Int) = rd bs 10 4) := hH rfl
 have HRO : Hid (rcOf bs = ⟨rd bs 2 4, rd bs 6 4, rd bs 10 4, (rcOf bs).its, rcBl bs kb⟩) := hH (by rw [← HKR.out]; rfl)
 generalize rd bs 2 4 = rm at *
 generalize rd bs 6 4 = rn at *
 generalize rd bs 10 4 = rp at *
 go_wp2_with fail
 refine (ref_num_any p g 2 bs 4 _ HS.out.d.row (by decide) (by rw [HL.out]; omega)).mono ?_
 rintro en w4 ⟨rfl, hr, hO⟩
 rw [HRM.out]
 have HSg := hH (HS.out.got hr hO)
 clear hr hO HS
 have hq0 := Kn.own1 HSg.out.d.box
 have hq1 := HSg.out.d.box.frozen 0
 have hq2 := HSg.out.d.box.lt
 have hp5 := HSg.out.put 0 (.int .i64 rm)
 simp only [List.set_cons_zero, List.set_cons_succ] at hp5
 have HS := hH hp5
 clear hp5 HSg
 go_upto_region 7 with fail
 generalize hw5 : World.setCell w4 ⟨f, 0, none⟩ (.int .i64 rm) = w5 at *
 clear hw5 hq0 hq1 hq2
 go_wp2_with fail
 refine (ref_num_any p g 6 bs 4 _ HS.out.d.row (by decide) (by rw [HL.out]; omega)).mono ?_
 rintro en w6 ⟨rfl, hr, hO⟩
 rw [HRN.out]
 have HSg := hH (HS.out.got hr hO)
 clear hr hO HS
 have hq0 := HSg.out.d.box.cell 1 (by simp)
 simp only [g0, gs] at hq0
 have hq1 := HSg.out.d.box.frozen 1
 have hq2 := HSg.out.d.box.lt
 have hp5 := HSg.out.put 1 (.int .i64 rn)
 simp only [List.set_cons_zero, List.set_cons_succ] at hp5
 have HS := hH hp5
 clear hp5 HSg
 go_upto_region 8 with fail
 generalize hw5 : World.setCell w6 ⟨f, 1, none⟩ (.int .i64 rn) = w7 at *
 clear hw5 hq0 hq1 hq2
 go_wp2_with fail
 refine (ref_num_any p g 10 bs 4 _ HS.out.d.row (by decide) (by rw [HL.out]; omega)).mono ?_
 rintro en w8 ⟨rfl, hr, hO⟩
 rw [HRP.out]
 have HSg := hH (HS.out.got hr hO)
 clear hr hO HS
 have hq0 := HSg.out.d.box.cell 2 (by simp)
 simp only [g0, gs] at hq0
 have hq1 := HSg.out.d.box.frozen 2
 have hq2 := HSg.out.d.box.lt
 have hp5 := HSg.out.put 2 (.int .i64 rp)
 simp only [List.set_cons_zero, List.set_cons_succ] at hp5
 have HS := hH hp5
 clear hp5 HSg
 go_upto_region 9 with fail
 generalize hw5 : World.setCell w8 ⟨f, 2, none⟩ (.int .i64 rp) = w9 at *
 clear hw5 hq0 hq1 hq2
 have HNM : Hid (num ((bs.drop 14).take 1) = Nv) := HNR
 have HKM : Hid (num ((bs.drop 15).take 1) = kb) := HKR
 go_wp2_with fail
 refine (ref_num_any p g 14 bs 1 _ HS.out.d.row (by decide) (by rw [HL.out]; omega)).mono ?_
 rintro en wa ⟨rfl, hr, hO⟩
 rw [HNM.out]
 have HSg := hH (HS.out.got hr hO)
 clear hr hO HS
 go_wp2_with fail
 refine (ref_num_any p g 15 bs 1 _ HSg.out.d.row (by decide) (by rw [HL.out]; omega)).mono ?_
 rintro en wb ⟨rfl, hr, hO⟩
 rw [HKM.out]
 have HS := hH (HSg.out.got hr hO)
 clear hr hO HSg
 have hw3 : IntKind.i64.wrap (7 * (Nv : Int)) = 7 * (Nv : Int) := IntWalk.i64_in _ (by omega)
 go_wp2_with fail
 rw [show (7 : Int) * (Nv : Int) = ((7 * Nv : Nat) : Int) from by omega]
 refine (ref_take_any p g 16 bs (7 * Nv) _ HS.out.d.row (by rw [HL.out]; omega)).mono ?_
 rintro en wc ⟨A3, c3, rfl, hc3, hm3, hpos3, hr3, hO3⟩
 obtain ⟨g3, rfl, hg3, ho3⟩ := hpos3 (by omega)
 have HB3 : Hid (Bys wc (some ⟨g3, 0, none⟩) (7 * Nv) c3 ((bs.drop 16).take (7 * Nv))) := hH (Row1.of_Own ho3 (by rw [bvs_length, ← HNR.out]; exact rc_its_len HFT.out) hc3 hm3)
 have HS4 := hH (HS.out.got hr3 hO3)
 clear hw3 hpos3 hr3 hO3 ho3 HS
 obtain ⟨L7, hL7⟩ : ∃ x, x = 7 * Nv := ⟨_, rfl⟩
 rw [← hL7] at HB3 hc3 ⊢
 have hL42 : L7 ≤ 42 := by omega
 have HL7 := hH hL7
 clear hL7
 go_wp2_with fail
 refine (ref_item_of_any (some ⟨g3, 0, none⟩) L7 c3 _ _ (by exact HB3.out)).mono ?_
 rintro en wd ⟨A4, c4, rfl, hits, hfr, hO4⟩
 have HS5 := hH (HS4.out.keep hO4)
 have hw3s := HS4.out.d.only.size
 have hf3 := HS4.out.d.box.lt
 have hf4 := HS4.out.r.lt
 obtain ⟨hx0, hx1, hx2, hx3, hx4⟩ := Kn.own5 HS5.out.d.box
 have hv0 := HS5.out.d.box.frozen 0
 have hv1 := HS5.out.d.box.frozen 1
 have hv2 := HS5.out.d.box.frozen 2
 have hv3 := HS5.out.d.box.frozen 3
 have hv4 := HS5.out.d.box.frozen 4
 have hvl := HS5.out.d.box.lt
 obtain ⟨hy0, hy1, hy2, hy3, hy4⟩ := Kn.own5 HS5.out.r
 have hz0 := HS5.out.r.frozen 0
 have hz1 := HS5.out.r.frozen 1
 have hz2 := HS5.out.r.frozen 2
 have hz3 := HS5.out.r.frozen 3
 have hz4 := HS5.out.r.frozen 4
 have hzl := HS5.out.r.lt
 clear hO4 HS4 HB3
 rw [HL7.out, ← HNR.out] at hits hfr ⊢
 cases hdi : decItems ((bs.drop 16).take (7 * rcN bs)) with
 | none =>
  have hno : decRc bs = none := rc_no_items HFT.out hdi
  have HNO := hH hno
  simp only [Option.getD_none, Option.isSome_none, List.length_nil, Bool.false_eq_true, if_false]
  clear hits hfr hno
  go_wp2
  (try simp only [Exit.inBlock, Exit.then])
  refine bodyPost_ret (v := (.tuple #[.agg #[.int .i64 0, .int .i64 0, .int .i64 0, .slice none 0 0, .slice none 0 0], .int .i64 0, .int .i64 2])) ?_ rfl (RcSays.no HNO.out ?_)
  ·simp only [results, HRES.out]
   go_simp
  (repeat' first | (with_reducible refine Only.set ?_ (.inr hrw) _) | (with_reducible exact HS5.out.d.only))
 | some its =>
  have hie := rc_some_items HFT.out hdi
  have hil : its.length = Nv := by rw [hie, ← HNR.out]; exact parse_length _ _
  rw [hdi] at hits hfr
  simp only [Option.getD_some] at hits hfr
  rw [hil] at hits hfr
  simp only [Option.getD_some, Option.isSome_some, if_true]
  rw [hil]
  rw [← hie] at HRO
  have HFR : Hid (0 < Nv → ∀ a, A4 = some a → a.block ≠ f ∧ a.block ≠ fr ∧ w.heap.size ≤ a.block) := hH (fun h0 a ha => by have := hfr h0 a ha; omega)
  have hits5 := hits.keepS ((Only.refl [f] wd).set (p := ⟨f, 3, none⟩) (by simp) (.slice A4 Nv c4)) (fun h0 a ha => by simpa using (HFR.out h0 a ha).1)
  have hp5 := HS5.out.put 3 (.slice A4 Nv c4)
  simp only [List.set_cons_zero, List.set_cons_succ] at hp5
  have HP5 := hH hp5
  have HIT := hH hits5
  clear hdi hie hil hits hfr hp5 hits5
  go_upto_region 16 with fail
  generalize World.setCell wd ⟨f, 3, none⟩ (.slice A4 Nv c4) = we at *
  clear HS5 hx0 hx1 hx2 hx3 hx4 hy0 hy1 hy2 hy3 hy4 hz0 hz1 hz2 hz3 hz4 hzl hv0 hv1 hv2 hv3 hv4 hvl
  have hw1 := ((Wc.mk2 HP5.out.d.only HP5.out.d.box HP5.out.d.hf HP5.out.r HP5.out.hr HP5.out.rf).gnew 47 1)
  have hw2 := (((hw1.addF (fun W => Its W A4 Nv c4 its) (HIT.out.fc (fun h0 a ha hm => by
   have := HFR.out h0 a ha
   simp [Mut, Value.ownBlock] at hm
   omega))).old (f := fun W => Bys W A n c bs) (Row1.fc HI.out (fun _ _ _ h => h))).addF (fun W => Bls W [] []) (fun W _ => Bls.nil W))
  have HWL := hH hw2
  clear hw1 hw2 HP5 HIT
  go_wp2_with fail
  go_loopg [13] kb (fun r i wr => ∃ (j : Nat) (A5 : Option Addr) (c5 : Nat) (sl : List (Option Addr × Nat × Nat)), j + r = kb ∧ i = .int .i64 ((j + 1 : Nat) : Int) ∧ Wc w wr [(f, [.int .i64 rm, .int .i64 rn, .int .i64 rp, .slice A4 Nv c4, .slice A5 j c5]), (fr, [.int .i64 0, .int .i64 0, .int .i64 0, .slice none 0 0, .slice none 0 0])] [⟨47, 1, .slice A5 j c5, j, sl.map slv⟩] [(fun W => Bls W sl (rcBl bs j)), (fun W => Bys W A n c bs), (fun W => Its W A4 Nv c4 its)] ∧ (∀ s ∈ sl, ∀ a, s.1 = some a → w.heap.size ≤ a.block))
  case atStart => exact ⟨0, none, 0, [], by omega, rfl, HWL.out, by simp⟩
  obtain ⟨j, A5, c5, sl, hj, rfl, hw, hfr⟩ := hrel
  have HWR := hH hw
  have HFRR := hH hfr
  clear hw hfr HWL
  obtain ⟨q, hq⟩ : ∃ q, q = j + 1 := ⟨_, rfl⟩
  rw [← hq]
  have HQQ := hH hq
  have hjk : j ≤ 6 := by omega
  by_cases hlt : j < kb
  ·have hqk : (q : Int) ≤ (kb : Int) := by omega
   have hq1 : 1 ≤ q := by omega
   have hq2 : q ≤ 6 := by omega
   have hm1 : IntKind.i64.wrap ((q : Int) * 64) = (q : Int) * 64 := IntWalk.i64_in _ (by omega)
   have hm2 : IntKind.i64.wrap ((q : Int) + 1) = (q : Int) + 1 := IntWalk.i64_in _ (by omega)
   have hm3 : IntKind.i64.wrap (((q : Int) + 1) * 64) = ((q : Int) + 1) * 64 := IntWalk.i64_in _ (by omega)
   have HCK : Hid ((bs.drop (64 * q)).take 64 = chunkB bs j) := hH (by rw [hq]; rfl)
   have HCL : Hid ((chunkB bs j).length = 64) := hH (by
    have := HNK.out
    have := HL.out
    unfold chunkB
    rw [List.length_take, List.length_drop]
    omega)
   have hroom : 64 * q + 64 ≤ n := by have := HNK.out; omega
   clear hq
   go_wp2_with fail
   have HDs := hH HWR.out.drew
   clear HWR
   refine wp_region_held_drew (S := fun w' => w'.cell? ⟨f, 0, none⟩ = some (.int .i64 rm)) (by kernel_rfl) ((HDs.out.boxi 0 rfl).cell 0 (by simp)) (fun hSw0 => ?_)
   generalize World.drew wr = ws at *
   refine tS 0 70 ?_
   refine tS 2 72 ?_
   refine tS 3 73 ?_
   refine tS 4 74 ?_
   refine tS 5 75 ?_
   refine tS 6 76 ?_
   refine tS 7 77 ?_
   refine wpAnyH_ready (rs := [1, 8]) (by kernel_rfl) (by simp) ?_
   refine AllReadyH.cons (o := ⟨some 71, _, _, _, _, _⟩) rfl (fun K hK => ?_) ?_
   ·have yq := (HDs.out.boxi 0 rfl).cell 4 (by simp)
    simp only [g0, gs] at yq
    have lq := (HDs.out.boxi 0 rfl).lt
    go_simp
    clear yq lq
    refine hK.out _ _ ((HDs.out.boxi 0 rfl).cell 0 (by simp)) (fun hSn => ?_)
    clear hK K hSw0
    have hSw0 := hSn
    clear hSn
    refine tR 8 78 fun K hK => ?_
    go_simp
    rw [show (q : Int) * 64 = ((64 * q : Nat) : Int) from by omega]
    refine (part_any A n c bs (64 * q) 64 _ _ (HDs.out.fi 1 rfl) hroom (by omega) (by omega)).mono ?_
    rintro en va ⟨rfl, ho7, hO⟩
    rw [HCK.out] at ho7
    have hbw := HDs.out.only.size
    have hgw : w.heap.size ≤ ws.heap.size := hbw
    generalize hg7 : ws.heap.size = g7 at *
    have HDa := hH (HDs.out.addFc hO (f := fun V => Bys V (some ⟨g7, 0, none⟩) 64 64 (chunkB bs j)) (Row1.fc (Row1.of_Own ho7 (by rw [bvs_length, HCL.out]) (Nat.le_refl _) (by simp [maxLen])) (fun _ a ha => by injection ha with ha; subst ha; simp; omega)))
    clear hO ho7 hg7 hbw
    refine hK.out _ _ ((HDa.out.boxi 0 rfl).cell 0 (by simp)) (fun hSn => ?_)
    clear hK K hSw0
    have hSw0 := hSn
    clear hSn
    refine tR 9 79 fun K hK => ?_
    go_simp
    have HDb := hH (HDa.out.alloc (.cells #[.slice (some ⟨g7, 0, none⟩) 64 64] 47))
    have hnr : Row1 (va.alloc (.cells #[.slice (some ⟨g7, 0, none⟩) 64 64] 47)) (some ⟨va.heap.size, 0, none⟩) 1 1 ([(some ⟨g7, 0, none⟩, 64, 64)].map slv) := Row1.of_Own (Own.new va #[.slice (some ⟨g7, 0, none⟩) 64 64] 47) rfl (Nat.le_refl _) (by simp [maxLen])
    have HNR2 := hH hnr
    clear hnr
    have hbw := HDb.out.only.size
    generalize hvz : va.heap.size = vz at *
    generalize hvb : va.alloc (.cells #[.slice (some ⟨g7, 0, none⟩) 64 64] 47) = vb at *
    clear hvb hvz
    refine hK.out _ _ ((HDb.out.boxi 0 rfl).cell 0 (by simp)) (fun hSn => ?_)
    clear hK K hSw0
    have hSw0 := hSn
    clear hSn
    refine tR 10 80 fun K hK => ?_
    refine step_append_row1 rfl (.tmp 71) (.tmp 79) 54 rfl w.heap.size 47 i0 _ 24 Tryz.underlying54 hi0 hz0 hz1 hz2 rfl (.slice A5 j c5) j (sl.map slv) rfl (HDb.out.gi 0 rfl) (some ⟨vz, 0, none⟩) 1 1 ([(some ⟨g7, 0, none⟩, 64, 64)].map slv) rfl HNR2.out (slv_one _) (by unfold maxLen; omega) (by omega) hbw ?_
    intro v' vd hown hgrow hat
    rw [← List.map_append] at hown
    have hdd := HDb.out.gapp 0 rfl hown hgrow hat
    obtain ⟨A6, c6, rfl⟩ := hdd.gform 0 rfl
    have HDd := hH hdd
    clear hdd hown hgrow hat
    refine hK.out _ _ ((HDd.out.boxi 0 rfl).cell 0 (by simp)) (fun hSn => ?_)
    clear hK K hSw0
    have hSw0 := hSn
    clear hSn
    refine tS 11 81 ?_
    refine Kn.takeR 12 ⟨none, _, _, _, _, _⟩ fun K hK => ?_
    have yq := (HDd.out.boxi 0 rfl).cell 4 (by simp)
    simp only [g0, gs] at yq
    have lq := (HDd.out.boxi 0 rfl).lt
    have fq := (HDd.out.boxi 0 rfl).frozen 4
    go_simp
    have HDz := hH (HDd.out.put 0 rfl 4 (.slice A6 (j + 1) c6))
    clear yq lq fq
    refine hK.out _ _ ((HDz.out.boxi 0 rfl).cell 0 (by simp)) (fun hSn => ?_)
    clear hK K hSw0
    have hSw0 := hSn
    clear hSn
    refine tD ?_ _
    clear hSw0
    go_wp2
    go_roundg (gk - 1)
    case measure => omega
    have hrb : rcBl bs (j + 1) = rcBl bs j ++ [chunkB bs j] := rcBl_succ bs j
    refine ⟨j + 1, A6, c6, sl ++ [(some ⟨g7, 0, none⟩, 64, 64)], by omega, by rw [HQQ.out]; go_num, ?_, ?_⟩
    ·rw [hrb]
     refine (HDz.out.fuse (f1 := fun V => Bys V (some ⟨g7, 0, none⟩) 64 64 (chunkB bs j)) (f2 := fun V => Bls V sl (rcBl bs j)) (f := fun V => Bls V (sl ++ [(some ⟨g7, 0, none⟩, 64, 64)]) (rcBl bs j ++ [chunkB bs j])) (List.mem_cons_self ..) (mc _ (List.mem_cons_self ..)) (fun V h1 h2 => h2.snoc h1)).sub (List.Sublist.refl _) ?_
     intro f1 hf1
     simp only [List.mem_cons, List.not_mem_nil, or_false] at hf1 ⊢
     rcases hf1 with rfl | rfl | rfl <;> simp
    intro s hs a ha
    rcases List.mem_append.1 hs with hs | hs
    ·exact HFRR.out s hs a ha
    simp at hs
    subst hs
    injection ha with ha
    subst ha
    exact hgw
   refine AllReadyH.cons (o := ⟨some 78, _, _, _, _, _⟩) rfl (fun K hK => ?_) ?_
   ·go_simp
    rw [show (q : Int) * 64 = ((64 * q : Nat) : Int) from by omega]
    refine (part_any A n c bs (64 * q) 64 _ _ (HDs.out.fi 1 rfl) hroom (by omega) (by omega)).mono ?_
    rintro en va ⟨rfl, ho7, hO⟩
    rw [HCK.out] at ho7
    have hbw := HDs.out.only.size
    have hgw : w.heap.size ≤ ws.heap.size := hbw
    generalize hg7 : ws.heap.size = g7 at *
    have HDa := hH (HDs.out.addFc hO (f := fun V => Bys V (some ⟨g7, 0, none⟩) 64 64 (chunkB bs j)) (Row1.fc (Row1.of_Own ho7 (by rw [bvs_length, HCL.out]) (Nat.le_refl _) (by simp [maxLen])) (fun _ a ha => by injection ha with ha; subst ha; simp; omega)))
    clear hO ho7 hg7 hbw
    refine hK.out _ _ ((HDa.out.boxi 0 rfl).cell 0 (by simp)) (fun hSn => ?_)
    clear hK K hSw0
    have hSw0 := hSn
    clear hSn
    refine wpAnyH_ready (rs := [1, 9]) (by kernel_rfl) (by simp) ?_
    refine AllReadyH.cons (o := ⟨some 71, _, _, _, _, _⟩) rfl (fun K hK => ?_) ?_
    ·have yq := (HDa.out.boxi 0 rfl).cell 4 (by simp)
     simp only [g0, gs] at yq
     have lq := (HDa.out.boxi 0 rfl).lt
     go_simp
     clear yq lq
     refine hK.out _ _ ((HDa.out.boxi 0 rfl).cell 0 (by simp)) (fun hSn => ?_)
     clear hK K hSw0
     have hSw0 := hSn
     clear hSn
     refine tR 9 79 fun K hK => ?_
     go_simp
     have HDb := hH (HDa.out.alloc (.cells #[.slice (some ⟨g7, 0, none⟩) 64 64] 47))
     have hnr : Row1 (va.alloc (.cells #[.slice (some ⟨g7, 0, none⟩) 64 64] 47)) (some ⟨va.heap.size, 0, none⟩) 1 1 ([(some ⟨g7, 0, none⟩, 64, 64)].map slv) := Row1.of_Own (Own.new va #[.slice (some ⟨g7, 0, none⟩) 64 64] 47) rfl (Nat.le_refl _) (by simp [maxLen])
     have HNR2 := hH hnr
     clear hnr
     have hbw := HDb.out.only.size
     generalize hvz : va.heap.size = vz at *
     generalize hvb : va.alloc (.cells #[.slice (some ⟨g7, 0, none⟩) 64 64] 47) = vb at *
     clear hvb hvz
     refine hK.out _ _ ((HDb.out.boxi 0 rfl).cell 0 (by simp)) (fun hSn => ?_)
     clear hK K hSw0
     have hSw0 := hSn
     clear hSn
     refine tR 10 80 fun K hK => ?_
     refine step_append_row1 rfl (.tmp 71) (.tmp 79) 54 rfl w.heap.size 47 i0 _ 24 Tryz.underlying54 hi0 hz0 hz1 hz2 rfl (.slice A5 j c5) j (sl.map slv) rfl (HDb.out.gi 0 rfl) (some ⟨vz, 0, none⟩) 1 1 ([(some ⟨g7, 0, none⟩, 64, 64)].map slv) rfl HNR2.out (slv_one _) (by unfold maxLen; omega) (by omega) hbw ?_
     intro v' vd hown hgrow hat
     rw [← List.map_append] at hown
     have hdd := HDb.out.gapp 0 rfl hown hgrow hat
     obtain ⟨A6, c6, rfl⟩ := hdd.gform 0 rfl
     have HDd := hH hdd
     clear hdd hown hgrow hat
     refine hK.out _ _ ((HDd.out.boxi 0 rfl).cell 0 (by simp)) (fun hSn => ?_)
     clear hK K hSw0
     have hSw0 := hSn
     clear hSn
     refine tS 11 81 ?_
     refine Kn.takeR 12 ⟨none, _, _, _, _, _⟩ fun K hK => ?_
     have yq := (HDd.out.boxi 0 rfl).cell 4 (by simp)
     simp only [g0, gs] at yq
     have lq := (HDd.out.boxi 0 rfl).lt
     have fq := (HDd.out.boxi 0 rfl).frozen 4
     go_simp
     have HDz := hH (HDd.out.put 0 rfl 4 (.slice A6 (j + 1) c6))
     clear yq lq fq
     refine hK.out _ _ ((HDz.out.boxi 0 rfl).cell 0 (by simp)) (fun hSn => ?_)
     clear hK K hSw0
     have hSw0 := hSn
     clear hSn
     refine tD ?_ _
     clear hSw0
     go_wp2
     go_roundg (gk - 1)
     case measure => omega
     have hrb : rcBl bs (j + 1) = rcBl bs j ++ [chunkB bs j] := rcBl_succ bs j
     refine ⟨j + 1, A6, c6, sl ++ [(some ⟨g7, 0, none⟩, 64, 64)], by omega, by rw [HQQ.out]; go_num, ?_, ?_⟩
     ·rw [hrb]
      refine (HDz.out.fuse (f1 := fun V => Bys V (some ⟨g7, 0, none⟩) 64 64 (chunkB bs j)) (f2 := fun V => Bls V sl (rcBl bs j)) (f := fun V => Bls V (sl ++ [(some ⟨g7, 0, none⟩, 64, 64)]) (rcBl bs j ++ [chunkB bs j])) (List.mem_cons_self ..) (mc _ (List.mem_cons_self ..)) (fun V h1 h2 => h2.snoc h1)).sub (List.Sublist.refl _) ?_
      intro f1 hf1
      simp only [List.mem_cons, List.not_mem_nil, or_false] at hf1 ⊢
      rcases hf1 with rfl | rfl | rfl <;> simp
     intro s hs a ha
     rcases List.mem_append.1 hs with hs | hs
     ·exact HFRR.out s hs a ha
     simp at hs
     subst hs
     injection ha with ha
     subst ha
     exact hgw
    refine AllReadyH.cons (o := ⟨some 79, _, _, _, _, _⟩) rfl (fun K hK => ?_) ?_
    ·go_simp
     have HDb := hH (HDa.out.alloc (.cells #[.slice (some ⟨g7, 0, none⟩) 64 64] 47))
     have hnr : Row1 (va.alloc (.cells #[.slice (some ⟨g7, 0, none⟩) 64 64] 47)) (some ⟨va.heap.size, 0, none⟩) 1 1 ([(some ⟨g7, 0, none⟩, 64, 64)].map slv) := Row1.of_Own (Own.new va #[.slice (some ⟨g7, 0, none⟩) 64 64] 47) rfl (Nat.le_refl _) (by simp [maxLen])
     have HNR2 := hH hnr
     clear hnr
     have hbw := HDb.out.only.size
     generalize hvz : va.heap.size = vz at *
     generalize hvb : va.alloc (.cells #[.slice (some ⟨g7, 0, none⟩) 64 64] 47) = vb at *
     clear hvb hvz
     refine hK.out _ _ ((HDb.out.boxi 0 rfl).cell 0 (by simp)) (fun hSn => ?_)
     clear hK K hSw0
     have hSw0 := hSn
     clear hSn
     refine tR 1 71 fun K hK => ?_
     have yq := (HDb.out.boxi 0 rfl).cell 4 (by simp)
     simp only [g0, gs] at yq
     have lq := (HDb.out.boxi 0 rfl).lt
     go_simp
     clear yq lq
     refine hK.out _ _ ((HDb.out.boxi 0 rfl).cell 0 (by simp)) (fun hSn => ?_)
     clear hK K hSw0
     have hSw0 := hSn
     clear hSn
     refine tR 10 80 fun K hK => ?_
     refine step_append_row1 rfl (.tmp 71) (.tmp 79) 54 rfl w.heap.size 47 i0 _ 24 Tryz.underlying54 hi0 hz0 hz1 hz2 rfl (.slice A5 j c5) j (sl.map slv) rfl (HDb.out.gi 0 rfl) (some ⟨vz, 0, none⟩) 1 1 ([(some ⟨g7, 0, none⟩, 64, 64)].map slv) rfl HNR2.out (slv_one _) (by unfold maxLen; omega) (by omega) hbw ?_
     intro v' vd hown hgrow hat
     rw [← List.map_append] at hown
     have hdd := HDb.out.gapp 0 rfl hown hgrow hat
     obtain ⟨A6, c6, rfl⟩ := hdd.gform 0 rfl
     have HDd := hH hdd
     clear hdd hown hgrow hat
     refine hK.out _ _ ((HDd.out.boxi 0 rfl).cell 0 (by simp)) (fun hSn => ?_)
     clear hK K hSw0
     have hSw0 := hSn
     clear hSn
     refine tS 11 81 ?_
     refine Kn.takeR 12 ⟨none, _, _, _, _, _⟩ fun K hK => ?_
     have yq := (HDd.out.boxi 0 rfl).cell 4 (by simp)
     simp only [g0, gs] at yq
     have lq := (HDd.out.boxi 0 rfl).lt
     have fq := (HDd.out.boxi 0 rfl).frozen 4
     go_simp
     have HDz := hH (HDd.out.put 0 rfl 4 (.slice A6 (j + 1) c6))
     clear yq lq fq
     refine hK.out _ _ ((HDz.out.boxi 0 rfl).cell 0 (by simp)) (fun hSn => ?_)
     clear hK K hSw0
     have hSw0 := hSn
     clear hSn
     refine tD ?_ _
     clear hSw0
     go_wp2
     go_roundg (gk - 1)
     case measure => omega
     have hrb : rcBl bs (j + 1) = rcBl bs j ++ [chunkB bs j] := rcBl_succ bs j
     refine ⟨j + 1, A6, c6, sl ++ [(some ⟨g7, 0, none⟩, 64, 64)], by omega, by rw [HQQ.out]; go_num, ?_, ?_⟩
     ·rw [hrb]
      refine (HDz.out.fuse (f1 := fun V => Bys V (some ⟨g7, 0, none⟩) 64 64 (chunkB bs j)) (f2 := fun V => Bls V sl (rcBl bs j)) (f := fun V => Bls V (sl ++ [(some ⟨g7, 0, none⟩, 64, 64)]) (rcBl bs j ++ [chunkB bs j])) (List.mem_cons_self ..) (mc _ (List.mem_cons_self ..)) (fun V h1 h2 => h2.snoc h1)).sub (List.Sublist.refl _) ?_
      intro f1 hf1
      simp only [List.mem_cons, List.not_mem_nil, or_false] at hf1 ⊢
      rcases hf1 with rfl | rfl | rfl <;> simp
     intro s hs a ha
     rcases List.mem_append.1 hs with hs | hs
     ·exact HFRR.out s hs a ha
     simp at hs
     subst hs
     injection ha with ha
     subst ha
     exact hgw
    exact AllReadyH.nil
   exact AllReadyH.nil
  obtain rfl : j = kb := by omega
  have hqk : ¬ (q : Int) ≤ (j : Int) := by omega
  have HDO := hH (rc_dec_of HFT.out)
  have HGB : Hid (Blks wr A5 j c5 (rcBl bs j)) := hH ⟨sl, (Row1.of_owns (HWR.out.gi 0 rfl)).1, HWR.out.fi 0 rfl⟩
  clear hq hlt
  obtain ⟨x0, x1, x2, x3, x4⟩ := Kn.own5 (HWR.out.boxi 0 rfl)
  go_wp2_with fail
  refine (ref_rec_enc_any rm rn rp A4 Nv c4 its A5 j c5 (rcBl bs j) _ (by exact HWR.out.fi 2 rfl) (by exact HGB.out)).mono ?_
  intro en wy he
  rw [← HRO.out] at he
  have hdo := HDO.out
  cases hen : encRc (rcOf bs) with
  | none =>
   rw [hen] at he hdo
   obtain ⟨rfl, hO⟩ := he.of_none
   have HY := hH (HWR.out.keep0 hO)
   have HNO : Hid (decRc bs = none) := hH hdo
   clear hen hO he hdo x0 x1 x2 x3 x4
   obtain ⟨hx0, hx1, hx2, hx3, hx4⟩ := Kn.own5 (HY.out.boxi 0 rfl)
   obtain ⟨hy0, hy1, hy2, hy3, hy4⟩ := Kn.own5 (HY.out.boxi 1 rfl)
   have hz0 := (HY.out.boxi 1 rfl).frozen 0
   have hz1 := (HY.out.boxi 1 rfl).frozen 1
   have hz2 := (HY.out.boxi 1 rfl).frozen 2
   have hz3 := (HY.out.boxi 1 rfl).frozen 3
   have hz4 := (HY.out.boxi 1 rfl).frozen 4
   have hzl := (HY.out.boxi 1 rfl).lt
   go_wp2
   (try simp only [Exit.inBlock, Exit.then])
   refine bodyPost_ret (v := (.tuple #[.agg #[.int .i64 0, .int .i64 0, .int .i64 0, .slice none 0 0, .slice none 0 0], .int .i64 0, .int .i64 2])) ?_ rfl (RcSays.no HNO.out ?_)
   ·simp only [results, HRES.out]
    go_simp
   (repeat' first | (with_reducible refine Only.set ?_ (.inr hrw) _) | (with_reducible exact HY.out.only))
  | some ys =>
   obtain ⟨y, s⟩ := ys
   rw [hen] at he hdo
   obtain ⟨g9, c9, rfl, hc9, hm9, hg9, ho9, hO⟩ := he.of_some
   have HY := hH (HWR.out.keep0 hO)
   have HB9 : Hid (Bys wy (some ⟨g9, 0, none⟩) y.length c9 y) := hH (Row1.of_Own ho9 (bvs_length _) hc9 hm9)
   have HDO2 : Hid (decRc bs = if y = bs then some (rcOf bs, s) else none) := hH hdo
   clear hen hO he hdo ho9 x0 x1 x2 x3 x4 HDO
   go_wp2_with fail
   refine (equal_any (some ⟨g9, 0, none⟩) y.length c9 y A n c bs _ (by exact HB9.out) (by exact HY.out.fi 1 rfl)).mono ?_
   rintro en w5 ⟨rfl, kz, rfl⟩
   have HYn := hH (HY.out.drewN kz)
   clear HY HB9
   have HY := HYn
   clear HYn
   obtain ⟨hx0, hx1, hx2, hx3, hx4⟩ := Kn.own5 (HY.out.boxi 0 rfl)
   obtain ⟨hy0, hy1, hy2, hy3, hy4⟩ := Kn.own5 (HY.out.boxi 1 rfl)
   have hz0 := (HY.out.boxi 1 rfl).frozen 0
   have hz1 := (HY.out.boxi 1 rfl).frozen 1
   have hz2 := (HY.out.boxi 1 rfl).frozen 2
   have hz3 := (HY.out.boxi 1 rfl).frozen 3
   have hz4 := (HY.out.boxi 1 rfl).frozen 4
   have hzl := (HY.out.boxi 1 rfl).lt
   generalize World.drewN wy kz = wz at *
   by_cases hyb : y = bs
   ·have hd : decide (y = bs) = true := by simp [hyb]
    have HYES : Hid (decRc bs = some (rcOf bs, s)) := hH (by rw [HDO2.out, if_pos hyb])
    clear hyb
    go_wp2
    (try simp only [Exit.inBlock, Exit.then])
    have hfin := (((((HY.out.put 1 rfl 0 (.int .i64 rm)).put 1 rfl 1 (.int .i64 rn)).put 1 rfl 2 (.int .i64 rp)).put 1 rfl 3 (.slice A4 Nv c4)).put 1 rfl 4 (.slice A5 j c5))
    refine bodyPost_ret (v := .tuple #[.agg #[.int .i64 rm, .int .i64 rn, .int .i64 rp, .slice A4 Nv c4, .slice A5 j c5], .int .i64 (s : Nat), .int .i64 0]) ?_ rfl ?_
    ·simp only [results, HRES.out]
     go_simp
    rw [HYES.out]
    refine ⟨(A4, Nv, c4), (A5, j, c5), ?_, ?_, hfin.only⟩
    ·simp only [Option.map_some, Option.getD_some, Option.isSome_some, if_true]
     rw [HRO.out]
     rfl
    simp only [Option.map_some, Option.getD_some]
    rw [HRO.out]
    exact hfin.rcFc (List.mem_cons_self ..) (mc _ (mc _ (List.mem_cons_self ..))) (fun h0 a ha => (HFR.out h0 a ha).2.2) HFRR.out
   have hd : decide (y = bs) = false := by simp [hyb]
   have HNO : Hid (decRc bs = none) := hH (by rw [HDO2.out, if_neg hyb])
   clear hyb
   go_wp2
   (try simp only [Exit.inBlock, Exit.then])
   refine bodyPost_ret (v := (.tuple #[.agg #[.int .i64 0, .int .i64 0, .int .i64 0, .slice none 0 0, .slice none 0 0], .int .i64 0, .int .i64 2])) ?_ rfl (RcSays.no HNO.out ?_)
   ·simp only [results, HRES.out]
    go_simp
   (repeat' first | (with_reducible refine Only.set ?_ (.inr hrw) _) | (with_reducible exact HY.out.only))
end Go.Proofs.YtgcfdjcpcclcjaaGreat
