/- ScnK, ScnL, LogP, ChnP, GeoC, ScnN, LogQ, ScnO, ScnQ, LogR, RingP, LaidP, Awake13, Frame, FrameI: joined by pack.py, without what the claim does not use. -/
import Derived.Test.YtgcfdjcpcclcjaaGreatChainPlaysF
set_option linter.unusedVariables false
set_option linter.unusedSimpArgs false
set_option maxHeartbeats 16000000
set_option maxRecDepth 100000
namespace Go.Proofs.YtgcfdjcpcclcjaaGreat
open Go Go.RowKit Go.Kn
def FolSays (w : World) (q : Ps) (x : Option (Rc × Ps) × Int) (en : Ending) (w' : World) : Prop := Only [] w w' ∧
 match x with
 | (none, er) => en = .returned (.tuple #[.agg #[.int .i64 0, .int .i64 0, .int .i64 0, .slice none 0 0, .slice none 0 0], .agg #[.int .i64 q.s, .int .i64 q.o, .int .i64 q.l, .int .i64 q.p, .int .i64 q.m], .bool false, .int .i64 er])
 | (some (r, nx), _) => ∃ s t, en = .returned (.tuple #[.agg (r.cells s t), .agg #[.int .i64 nx.s, .int .i64 nx.o, .int .i64 nx.l, .int .i64 nx.p, .int .i64 nx.m], .bool true, .int .i64 0]) ∧ Fc w' (fun k => k < w.heap.size) (fun W => RcAt W r s t)
theorem FolSays.no {w w' : World} {q : Ps} {x : Option (Rc × Ps) × Int} {er : Int} (hx : x = (none, er)) (hw : Only [] w w') : FolSays w q x (.returned (.tuple #[.agg #[.int .i64 0, .int .i64 0, .int .i64 0, .slice none 0 0, .slice none 0 0], .agg #[.int .i64 q.s, .int .i64 q.o, .int .i64 q.l, .int .i64 q.p, .int .i64 q.m], .bool false, .int .i64 er])) w' := by
 subst hx
 exact ⟨hw, rfl⟩
/-- a record that was told lies in blocks of its own -/
theorem fc_wc {w w7 w8 : World} {f : World → Prop} (h8 : Fc w8 (fun k => k < w7.heap.size) f) (h78 : w7.heap.size ≤ w8.heap.size) (h7 : w.heap.size ≤ w7.heap.size) {L : List (Nat × List Value)} {w' : World} (hL : ∀ x ∈ L, x.1 < w7.heap.size ∨ w8.heap.size ≤ x.1) (hO : Only (L.map (·.1)) w8 w') : Fc w' (fun k => k < w.heap.size) f := by
 intro W hW
 refine h8 W fun k o hk hko hc => hW k o (by omega) ?_ hc
 rw [hO.block k (lt_of_obj hko) ?_]
 ·exact hko
 intro hm
 obtain ⟨x, hx, rfl⟩ := List.mem_map.1 hm
 have := lt_of_obj hko
 rcases hL x hx with h | h <;> omega
theorem ref_follow_any (w0 w : World) (r : RD) (d : Dk) (c : Fr3) (cf : Cf) (q : Ps) (h : Rsk w0 w r d c) (hh : d.held.length ≤ 1000000) (hc : cf.Ok) (hqs : 0 ≤ q.s ∧ q.s ≤ cf.s - 1) :
  Calls Tryz.prog 105 #[.pointer (some ⟨r.M, 0, none⟩), .agg #[.int .i64 cf.b, .int .i64 cf.s, .int .i64 cf.l], .agg #[.int .i64 q.s, .int .i64 q.o, .int .i64 q.l, .int .i64 q.p, .int .i64 q.m]] w (FolSays w q (Kn.follow d cf q)) := by
 have hres : Tryz.f105.results = #[.cell 6 56, .cell 7 32, .tmp 8, .tmp 9] := by kernel_rfl
 have HRES := hH hres
 have HC := hH hc
 have HR := hH h
 have HOK := hH h.ok
 have hat : 0 ≤ cf.at_ q.s ∧ cf.at_ q.s ≤ 100000 := by
  obtain ⟨m1, m2⟩ := Cf.prod cf hc q.s hqs.1 (by omega)
  have h1 := rln_bounds hc
  have h2 := pgs_bounds hc
  unfold Cf.at_
  rw [if_pos hqs]
  omega
 obtain ⟨hl0, hl1⟩ := hc.2.2
 have HW0 := hH ((((((Wc.start w).newB #[.int .i64 cf.b, .int .i64 cf.s, .int .i64 cf.l] 25 rfl).newB #[.int .i64 q.s, .int .i64 q.o, .int .i64 q.l, .int .i64 q.p, .int .i64 q.m] 32 rfl).newB #[.int .i64 0, .int .i64 0, .int .i64 0, .slice none 0 0, .slice none 0 0] 56 rfl).newB #[.int .i64 0, .int .i64 0, .int .i64 0, .int .i64 0, .int .i64 0] 32 rfl).newB #[.int .i64 0, .int .i64 0, .int .i64 0, .slice none 0 0, .slice none 0 0] 56 rfl)
 clear hres hc h
 go_enter Tryz.func105, Tryz.ntmps105
 have hwl := IntWalk.i64_in (cf.l - 1) (by omega)
 go_wp2_with fail
 refine (within_any _ _ _ _).mono ?_
 rintro en wx ⟨rfl, rfl⟩
 generalize hz1 : ((((w.alloc (.cells #[.int .i64 cf.b, .int .i64 cf.s, .int .i64 cf.l] 25)).alloc (.cells #[.int .i64 q.s, .int .i64 q.o, .int .i64 q.l, .int .i64 q.p, .int .i64 q.m] 32)).alloc (.cells #[.int .i64 0, .int .i64 0, .int .i64 0, .slice none 0 0, .slice none 0 0] 56)).alloc (.cells #[.int .i64 0, .int .i64 0, .int .i64 0, .int .i64 0, .int .i64 0] 32)).alloc (.cells #[.int .i64 0, .int .i64 0, .int .i64 0, .slice none 0 0, .slice none 0 0] 56) = w1 at *
 have hs1 : (w.alloc (.cells #[.int .i64 cf.b, .int .i64 cf.s, .int .i64 cf.l] 25)).heap.size = w.heap.size + 1 := by simp
 have hs2 : ((w.alloc (.cells #[.int .i64 cf.b, .int .i64 cf.s, .int .i64 cf.l] 25)).alloc (.cells #[.int .i64 q.s, .int .i64 q.o, .int .i64 q.l, .int .i64 q.p, .int .i64 q.m] 32)).heap.size = w.heap.size + 1 + 1 := by simp
 have hs3 : (((w.alloc (.cells #[.int .i64 cf.b, .int .i64 cf.s, .int .i64 cf.l] 25)).alloc (.cells #[.int .i64 q.s, .int .i64 q.o, .int .i64 q.l, .int .i64 q.p, .int .i64 q.m] 32)).alloc (.cells #[.int .i64 0, .int .i64 0, .int .i64 0, .slice none 0 0, .slice none 0 0] 56)).heap.size = w.heap.size + 1 + 1 + 1 := by simp
 have hs4 : ((((w.alloc (.cells #[.int .i64 cf.b, .int .i64 cf.s, .int .i64 cf.l] 25)).alloc (.cells #[.int .i64 q.s, .int .i64 q.o, .int .i64 q.l, .int .i64 q.p, .int .i64 q.m] 32)).alloc (.cells #[.int .i64 0, .int .i64 0, .int .i64 0, .slice none 0 0, .slice none 0 0] 56)).alloc (.cells #[.int .i64 0, .int .i64 0, .int .i64 0, .int .i64 0, .int .i64 0] 32)).heap.size = w.heap.size + 1 + 1 + 1 + 1 := by simp
 rw [hs1, hs2, hs3, hs4] at HW0
 have hwf : w.heap.size ≤ w.heap.size := Nat.le_refl _
 clear hz1 hs1 hs2 hs3 hs4
 obtain ⟨f4, hf4⟩ : ∃ k, k = w.heap.size := ⟨_, rfl⟩
 rw [← hf4] at HW0 ⊢
 clear hf4 hwf
 generalize f4 + 1 = f5 at *
 generalize f5 + 1 = f6 at *
 generalize f6 + 1 = f7 at *
 generalize f7 + 1 = f10 at *
 have HW1 : Hid (Wc w w1 ((f10, [.int .i64 0, .int .i64 0, .int .i64 0, .slice none 0 0, .slice none 0 0]) :: (f7, [.int .i64 0, .int .i64 0, .int .i64 0, .int .i64 0, .int .i64 0]) :: (f6, [.int .i64 0, .int .i64 0, .int .i64 0, .slice none 0 0, .slice none 0 0]) :: (f5, [.int .i64 q.s, .int .i64 q.o, .int .i64 q.l, .int .i64 q.p, .int .i64 q.m]) :: (f4, [.int .i64 cf.b, .int .i64 cf.s, .int .i64 cf.l]) :: []) [] []) := hH HW0.out
 clear HW0
 by_cases hin : 1 ≤ q.o ∧ q.o ≤ cf.l - 1
 ·have hdb : decide (1 ≤ q.o ∧ q.o ≤ cf.l - 1) = true := decide_eq_true hin
  rw [hdb]
  obtain ⟨ho0, ho1⟩ := hin
  clear hdb
  have hw3 := IntWalk.i64_in (cf.at_ q.s + q.o) (by omega)
  obtain ⟨a, ha⟩ : ∃ a, cf.at_ q.s + q.o = a := ⟨_, rfl⟩
  have hab : 0 ≤ a ∧ a ≤ 200000 := by omega
  have HA := hH ha
  obtain ⟨ha0, ha1⟩ := hab
  obtain ⟨sa, hsa⟩ : ∃ z, cf.at_ q.s = z := ⟨_, rfl⟩
  have HSA := hH hsa
  rw [hsa] at hw3 hat ha
  have hw4 : IntKind.i64.wrap (sa + q.o) = a := by rw [hw3, ha]
  obtain ⟨hat0, hat1⟩ := hat
  clear ha hsa hw3
  go_wp2_with fail
  have HY := hH HW1.out.drew
  clear HW1
  refine wp_region_held_drew (S := (fun w' => Kn.Own w' f4 [.int .i64 cf.b, .int .i64 cf.s, .int .i64 cf.l] ∧ Kn.Own w' f5 [.int .i64 q.s, .int .i64 q.o, .int .i64 q.l, .int .i64 q.p, .int .i64 q.m])) (by kernel_rfl) ⟨HY.out.boxi 4 rfl, HY.out.boxi 3 rfl⟩ (fun hSw0 => ?_)
  generalize w1.drew = wz at *
  refine tS 0 30 (v := (.agg #[.int .i64 cf.b, .int .i64 cf.s, .int .i64 cf.l])) (hy := fun w hSw => by
   have q0 := hSw.1
   obtain ⟨q00, q01, q02⟩ := Kn.own3 q0
   clear q0
   go_simp) ?_
  refine tS 1 31 ?_
  refine tS 2 32 (v := (.int .i64 q.s)) (hy := fun w hSw => by
   have q0 := Kn.own1 hSw.2
   go_simp) ?_
  refine tS 4 34 ?_
  refine tS 5 35 (v := (.int .i64 q.o)) (hy := fun w hSw => by
   have q0 := hSw.2.cell 1 (by simp)
   simp only [g0, gs] at q0
   go_simp) ?_
  refine tR 3 33 fun K hK => ?_
  go_simp
  refine (ref_segat_any cf q.s _ HC.out).mono ?_
  rintro en w3 ⟨rfl, hO⟩
  rw [HSA.out]
  have HW3 := hH (HY.out.keep0 hO)
  clear hO HY
  refine hK.out _ _ ⟨HW3.out.boxi 4 rfl, HW3.out.boxi 3 rfl⟩ (fun hSn => ?_)
  clear hK K hSw0
  have hSw0 := hSn
  clear hSn
  refine tS 6 36 ?_
  refine tS 7 11 ?_
  refine tD ?_ _
  clear hSw0
  go_wp2_with fail
  refine (rk_read_own w0 _ r d c a (HR.out.keep0 HW3.out.only) hh).mono ?_
  rintro en w4 ⟨v, n, rfl, hown, hO⟩
  have hW := HW3.out.gadd hO hown
  obtain ⟨A, cc, rfl⟩ := hW.gform 0 rfl
  have HW4 := hH hW
  clear hown hW hO HW3
  have hbo := (Row1.of_owns (HW4.out.gi 0 rfl)).1
  have hnl := hbo.len
  rw [bvs_length] at hnl
  have hn64 : n ≤ 65536 := by rw [← hnl, Dk.read_len HOK.out]; split <;> omega
  have HBO := hH hbo
  have HNL := hH hnl
  obtain ⟨z, hz⟩ : ∃ z, d.err a = z := ⟨_, rfl⟩
  rw [hz]
  have HZ := hH hz
  clear hbo hnl hz
  by_cases hz0 : z = 0
  ·subst hz0
   go_wp2_with fail
   refine (ref_rec_size_any A n cc _ _ HBO.out).mono ?_
   rintro en w5 ⟨rfl, hO⟩
   have HW5 := hH (HW4.out.keep0 hO)
   clear hO HW4 HBO
   obtain ⟨N, hN⟩ : ∃ N, sizeRc (d.read a) = N := ⟨_, rfl⟩
   have hN7 : N ≤ 7 := by rw [← hN]; exact sizeRc_le _
   rw [hN]
   have HN := hH hN
   clear hN
   have b5 := HW5.out.boxi 3 rfl
   obtain ⟨p0, p1, p2, p3, p4⟩ := Kn.own5 b5
   have b4 := HW5.out.boxi 4 rfl
   obtain ⟨e0, e1, e2⟩ := Kn.own3 b4
   clear b5 b4
   by_cases hN0 : N = 0
   ·subst hN0
    go_wp2_with fail
    have HY := hH HW5.out.drew
    clear HW5
    refine wp_region_held_drew (S := (fun w' => Kn.Own w' f10 [.int .i64 0, .int .i64 0, .int .i64 0, .slice none 0 0, .slice none 0 0] ∧ Kn.Own w' f5 [.int .i64 q.s, .int .i64 q.o, .int .i64 q.l, .int .i64 q.p, .int .i64 q.m])) (by kernel_rfl) ⟨HY.out.boxi 0 rfl, HY.out.boxi 3 rfl⟩ (fun hSw0 => ?_)
    generalize w5.drew = wz at *
    refine tS 0 61 (v := (.agg #[.int .i64 0, .int .i64 0, .int .i64 0, .slice none 0 0, .slice none 0 0])) (hy := fun w hSw => by
     have q0 := hSw.1
     obtain ⟨q00, q01, q02, q03, q04⟩ := Kn.own5 q0
     clear q0
     go_simp) ?_
    refine tS 1 62 (v := (.agg #[.int .i64 q.s, .int .i64 q.o, .int .i64 q.l, .int .i64 q.p, .int .i64 q.m])) (hy := fun w hSw => by
     have q0 := hSw.2
     obtain ⟨q00, q01, q02, q03, q04⟩ := Kn.own5 q0
     clear q0
     go_simp) ?_
    refine Kn.takeR 2 ⟨none, _, _, _, _, _⟩ fun K hK => ?_
    refine step_store_own rfl 56 (.tmp 6) (.tmp 61) rfl f6 [.int .i64 0, .int .i64 0, .int .i64 0, .slice none 0 0, .slice none 0 0] [.int .i64 0, .int .i64 0, .int .i64 0, .slice none 0 0, .slice none 0 0] (by kernel_rfl) rfl rfl (HY.out.boxi 2 rfl) rfl (by intro u hu; simp at hu; rcases hu with rfl | rfl <;> rfl) ?_
    intro wa ho hO
    have HY1 := hH (HY.out.call1 2 rfl ho hO)
    clear ho hO HY
    refine hK.out _ _ ⟨HY1.out.boxi 0 rfl, HY1.out.boxi 3 rfl⟩ (fun hSn => ?_)
    clear hK K hSw0
    have hSw0 := hSn
    clear hSn
    refine Kn.takeR 3 ⟨none, _, _, _, _, _⟩ fun K hK => ?_
    refine step_store_own rfl 32 (.tmp 7) (.tmp 62) rfl f7 [.int .i64 0, .int .i64 0, .int .i64 0, .int .i64 0, .int .i64 0] [.int .i64 q.s, .int .i64 q.o, .int .i64 q.l, .int .i64 q.p, .int .i64 q.m] (by kernel_rfl) rfl rfl (HY1.out.boxi 1 rfl) rfl (by intro u hu; simp at hu; rcases hu with rfl | rfl | rfl | rfl | rfl <;> rfl) ?_
    intro wy ho hO
    have HY2 := hH (HY1.out.call1 1 rfl ho hO)
    clear ho hO HY1
    refine hK.out _ _ ⟨HY2.out.boxi 0 rfl, HY2.out.boxi 3 rfl⟩ (fun hSn => ?_)
    clear hK K hSw0
    have hSw0 := hSn
    clear hSn
    refine tS 4 8 ?_
    refine tS 5 9 ?_
    refine tD ?_ _
    clear hSw0
    have HFOL := hH (follow_size (d := d) (c := cf) (p := q) ⟨ho0, by omega⟩ HA.out HZ.out HN.out (.inl rfl))
    have br := HY2.out.boxi 2 rfl
    have bn := HY2.out.boxi 1 rfl
    obtain ⟨r0, r1, r2, r3, r4⟩ := Kn.own5 br
    obtain ⟨n0, n1, n2, n3, n4⟩ := Kn.own5 bn
    clear br bn
    go_wp2
    (try simp only [Exit.inBlock, Exit.then])
    refine bodyPost_ret (v := .tuple #[.agg #[.int .i64 0, .int .i64 0, .int .i64 0, .slice none 0 0, .slice none 0 0], .agg #[.int .i64 q.s, .int .i64 q.o, .int .i64 q.l, .int .i64 q.p, .int .i64 q.m], .bool false, .int .i64 0]) ?_ rfl ?_
    ·simp only [results, HRES.out]
     go_simp
    exact FolSays.no HFOL.out HY2.out.only
   have hN1 : ((N : Int) == 0) = false := by simp; omega
   have hwN := IntWalk.i64_in (q.o + (N : Int)) (by omega)
   by_cases hfar2 : cf.l < q.o + (N : Int)
   ·go_wp2_with fail
    have HY := hH HW5.out.drew
    clear HW5
    refine wp_region_held_drew (S := (fun w' => Kn.Own w' f10 [.int .i64 0, .int .i64 0, .int .i64 0, .slice none 0 0, .slice none 0 0] ∧ Kn.Own w' f5 [.int .i64 q.s, .int .i64 q.o, .int .i64 q.l, .int .i64 q.p, .int .i64 q.m])) (by kernel_rfl) ⟨HY.out.boxi 0 rfl, HY.out.boxi 3 rfl⟩ (fun hSw0 => ?_)
    generalize w5.drew = wz at *
    refine tS 0 61 (v := (.agg #[.int .i64 0, .int .i64 0, .int .i64 0, .slice none 0 0, .slice none 0 0])) (hy := fun w hSw => by
     have q0 := hSw.1
     obtain ⟨q00, q01, q02, q03, q04⟩ := Kn.own5 q0
     clear q0
     go_simp) ?_
    refine tS 1 62 (v := (.agg #[.int .i64 q.s, .int .i64 q.o, .int .i64 q.l, .int .i64 q.p, .int .i64 q.m])) (hy := fun w hSw => by
     have q0 := hSw.2
     obtain ⟨q00, q01, q02, q03, q04⟩ := Kn.own5 q0
     clear q0
     go_simp) ?_
    refine Kn.takeR 2 ⟨none, _, _, _, _, _⟩ fun K hK => ?_
    refine step_store_own rfl 56 (.tmp 6) (.tmp 61) rfl f6 [.int .i64 0, .int .i64 0, .int .i64 0, .slice none 0 0, .slice none 0 0] [.int .i64 0, .int .i64 0, .int .i64 0, .slice none 0 0, .slice none 0 0] (by kernel_rfl) rfl rfl (HY.out.boxi 2 rfl) rfl (by intro u hu; simp at hu; rcases hu with rfl | rfl <;> rfl) ?_
    intro wa ho hO
    have HY1 := hH (HY.out.call1 2 rfl ho hO)
    clear ho hO HY
    refine hK.out _ _ ⟨HY1.out.boxi 0 rfl, HY1.out.boxi 3 rfl⟩ (fun hSn => ?_)
    clear hK K hSw0
    have hSw0 := hSn
    clear hSn
    refine Kn.takeR 3 ⟨none, _, _, _, _, _⟩ fun K hK => ?_
    refine step_store_own rfl 32 (.tmp 7) (.tmp 62) rfl f7 [.int .i64 0, .int .i64 0, .int .i64 0, .int .i64 0, .int .i64 0] [.int .i64 q.s, .int .i64 q.o, .int .i64 q.l, .int .i64 q.p, .int .i64 q.m] (by kernel_rfl) rfl rfl (HY1.out.boxi 1 rfl) rfl (by intro u hu; simp at hu; rcases hu with rfl | rfl | rfl | rfl | rfl <;> rfl) ?_
    intro wy ho hO
    have HY2 := hH (HY1.out.call1 1 rfl ho hO)
    clear ho hO HY1
    refine hK.out _ _ ⟨HY2.out.boxi 0 rfl, HY2.out.boxi 3 rfl⟩ (fun hSn => ?_)
    clear hK K hSw0
    have hSw0 := hSn
    clear hSn
    refine tS 4 8 ?_
    refine tS 5 9 ?_
    refine tD ?_ _
    clear hSw0
    have HFOL := hH (follow_size (d := d) (c := cf) (p := q) ⟨ho0, by omega⟩ HA.out HZ.out HN.out (.inr hfar2))
    have br := HY2.out.boxi 2 rfl
    have bn := HY2.out.boxi 1 rfl
    obtain ⟨r0, r1, r2, r3, r4⟩ := Kn.own5 br
    obtain ⟨n0, n1, n2, n3, n4⟩ := Kn.own5 bn
    clear br bn
    go_wp2
    (try simp only [Exit.inBlock, Exit.then])
    refine bodyPost_ret (v := .tuple #[.agg #[.int .i64 0, .int .i64 0, .int .i64 0, .slice none 0 0, .slice none 0 0], .agg #[.int .i64 q.s, .int .i64 q.o, .int .i64 q.l, .int .i64 q.p, .int .i64 q.m], .bool false, .int .i64 0]) ?_ rfl ?_
    ·simp only [results, HRES.out]
     go_simp
    exact FolSays.no HFOL.out HY2.out.only
   have hlz : N = 0 ∨ cf.l < q.o + (N : Int) → False := fun h => h.elim (fun h => hN0 h) (fun h => hfar2 h)
   have HLZ := hH hlz
   clear hlz
   have hg1 : gerr d a 1 = 0 := by rw [gerr_one]; exact HZ.out
   have hga : gat d a 1 = d.read a := gat_one d a
   have HWS : Hid (Wc w w5 ((f10, [.int .i64 0, .int .i64 0, .int .i64 0, .slice none 0 0, .slice none 0 0]) :: (f7, [.int .i64 0, .int .i64 0, .int .i64 0, .int .i64 0, .int .i64 0]) :: (f6, [.int .i64 0, .int .i64 0, .int .i64 0, .slice none 0 0, .slice none 0 0]) :: (f5, [.int .i64 q.s, .int .i64 q.o, .int .i64 q.l, .int .i64 q.p, .int .i64 q.m]) :: (f4, [.int .i64 cf.b, .int .i64 cf.s, .int .i64 cf.l]) :: []) (⟨5, 1, .slice A n cc, n, bvs (gat d a 1)⟩ :: []) []) := hH (by rw [hga]; exact HW5.out)
   have HG1 := hH hg1
   clear hg1 hga HW5
   obtain ⟨i0, hi0, hy0, hy1, hy2⟩ := info_parts Tryz.infoU8
   have hNge : 1 ≤ N := by omega
   clear hN0 HNL hn64
   go_wp2_with fail
   go_loopg [12, 15] (N - 1) (fun rr t12 i wr => ∃ (j : Nat) (A : Option Addr) (n cc : Nat), j + rr = N ∧ 1 ≤ j ∧ i = .int .i64 j ∧ t12 = .slice A n cc ∧ gerr d a j = 0 ∧ Wc w wr ((f10, [.int .i64 0, .int .i64 0, .int .i64 0, .slice none 0 0, .slice none 0 0]) :: (f7, [.int .i64 0, .int .i64 0, .int .i64 0, .int .i64 0, .int .i64 0]) :: (f6, [.int .i64 0, .int .i64 0, .int .i64 0, .slice none 0 0, .slice none 0 0]) :: (f5, [.int .i64 q.s, .int .i64 q.o, .int .i64 q.l, .int .i64 q.p, .int .i64 q.m]) :: (f4, [.int .i64 cf.b, .int .i64 cf.s, .int .i64 cf.l]) :: []) (⟨5, 1, .slice A n cc, n, bvs (gat d a j)⟩ :: []) [])
   case atStart => exact ⟨1, A, n, cc, by omega, by omega, rfl, rfl, HG1.out, HWS.out⟩
   clear p0 p1 p2 p3 p4 e0 e1 e2
   obtain ⟨j, A, n, cc, hj, hj1, rfl, rfl, hge, hw⟩ := hrel
   have HGE := hH hge
   have HW6 := hH hw
   have hnl := (hw.gi 0 rfl).1
   rw [bvs_length, gat_len HOK.out j hge] at hnl
   have hn4 : n = 64 * j := by simpa using hnl.symm
   have hn448 : n ≤ 448 := by omega
   have HN4 := hH hn4
   clear HWS HG1 hge hw hnl hn4
   by_cases hlt : j < N
   ·have hlt2 : (j : Int) < (N : Int) := by omega
    have hwa := IntWalk.i64_in (a + (j : Int)) (by omega)
    go_wp2_with fail
    refine (rk_read_own w0 _ r d c (a + (j : Int)) (HR.out.keep0 HW6.out.only) hh).mono ?_
    rintro en w7 ⟨v, nx, rfl, hown, hO⟩
    have hW := HW6.out.gadd hO hown
    obtain ⟨AX, ccx, rfl⟩ := hW.gform 0 rfl
    have HW7 := hH hW
    clear hown hW hO HW6
    obtain ⟨z2, hz2⟩ : ∃ z, d.err (a + (j : Int)) = z := ⟨_, rfl⟩
    rw [hz2]
    have HZ2 := hH hz2
    clear hz2
    have hgs := gerr_succ d a j
    rw [if_pos HGE.out, HZ2.out] at hgs
    have HGS := hH hgs
    clear hgs
    by_cases hz20 : z2 = 0
    ·subst hz20
     have hrx := (Row1.of_owns (HW7.out.gi 0 rfl)).1
     have hnx := hrx.len
     rw [bvs_length] at hnx
     have hnx64 : nx ≤ 64 := by rw [← hnx, Dk.read_len HOK.out]; split <;> omega
     have HRX := hH hrx
     have HBS := hH HW7.out.only.size
     clear hrx hnx
     go_wp2_with (first
      | (at_builtin; refine wpList_append_row1 rfl (.tmp 81) (.tmp 82) 47 rfl w.heap.size 5 i0 _ 1 Tryz.underlying47 hi0 hy0 hy1 hy2 rfl (.slice A n cc) n (bvs (gat d a j)) rfl (HW7.out.gi 1 rfl) AX nx ccx (bvs (d.read (a + (j : Int)))) rfl HRX.out (bvs_one _) (by unfold maxLen; omega) (by omega) HBS.out ?_; intro v8 w8 hown hgrow hat; have hdd := HW7.out.gapp 1 rfl hown hgrow hat; obtain ⟨A8, c8, rfl⟩ := hdd.gform 1 rfl; simp only [List.set_cons_zero, List.set_cons_succ] at hdd; have HW8 := hH hdd.gdrop; clear hdd hown hgrow hat HRX HBS HW7)
      | fail)
     have hba : bvs (gat d a j) ++ bvs (d.read (a + (j : Int))) = bvs (gat d a (j + 1)) := by rw [gat_succ]; simp [bvs]
     rw [hba] at HW8
     clear hba
     go_roundg (gk - 1)
     case measure => omega
     case rel => exact ⟨j + 1, A8, n + nx, c8, by omega, by omega, by go_num, rfl, HGS.out, HW8.out⟩
    have hzb : (z2 != 0) = true := by simpa using hz20
    go_wp2_with fail
    have HY := hH HW7.out.drew
    clear HW7
    refine wp_region_held_drew (S := (fun w' => Kn.Own w' f10 [.int .i64 0, .int .i64 0, .int .i64 0, .slice none 0 0, .slice none 0 0] ∧ Kn.Own w' f5 [.int .i64 q.s, .int .i64 q.o, .int .i64 q.l, .int .i64 q.p, .int .i64 q.m])) (by kernel_rfl) ⟨HY.out.boxi 0 rfl, HY.out.boxi 3 rfl⟩ (fun hSw0 => ?_)
    generalize w7.drew = wz at *
    refine tS 0 78 (v := (.agg #[.int .i64 0, .int .i64 0, .int .i64 0, .slice none 0 0, .slice none 0 0])) (hy := fun w hSw => by
     have q0 := hSw.1
     obtain ⟨q00, q01, q02, q03, q04⟩ := Kn.own5 q0
     clear q0
     go_simp) ?_
    refine tS 1 79 (v := (.agg #[.int .i64 q.s, .int .i64 q.o, .int .i64 q.l, .int .i64 q.p, .int .i64 q.m])) (hy := fun w hSw => by
     have q0 := hSw.2
     obtain ⟨q00, q01, q02, q03, q04⟩ := Kn.own5 q0
     clear q0
     go_simp) ?_
    refine tS 2 80 ?_
    refine Kn.takeR 3 ⟨none, _, _, _, _, _⟩ fun K hK => ?_
    refine step_store_own rfl 56 (.tmp 6) (.tmp 78) rfl f6 [.int .i64 0, .int .i64 0, .int .i64 0, .slice none 0 0, .slice none 0 0] [.int .i64 0, .int .i64 0, .int .i64 0, .slice none 0 0, .slice none 0 0] (by kernel_rfl) rfl rfl (HY.out.boxi 2 rfl) rfl (by intro u hu; simp at hu; rcases hu with rfl | rfl <;> rfl) ?_
    intro wa ho hO
    have HY1 := hH (HY.out.call1 2 rfl ho hO)
    clear ho hO HY
    refine hK.out _ _ ⟨HY1.out.boxi 0 rfl, HY1.out.boxi 3 rfl⟩ (fun hSn => ?_)
    clear hK K hSw0
    have hSw0 := hSn
    clear hSn
    refine Kn.takeR 4 ⟨none, _, _, _, _, _⟩ fun K hK => ?_
    refine step_store_own rfl 32 (.tmp 7) (.tmp 79) rfl f7 [.int .i64 0, .int .i64 0, .int .i64 0, .int .i64 0, .int .i64 0] [.int .i64 q.s, .int .i64 q.o, .int .i64 q.l, .int .i64 q.p, .int .i64 q.m] (by kernel_rfl) rfl rfl (HY1.out.boxi 1 rfl) rfl (by intro u hu; simp at hu; rcases hu with rfl | rfl | rfl | rfl | rfl <;> rfl) ?_
    intro wy ho hO
    have HY2 := hH (HY1.out.call1 1 rfl ho hO)
    clear ho hO HY1
    refine hK.out _ _ ⟨HY2.out.boxi 0 rfl, HY2.out.boxi 3 rfl⟩ (fun hSn => ?_)
    clear hK K hSw0
    have hSw0 := hSn
    clear hSn
    refine tS 5 8 ?_
    refine tS 6 9 ?_
    refine tD ?_ _
    clear hSw0
    have HFOL := hH ((follow_gerr (d := d) (c := cf) (p := q) ⟨ho0, by omega⟩ HA.out HZ.out HN.out (fun h => HLZ.out h) (by rw [gerr_stop (m := j + 1) (by rw [HGS.out]; exact hz20) (by omega), HGS.out]; exact hz20)).trans (by rw [gerr_stop (m := j + 1) (by rw [HGS.out]; exact hz20) (by omega), HGS.out]))
    have br := HY2.out.boxi 2 rfl
    have bn := HY2.out.boxi 1 rfl
    obtain ⟨r0, r1, r2, r3, r4⟩ := Kn.own5 br
    obtain ⟨n0, n1, n2, n3, n4⟩ := Kn.own5 bn
    clear br bn
    go_wp2
    (try simp only [Exit.inBlock, Exit.then])
    refine bodyPost_ret (v := .tuple #[.agg #[.int .i64 0, .int .i64 0, .int .i64 0, .slice none 0 0, .slice none 0 0], .agg #[.int .i64 q.s, .int .i64 q.o, .int .i64 q.l, .int .i64 q.p, .int .i64 q.m], .bool false, .int .i64 z2]) ?_ rfl ?_
    ·simp only [results, HRES.out]
     go_simp
    exact FolSays.no HFOL.out HY2.out.only
   obtain rfl : j = N := by omega
   have hbo := (Row1.of_owns (HW6.out.gi 0 rfl)).1
   have HBO := hH hbo
   clear hbo
   go_wp2_with fail
   refine (ref_rec_dec_any A n cc (gat d a j) _ HBO.out (by omega)).mono ?_
   rintro en w8 ⟨s, t, rfl, hfc, hO⟩
   obtain ⟨s1, s2, s3⟩ := s
   obtain ⟨t1, t2, t3⟩ := t
   have hwA := HW6.out.keep0 hO
   have h7s := HW6.out.only.size
   have h78 := hO.size
   have l6 := (HW6.out.boxi 2 rfl).lt
   have l7 := (HW6.out.boxi 1 rfl).lt
   have HFX : Hid (∀ wy, Only [f7, f6] w8 wy → Fc wy (fun k => k < w.heap.size) (fun W => RcAt W (((decRc (gat d a j)).map (·.1)).getD rcZ) (s1, s2, s3) (t1, t2, t3))) := hH (fun wy ho => fc_wc hfc h78 h7s (L := [(f7, []), (f6, [])]) (by intro x hx; simp at hx; rcases hx with rfl | rfl <;> simp <;> omega) ho)
   clear l6 l7 h7s h78 hfc
   cases hdec : decRc (gat d a j) with
   | none =>
    have HDEC := hH hdec
    simp only [Option.map_none, Option.getD_none, Option.isSome_none, rcZ, Rc.cells, slv]
    go_upto_region 19 with (fail)
    have hwB := hwA.newB #[.int .i64 0, .int .i64 0, .int .i64 0, .slice s1 s2 s3, .slice t1 t2 t3] 56 rfl
    have HWB := hH hwB
    have HO9 : Hid (Only [f7, f6] w8 (w8.alloc (.cells #[.int .i64 0, .int .i64 0, .int .i64 0, .slice s1 s2 s3, .slice t1 t2 t3] 56))) := hH ((Only.refl _ _).alloc _)
    clear hwA hwB HBO HW6 hO
    clear hdec HFX
    generalize hw9 : w8.alloc (.cells #[.int .i64 0, .int .i64 0, .int .i64 0, .slice s1 s2 s3, .slice t1 t2 t3] 56) = w9 at *
    generalize w8.heap.size = f18 at *
    clear hw9
    have k9 := HWB.out.boxi 0 rfl
    obtain ⟨k0, k1, k2, k3, k4⟩ := Kn.own5 k9
    clear k9
    have p9 := HWB.out.boxi 4 rfl
    obtain ⟨p0, p1, p2, p3, p4⟩ := Kn.own5 p9
    clear p9
    go_wp2_with fail
    have HY := hH HWB.out.drew
    clear HWB
    refine wp_region_held_drew (S := (fun w' => Kn.Own w' f10 [.int .i64 0, .int .i64 0, .int .i64 0, .slice none 0 0, .slice none 0 0] ∧ Kn.Own w' f5 [.int .i64 q.s, .int .i64 q.o, .int .i64 q.l, .int .i64 q.p, .int .i64 q.m])) (by kernel_rfl) ⟨HY.out.boxi 1 rfl, HY.out.boxi 4 rfl⟩ (fun hSw0 => ?_)
    generalize w9.drew = wz at *
    refine tS 0 113 (v := (.agg #[.int .i64 0, .int .i64 0, .int .i64 0, .slice none 0 0, .slice none 0 0])) (hy := fun w hSw => by
     have q0 := hSw.1
     obtain ⟨q00, q01, q02, q03, q04⟩ := Kn.own5 q0
     clear q0
     go_simp) ?_
    refine tS 1 114 (v := (.agg #[.int .i64 q.s, .int .i64 q.o, .int .i64 q.l, .int .i64 q.p, .int .i64 q.m])) (hy := fun w hSw => by
     have q0 := hSw.2
     obtain ⟨q00, q01, q02, q03, q04⟩ := Kn.own5 q0
     clear q0
     go_simp) ?_
    refine Kn.takeR 2 ⟨none, _, _, _, _, _⟩ fun K hK => ?_
    refine step_store_own rfl 56 (.tmp 6) (.tmp 113) rfl f6 [.int .i64 0, .int .i64 0, .int .i64 0, .slice none 0 0, .slice none 0 0] [.int .i64 0, .int .i64 0, .int .i64 0, .slice none 0 0, .slice none 0 0] (by kernel_rfl) rfl rfl (HY.out.boxi 3 rfl) rfl (by intro u hu; simp at hu; rcases hu with rfl | rfl <;> rfl) ?_
    intro wa ho hO
    have HY1 := hH (HY.out.call1 3 rfl ho hO)
    clear ho hO HY
    refine hK.out _ _ ⟨HY1.out.boxi 1 rfl, HY1.out.boxi 4 rfl⟩ (fun hSn => ?_)
    clear hK K hSw0
    have hSw0 := hSn
    clear hSn
    refine Kn.takeR 3 ⟨none, _, _, _, _, _⟩ fun K hK => ?_
    refine step_store_own rfl 32 (.tmp 7) (.tmp 114) rfl f7 [.int .i64 0, .int .i64 0, .int .i64 0, .int .i64 0, .int .i64 0] [.int .i64 q.s, .int .i64 q.o, .int .i64 q.l, .int .i64 q.p, .int .i64 q.m] (by kernel_rfl) rfl rfl (HY1.out.boxi 2 rfl) rfl (by intro u hu; simp at hu; rcases hu with rfl | rfl | rfl | rfl | rfl <;> rfl) ?_
    intro wy ho hO
    have HY2 := hH (HY1.out.call1 2 rfl ho hO)
    clear ho hO HY1
    refine hK.out _ _ ⟨HY2.out.boxi 1 rfl, HY2.out.boxi 4 rfl⟩ (fun hSn => ?_)
    clear hK K hSw0
    have hSw0 := hSn
    clear hSn
    refine tS 4 8 ?_
    refine tS 5 9 ?_
    refine tD ?_ _
    clear hSw0
    have HFOL := hH (follow_dec (d := d) (c := cf) (p := q) ⟨ho0, by omega⟩ HA.out HZ.out HN.out (fun h => HLZ.out h) HGE.out HDEC.out)
    have br := HY2.out.boxi 3 rfl
    have bn := HY2.out.boxi 2 rfl
    obtain ⟨r0, r1, r2, r3, r4⟩ := Kn.own5 br
    obtain ⟨n0, n1, n2, n3, n4⟩ := Kn.own5 bn
    clear br bn
    go_wp2
    (try simp only [Exit.inBlock, Exit.then])
    refine bodyPost_ret (v := .tuple #[.agg #[.int .i64 0, .int .i64 0, .int .i64 0, .slice none 0 0, .slice none 0 0], .agg #[.int .i64 q.s, .int .i64 q.o, .int .i64 q.l, .int .i64 q.p, .int .i64 q.m], .bool false, .int .i64 0]) ?_ rfl ?_
    ·simp only [results, HRES.out]
     go_simp
    exact FolSays.no HFOL.out HY2.out.only
   | some x =>
    obtain ⟨⟨rm, rn, rp, ri, rb⟩, sm⟩ := x
    have HDEC := hH hdec
    obtain ⟨he1, _, _⟩ := encRc_of_dec hdec
    obtain ⟨hq1, hq2, hq3, hq4, hq5, hq6, hq7, hq8⟩ := enc_some he1
    simp only at hq6 hq7
    obtain ⟨hrn0, hrn1⟩ := hq7
    rw [hdec] at HFX
    simp only [Option.map_some, Option.getD_some] at HFX
    have hFR := follow_rec (d := d) (c := cf) (p := q) ⟨ho0, by omega⟩ HA.out HZ.out HN.out (fun h => HLZ.out h) HGE.out HDEC.out
    have HFR := hH hFR
    clear hFR
    simp only [Option.map_some, Option.getD_some, Option.isSome_some, Rc.cells, slv]
    clear hdec he1 hq1 hq2 hq3 hq4 hq5 hq6 hq8
    go_upto_region 19 with (fail)
    have hwB := hwA.newB #[.int .i64 rm, .int .i64 rn, .int .i64 rp, .slice s1 s2 s3, .slice t1 t2 t3] 56 rfl
    have HWB := hH hwB
    have HO9 : Hid (Only [f7, f6] w8 (w8.alloc (.cells #[.int .i64 rm, .int .i64 rn, .int .i64 rp, .slice s1 s2 s3, .slice t1 t2 t3] 56))) := hH ((Only.refl _ _).alloc _)
    clear hwA hwB HBO HW6 hO
    generalize hw9 : w8.alloc (.cells #[.int .i64 rm, .int .i64 rn, .int .i64 rp, .slice s1 s2 s3, .slice t1 t2 t3] 56) = w9 at *
    generalize w8.heap.size = f18 at *
    clear hw9
    have k9 := HWB.out.boxi 0 rfl
    obtain ⟨k0, k1, k2, k3, k4⟩ := Kn.own5 k9
    clear k9
    have p9 := HWB.out.boxi 4 rfl
    obtain ⟨p0, p1, p2, p3, p4⟩ := Kn.own5 p9
    clear p9
    by_cases c1 : rn = q.l
    ·by_cases c2 : rp = q.p
     ·by_cases c3 : q.m ≤ rm
      ·have HFOL := hH (HFR.out.trans (if_pos ⟨c1, c2, c3⟩))
       have hb1 : (rn != q.l) = false := by simp [c1]
       have hb2 : (rp != q.p) = false := by simp [c2]
       have hb3 : ¬ rm < q.m := by omega
       have hwn := IntWalk.i64_in (q.l + 1) (by omega)
       clear c1 c2
       go_wp2_with fail
       have HOD := hH HO9.out.drew
       clear HO9
       have HY := hH HWB.out.drew
       clear HWB
       refine wp_region_held_drew (S := (fun w' => Kn.Own w' f18 [.int .i64 rm, .int .i64 rn, .int .i64 rp, .slice s1 s2 s3, .slice t1 t2 t3] ∧ Kn.Own w' f5 [.int .i64 q.s, .int .i64 q.o, .int .i64 q.l, .int .i64 q.p, .int .i64 q.m])) (by kernel_rfl) ⟨HY.out.boxi 0 rfl, HY.out.boxi 4 rfl⟩ (fun hSw0 => ?_)
       generalize w9.drew = wz at *
       refine tS 0 115 (v := (.agg #[.int .i64 rm, .int .i64 rn, .int .i64 rp, .slice s1 s2 s3, .slice t1 t2 t3])) (hy := fun w hSw => by
        have q0 := hSw.1
        obtain ⟨q00, q01, q02, q03, q04⟩ := Kn.own5 q0
        clear q0
        go_simp) ?_
       refine tS 1 116 ?_
       refine tS 2 117 (v := (.int .i64 q.s)) (hy := fun w hSw => by
        have q0 := Kn.own1 hSw.2
        go_simp) ?_
       refine tS 3 118 ?_
       refine tS 4 119 (v := (.int .i64 q.o)) (hy := fun w hSw => by
        have q0 := hSw.2.cell 1 (by simp)
        simp only [g0, gs] at q0
        go_simp) ?_
       refine tS 5 120 ?_
       refine tS 6 121 ?_
       refine tS 7 122 ?_
       refine tS 8 123 (v := (.int .i64 q.l)) (hy := fun w hSw => by
        have q0 := hSw.2.cell 2 (by simp)
        simp only [g0, gs] at q0
        go_simp) ?_
       refine tS 9 124 ?_
       refine tS 10 125 ?_
       refine tS 11 126 ?_
       refine tS 12 127 (v := (.int .i64 rm)) (hy := fun w hSw => by
        have q0 := Kn.own1 hSw.1
        go_simp) ?_
       refine tS 13 128 ?_
       refine Kn.takeR 14 ⟨none, _, _, _, _, _⟩ fun K hK => ?_
       refine step_store_own rfl 56 (.tmp 6) (.tmp 115) rfl f6 [.int .i64 0, .int .i64 0, .int .i64 0, .slice none 0 0, .slice none 0 0] [.int .i64 rm, .int .i64 rn, .int .i64 rp, .slice s1 s2 s3, .slice t1 t2 t3] (by kernel_rfl) rfl rfl (HY.out.boxi 3 rfl) rfl (by intro u hu; simp at hu; rcases hu with rfl | rfl | rfl | rfl | rfl <;> rfl) ?_
       intro wa ho hO
       have HY1 := hH (HY.out.call1 3 rfl ho hO)
       have HOY := hH hO
       clear ho hO HY
       have HOA := hH (HOD.out.trans HOY.out (by simp))
       clear HOD HOY
       refine hK.out _ _ ⟨HY1.out.boxi 0 rfl, HY1.out.boxi 4 rfl⟩ (fun hSn => ?_)
       clear hK K hSw0
       have hSw0 := hSn
       clear hSn
       refine Kn.takeR 15 ⟨none, _, _, _, _, _⟩ fun K hK => ?_
       refine step_store_own rfl 32 (.tmp 7) (.tmp 128) rfl f7 [.int .i64 0, .int .i64 0, .int .i64 0, .int .i64 0, .int .i64 0] [.int .i64 q.s, .int .i64 (q.o + (j : Int)), .int .i64 (q.l + 1), .int .i64 (sm : Nat), .int .i64 rm] (by kernel_rfl) rfl rfl (HY1.out.boxi 2 rfl) rfl (by intro u hu; simp at hu; rcases hu with rfl | rfl | rfl | rfl | rfl <;> rfl) ?_
       intro wy ho hO
       have HY2 := hH (HY1.out.call1 2 rfl ho hO)
       have HOB := hH (HOA.out.trans hO (by simp))
       clear ho hO HY1 HOA
       refine hK.out _ _ ⟨HY2.out.boxi 0 rfl, HY2.out.boxi 4 rfl⟩ (fun hSn => ?_)
       clear hK K hSw0
       have hSw0 := hSn
       clear hSn
       refine tS 16 8 ?_
       refine tS 17 9 ?_
       refine tD ?_ _
       clear hSw0
       have br := HY2.out.boxi 3 rfl
       have bn := HY2.out.boxi 2 rfl
       obtain ⟨r0, r1, r2, r3, r4⟩ := Kn.own5 br
       obtain ⟨n0, n1, n2, n3, n4⟩ := Kn.own5 bn
       clear br bn
       go_wp2
       (try simp only [Exit.inBlock, Exit.then])
       refine bodyPost_ret (v := .tuple #[.agg #[.int .i64 rm, .int .i64 rn, .int .i64 rp, .slice s1 s2 s3, .slice t1 t2 t3], .agg #[.int .i64 q.s, .int .i64 (q.o + (j : Int)), .int .i64 (q.l + 1), .int .i64 (sm : Nat), .int .i64 rm], .bool true, .int .i64 0]) ?_ rfl ?_
       ·simp only [results, HRES.out]
        go_simp
       rw [HFOL.out]
       exact ⟨HY2.out.only, (s1, s2, s3), (t1, t2, t3), rfl, HFX.out _ HOB.out⟩
      have hb1 : (rn != q.l) = false := by simp [c1]
      have hb2 : (rp != q.p) = false := by simp [c2]
      have hb3 : rm < q.m := by omega
      clear c1 c2
      go_wp2_with fail
      have HY := hH HWB.out.drew
      clear HWB
      refine wp_region_held_drew (S := (fun w' => Kn.Own w' f10 [.int .i64 0, .int .i64 0, .int .i64 0, .slice none 0 0, .slice none 0 0] ∧ Kn.Own w' f5 [.int .i64 q.s, .int .i64 q.o, .int .i64 q.l, .int .i64 q.p, .int .i64 q.m])) (by kernel_rfl) ⟨HY.out.boxi 1 rfl, HY.out.boxi 4 rfl⟩ (fun hSw0 => ?_)
      generalize w9.drew = wz at *
      refine tS 0 113 (v := (.agg #[.int .i64 0, .int .i64 0, .int .i64 0, .slice none 0 0, .slice none 0 0])) (hy := fun w hSw => by
       have q0 := hSw.1
       obtain ⟨q00, q01, q02, q03, q04⟩ := Kn.own5 q0
       clear q0
       go_simp) ?_
      refine tS 1 114 (v := (.agg #[.int .i64 q.s, .int .i64 q.o, .int .i64 q.l, .int .i64 q.p, .int .i64 q.m])) (hy := fun w hSw => by
       have q0 := hSw.2
       obtain ⟨q00, q01, q02, q03, q04⟩ := Kn.own5 q0
       clear q0
       go_simp) ?_
      refine Kn.takeR 2 ⟨none, _, _, _, _, _⟩ fun K hK => ?_
      refine step_store_own rfl 56 (.tmp 6) (.tmp 113) rfl f6 [.int .i64 0, .int .i64 0, .int .i64 0, .slice none 0 0, .slice none 0 0] [.int .i64 0, .int .i64 0, .int .i64 0, .slice none 0 0, .slice none 0 0] (by kernel_rfl) rfl rfl (HY.out.boxi 3 rfl) rfl (by intro u hu; simp at hu; rcases hu with rfl | rfl <;> rfl) ?_
      intro wa ho hO
      have HY1 := hH (HY.out.call1 3 rfl ho hO)
      clear ho hO HY
      refine hK.out _ _ ⟨HY1.out.boxi 1 rfl, HY1.out.boxi 4 rfl⟩ (fun hSn => ?_)
      clear hK K hSw0
      have hSw0 := hSn
      clear hSn
      refine Kn.takeR 3 ⟨none, _, _, _, _, _⟩ fun K hK => ?_
      refine step_store_own rfl 32 (.tmp 7) (.tmp 114) rfl f7 [.int .i64 0, .int .i64 0, .int .i64 0, .int .i64 0, .int .i64 0] [.int .i64 q.s, .int .i64 q.o, .int .i64 q.l, .int .i64 q.p, .int .i64 q.m] (by kernel_rfl) rfl rfl (HY1.out.boxi 2 rfl) rfl (by intro u hu; simp at hu; rcases hu with rfl | rfl | rfl | rfl | rfl <;> rfl) ?_
      intro wy ho hO
      have HY2 := hH (HY1.out.call1 2 rfl ho hO)
      clear ho hO HY1
      refine hK.out _ _ ⟨HY2.out.boxi 1 rfl, HY2.out.boxi 4 rfl⟩ (fun hSn => ?_)
      clear hK K hSw0
      have hSw0 := hSn
      clear hSn
      refine tS 4 8 ?_
      refine tS 5 9 ?_
      refine tD ?_ _
      clear hSw0
      have HFOL := hH (HFR.out.trans (if_neg (by intro h; omega)))
      have br := HY2.out.boxi 3 rfl
      have bn := HY2.out.boxi 2 rfl
      obtain ⟨r0, r1, r2, r3, r4⟩ := Kn.own5 br
      obtain ⟨n0, n1, n2, n3, n4⟩ := Kn.own5 bn
      clear br bn
      go_wp2
      (try simp only [Exit.inBlock, Exit.then])
      refine bodyPost_ret (v := .tuple #[.agg #[.int .i64 0, .int .i64 0, .int .i64 0, .slice none 0 0, .slice none 0 0], .agg #[.int .i64 q.s, .int .i64 q.o, .int .i64 q.l, .int .i64 q.p, .int .i64 q.m], .bool false, .int .i64 0]) ?_ rfl ?_
      ·simp only [results, HRES.out]
       go_simp
      exact FolSays.no HFOL.out HY2.out.only
     have hb1 : (rn != q.l) = false := by simp [c1]
     have hb2 : (rp != q.p) = true := by simpa using c2
     clear c1
     go_wp2_with fail
     have HY := hH HWB.out.drew
     clear HWB
     refine wp_region_held_drew (S := (fun w' => Kn.Own w' f10 [.int .i64 0, .int .i64 0, .int .i64 0, .slice none 0 0, .slice none 0 0] ∧ Kn.Own w' f5 [.int .i64 q.s, .int .i64 q.o, .int .i64 q.l, .int .i64 q.p, .int .i64 q.m])) (by kernel_rfl) ⟨HY.out.boxi 1 rfl, HY.out.boxi 4 rfl⟩ (fun hSw0 => ?_)
     generalize w9.drew = wz at *
     refine tS 0 113 (v := (.agg #[.int .i64 0, .int .i64 0, .int .i64 0, .slice none 0 0, .slice none 0 0])) (hy := fun w hSw => by
      have q0 := hSw.1
      obtain ⟨q00, q01, q02, q03, q04⟩ := Kn.own5 q0
      clear q0
      go_simp) ?_
     refine tS 1 114 (v := (.agg #[.int .i64 q.s, .int .i64 q.o, .int .i64 q.l, .int .i64 q.p, .int .i64 q.m])) (hy := fun w hSw => by
      have q0 := hSw.2
      obtain ⟨q00, q01, q02, q03, q04⟩ := Kn.own5 q0
      clear q0
      go_simp) ?_
     refine Kn.takeR 2 ⟨none, _, _, _, _, _⟩ fun K hK => ?_
     refine step_store_own rfl 56 (.tmp 6) (.tmp 113) rfl f6 [.int .i64 0, .int .i64 0, .int .i64 0, .slice none 0 0, .slice none 0 0] [.int .i64 0, .int .i64 0, .int .i64 0, .slice none 0 0, .slice none 0 0] (by kernel_rfl) rfl rfl (HY.out.boxi 3 rfl) rfl (by intro u hu; simp at hu; rcases hu with rfl | rfl <;> rfl) ?_
     intro wa ho hO
     have HY1 := hH (HY.out.call1 3 rfl ho hO)
     clear ho hO HY
     refine hK.out _ _ ⟨HY1.out.boxi 1 rfl, HY1.out.boxi 4 rfl⟩ (fun hSn => ?_)
     clear hK K hSw0
     have hSw0 := hSn
     clear hSn
     refine Kn.takeR 3 ⟨none, _, _, _, _, _⟩ fun K hK => ?_
     refine step_store_own rfl 32 (.tmp 7) (.tmp 114) rfl f7 [.int .i64 0, .int .i64 0, .int .i64 0, .int .i64 0, .int .i64 0] [.int .i64 q.s, .int .i64 q.o, .int .i64 q.l, .int .i64 q.p, .int .i64 q.m] (by kernel_rfl) rfl rfl (HY1.out.boxi 2 rfl) rfl (by intro u hu; simp at hu; rcases hu with rfl | rfl | rfl | rfl | rfl <;> rfl) ?_
     intro wy ho hO
     have HY2 := hH (HY1.out.call1 2 rfl ho hO)
     clear ho hO HY1
     refine hK.out _ _ ⟨HY2.out.boxi 1 rfl, HY2.out.boxi 4 rfl⟩ (fun hSn => ?_)
     clear hK K hSw0
     have hSw0 := hSn
     clear hSn
     refine tS 4 8 ?_
     refine tS 5 9 ?_
     refine tD ?_ _
     clear hSw0
     have HFOL := hH (HFR.out.trans (if_neg (by intro h; exact c2 h.2.1)))
     have br := HY2.out.boxi 3 rfl
     have bn := HY2.out.boxi 2 rfl
     obtain ⟨r0, r1, r2, r3, r4⟩ := Kn.own5 br
     obtain ⟨n0, n1, n2, n3, n4⟩ := Kn.own5 bn
     clear br bn
     go_wp2
     (try simp only [Exit.inBlock, Exit.then])
     refine bodyPost_ret (v := .tuple #[.agg #[.int .i64 0, .int .i64 0, .int .i64 0, .slice none 0 0, .slice none 0 0], .agg #[.int .i64 q.s, .int .i64 q.o, .int .i64 q.l, .int .i64 q.p, .int .i64 q.m], .bool false, .int .i64 0]) ?_ rfl ?_
     ·simp only [results, HRES.out]
      go_simp
     exact FolSays.no HFOL.out HY2.out.only
    have hb1 : (rn != q.l) = true := by simpa using c1
    go_wp2_with fail
    have HY := hH HWB.out.drew
    clear HWB
    refine wp_region_held_drew (S := (fun w' => Kn.Own w' f10 [.int .i64 0, .int .i64 0, .int .i64 0, .slice none 0 0, .slice none 0 0] ∧ Kn.Own w' f5 [.int .i64 q.s, .int .i64 q.o, .int .i64 q.l, .int .i64 q.p, .int .i64 q.m])) (by kernel_rfl) ⟨HY.out.boxi 1 rfl, HY.out.boxi 4 rfl⟩ (fun hSw0 => ?_)
    generalize w9.drew = wz at *
    refine tS 0 113 (v := (.agg #[.int .i64 0, .int .i64 0, .int .i64 0, .slice none 0 0, .slice none 0 0])) (hy := fun w hSw => by
     have q0 := hSw.1
     obtain ⟨q00, q01, q02, q03, q04⟩ := Kn.own5 q0
     clear q0
     go_simp) ?_
    refine tS 1 114 (v := (.agg #[.int .i64 q.s, .int .i64 q.o, .int .i64 q.l, .int .i64 q.p, .int .i64 q.m])) (hy := fun w hSw => by
     have q0 := hSw.2
     obtain ⟨q00, q01, q02, q03, q04⟩ := Kn.own5 q0
     clear q0
     go_simp) ?_
    refine Kn.takeR 2 ⟨none, _, _, _, _, _⟩ fun K hK => ?_
    refine step_store_own rfl 56 (.tmp 6) (.tmp 113) rfl f6 [.int .i64 0, .int .i64 0, .int .i64 0, .slice none 0 0, .slice none 0 0] [.int .i64 0, .int .i64 0, .int .i64 0, .slice none 0 0, .slice none 0 0] (by kernel_rfl) rfl rfl (HY.out.boxi 3 rfl) rfl (by intro u hu; simp at hu; rcases hu with rfl | rfl <;> rfl) ?_
    intro wa ho hO
    have HY1 := hH (HY.out.call1 3 rfl ho hO)
    clear ho hO HY
    refine hK.out _ _ ⟨HY1.out.boxi 1 rfl, HY1.out.boxi 4 rfl⟩ (fun hSn => ?_)
    clear hK K hSw0
    have hSw0 := hSn
    clear hSn
    refine Kn.takeR 3 ⟨none, _, _, _, _, _⟩ fun K hK => ?_
    refine step_store_own rfl 32 (.tmp 7) (.tmp 114) rfl f7 [.int .i64 0, .int .i64 0, .int .i64 0, .int .i64 0, .int .i64 0] [.int .i64 q.s, .int .i64 q.o, .int .i64 q.l, .int .i64 q.p, .int .i64 q.m] (by kernel_rfl) rfl rfl (HY1.out.boxi 2 rfl) rfl (by intro u hu; simp at hu; rcases hu with rfl | rfl | rfl | rfl | rfl <;> rfl) ?_
    intro wy ho hO
    have HY2 := hH (HY1.out.call1 2 rfl ho hO)
    clear ho hO HY1
    refine hK.out _ _ ⟨HY2.out.boxi 1 rfl, HY2.out.boxi 4 rfl⟩ (fun hSn => ?_)
    clear hK K hSw0
    have hSw0 := hSn
    clear hSn
    refine tS 4 8 ?_
    refine tS 5 9 ?_
    refine tD ?_ _
    clear hSw0
    have HFOL := hH (HFR.out.trans (if_neg (by intro h; exact c1 h.1)))
    have br := HY2.out.boxi 3 rfl
    have bn := HY2.out.boxi 2 rfl
    obtain ⟨r0, r1, r2, r3, r4⟩ := Kn.own5 br
    obtain ⟨n0, n1, n2, n3, n4⟩ := Kn.own5 bn
    clear br bn
    go_wp2
    (try simp only [Exit.inBlock, Exit.then])
    refine bodyPost_ret (v := .tuple #[.agg #[.int .i64 0, .int .i64 0, .int .i64 0, .slice none 0 0, .slice none 0 0], .agg #[.int .i64 q.s, .int .i64 q.o, .int .i64 q.l, .int .i64 q.p, .int .i64 q.m], .bool false, .int .i64 0]) ?_ rfl ?_
    ·simp only [results, HRES.out]
     go_simp
    exact FolSays.no HFOL.out HY2.out.only
  have hzb : (z != 0) = true := by simpa using hz0
  go_wp2_with fail
  have HY := hH HW4.out.drew
  clear HW4
  refine wp_region_held_drew (S := (fun w' => Kn.Own w' f10 [.int .i64 0, .int .i64 0, .int .i64 0, .slice none 0 0, .slice none 0 0] ∧ Kn.Own w' f5 [.int .i64 q.s, .int .i64 q.o, .int .i64 q.l, .int .i64 q.p, .int .i64 q.m])) (by kernel_rfl) ⟨HY.out.boxi 0 rfl, HY.out.boxi 3 rfl⟩ (fun hSw0 => ?_)
  generalize w4.drew = wz at *
  refine tS 0 45 (v := (.agg #[.int .i64 0, .int .i64 0, .int .i64 0, .slice none 0 0, .slice none 0 0])) (hy := fun w hSw => by
   have q0 := hSw.1
   obtain ⟨q00, q01, q02, q03, q04⟩ := Kn.own5 q0
   clear q0
   go_simp) ?_
  refine tS 1 46 (v := (.agg #[.int .i64 q.s, .int .i64 q.o, .int .i64 q.l, .int .i64 q.p, .int .i64 q.m])) (hy := fun w hSw => by
   have q0 := hSw.2
   obtain ⟨q00, q01, q02, q03, q04⟩ := Kn.own5 q0
   clear q0
   go_simp) ?_
  refine tS 2 47 ?_
  refine Kn.takeR 3 ⟨none, _, _, _, _, _⟩ fun K hK => ?_
  refine step_store_own rfl 56 (.tmp 6) (.tmp 45) rfl f6 [.int .i64 0, .int .i64 0, .int .i64 0, .slice none 0 0, .slice none 0 0] [.int .i64 0, .int .i64 0, .int .i64 0, .slice none 0 0, .slice none 0 0] (by kernel_rfl) rfl rfl (HY.out.boxi 2 rfl) rfl (by intro u hu; simp at hu; rcases hu with rfl | rfl <;> rfl) ?_
  intro wa ho hO
  have HY1 := hH (HY.out.call1 2 rfl ho hO)
  clear ho hO HY
  refine hK.out _ _ ⟨HY1.out.boxi 0 rfl, HY1.out.boxi 3 rfl⟩ (fun hSn => ?_)
  clear hK K hSw0
  have hSw0 := hSn
  clear hSn
  refine Kn.takeR 4 ⟨none, _, _, _, _, _⟩ fun K hK => ?_
  refine step_store_own rfl 32 (.tmp 7) (.tmp 46) rfl f7 [.int .i64 0, .int .i64 0, .int .i64 0, .int .i64 0, .int .i64 0] [.int .i64 q.s, .int .i64 q.o, .int .i64 q.l, .int .i64 q.p, .int .i64 q.m] (by kernel_rfl) rfl rfl (HY1.out.boxi 1 rfl) rfl (by intro u hu; simp at hu; rcases hu with rfl | rfl | rfl | rfl | rfl <;> rfl) ?_
  intro wy ho hO
  have HY2 := hH (HY1.out.call1 1 rfl ho hO)
  clear ho hO HY1
  refine hK.out _ _ ⟨HY2.out.boxi 0 rfl, HY2.out.boxi 3 rfl⟩ (fun hSn => ?_)
  clear hK K hSw0
  have hSw0 := hSn
  clear hSn
  refine tS 5 8 ?_
  refine tS 6 9 ?_
  refine tD ?_ _
  clear hSw0
  have HFOL := hH ((follow_err (d := d) (c := cf) (p := q) ⟨ho0, by omega⟩ HA.out (by rw [HZ.out]; exact hz0)).trans (by rw [HZ.out]))
  have br := HY2.out.boxi 2 rfl
  have bn := HY2.out.boxi 1 rfl
  obtain ⟨r0, r1, r2, r3, r4⟩ := Kn.own5 br
  obtain ⟨n0, n1, n2, n3, n4⟩ := Kn.own5 bn
  clear br bn
  go_wp2
  (try simp only [Exit.inBlock, Exit.then])
  refine bodyPost_ret (v := .tuple #[.agg #[.int .i64 0, .int .i64 0, .int .i64 0, .slice none 0 0, .slice none 0 0], .agg #[.int .i64 q.s, .int .i64 q.o, .int .i64 q.l, .int .i64 q.p, .int .i64 q.m], .bool false, .int .i64 z]) ?_ rfl ?_
  ·simp only [results, HRES.out]
   go_simp
  exact FolSays.no HFOL.out HY2.out.only
 have hdb : decide (1 ≤ q.o ∧ q.o ≤ cf.l - 1) = false := decide_eq_false hin
 rw [hdb]
 clear hdb
 go_wp2_with fail
 have HY := hH HW1.out.drew
 clear HW1
 refine wp_region_held_drew (S := (fun w' => Kn.Own w' f10 [.int .i64 0, .int .i64 0, .int .i64 0, .slice none 0 0, .slice none 0 0] ∧ Kn.Own w' f5 [.int .i64 q.s, .int .i64 q.o, .int .i64 q.l, .int .i64 q.p, .int .i64 q.m])) (by kernel_rfl) ⟨HY.out.boxi 0 rfl, HY.out.boxi 3 rfl⟩ (fun hSw0 => ?_)
 generalize w1.drew = wz at *
 refine tS 0 28 (v := (.agg #[.int .i64 0, .int .i64 0, .int .i64 0, .slice none 0 0, .slice none 0 0])) (hy := fun w hSw => by
  have q0 := hSw.1
  obtain ⟨q00, q01, q02, q03, q04⟩ := Kn.own5 q0
  clear q0
  go_simp) ?_
 refine tS 1 29 (v := (.agg #[.int .i64 q.s, .int .i64 q.o, .int .i64 q.l, .int .i64 q.p, .int .i64 q.m])) (hy := fun w hSw => by
  have q0 := hSw.2
  obtain ⟨q00, q01, q02, q03, q04⟩ := Kn.own5 q0
  clear q0
  go_simp) ?_
 refine Kn.takeR 2 ⟨none, _, _, _, _, _⟩ fun K hK => ?_
 refine step_store_own rfl 56 (.tmp 6) (.tmp 28) rfl f6 [.int .i64 0, .int .i64 0, .int .i64 0, .slice none 0 0, .slice none 0 0] [.int .i64 0, .int .i64 0, .int .i64 0, .slice none 0 0, .slice none 0 0] (by kernel_rfl) rfl rfl (HY.out.boxi 2 rfl) rfl (by intro u hu; simp at hu; rcases hu with rfl | rfl <;> rfl) ?_
 intro wa ho hO
 have HY1 := hH (HY.out.call1 2 rfl ho hO)
 clear ho hO HY
 refine hK.out _ _ ⟨HY1.out.boxi 0 rfl, HY1.out.boxi 3 rfl⟩ (fun hSn => ?_)
 clear hK K hSw0
 have hSw0 := hSn
 clear hSn
 refine Kn.takeR 3 ⟨none, _, _, _, _, _⟩ fun K hK => ?_
 refine step_store_own rfl 32 (.tmp 7) (.tmp 29) rfl f7 [.int .i64 0, .int .i64 0, .int .i64 0, .int .i64 0, .int .i64 0] [.int .i64 q.s, .int .i64 q.o, .int .i64 q.l, .int .i64 q.p, .int .i64 q.m] (by kernel_rfl) rfl rfl (HY1.out.boxi 1 rfl) rfl (by intro u hu; simp at hu; rcases hu with rfl | rfl | rfl | rfl | rfl <;> rfl) ?_
 intro wy ho hO
 have HY2 := hH (HY1.out.call1 1 rfl ho hO)
 clear ho hO HY1
 refine hK.out _ _ ⟨HY2.out.boxi 0 rfl, HY2.out.boxi 3 rfl⟩ (fun hSn => ?_)
 clear hK K hSw0
 have hSw0 := hSn
 clear hSn
 refine tS 4 8 ?_
 refine tS 5 9 ?_
 refine tD ?_ _
 clear hSw0
 have HFOL := hH (follow_out (d := d) (c := cf) (p := q) hin)
 have br := HY2.out.boxi 2 rfl
 have bn := HY2.out.boxi 1 rfl
 obtain ⟨r0, r1, r2, r3, r4⟩ := Kn.own5 br
 obtain ⟨n0, n1, n2, n3, n4⟩ := Kn.own5 bn
 clear br bn
 go_wp2
 (try simp only [Exit.inBlock, Exit.then])
 refine bodyPost_ret (v := .tuple #[.agg #[.int .i64 0, .int .i64 0, .int .i64 0, .slice none 0 0, .slice none 0 0], .agg #[.int .i64 q.s, .int .i64 q.o, .int .i64 q.l, .int .i64 q.p, .int .i64 q.m], .bool false, .int .i64 0]) ?_ rfl ?_
 ·simp only [results, HRES.out]
  go_simp
 exact FolSays.no HFOL.out HY2.out.only
end Go.Proofs.YtgcfdjcpcclcjaaGreat
namespace Go.Kn
open Go Go.RowKit
theorem follow_next {d : Dk} {c : Cf} {p q : Ps} {r : Rc} {e : Int} (h : follow d c p = (some (r, q), e)) {v : Int} (hv : nextOf r = some v) : 0 ≤ v ∧ v ≤ 31 := by
 unfold follow at h
 split at h
 ·split at h
  ·split at h
   ·cases h
   split at h
   ·split at h
    ·cases h
    rename_i hd
    split at h
    ·injection h with h1 h2
     injection h1 with h1
     injection h1 with h1 h3
     subst h1
     obtain ⟨he, _, _⟩ := encRc_of_dec hd
     obtain ⟨hm, _⟩ := enc_some he
     obtain ⟨_, hall, _⟩ := rcMay_iff.1 hm
     rw [nextOf_eq] at hv
     obtain ⟨i, hi, rfl⟩ := Option.map_eq_some_iff.1 hv
     have h7 := List.find?_some hi
     have hmm := List.all_eq_true.1 hall i (List.mem_of_find?_eq_some hi)
     unfold is7 at h7
     have h7' : i.k = 7 := by simpa using h7
     unfold It.may at hmm
     simp [h7'] at hmm
     omega
    cases h
   cases h
  cases h
 cases h
end Go.Kn
namespace Go.Proofs.YtgcfdjcpcclcjaaGreat
open Go Go.RowKit Go.Kn
theorem _root_.Go.Proofs.YtgcfdjcpcclcjaaGreat.Rsk.fr {w0 w : World} {r : RD} {d : Dk} {c : Fr3} (h : Rsk w0 w r d c) : ∃ L0 G0 F0, Wc w0 w (c.L ++ L0) (c.G ++ G0) (c.F ++ F0) ∧ ∀ w' (c' : Fr3), Wc w0 w' (c'.L ++ L0) (c'.G ++ G0) (c'.F ++ F0) → Rsk w0 w' r d c' := by
 obtain ⟨v, lv, k, ls, sl, hs, hl, hm⟩ := h.mem
 have pl : ∀ L, (r.L v lv sl d L).Perm (L ++ r.L v lv sl d []) := fun L => by
  have := List.perm_append_comm (l₁ := r.L v lv sl d []) (l₂ := L)
  simpa [RD.L] using this
 have pg : ∀ (a b : Gs) G, (a :: b :: G).Perm (G ++ [a, b]) := fun a b G => by
  have := List.perm_append_comm (l₁ := [a, b]) (l₂ := G)
  simpa using this
 refine ⟨r.L v lv sl d [], [⟨175, 2, v, d.held.length, heldR d.held hs⟩, ⟨47, 1, lv, k, ls⟩], [(fun W => Bls W sl d.safe), (fun W => Bls W hs (d.held.map (·.2)))], ?_, fun w' c' h' => ?_⟩
 ·refine (hm.perm (pl _) (pg _ _ _)).subF ?_
  intro f hf
  rcases List.mem_append.1 hf with hf | hf
  ·exact mc _ (mc _ hf)
  simp only [List.mem_cons, List.not_mem_nil, or_false] at hf ⊢
  rcases hf with hf | hf
  ·exact .inl hf
  exact .inr (.inl hf)
 refine ⟨h.ok, h.N, h.hs, h.hf, v, lv, k, ls, sl, hs, hl, (h'.perm (pl _).symm (pg _ _ _).symm).subF ?_⟩
 intro f hf
 simp only [List.mem_cons] at hf
 rcases hf with hf | hf | hf
 ·exact List.mem_append.2 (.inr (by simp [hf]))
 ·exact List.mem_append.2 (.inr (by simp [hf]))
 exact List.mem_append.2 (.inl hf)
theorem infoRFound : (Tryz.prog.info? 183).map (fun i => (i.zero, i.size, i.bytes)) = some (some (.agg #[.int .i64 0, .int .i64 0, .int .i64 0, .int .i64 0, .int .i64 0, .int .i64 0, .int .i64 0, .int .i64 0, .slice none 0 0, .slice none 0 0]), 10, 112) := by kernel_rfl
def rfnd (x : Fnd) : List Value := [.int .i64 x.p.s, .int .i64 x.p.o, .int .i64 x.p.l, .int .i64 x.p.p, .int .i64 x.p.m] ++ (x.r.cells x.s x.t).toList
def rfndV (xs : List Fnd) : List Value := xs.flatMap rfnd
theorem rfndV_snoc (xs : List Fnd) (x : Fnd) : rfndV (xs ++ [x]) = rfndV xs ++ rfnd x := by simp [rfndV]
theorem rfnd_one (x : Fnd) : ∀ u ∈ rfnd x, u.oneCell' = true := by
 intro u hu
 simp only [rfnd, Rc.cells, slv, List.mem_append, List.mem_cons, List.mem_nil_iff, or_false] at hu
 rcases hu with (rfl | rfl | rfl | rfl | rfl) | (rfl | rfl | rfl | rfl | rfl) <;> rfl
def RScSays (w0 : World) (r : RD) (d : Dk) (c : Fr3) (x : List (Ps × Rc) × Ps × Int) (en : Ending) (w' : World) : Prop :=
 ∃ (xs : List Fnd) (A : Option Addr) (k : Nat) (fs : List (World → Prop)), en = .returned (.tuple #[.slice A xs.length k, .agg #[.int .i64 x.2.1.s, .int .i64 x.2.1.o, .int .i64 x.2.1.l, .int .i64 x.2.1.p, .int .i64 x.2.1.m], .int .i64 x.2.2]) ∧ xs.map Fnd.pr = x.1 ∧ (∀ y ∈ xs, y.fct ∈ fs) ∧
  Rsk w0 w' r d ⟨c.L, ⟨183, 10, .slice A xs.length k, xs.length, rfndV xs⟩ :: c.G, fs ++ c.F⟩
theorem ref_scan_any (w0 w : World) (r : RD) (d : Dk) (c : Fr3) (cf : Cf) (q : Ps) (h : Rsk w0 w r d c) (hh : d.held.length ≤ 1000000) (hc : cf.Ok) :
  Calls Tryz.prog 36 #[.pointer (some ⟨r.M, 0, none⟩), .agg #[.int .i64 cf.b, .int .i64 cf.s, .int .i64 cf.l], .agg #[.int .i64 q.s, .int .i64 q.o, .int .i64 q.l, .int .i64 q.p, .int .i64 q.m], .int .i64 (-1)] w (RScSays w0 r d c (scanR d cf false q)) := by
 have hres : Tryz.f36.results = #[.tmp 8, .cell 9 32, .tmp 10] := by kernel_rfl
 have HRES := hH hres
 obtain ⟨i0, hi0, hz0, hz1, hz2⟩ := info_parts infoRFound
 have HC := hH hc
 have HOK := hH h.ok
 obtain ⟨hl0, hl1⟩ := hc.2.2
 have hss := hc.2.1
 obtain ⟨L0, G0, F0, hw, hcl⟩ := h.fr
 have HCL : Hid (∀ w', Wc w0 w' (c.L ++ L0) (c.G ++ G0) (c.F ++ F0) → Rsk w0 w' r d c) := hH (fun w' h => hcl w' c h)
 have HCE : Hid (∀ w' g fs, Wc w0 w' (c.L ++ L0) (g :: (c.G ++ G0)) (fs ++ (c.F ++ F0)) → Rsk w0 w' r d ⟨c.L, g :: c.G, fs ++ c.F⟩) := hH (fun w' g fs h => hcl w' ⟨c.L, g :: c.G, fs ++ c.F⟩ (by show Wc w0 w' _ _ ((fs ++ c.F) ++ F0); rw [List.append_assoc]; exact h))
 clear hcl h hc hres
 generalize c.L ++ L0 = L at *
 generalize c.G ++ G0 = G at *
 generalize c.F ++ F0 = F at *
 have HW0 := hH ((((hw.newB #[.int .i64 cf.b, .int .i64 cf.s, .int .i64 cf.l] 25 rfl).newB #[.int .i64 q.s, .int .i64 q.o, .int .i64 q.l, .int .i64 q.p, .int .i64 q.m] 32 rfl).newB #[.int .i64 0, .int .i64 0, .int .i64 0, .int .i64 0, .int .i64 0] 32 rfl).gnew 183 10)
 clear hw
 have hwl := IntWalk.i64_in (cf.l - 1) (by omega)
 have hws := IntWalk.i64_in (cf.s - 1) (by omega)
 go_enter Tryz.func36, Tryz.ntmps36
 go_upto_region 2 with (fail)
 generalize hz1 : ((w.alloc (.cells #[.int .i64 cf.b, .int .i64 cf.s, .int .i64 cf.l] 25)).alloc (.cells #[.int .i64 q.s, .int .i64 q.o, .int .i64 q.l, .int .i64 q.p, .int .i64 q.m] 32)).alloc (.cells #[.int .i64 0, .int .i64 0, .int .i64 0, .int .i64 0, .int .i64 0] 32) = w1 at *
 have hs1 : (w.alloc (.cells #[.int .i64 cf.b, .int .i64 cf.s, .int .i64 cf.l] 25)).heap.size = w.heap.size + 1 := by simp
 have hs2 : ((w.alloc (.cells #[.int .i64 cf.b, .int .i64 cf.s, .int .i64 cf.l] 25)).alloc (.cells #[.int .i64 q.s, .int .i64 q.o, .int .i64 q.l, .int .i64 q.p, .int .i64 q.m] 32)).heap.size = w.heap.size + 1 + 1 := by simp
 rw [hs1, hs2] at HW0
 clear hz1 hs1 hs2
 generalize w.heap.size = f5 at *
 generalize f5 + 1 = f6 at *
 generalize f6 + 1 = f9 at *
 have HW1 : Hid (Wc w0 w1 ((f9, [.int .i64 0, .int .i64 0, .int .i64 0, .int .i64 0, .int .i64 0]) :: (f6, [.int .i64 q.s, .int .i64 q.o, .int .i64 q.l, .int .i64 q.p, .int .i64 q.m]) :: (f5, [.int .i64 cf.b, .int .i64 cf.s, .int .i64 cf.l]) :: L) (⟨183, 10, .slice none 0 0, 0, []⟩ :: G) F) := hH HW0.out
 clear HW0
 have b6 := HW1.out.boxi 1 rfl
 obtain ⟨q0, q1, q2, q3, q4⟩ := Kn.own5 b6
 have b5 := HW1.out.boxi 2 rfl
 obtain ⟨e0, e1, e2⟩ := Kn.own3 b5
 clear b6 b5
 by_cases hin : 0 ≤ q.s ∧ q.s ≤ cf.s - 1
 ·have hdb : decide (0 ≤ q.s ∧ q.s ≤ cf.s - 1) = true := decide_eq_true hin
  go_wp2_with fail
  refine (within_any _ _ _ _).mono ?_
  rintro en wx ⟨rfl, rfl⟩
  rw [hdb]
  clear hdb
  go_wp2_with fail
  refine (within_any _ _ _ _).mono ?_
  rintro en wx ⟨rfl, rfl⟩
  by_cases hio : 0 ≤ q.o ∧ q.o ≤ cf.l - 1
  ·have hdb : decide (0 ≤ q.o ∧ q.o ≤ cf.l - 1) = true := decide_eq_true hio
   rw [hdb]
   clear hdb
   have HIN := hH hin
   have HRG : Hid ((0 ≤ q.s ∧ q.s ≤ cf.s - 1) ∧ 0 ≤ q.o ∧ q.o < cf.l) := hH ⟨hin, hio.1, by omega⟩
   by_cases hz : q.o = 0
   ·have hqz : (q.o == 0) = true := by simp [hz]
    have hat : 0 ≤ cf.at_ q.s ∧ cf.at_ q.s ≤ 100000 := by
     obtain ⟨m1, m2⟩ := Cf.prod cf HC.out q.s hin.1 (by omega)
     have h1 := rln_bounds HC.out
     have h2 := pgs_bounds HC.out
     unfold Cf.at_
     rw [if_pos hin]
     omega
    have HZ0 : Hid (¬ 0 < q.o) := hH (by omega)
    clear hin hio hz
    go_wp2_with fail
    refine (ref_segat_any cf q.s _ HC.out).mono ?_
    rintro en w2 ⟨rfl, hO⟩
    have HW2 := hH (HW1.out.keep0 hO)
    obtain ⟨a, ha⟩ : ∃ a, cf.at_ q.s = a := ⟨_, rfl⟩
    have HA := hH ha
    rw [ha] at hat ⊢
    obtain ⟨ha0, ha1⟩ := hat
    clear hO HW1 q0 q1 q2 q3 q4 e0 e1 e2 ha
    go_wp2_with fail
    refine (rk_read_own w0 _ r d c a (HCL.out _ ((HW2.out.gdrop).sub (L' := L) (.cons _ (.cons _ (.cons _ (List.Sublist.refl _)))) (fun f hf => hf))) hh).mono ?_
    rintro en w3 ⟨v, n, rfl, hown, hO⟩
    have hW := HW2.out.gadd hO hown
    obtain ⟨A, cc, rfl⟩ := hW.gform 0 rfl
    have HW3 := hH hW
    clear hown hW hO HW2
    have hbo := (Row1.of_owns (HW3.out.gi 0 rfl)).1
    have hnl := hbo.len
    rw [bvs_length] at hnl
    have hn64 : n ≤ 65536 := by rw [← hnl, Dk.read_len HOK.out]; split <;> omega
    have HBO := hH hbo
    clear hbo hnl
    obtain ⟨z, hz⟩ : ∃ z, d.err a = z := ⟨_, rfl⟩
    rw [hz]
    have HZ := hH hz
    clear hz
    by_cases hz0 : z = 0
    ·subst hz0
     have b6 := HW3.out.boxi 1 rfl
     obtain ⟨q0, q1, q2, q3, q4⟩ := Kn.own5 b6
     clear b6
     go_wp2_with fail
     refine (ref_head_fits_any A n cc _ q.s q.o q.l q.p q.m _ HBO.out hn64).mono ?_
     rintro en w4 ⟨rfl, hO⟩
     have HW4 := hH (HW3.out.keep0 hO)
     have HBO4 := hH (HBO.out.keep0 hO)
     clear hO HW3 HBO q0 q1 q2 q3 q4
     obtain ⟨hf, hhf⟩ : ∃ h, headFits (decHead (d.read a)) q.s q.l q.p q.m = h := ⟨_, rfl⟩
     rw [hhf]
     have HHF := hH hhf
     clear hhf
     cases hf with
     | false =>
      have HSC : Hid (scanR d cf false q = ([], q, 0)) := hH (by
       unfold scanR
       cases hd : decHead (d.read a) with
       | none => rw [scanB_none HRG.out (by have := HZ0.out; omega) (by rw [HA.out]; exact HZ.out) (by rw [HA.out]; exact hd)]; rfl
       | some x => rw [scanB_some HRG.out (by have := HZ0.out; omega) (by rw [HA.out]; exact HZ.out) (by rw [HA.out]; exact hd)]; have h := HHF.out; rw [hd] at h; rw [Bool.false_or, h]; rfl)
      go_wp2_with fail
      have HY := hH HW4.out.drew
      clear HW4
      refine wp_region_held_drew (S := (fun w' => Kn.Own w' f6 [.int .i64 q.s, .int .i64 q.o, .int .i64 q.l, .int .i64 q.p, .int .i64 q.m])) (by kernel_rfl) (HY.out.boxi 1 rfl) (fun hSw0 => ?_)
      generalize w4.drew = wz at *
      refine tS 0 57 (v := (.agg #[.int .i64 q.s, .int .i64 q.o, .int .i64 q.l, .int .i64 q.p, .int .i64 q.m])) (hy := fun w hSw => by
       have q0 := hSw
       obtain ⟨q00, q01, q02, q03, q04⟩ := Kn.own5 q0
       clear q0
       go_simp) ?_
      refine tS 1 8 ?_
      refine Kn.takeR 2 ⟨none, _, _, _, _, _⟩ fun K hK => ?_
      refine step_store_own rfl 32 (.tmp 9) (.tmp 57) rfl f9 [.int .i64 0, .int .i64 0, .int .i64 0, .int .i64 0, .int .i64 0] [.int .i64 q.s, .int .i64 q.o, .int .i64 q.l, .int .i64 q.p, .int .i64 q.m] (by kernel_rfl) rfl rfl (HY.out.boxi 0 rfl) rfl (by intro u hu; simp at hu; rcases hu with rfl | rfl | rfl | rfl | rfl <;> rfl) ?_
      intro wy ho hO
      have HY2 := hH (HY.out.call1 0 rfl ho hO)
      clear ho hO HY
      refine hK.out _ _ (HY2.out.boxi 1 rfl) (fun hSn => ?_)
      clear hK K hSw0
      have hSw0 := hSn
      clear hSn
      refine tS 3 10 ?_
      refine tD ?_ _
      clear hSw0
      have bn := HY2.out.boxi 0 rfl
      obtain ⟨n0, n1, n2, n3, n4⟩ := Kn.own5 bn
      clear bn
      go_wp2
      (try simp only [Exit.inBlock, Exit.then])
      refine bodyPost_ret (v := .tuple #[.slice none 0 0, .agg #[.int .i64 q.s, .int .i64 q.o, .int .i64 q.l, .int .i64 q.p, .int .i64 q.m], .int .i64 0]) ?_ rfl ?_
      ·simp only [results, HRES.out]
       go_simp
      rw [HSC.out]
      exact ⟨[], none, 0, [], rfl, rfl, by simp, HCE.out _ _ [] (HY2.out.gdrop.sub (L' := L) (.cons _ (.cons _ (.cons _ (List.Sublist.refl _)))) (fun f hf => hf))⟩
     | true =>
      obtain ⟨⟨xk, xb, xc, xv⟩, hd⟩ : ∃ x, decHead (d.read a) = some x := by
       cases hd : decHead (d.read a) with
       | none => have h := HHF.out; rw [hd] at h; cases h
       | some x => exact ⟨x, rfl⟩
      have hh2 := HHF.out
      rw [hd] at hh2
      simp only [headFits, Bool.and_eq_true, beq_iff_eq, decide_eq_true_eq] at hh2
      obtain ⟨⟨⟨hx1, hx2⟩, hx3⟩, hm⟩ := hh2
      have HSC : Hid (scanR d cf false q = (([] : List Fnd).map Fnd.pr ++ (scanG d cf 65 ⟨q.s, 1, q.l, q.p, xb⟩).1, (scanG d cf 65 ⟨q.s, 1, q.l, q.p, xb⟩).2)) := hH (by
       unfold scanR
       rw [scanB_some HRG.out (by have := HZ0.out; omega) (by rw [HA.out]; exact HZ.out) (by rw [HA.out]; exact hd)]
       have h := HHF.out
       rw [hd] at h
       rw [Bool.false_or, h, ← hx2, ← hx3]
       simp)
      have HX := hH hd
      clear hx1 hx2 hx3 hm hd
      go_wp2_with fail
      refine (ref_head_dec_any A n cc _ _ HBO4.out hn64).mono ?_
      rw [HX.out]
      simp only [HeadSays, Option.getD_some, Option.isSome_some, It.vals, if_true]
      rintro en w5 ⟨rfl, hO⟩
      have HW5 := hH (((HW4.out.keep0 hO).gdrop).newB #[.int .i64 xk, .int .i64 xb, .int .i64 xc, .int .i64 xv] 143 rfl)
      clear hO HW4 HBO4
      have b6 := HW5.out.boxi 2 rfl
      obtain ⟨q0, q1, q2, q3, q4⟩ := Kn.own5 b6
      have z1 := b6.frozen 1
      have z4 := b6.frozen 4
      have l6 := b6.lt
      go_upto_region 12 with (fail)
      have HW6 := hH (HW5.out.put 2 (p := f6) rfl 1 (.int .i64 1))
      simp only [List.set_cons_zero, List.set_cons_succ] at HW6
      generalize hz6 : (w5.alloc (.cells #[.int .i64 xk, .int .i64 xb, .int .i64 xc, .int .i64 xv] 143)).setCell ⟨f6, 1, none⟩ (.int .i64 1) = w6 at *
      generalize w5.heap.size = f14 at *
      clear HW5 hz6 q0 q1 q2 q3 q4 z1 z4 l6 b6
      have b6 := HW6.out.boxi 2 rfl
      obtain ⟨q0, q1, q2, q3, q4⟩ := Kn.own5 b6
      have z4 := b6.frozen 4
      have l6 := b6.lt
      have b14 := HW6.out.boxi 0 rfl
      obtain ⟨h0, h1, h2, h3⟩ := Kn.own4 b14
      go_upto_region 13 with (fail)
      have HW7 := hH ((HW6.out.put 2 (p := f6) rfl 4 (.int .i64 xb)).ldrop)
      simp only [List.set_cons_zero, List.set_cons_succ] at HW7
      generalize hz7 : w6.setCell ⟨f6, 4, none⟩ (.int .i64 xb) = w7 at *
      have HQR : Hid ((1 ≤ (1 : Int) ∧ (1 : Int) ≤ 64) ∧ 0 ≤ q.s ∧ q.s ≤ cf.s - 1) := hH ⟨by decide, HIN.out⟩
      clear HW6 hz7 q0 q1 q2 q3 q4 z4 l6 b6 b14 h0 h1 h2 h3
      go_loopg [11] 65 (fun rr t11 wr => ∃ (pre : List Fnd) (A : Option Addr) (cc : Nat) (fs : List (World → Prop)) (qj : Ps), t11 = .slice A pre.length cc ∧ Wc w0 wr ((f9, [.int .i64 0, .int .i64 0, .int .i64 0, .int .i64 0, .int .i64 0]) :: (f6, [.int .i64 qj.s, .int .i64 qj.o, .int .i64 qj.l, .int .i64 qj.p, .int .i64 qj.m]) :: (f5, [.int .i64 cf.b, .int .i64 cf.s, .int .i64 cf.l]) :: L) (⟨183, 10, .slice A pre.length cc, pre.length, rfndV pre⟩ :: G) (fs ++ F) ∧ (∀ y ∈ pre, y.fct ∈ fs) ∧ scanR d cf false q = (pre.map Fnd.pr ++ (scanG d cf rr qj).1, (scanG d cf rr qj).2) ∧ 65 ≤ (rr : Int) + qj.o ∧ (1 ≤ qj.o ∧ qj.o ≤ 64) ∧ 0 ≤ qj.s ∧ qj.s ≤ cf.s - 1)
      case atStart => exact ⟨[], none, 0, [], ⟨q.s, 1, q.l, q.p, xb⟩, rfl, HW7.out, by simp, HSC.out, by first | (have := HQR.out; omega) | (simp only; omega), HQR.out⟩
      clear HW7 HSC HQR
      obtain ⟨pre, A, cc, fs, qj, rfl, hw, hfs, hsc, hk, ⟨ho1, ho2⟩, hs0, hs1⟩ := hrel
      have HW2 := hH hw
      have HFS := hH hfs
      have HSC := hH hsc
      clear hw hfs hsc
      have b6 := HW2.out.boxi 1 rfl
      obtain ⟨q0, q1, q2, q3, q4⟩ := Kn.own5 b6
      have b5 := HW2.out.boxi 2 rfl
      obtain ⟨e0, e1, e2⟩ := Kn.own3 b5
      clear b6 b5
      go_wp2_with fail
      refine (ref_follow_any w0 wr r d c cf qj (HCL.out _ ((HW2.out.gdrop).sub (L' := L) (.cons _ (.cons _ (.cons _ (List.Sublist.refl _)))) (fun f hf => List.mem_append_right _ hf))) hh HC.out ⟨hs0, hs1⟩).mono ?_
      obtain ⟨x, hfo⟩ : ∃ x, Kn.follow d cf qj = x := ⟨_, rfl⟩
      have HFO := hH hfo
      rw [hfo]
      clear hfo q0 q1 q2 q3 q4 e0 e1 e2
      rcases x with ⟨_ | ⟨x, nx⟩, er⟩
      ·rintro en w3 ⟨hO, rfl⟩
       have HW3 := hH (HW2.out.keep0 (hO.trans' (((Only.refl [] w3).alloc (.cells #[.int .i64 0, .int .i64 0, .int .i64 0, .slice none 0 0, .slice none 0 0] 56)).alloc (.cells #[.int .i64 qj.s, .int .i64 qj.o, .int .i64 qj.l, .int .i64 qj.p, .int .i64 qj.m] 32))))
       clear hO HW2
       obtain ⟨k, rfl⟩ : ∃ k, gk = k + 1 := ⟨gk - 1, by omega⟩
       have HSE : Hid (scanR d cf false q = (pre.map Fnd.pr, qj, er)) := hH (by rw [HSC.out, scanG_none HFO.out, List.append_nil])
       go_upto_region 16 with (fail)
       generalize (w3.alloc (.cells #[.int .i64 0, .int .i64 0, .int .i64 0, .slice none 0 0, .slice none 0 0] 56)).alloc (.cells #[.int .i64 qj.s, .int .i64 qj.o, .int .i64 qj.l, .int .i64 qj.p, .int .i64 qj.m] 32) = w4 at *
       go_wp2_with fail
       have HY := hH HW3.out.drew
       clear HW3
       refine wp_region_held_drew (S := (fun w' => Kn.Own w' f6 [.int .i64 qj.s, .int .i64 qj.o, .int .i64 qj.l, .int .i64 qj.p, .int .i64 qj.m])) (by kernel_rfl) (HY.out.boxi 1 rfl) (fun hSw0 => ?_)
       generalize w4.drew = wz at *
       refine tS 0 86 ?_
       refine tS 1 87 (v := (.agg #[.int .i64 qj.s, .int .i64 qj.o, .int .i64 qj.l, .int .i64 qj.p, .int .i64 qj.m])) (hy := fun w hSw => by
        have q0 := hSw
        obtain ⟨q00, q01, q02, q03, q04⟩ := Kn.own5 q0
        clear q0
        go_simp) ?_
       refine tS 2 88 ?_
       refine tS 3 8 ?_
       refine Kn.takeR 4 ⟨none, _, _, _, _, _⟩ fun K hK => ?_
       refine step_store_own rfl 32 (.tmp 9) (.tmp 87) rfl f9 [.int .i64 0, .int .i64 0, .int .i64 0, .int .i64 0, .int .i64 0] [.int .i64 qj.s, .int .i64 qj.o, .int .i64 qj.l, .int .i64 qj.p, .int .i64 qj.m] (by kernel_rfl) rfl rfl (HY.out.boxi 0 rfl) rfl (by intro u hu; simp at hu; rcases hu with rfl | rfl | rfl | rfl | rfl <;> rfl) ?_
       intro wy ho hO
       have HY2 := hH (HY.out.call1 0 rfl ho hO)
       clear ho hO HY
       refine hK.out _ _ (HY2.out.boxi 1 rfl) (fun hSn => ?_)
       clear hK K hSw0
       have hSw0 := hSn
       clear hSn
       refine tS 5 10 ?_
       refine tD ?_ _
       clear hSw0
       have bn := HY2.out.boxi 0 rfl
       obtain ⟨n0, n1, n2, n3, n4⟩ := Kn.own5 bn
       clear bn
       go_wp2
       (try simp only [Exit.inBlock, Exit.then])
       refine bodyPost_ret (v := .tuple #[.slice A pre.length cc, .agg #[.int .i64 qj.s, .int .i64 qj.o, .int .i64 qj.l, .int .i64 qj.p, .int .i64 qj.m], .int .i64 er]) ?_ rfl ?_
       ·simp only [results, HRES.out]
        go_simp
       rw [HSE.out]
       exact ⟨pre, A, cc, fs, rfl, rfl, HFS.out, HCE.out _ _ fs (HY2.out.sub (L' := L) (.cons _ (.cons _ (.cons _ (List.Sublist.refl _)))) (fun f hf => hf))⟩
      rintro en w3 ⟨hO, ⟨s1, s2, s3⟩, ⟨t1, t2, t3⟩, rfl, hfc⟩
      obtain ⟨hp1, hp2, hp3, rfl⟩ := follow_place HFO.out
      have HP1 := hH hp1
      clear hp1
      obtain ⟨k, rfl⟩ : ∃ k, gk = k + 1 := ⟨gk - 1, by omega⟩
      have hsl := scanR_len d cf false q
      rw [HSC.out] at hsl
      simp only [List.length_append, List.length_map] at hsl
      obtain ⟨y, hy0⟩ : ∃ y : Fnd, y = ⟨qj, x, (s1, s2, s3), (t1, t2, t3)⟩ := ⟨_, rfl⟩
      have hyo : rfnd y = [.int .i64 qj.s, .int .i64 qj.o, .int .i64 qj.l, .int .i64 qj.p, .int .i64 qj.m, .int .i64 x.m, .int .i64 x.n, .int .i64 x.p, .slice s1 s2 s3, .slice t1 t2 t3] := by rw [hy0]; rfl
      have hyp : y.pr = (qj, x) := by rw [hy0]; rfl
      have hyf : y.fct = (fun W => RcAt W x (s1, s2, s3) (t1, t2, t3)) := by rw [hy0]; rfl
      have HYO := hH hyo
      have HYP := hH hyp
      obtain ⟨j, hj⟩ : ∃ j, j = pre.length := ⟨_, rfl⟩
      have hj65 : j ≤ 65 := by omega
      have hl2 : (pre ++ [y]).length = j + 1 := by simp [hj]
      have HL2 := hH hl2
      rw [← hj] at HW2 ⊢
      have hfs2 : ∀ u ∈ pre ++ [y], u.fct ∈ (fun W => RcAt W x (s1, s2, s3) (t1, t2, t3)) :: fs := by
       intro u hu
       rcases List.mem_append.1 hu with hu | hu
       ·exact mc _ (HFS.out u hu)
       rw [List.mem_singleton] at hu
       subst hu
       rw [hyf]
       exact List.mem_cons_self
      have HFS2 := hH hfs2
      have hw4 := ((HW2.out.addFc hO hfc).newB #[.int .i64 x.m, .int .i64 x.n, .int .i64 x.p, .slice s1 s2 s3, .slice t1 t2 t3] 56 rfl).newB #[.int .i64 nx.s, .int .i64 nx.o, .int .i64 nx.l, .int .i64 nx.p, .int .i64 nx.m] 32 (b := w3.heap.size + 1) (by simp)
      have HW4 := hH hw4
      clear hw4 hO hfc HW2 hsl hy0 hyo hyp hyf hj hl2 hfs2
      simp only [Rc.cells, slv]
      go_upto_region 17 with (fail)
      generalize hz4 : (w3.alloc (.cells #[.int .i64 x.m, .int .i64 x.n, .int .i64 x.p, .slice s1 s2 s3, .slice t1 t2 t3] 56)).alloc (.cells #[.int .i64 nx.s, .int .i64 nx.o, .int .i64 nx.l, .int .i64 nx.p, .int .i64 nx.m] 32) = w4 at *
      generalize w3.heap.size = f16 at *
      generalize f16 + 1 = f17 at *
      clear hz4 w3
      have b6 := HW4.out.boxi 3 rfl
      obtain ⟨q0, q1, q2, q3, q4⟩ := Kn.own5 b6
      have b16 := HW4.out.boxi 1 rfl
      obtain ⟨r0, r1, r2, r3, r4⟩ := Kn.own5 b16
      clear b6 b16
      have HD := hH (HW4.out.alloc (.cells #[.int .i64 qj.s, .int .i64 qj.o, .int .i64 qj.l, .int .i64 qj.p, .int .i64 qj.m, .int .i64 x.m, .int .i64 x.n, .int .i64 x.p, .slice s1 s2 s3, .slice t1 t2 t3] 183))
      have hnw := news_new w4 #[.int .i64 qj.s, .int .i64 qj.o, .int .i64 qj.l, .int .i64 qj.p, .int .i64 qj.m, .int .i64 x.m, .int .i64 x.n, .int .i64 x.p, .slice s1 s2 s3, .slice t1 t2 t3] 183 (by simp [maxLen])
      have HNW := hH hnw
      have HON := hH (rfnd_one y)
      have HBS := hH HD.out.only.size
      rw [HYO.out] at HON
      clear hnw HW4
      go_upto_region 19 with (first
       | (at_builtin; refine wpList_append_own_at _ rfl (.tmp 89) (.tmp 93) 80 rfl w0.heap.size 183 i0 _ 10 112 Tryz.underlying80 hi0 hz0 hz1 hz2 rfl (by decide) (.slice A j cc) j (rfndV pre) rfl (HD.out.gi 0 rfl) ⟨w4.heap.size, 0, none⟩ 1 1 [.int .i64 qj.s, .int .i64 qj.o, .int .i64 qj.l, .int .i64 qj.p, .int .i64 qj.m, .int .i64 x.m, .int .i64 x.n, .int .i64 x.p, .slice s1 s2 s3, .slice t1 t2 t3] rfl rfl HNW.out HON.out (by unfold maxLen; omega) (by omega) HBS.out ?_; intro v5 w5 hown hgrow _ hat2; rw [← HYO.out, ← rfndV_snoc] at hown; have hdd := HD.out.gapp 0 rfl hown hgrow hat2; obtain ⟨A6, k6, rfl⟩ := hdd.gform 0 rfl; simp only [List.set_cons_zero, List.set_cons_succ] at hdd; have HD5 := hH hdd; clear hdd hown hgrow hat2 HNW HON HBS HD q0 q1 q2 q3 q4 r0 r1 r2 r3 r4; have b6 := HD5.out.boxi 3 rfl; have q0 := b6.cell 0 (by simp); have q1 := b6.cell 1 (by simp); have q2 := b6.cell 2 (by simp); have q3 := b6.cell 3 (by simp); have q4 := b6.cell 4 (by simp); simp only [g0, gs] at q0 q1 q2 q3 q4; have z0 := b6.frozen 0; have z1 := b6.frozen 1; have z2 := b6.frozen 2; have z3 := b6.frozen 3; have z4 := b6.frozen 4; have l6 := b6.lt; have b16 := HD5.out.boxi 1 rfl; have r0 := b16.cell 0 (by simp); have r1 := b16.cell 1 (by simp); have r2 := b16.cell 2 (by simp); have r3 := b16.cell 3 (by simp); have r4 := b16.cell 4 (by simp); simp only [g0, gs] at r0 r1 r2 r3 r4; have b17 := HD5.out.boxi 0 rfl; have n0 := b17.cell 0 (by simp); have n1 := b17.cell 1 (by simp); have n2 := b17.cell 2 (by simp); have n3 := b17.cell 3 (by simp); have n4 := b17.cell 4 (by simp); simp only [g0, gs] at n0 n1 n2 n3 n4; clear b6 b16 b17)
       | fail)
      have HD6 := hH ((((((HD5.out.put 3 (p := f6) rfl 0 (.int .i64 nx.s)).put 3 (p := f6) rfl 1 (.int .i64 nx.o)).put 3 (p := f6) rfl 2 (.int .i64 nx.l)).put 3 (p := f6) rfl 3 (.int .i64 nx.p)).put 3 (p := f6) rfl 4 (.int .i64 nx.m)))
      simp only [List.set_cons_zero, List.set_cons_succ] at HD6
      generalize (((((w5.setCell ⟨f6, 0, none⟩ (.int .i64 nx.s)).setCell ⟨f6, 1, none⟩ (.int .i64 nx.o)).setCell ⟨f6, 2, none⟩ (.int .i64 nx.l)).setCell ⟨f6, 3, none⟩ (.int .i64 nx.p)).setCell ⟨f6, 4, none⟩ (.int .i64 nx.m)) = w6 at *
      clear HD5 q0 q1 q2 q3 q4 r0 r1 r2 r3 r4 n0 n1 n2 n3 n4 z0 z1 z2 z3 z4 l6
      have b16 := HD6.out.boxi 1 rfl
      obtain ⟨r0, r1, r2, r3, r4⟩ := Kn.own5 b16
      clear b16
      go_wp2_with fail
      refine (ref_next_any x (s1, s2, s3) (t1, t2, t3) _ (HD6.out.fact _ List.mem_cons_self).1).mono ?_
      rintro en w7 ⟨rfl, hO7⟩
      have HW7 := hH (((HD6.out.keep0 hO7).ldrop).ldrop)
      clear hO7 HD6
      have hsn := scanG_some (k := k) HFO.out
      have HSN := hH hsn
      clear hsn
      cases hnx : nextOf x with
      | none =>
       have HSE : Hid (scanR d cf false q = ((pre ++ [y]).map Fnd.pr ++ (scanG d cf k nx).1, (scanG d cf k nx).2)) := hH (by
        rw [HSC.out, HSN.out, hnx, List.map_append, List.map_cons, HYP.out]
        simp)
       clear hnx
       simp only [Option.getD_none]
       go_wp2_with fail
       go_roundg k
       case measure => omega
       case rel => exact ⟨pre ++ [y], A6, k6, _, nx, by rw [HL2.out], by rw [HL2.out]; exact HW7.out, HFS2.out, HSE.out, by omega, ⟨by omega, by omega⟩, by rw [HP1.out]; exact hs0, by rw [HP1.out]; exact hs1⟩
      | some v =>
       obtain ⟨hv0, hv1⟩ := follow_next HFO.out hnx
       have HSE : Hid (scanR d cf false q = ((pre ++ [y]).map Fnd.pr, nx, 0)) := hH (by
        rw [HSC.out, HSN.out, hnx, List.map_append, List.map_cons, HYP.out]
        simp)
       clear hnx
       simp only [Option.getD_some]
       have hge : (v : Int) ≥ 0 := hv0
       go_wp2_with fail
       have HY := hH HW7.out.drew
       clear HW7
       refine wp_region_held_drew (S := (fun w' => Kn.Own w' f6 [.int .i64 nx.s, .int .i64 nx.o, .int .i64 nx.l, .int .i64 nx.p, .int .i64 nx.m])) (by kernel_rfl) (HY.out.boxi 1 rfl) (fun hSw0 => ?_)
       generalize w7.drew = wz at *
       refine tS 0 99 ?_
       refine tS 1 100 (v := (.agg #[.int .i64 nx.s, .int .i64 nx.o, .int .i64 nx.l, .int .i64 nx.p, .int .i64 nx.m])) (hy := fun w hSw => by
        have q0 := hSw
        obtain ⟨q00, q01, q02, q03, q04⟩ := Kn.own5 q0
        clear q0
        go_simp) ?_
       refine tS 2 8 ?_
       refine Kn.takeR 3 ⟨none, _, _, _, _, _⟩ fun K hK => ?_
       refine step_store_own rfl 32 (.tmp 9) (.tmp 100) rfl f9 [.int .i64 0, .int .i64 0, .int .i64 0, .int .i64 0, .int .i64 0] [.int .i64 nx.s, .int .i64 nx.o, .int .i64 nx.l, .int .i64 nx.p, .int .i64 nx.m] (by kernel_rfl) rfl rfl (HY.out.boxi 0 rfl) rfl (by intro u hu; simp at hu; rcases hu with rfl | rfl | rfl | rfl | rfl <;> rfl) ?_
       intro wy ho hO
       have HY2 := hH (HY.out.call1 0 rfl ho hO)
       clear ho hO HY
       refine hK.out _ _ (HY2.out.boxi 1 rfl) (fun hSn => ?_)
       clear hK K hSw0
       have hSw0 := hSn
       clear hSn
       refine tS 4 10 ?_
       refine tD ?_ _
       clear hSw0
       have bn := HY2.out.boxi 0 rfl
       obtain ⟨n0, n1, n2, n3, n4⟩ := Kn.own5 bn
       clear bn
       go_wp2
       (try simp only [Exit.inBlock, Exit.then])
       refine bodyPost_ret (v := .tuple #[.slice A6 (j + 1) k6, .agg #[.int .i64 nx.s, .int .i64 nx.o, .int .i64 nx.l, .int .i64 nx.p, .int .i64 nx.m], .int .i64 0]) ?_ rfl ?_
       ·simp only [results, HRES.out]
        go_simp
       rw [HSE.out, ← HL2.out]
       exact ⟨pre ++ [y], A6, k6, (fun W => RcAt W x (s1, s2, s3) (t1, t2, t3)) :: fs, rfl, rfl, HFS2.out, HCE.out _ _ ((fun W => RcAt W x (s1, s2, s3) (t1, t2, t3)) :: fs) (by rw [HL2.out]; exact (HY2.out.sub (L' := L) (.cons _ (.cons _ (.cons _ (List.Sublist.refl _)))) (fun f hf => hf)))⟩
    have hzb : (z != 0) = true := by simpa using hz0
    have HSC : Hid (scanR d cf false q = ([], q, z)) := hH (by unfold scanR; rw [scanB_err HRG.out (by have := HZ0.out; omega) (by rw [HA.out, HZ.out]; exact hz0), HA.out, HZ.out]; rfl)
    go_wp2_with fail
    have HY := hH HW3.out.drew
    clear HW3
    refine wp_region_held_drew (S := (fun w' => Kn.Own w' f6 [.int .i64 q.s, .int .i64 q.o, .int .i64 q.l, .int .i64 q.p, .int .i64 q.m])) (by kernel_rfl) (HY.out.boxi 1 rfl) (fun hSw0 => ?_)
    generalize w3.drew = wz at *
    refine tS 0 51 (v := (.agg #[.int .i64 q.s, .int .i64 q.o, .int .i64 q.l, .int .i64 q.p, .int .i64 q.m])) (hy := fun w hSw => by
     have q0 := hSw
     obtain ⟨q00, q01, q02, q03, q04⟩ := Kn.own5 q0
     clear q0
     go_simp) ?_
    refine tS 1 52 ?_
    refine tS 2 8 ?_
    refine Kn.takeR 3 ⟨none, _, _, _, _, _⟩ fun K hK => ?_
    refine step_store_own rfl 32 (.tmp 9) (.tmp 51) rfl f9 [.int .i64 0, .int .i64 0, .int .i64 0, .int .i64 0, .int .i64 0] [.int .i64 q.s, .int .i64 q.o, .int .i64 q.l, .int .i64 q.p, .int .i64 q.m] (by kernel_rfl) rfl rfl (HY.out.boxi 0 rfl) rfl (by intro u hu; simp at hu; rcases hu with rfl | rfl | rfl | rfl | rfl <;> rfl) ?_
    intro wy ho hO
    have HY2 := hH (HY.out.call1 0 rfl ho hO)
    clear ho hO HY
    refine hK.out _ _ (HY2.out.boxi 1 rfl) (fun hSn => ?_)
    clear hK K hSw0
    have hSw0 := hSn
    clear hSn
    refine tS 4 10 ?_
    refine tD ?_ _
    clear hSw0
    have bn := HY2.out.boxi 0 rfl
    obtain ⟨n0, n1, n2, n3, n4⟩ := Kn.own5 bn
    clear bn
    go_wp2
    (try simp only [Exit.inBlock, Exit.then])
    refine bodyPost_ret (v := .tuple #[.slice none 0 0, .agg #[.int .i64 q.s, .int .i64 q.o, .int .i64 q.l, .int .i64 q.p, .int .i64 q.m], .int .i64 z]) ?_ rfl ?_
    ·simp only [results, HRES.out]
     go_simp
    rw [HSC.out]
    exact ⟨[], none, 0, [], rfl, rfl, by simp, HCE.out _ _ [] (HY2.out.gdrop.sub (L' := L) (.cons _ (.cons _ (.cons _ (List.Sublist.refl _)))) (fun f hf => hf))⟩
   have hqz : (q.o == 0) = false := by simpa using hz
   have HSC : Hid (scanR d cf false q = (([] : List Fnd).map Fnd.pr ++ (scanG d cf 65 q).1, (scanG d cf 65 q).2)) := hH (by unfold scanR; rw [scanB_off HRG.out (by omega)]; simp)
   have hqr : (1 ≤ q.o ∧ q.o ≤ 64) ∧ 0 ≤ q.s ∧ q.s ≤ cf.s - 1 := ⟨⟨by omega, by omega⟩, hin⟩
   have HQR := hH hqr
   clear hqr hin hio hz
   go_wp2_with fail
   clear q0 q1 q2 q3 q4 e0 e1 e2
   go_loopg [11] 65 (fun rr t11 wr => ∃ (pre : List Fnd) (A : Option Addr) (cc : Nat) (fs : List (World → Prop)) (qj : Ps), t11 = .slice A pre.length cc ∧ Wc w0 wr ((f9, [.int .i64 0, .int .i64 0, .int .i64 0, .int .i64 0, .int .i64 0]) :: (f6, [.int .i64 qj.s, .int .i64 qj.o, .int .i64 qj.l, .int .i64 qj.p, .int .i64 qj.m]) :: (f5, [.int .i64 cf.b, .int .i64 cf.s, .int .i64 cf.l]) :: L) (⟨183, 10, .slice A pre.length cc, pre.length, rfndV pre⟩ :: G) (fs ++ F) ∧ (∀ y ∈ pre, y.fct ∈ fs) ∧ scanR d cf false q = (pre.map Fnd.pr ++ (scanG d cf rr qj).1, (scanG d cf rr qj).2) ∧ 65 ≤ (rr : Int) + qj.o ∧ (1 ≤ qj.o ∧ qj.o ≤ 64) ∧ 0 ≤ qj.s ∧ qj.s ≤ cf.s - 1)
   case atStart => exact ⟨[], none, 0, [], q, rfl, HW1.out, by simp, HSC.out, by first | (have := HQR.out; omega) | (simp only; omega), HQR.out⟩
   clear HW1 HSC HQR
   obtain ⟨pre, A, cc, fs, qj, rfl, hw, hfs, hsc, hk, ⟨ho1, ho2⟩, hs0, hs1⟩ := hrel
   have HW2 := hH hw
   have HFS := hH hfs
   have HSC := hH hsc
   clear hw hfs hsc
   have b6 := HW2.out.boxi 1 rfl
   obtain ⟨q0, q1, q2, q3, q4⟩ := Kn.own5 b6
   have b5 := HW2.out.boxi 2 rfl
   obtain ⟨e0, e1, e2⟩ := Kn.own3 b5
   clear b6 b5
   go_wp2_with fail
   refine (ref_follow_any w0 wr r d c cf qj (HCL.out _ ((HW2.out.gdrop).sub (L' := L) (.cons _ (.cons _ (.cons _ (List.Sublist.refl _)))) (fun f hf => List.mem_append_right _ hf))) hh HC.out ⟨hs0, hs1⟩).mono ?_
   obtain ⟨x, hfo⟩ : ∃ x, Kn.follow d cf qj = x := ⟨_, rfl⟩
   have HFO := hH hfo
   rw [hfo]
   clear hfo q0 q1 q2 q3 q4 e0 e1 e2
   rcases x with ⟨_ | ⟨x, nx⟩, er⟩
   ·rintro en w3 ⟨hO, rfl⟩
    have HW3 := hH (HW2.out.keep0 (hO.trans' (((Only.refl [] w3).alloc (.cells #[.int .i64 0, .int .i64 0, .int .i64 0, .slice none 0 0, .slice none 0 0] 56)).alloc (.cells #[.int .i64 qj.s, .int .i64 qj.o, .int .i64 qj.l, .int .i64 qj.p, .int .i64 qj.m] 32))))
    clear hO HW2
    obtain ⟨k, rfl⟩ : ∃ k, gk = k + 1 := ⟨gk - 1, by omega⟩
    have HSE : Hid (scanR d cf false q = (pre.map Fnd.pr, qj, er)) := hH (by rw [HSC.out, scanG_none HFO.out, List.append_nil])
    go_upto_region 16 with (fail)
    generalize (w3.alloc (.cells #[.int .i64 0, .int .i64 0, .int .i64 0, .slice none 0 0, .slice none 0 0] 56)).alloc (.cells #[.int .i64 qj.s, .int .i64 qj.o, .int .i64 qj.l, .int .i64 qj.p, .int .i64 qj.m] 32) = w4 at *
    go_wp2_with fail
    have HY := hH HW3.out.drew
    clear HW3
    refine wp_region_held_drew (S := (fun w' => Kn.Own w' f6 [.int .i64 qj.s, .int .i64 qj.o, .int .i64 qj.l, .int .i64 qj.p, .int .i64 qj.m])) (by kernel_rfl) (HY.out.boxi 1 rfl) (fun hSw0 => ?_)
    generalize w4.drew = wz at *
    refine tS 0 86 ?_
    refine tS 1 87 (v := (.agg #[.int .i64 qj.s, .int .i64 qj.o, .int .i64 qj.l, .int .i64 qj.p, .int .i64 qj.m])) (hy := fun w hSw => by
     have q0 := hSw
     obtain ⟨q00, q01, q02, q03, q04⟩ := Kn.own5 q0
     clear q0
     go_simp) ?_
    refine tS 2 88 ?_
    refine tS 3 8 ?_
    refine Kn.takeR 4 ⟨none, _, _, _, _, _⟩ fun K hK => ?_
    refine step_store_own rfl 32 (.tmp 9) (.tmp 87) rfl f9 [.int .i64 0, .int .i64 0, .int .i64 0, .int .i64 0, .int .i64 0] [.int .i64 qj.s, .int .i64 qj.o, .int .i64 qj.l, .int .i64 qj.p, .int .i64 qj.m] (by kernel_rfl) rfl rfl (HY.out.boxi 0 rfl) rfl (by intro u hu; simp at hu; rcases hu with rfl | rfl | rfl | rfl | rfl <;> rfl) ?_
    intro wy ho hO
    have HY2 := hH (HY.out.call1 0 rfl ho hO)
    clear ho hO HY
    refine hK.out _ _ (HY2.out.boxi 1 rfl) (fun hSn => ?_)
    clear hK K hSw0
    have hSw0 := hSn
    clear hSn
    refine tS 5 10 ?_
    refine tD ?_ _
    clear hSw0
    have bn := HY2.out.boxi 0 rfl
    obtain ⟨n0, n1, n2, n3, n4⟩ := Kn.own5 bn
    clear bn
    go_wp2
    (try simp only [Exit.inBlock, Exit.then])
    refine bodyPost_ret (v := .tuple #[.slice A pre.length cc, .agg #[.int .i64 qj.s, .int .i64 qj.o, .int .i64 qj.l, .int .i64 qj.p, .int .i64 qj.m], .int .i64 er]) ?_ rfl ?_
    ·simp only [results, HRES.out]
     go_simp
    rw [HSE.out]
    exact ⟨pre, A, cc, fs, rfl, rfl, HFS.out, HCE.out _ _ fs (HY2.out.sub (L' := L) (.cons _ (.cons _ (.cons _ (List.Sublist.refl _)))) (fun f hf => hf))⟩
   rintro en w3 ⟨hO, ⟨s1, s2, s3⟩, ⟨t1, t2, t3⟩, rfl, hfc⟩
   obtain ⟨hp1, hp2, hp3, rfl⟩ := follow_place HFO.out
   have HP1 := hH hp1
   clear hp1
   obtain ⟨k, rfl⟩ : ∃ k, gk = k + 1 := ⟨gk - 1, by omega⟩
   have hsl := scanR_len d cf false q
   rw [HSC.out] at hsl
   simp only [List.length_append, List.length_map] at hsl
   obtain ⟨y, hy0⟩ : ∃ y : Fnd, y = ⟨qj, x, (s1, s2, s3), (t1, t2, t3)⟩ := ⟨_, rfl⟩
   have hyo : rfnd y = [.int .i64 qj.s, .int .i64 qj.o, .int .i64 qj.l, .int .i64 qj.p, .int .i64 qj.m, .int .i64 x.m, .int .i64 x.n, .int .i64 x.p, .slice s1 s2 s3, .slice t1 t2 t3] := by rw [hy0]; rfl
   have hyp : y.pr = (qj, x) := by rw [hy0]; rfl
   have hyf : y.fct = (fun W => RcAt W x (s1, s2, s3) (t1, t2, t3)) := by rw [hy0]; rfl
   have HYO := hH hyo
   have HYP := hH hyp
   obtain ⟨j, hj⟩ : ∃ j, j = pre.length := ⟨_, rfl⟩
   have hj65 : j ≤ 65 := by omega
   have hl2 : (pre ++ [y]).length = j + 1 := by simp [hj]
   have HL2 := hH hl2
   rw [← hj] at HW2 ⊢
   have hfs2 : ∀ u ∈ pre ++ [y], u.fct ∈ (fun W => RcAt W x (s1, s2, s3) (t1, t2, t3)) :: fs := by
    intro u hu
    rcases List.mem_append.1 hu with hu | hu
    ·exact mc _ (HFS.out u hu)
    rw [List.mem_singleton] at hu
    subst hu
    rw [hyf]
    exact List.mem_cons_self
   have HFS2 := hH hfs2
   have hw4 := ((HW2.out.addFc hO hfc).newB #[.int .i64 x.m, .int .i64 x.n, .int .i64 x.p, .slice s1 s2 s3, .slice t1 t2 t3] 56 rfl).newB #[.int .i64 nx.s, .int .i64 nx.o, .int .i64 nx.l, .int .i64 nx.p, .int .i64 nx.m] 32 (b := w3.heap.size + 1) (by simp)
   have HW4 := hH hw4
   clear hw4 hO hfc HW2 hsl hy0 hyo hyp hyf hj hl2 hfs2
   simp only [Rc.cells, slv]
   go_upto_region 17 with (fail)
   generalize hz4 : (w3.alloc (.cells #[.int .i64 x.m, .int .i64 x.n, .int .i64 x.p, .slice s1 s2 s3, .slice t1 t2 t3] 56)).alloc (.cells #[.int .i64 nx.s, .int .i64 nx.o, .int .i64 nx.l, .int .i64 nx.p, .int .i64 nx.m] 32) = w4 at *
   generalize w3.heap.size = f16 at *
   generalize f16 + 1 = f17 at *
   clear hz4 w3
   have b6 := HW4.out.boxi 3 rfl
   obtain ⟨q0, q1, q2, q3, q4⟩ := Kn.own5 b6
   have b16 := HW4.out.boxi 1 rfl
   obtain ⟨r0, r1, r2, r3, r4⟩ := Kn.own5 b16
   clear b6 b16
   have HD := hH (HW4.out.alloc (.cells #[.int .i64 qj.s, .int .i64 qj.o, .int .i64 qj.l, .int .i64 qj.p, .int .i64 qj.m, .int .i64 x.m, .int .i64 x.n, .int .i64 x.p, .slice s1 s2 s3, .slice t1 t2 t3] 183))
   have hnw := news_new w4 #[.int .i64 qj.s, .int .i64 qj.o, .int .i64 qj.l, .int .i64 qj.p, .int .i64 qj.m, .int .i64 x.m, .int .i64 x.n, .int .i64 x.p, .slice s1 s2 s3, .slice t1 t2 t3] 183 (by simp [maxLen])
   have HNW := hH hnw
   have HON := hH (rfnd_one y)
   have HBS := hH HD.out.only.size
   rw [HYO.out] at HON
   clear hnw HW4
   go_upto_region 19 with (first
    | (at_builtin; refine wpList_append_own_at _ rfl (.tmp 89) (.tmp 93) 80 rfl w0.heap.size 183 i0 _ 10 112 Tryz.underlying80 hi0 hz0 hz1 hz2 rfl (by decide) (.slice A j cc) j (rfndV pre) rfl (HD.out.gi 0 rfl) ⟨w4.heap.size, 0, none⟩ 1 1 [.int .i64 qj.s, .int .i64 qj.o, .int .i64 qj.l, .int .i64 qj.p, .int .i64 qj.m, .int .i64 x.m, .int .i64 x.n, .int .i64 x.p, .slice s1 s2 s3, .slice t1 t2 t3] rfl rfl HNW.out HON.out (by unfold maxLen; omega) (by omega) HBS.out ?_; intro v5 w5 hown hgrow _ hat2; rw [← HYO.out, ← rfndV_snoc] at hown; have hdd := HD.out.gapp 0 rfl hown hgrow hat2; obtain ⟨A6, k6, rfl⟩ := hdd.gform 0 rfl; simp only [List.set_cons_zero, List.set_cons_succ] at hdd; have HD5 := hH hdd; clear hdd hown hgrow hat2 HNW HON HBS HD q0 q1 q2 q3 q4 r0 r1 r2 r3 r4; have b6 := HD5.out.boxi 3 rfl; have q0 := b6.cell 0 (by simp); have q1 := b6.cell 1 (by simp); have q2 := b6.cell 2 (by simp); have q3 := b6.cell 3 (by simp); have q4 := b6.cell 4 (by simp); simp only [g0, gs] at q0 q1 q2 q3 q4; have z0 := b6.frozen 0; have z1 := b6.frozen 1; have z2 := b6.frozen 2; have z3 := b6.frozen 3; have z4 := b6.frozen 4; have l6 := b6.lt; have b16 := HD5.out.boxi 1 rfl; have r0 := b16.cell 0 (by simp); have r1 := b16.cell 1 (by simp); have r2 := b16.cell 2 (by simp); have r3 := b16.cell 3 (by simp); have r4 := b16.cell 4 (by simp); simp only [g0, gs] at r0 r1 r2 r3 r4; have b17 := HD5.out.boxi 0 rfl; have n0 := b17.cell 0 (by simp); have n1 := b17.cell 1 (by simp); have n2 := b17.cell 2 (by simp); have n3 := b17.cell 3 (by simp); have n4 := b17.cell 4 (by simp); simp only [g0, gs] at n0 n1 n2 n3 n4; clear b6 b16 b17)
    | fail)
   have HD6 := hH ((((((HD5.out.put 3 (p := f6) rfl 0 (.int .i64 nx.s)).put 3 (p := f6) rfl 1 (.int .i64 nx.o)).put 3 (p := f6) rfl 2 (.int .i64 nx.l)).put 3 (p := f6) rfl 3 (.int .i64 nx.p)).put 3 (p := f6) rfl 4 (.int .i64 nx.m)))
   simp only [List.set_cons_zero, List.set_cons_succ] at HD6
   generalize (((((w5.setCell ⟨f6, 0, none⟩ (.int .i64 nx.s)).setCell ⟨f6, 1, none⟩ (.int .i64 nx.o)).setCell ⟨f6, 2, none⟩ (.int .i64 nx.l)).setCell ⟨f6, 3, none⟩ (.int .i64 nx.p)).setCell ⟨f6, 4, none⟩ (.int .i64 nx.m)) = w6 at *
   clear HD5 q0 q1 q2 q3 q4 r0 r1 r2 r3 r4 n0 n1 n2 n3 n4 z0 z1 z2 z3 z4 l6
   have b16 := HD6.out.boxi 1 rfl
   obtain ⟨r0, r1, r2, r3, r4⟩ := Kn.own5 b16
   clear b16
   go_wp2_with fail
   refine (ref_next_any x (s1, s2, s3) (t1, t2, t3) _ (HD6.out.fact _ List.mem_cons_self).1).mono ?_
   rintro en w7 ⟨rfl, hO7⟩
   have HW7 := hH (((HD6.out.keep0 hO7).ldrop).ldrop)
   clear hO7 HD6
   have hsn := scanG_some (k := k) HFO.out
   have HSN := hH hsn
   clear hsn
   cases hnx : nextOf x with
   | none =>
    have HSE : Hid (scanR d cf false q = ((pre ++ [y]).map Fnd.pr ++ (scanG d cf k nx).1, (scanG d cf k nx).2)) := hH (by
     rw [HSC.out, HSN.out, hnx, List.map_append, List.map_cons, HYP.out]
     simp)
    clear hnx
    simp only [Option.getD_none]
    go_wp2_with fail
    go_roundg k
    case measure => omega
    case rel => exact ⟨pre ++ [y], A6, k6, _, nx, by rw [HL2.out], by rw [HL2.out]; exact HW7.out, HFS2.out, HSE.out, by omega, ⟨by omega, by omega⟩, by rw [HP1.out]; exact hs0, by rw [HP1.out]; exact hs1⟩
   | some v =>
    obtain ⟨hv0, hv1⟩ := follow_next HFO.out hnx
    have HSE : Hid (scanR d cf false q = ((pre ++ [y]).map Fnd.pr, nx, 0)) := hH (by
     rw [HSC.out, HSN.out, hnx, List.map_append, List.map_cons, HYP.out]
     simp)
    clear hnx
    simp only [Option.getD_some]
    have hge : (v : Int) ≥ 0 := hv0
    go_wp2_with fail
    have HY := hH HW7.out.drew
    clear HW7
    refine wp_region_held_drew (S := (fun w' => Kn.Own w' f6 [.int .i64 nx.s, .int .i64 nx.o, .int .i64 nx.l, .int .i64 nx.p, .int .i64 nx.m])) (by kernel_rfl) (HY.out.boxi 1 rfl) (fun hSw0 => ?_)
    generalize w7.drew = wz at *
    refine tS 0 99 ?_
    refine tS 1 100 (v := (.agg #[.int .i64 nx.s, .int .i64 nx.o, .int .i64 nx.l, .int .i64 nx.p, .int .i64 nx.m])) (hy := fun w hSw => by
     have q0 := hSw
     obtain ⟨q00, q01, q02, q03, q04⟩ := Kn.own5 q0
     clear q0
     go_simp) ?_
    refine tS 2 8 ?_
    refine Kn.takeR 3 ⟨none, _, _, _, _, _⟩ fun K hK => ?_
    refine step_store_own rfl 32 (.tmp 9) (.tmp 100) rfl f9 [.int .i64 0, .int .i64 0, .int .i64 0, .int .i64 0, .int .i64 0] [.int .i64 nx.s, .int .i64 nx.o, .int .i64 nx.l, .int .i64 nx.p, .int .i64 nx.m] (by kernel_rfl) rfl rfl (HY.out.boxi 0 rfl) rfl (by intro u hu; simp at hu; rcases hu with rfl | rfl | rfl | rfl | rfl <;> rfl) ?_
    intro wy ho hO
    have HY2 := hH (HY.out.call1 0 rfl ho hO)
    clear ho hO HY
    refine hK.out _ _ (HY2.out.boxi 1 rfl) (fun hSn => ?_)
    clear hK K hSw0
    have hSw0 := hSn
    clear hSn
    refine tS 4 10 ?_
    refine tD ?_ _
    clear hSw0
    have bn := HY2.out.boxi 0 rfl
    obtain ⟨n0, n1, n2, n3, n4⟩ := Kn.own5 bn
    clear bn
    go_wp2
    (try simp only [Exit.inBlock, Exit.then])
    refine bodyPost_ret (v := .tuple #[.slice A6 (j + 1) k6, .agg #[.int .i64 nx.s, .int .i64 nx.o, .int .i64 nx.l, .int .i64 nx.p, .int .i64 nx.m], .int .i64 0]) ?_ rfl ?_
    ·simp only [results, HRES.out]
     go_simp
    rw [HSE.out, ← HL2.out]
    exact ⟨pre ++ [y], A6, k6, (fun W => RcAt W x (s1, s2, s3) (t1, t2, t3)) :: fs, rfl, rfl, HFS2.out, HCE.out _ _ ((fun W => RcAt W x (s1, s2, s3) (t1, t2, t3)) :: fs) (by rw [HL2.out]; exact (HY2.out.sub (L' := L) (.cons _ (.cons _ (.cons _ (List.Sublist.refl _)))) (fun f hf => hf)))⟩
  have hdb : decide (0 ≤ q.o ∧ q.o ≤ cf.l - 1) = false := decide_eq_false hio
  have HSC : Hid (scanR d cf false q = ([], q, 0)) := hH (by unfold scanR; rw [scanB_no (fun h => hio ⟨h.2.1, by omega⟩)]; rfl)
  rw [hdb]
  clear hdb q0 q1 q2 q3 q4 e0 e1 e2
  go_wp2_with fail
  have HY := hH HW1.out.drew
  clear HW1
  refine wp_region_held_drew (S := (fun w' => Kn.Own w' f6 [.int .i64 q.s, .int .i64 q.o, .int .i64 q.l, .int .i64 q.p, .int .i64 q.m])) (by kernel_rfl) (HY.out.boxi 1 rfl) (fun hSw0 => ?_)
  generalize w1.drew = wz at *
  refine tS 0 36 (v := (.agg #[.int .i64 q.s, .int .i64 q.o, .int .i64 q.l, .int .i64 q.p, .int .i64 q.m])) (hy := fun w hSw => by
   have q0 := hSw
   obtain ⟨q00, q01, q02, q03, q04⟩ := Kn.own5 q0
   clear q0
   go_simp) ?_
  refine tS 1 8 ?_
  refine Kn.takeR 2 ⟨none, _, _, _, _, _⟩ fun K hK => ?_
  refine step_store_own rfl 32 (.tmp 9) (.tmp 36) rfl f9 [.int .i64 0, .int .i64 0, .int .i64 0, .int .i64 0, .int .i64 0] [.int .i64 q.s, .int .i64 q.o, .int .i64 q.l, .int .i64 q.p, .int .i64 q.m] (by kernel_rfl) rfl rfl (HY.out.boxi 0 rfl) rfl (by intro u hu; simp at hu; rcases hu with rfl | rfl | rfl | rfl | rfl <;> rfl) ?_
  intro wy ho hO
  have HY2 := hH (HY.out.call1 0 rfl ho hO)
  clear ho hO HY
  refine hK.out _ _ (HY2.out.boxi 1 rfl) (fun hSn => ?_)
  clear hK K hSw0
  have hSw0 := hSn
  clear hSn
  refine tS 3 10 ?_
  refine tD ?_ _
  clear hSw0
  have bn := HY2.out.boxi 0 rfl
  obtain ⟨n0, n1, n2, n3, n4⟩ := Kn.own5 bn
  clear bn
  go_wp2
  (try simp only [Exit.inBlock, Exit.then])
  refine bodyPost_ret (v := .tuple #[.slice none 0 0, .agg #[.int .i64 q.s, .int .i64 q.o, .int .i64 q.l, .int .i64 q.p, .int .i64 q.m], .int .i64 0]) ?_ rfl ?_
  ·simp only [results, HRES.out]
   go_simp
  rw [HSC.out]
  exact ⟨[], none, 0, [], rfl, rfl, by simp, HCE.out _ _ [] (HY2.out.sub (L' := L) (.cons _ (.cons _ (.cons _ (List.Sublist.refl _)))) (fun f hf => hf))⟩
 have hdb : decide (0 ≤ q.s ∧ q.s ≤ cf.s - 1) = false := decide_eq_false hin
 have HSC : Hid (scanR d cf false q = ([], q, 0)) := hH (by unfold scanR; rw [scanB_no (fun h => hin h.1)]; rfl)
 go_wp2_with fail
 refine (within_any _ _ _ _).mono ?_
 rintro en wx ⟨rfl, rfl⟩
 rw [hdb]
 clear hdb q0 q1 q2 q3 q4 e0 e1 e2
 go_wp2_with fail
 have HY := hH HW1.out.drew
 clear HW1
 refine wp_region_held_drew (S := (fun w' => Kn.Own w' f6 [.int .i64 q.s, .int .i64 q.o, .int .i64 q.l, .int .i64 q.p, .int .i64 q.m])) (by kernel_rfl) (HY.out.boxi 1 rfl) (fun hSw0 => ?_)
 generalize w1.drew = wz at *
 refine tS 0 36 (v := (.agg #[.int .i64 q.s, .int .i64 q.o, .int .i64 q.l, .int .i64 q.p, .int .i64 q.m])) (hy := fun w hSw => by
  have q0 := hSw
  obtain ⟨q00, q01, q02, q03, q04⟩ := Kn.own5 q0
  clear q0
  go_simp) ?_
 refine tS 1 8 ?_
 refine Kn.takeR 2 ⟨none, _, _, _, _, _⟩ fun K hK => ?_
 refine step_store_own rfl 32 (.tmp 9) (.tmp 36) rfl f9 [.int .i64 0, .int .i64 0, .int .i64 0, .int .i64 0, .int .i64 0] [.int .i64 q.s, .int .i64 q.o, .int .i64 q.l, .int .i64 q.p, .int .i64 q.m] (by kernel_rfl) rfl rfl (HY.out.boxi 0 rfl) rfl (by intro u hu; simp at hu; rcases hu with rfl | rfl | rfl | rfl | rfl <;> rfl) ?_
 intro wy ho hO
 have HY2 := hH (HY.out.call1 0 rfl ho hO)
 clear ho hO HY
 refine hK.out _ _ (HY2.out.boxi 1 rfl) (fun hSn => ?_)
 clear hK K hSw0
 have hSw0 := hSn
 clear hSn
 refine tS 3 10 ?_
 refine tD ?_ _
 clear hSw0
 have bn := HY2.out.boxi 0 rfl
 obtain ⟨n0, n1, n2, n3, n4⟩ := Kn.own5 bn
 clear bn
 go_wp2
 (try simp only [Exit.inBlock, Exit.then])
 refine bodyPost_ret (v := .tuple #[.slice none 0 0, .agg #[.int .i64 q.s, .int .i64 q.o, .int .i64 q.l, .int .i64 q.p, .int .i64 q.m], .int .i64 0]) ?_ rfl ?_
 ·simp only [results, HRES.out]
  go_simp
 rw [HSC.out]
 exact ⟨[], none, 0, [], rfl, rfl, by simp, HCE.out _ _ [] (HY2.out.sub (L' := L) (.cons _ (.cons _ (.cons _ (List.Sublist.refl _)))) (fun f hf => hf))⟩
end Go.Proofs.YtgcfdjcpcclcjaaGreat
namespace Go.Kn
open Go Go.RowKit
/-- sectors with rows of 64 bytes laid over them from one on -/
def setSecs (s : List (List UInt8)) (a : Nat) (b : List UInt8) : Nat → List (List UInt8)
 | 0 => s
 | i + 1 => (setSecs s a b i).set (a + i) ((b.drop (64 * i)).take 64)
@[simp] theorem setSecs_length (s : List (List UInt8)) (a : Nat) (b : List UInt8) : ∀ n, (setSecs s a b n).length = s.length
 | 0 => rfl
 | n + 1 => by rw [setSecs, List.length_set, setSecs_length s a b n]
theorem setSecs_other (s : List (List UInt8)) (a : Nat) (b : List UInt8) (k : Nat) : ∀ n, k < a ∨ a + n ≤ k → (setSecs s a b n)[k]? = s[k]?
 | 0, _ => rfl
 | n + 1, h => by rw [setSecs, List.getElem?_set_ne (by omega), setSecs_other s a b k n (by omega)]
theorem setSecs_at (s : List (List UInt8)) (a : Nat) (b : List UInt8) (i : Nat) : ∀ n, i < n → a + i < s.length → (setSecs s a b n)[a + i]? = some ((b.drop (64 * i)).take 64)
 | 0, h, _ => absurd h (by omega)
 | n + 1, h, hl => by
  rw [setSecs]
  by_cases e : i = n
  ·subst e
   rw [List.getElem?_set_self (by rw [setSecs_length]; exact hl)]
  rw [List.getElem?_set_ne (by omega), setSecs_at s a b i n (by omega) hl]
/-- a disk with power and no faults -/
structure Rdy (d : Dk) : Prop where
 ok : d.Ok
 live : d.Live
 bad : ∀ x, d.bad x = false
section
variable {d d' : Dk} {a : Int} {b : List UInt8} {n : Nat}
theorem Rdy.new {n : Nat} (h1 : 1 ≤ n) (h2 : n ≤ 4096) : Rdy (Dk.new n) := ⟨Dk.new_ok h1 h2, ⟨rfl, rfl⟩, fun x => by
 unfold Dk.bad Dk.new
 simp only
 rw [List.getD_eq_getElem?_getD, List.getElem?_replicate]
 split <;> rfl⟩
theorem Rdy.err (h : Rdy d) (x : Int) : d.err x = if d.has x = true then 0 else 1 := by
 unfold Dk.err
 rw [h.live.off, h.bad x]
 rfl
theorem Rdy.err0 (h : Rdy d) {x : Int} (hx : d.has x = true) : d.err x = 0 := by rw [h.err, if_pos hx]
theorem has_of {x : Int} (h0 : 0 ≤ x) (h1 : x < d.safe.length) : d.has x = true := by
 unfold Dk.has
 exact decide_eq_true ⟨h0, h1⟩
theorem Dk.write_go (hl : d.Live) (hh : d.has a = true) (hb : b.length = 64) : d.write a b = (d.wrote a b, 0) := by
 unfold Dk.write
 rw [hh, hb, hl.gone]
 rfl
theorem Rdy.write (h : Rdy d) (hh : d.has a = true) (hb : b.length = 64) : Rdy (d.write a b).1 ∧ (d.write a b).1.now = d.now.set a.toNat b ∧ (d.write a b).1.safe.length = d.safe.length := by
 have e := Dk.write_go h.live hh hb
 have hl := h.live.write a b
 rw [e] at hl ⊢
 exact ⟨⟨h.ok.wrote hh hb, hl, h.bad⟩, Dk.now_wrote d a b, rfl⟩
theorem Rdy.wrs (h : Rdy d) (ha : 0 ≤ a) (hb : 64 * n ≤ b.length) (hr : a + n ≤ d.safe.length) : ∀ i, i ≤ n → Rdy (d.wrs a b i) ∧ (d.wrs a b i).now = setSecs d.now a.toNat b i ∧ (d.wrs a b i).safe.length = d.safe.length
 | 0, _ => ⟨h, rfl, rfl⟩
 | i + 1, hi => by
  obtain ⟨h1, h2, h3⟩ := Rdy.wrs h ha hb hr i (by omega)
  have hw := h1.write (a := a + (i : Nat)) (b := (b.drop (64 * i)).take 64) (has_of (by omega) (by rw [h3]; omega)) (by rw [List.length_take, List.length_drop]; omega)
  refine ⟨hw.1, ?_, hw.2.2.trans h3⟩
  show ((d.wrs a b i).write (a + (i : Nat)) ((b.drop (64 * i)).take 64)).1.now = _
  rw [hw.2.1, h2, setSecs, show (a + (i : Nat)).toNat = a.toNat + i from by omega]
/-- what is put is on the disk -/
theorem Rdy.puts (h : Rdy d) (ha : 0 ≤ a) (hb : b.length = 64 * n) (hr : a + n ≤ d.safe.length) : Rdy (d.puts a b) ∧ (d.puts a b).now = setSecs d.now a.toNat b n ∧ (d.puts a b).safe.length = d.safe.length := by
 have hn : b.length / 64 = n := by omega
 obtain ⟨h1, h2, h3⟩ := h.wrs (b := b) ha (by omega) hr n (Nat.le_refl _)
 have hp : d.puts a b = (d.wrs a b n).flushed := by
  unfold Dk.puts
  rw [hn, h1.live.flush.1]
 have hnow : (d.wrs a b n).flushed.now = (d.wrs a b n).now := rfl
 have hsl : (d.wrs a b n).flushed.safe.length = (d.wrs a b n).safe.length := by show (d.wrs a b n).now.length = _; rw [Dk.now_length]
 rw [hp]
 exact ⟨⟨h1.ok.flushed, h1.live.flush.2.1, h1.bad⟩, hnow.trans h2, hsl.trans h3⟩
/-- some sectors are on both disks as they are -/
def Agr (d d' : Dk) (lo hi : Int) : Prop := ∀ x, lo ≤ x → x < hi → d'.err x = d.err x ∧ d'.read x = d.read x
theorem Agr.sub {lo hi lo' hi' : Int} (h : Agr d d' lo hi) (h1 : lo ≤ lo') (h2 : hi' ≤ hi) : Agr d d' lo' hi' := fun x hx hy => h x (by omega) (by omega)
theorem Agr.trans {d'' : Dk} {lo hi : Int} (h : Agr d d' lo hi) (k : Agr d' d'' lo hi) : Agr d d'' lo hi := fun x hx hy => ⟨(k x hx hy).1.trans (h x hx hy).1, (k x hx hy).2.trans (h x hx hy).2⟩
theorem read_now (h : Rdy d) (h' : Rdy d') (hs : d'.safe.length = d.safe.length) {x : Int} (hx : d'.now[x.toNat]? = d.now[x.toNat]?) : d'.err x = d.err x ∧ d'.read x = d.read x := by
 have hh : d'.has x = d.has x := by unfold Dk.has; rw [hs]
 have he : d'.err x = d.err x := by rw [h'.err, h.err, hh]
 refine ⟨he, ?_⟩
 unfold Dk.read
 rw [he]
 have : d'.sector x = d.sector x := by
  unfold Dk.sector
  rw [List.getD_eq_getElem?_getD, List.getD_eq_getElem?_getD, hx]
 rw [this]
theorem Rdy.puts_agr (h : Rdy d) (ha : 0 ≤ a) (hb : b.length = 64 * n) (hr : a + n ≤ d.safe.length) {lo hi : Int} (hlo : 0 ≤ lo) (hx : hi ≤ a ∨ a + n ≤ lo) : Agr d (d.puts a b) lo hi := by
 obtain ⟨h1, h2, h3⟩ := h.puts ha hb hr
 intro x hx1 hx2
 refine read_now h h1 h3 ?_
 rw [h2]
 exact setSecs_other _ _ _ _ _ (by omega)
theorem Rdy.read_sec (h : Rdy d) {x : Int} (hx : d.has x = true) {s : List UInt8} (hs : d.now[x.toNat]? = some s) : d.read x = s := by
 unfold Dk.read
 rw [if_pos (h.err0 hx)]
 unfold Dk.sector
 rw [List.getD_eq_getElem?_getD, hs, Option.getD_some]
theorem rdy_gerr (h : Rdy d) (ha : 0 ≤ a) : ∀ n : Nat, a + n ≤ d.safe.length → gerr d a n = 0
 | 0, _ => rfl
 | n + 1, hr => by
  have h1 := rdy_gerr h ha n (by omega)
  rw [gerr_succ, if_pos h1]
  exact h.err0 (has_of (by omega) (by omega))
theorem chunks (b : List UInt8) : ∀ n : Nat, 64 * n ≤ b.length → (List.range n).flatMap (fun i => (b.drop (64 * i)).take 64) = b.take (64 * n)
 | 0, _ => by simp
 | n + 1, h => by
  rw [List.range_succ, List.flatMap_append, chunks b n (by omega), List.flatMap_cons, List.flatMap_nil, List.append_nil, Nat.mul_succ, List.take_add]
theorem Rdy.puts_gat (h : Rdy d) (ha : 0 ≤ a) (hb : b.length = 64 * n) (hr : a + n ≤ d.safe.length) : gat (d.puts a b) a n = b ∧ gerr (d.puts a b) a n = 0 := by
 obtain ⟨h1, h2, h3⟩ := h.puts ha hb hr
 refine ⟨?_, rdy_gerr h1 ha n (by rw [h3]; exact hr)⟩
 have : ∀ m : Nat, m ≤ n → gat (d.puts a b) a m = (List.range m).flatMap (fun i => (b.drop (64 * i)).take 64) := by
  intro m
  induction m with
  | zero => intro _; rfl
  | succ m ih =>
   intro hm
   rw [gat_succ, ih (by omega), List.range_succ, List.flatMap_append, List.flatMap_cons, List.flatMap_nil, List.append_nil]
   congr 1
   refine h1.read_sec (has_of (by omega) (by rw [h3]; omega)) ?_
   rw [h2, show (a + (m : Nat)).toNat = a.toNat + m from by omega]
   exact setSecs_at _ _ _ _ _ (by omega) (by rw [Dk.now_length]; omega)
 replace this := this n (Nat.le_refl _)
 rw [this, chunks b n (by omega), List.take_of_length_le (by omega)]
theorem gat_agr {lo hi : Int} (h : Agr d d' lo hi) (hlo : lo ≤ a) : ∀ n : Nat, a + n ≤ hi → gat d' a n = gat d a n ∧ gerr d' a n = gerr d a n
 | 0, _ => ⟨rfl, rfl⟩
 | n + 1, hr => by
  obtain ⟨h1, h2⟩ := gat_agr h hlo n (by omega)
  obtain ⟨h3, h4⟩ := h (a + (n : Nat)) (by omega) (by omega)
  exact ⟨by rw [gat_succ, gat_succ, h1, h4], by rw [gerr_succ, gerr_succ, h2, h3]⟩
/-- .. even if behind the record they are others -/
theorem follow_agr2 {c : Cf} {q q' : Ps} {r : Rc} {e : Int} {lo hi : Int} (h : Agr d d' lo hi) (hlo : lo ≤ c.at_ q.s + q.o) (hf : follow d c q = (some (r, q'), e)) (hhi : c.at_ q.s + q'.o ≤ hi) : follow d' c q = (some (r, q'), e) := by
 have hf0 := hf
 obtain ⟨_, hp, _, _⟩ := follow_place hf0
 have hn : q'.o = q.o + (sizeRc (d.read (c.at_ q.s + q.o)) : Nat) := by
  unfold follow at hf
  split at hf
  ·split at hf
   ·split at hf
    ·cases hf
    split at hf
    ·split at hf
     ·cases hf
     split at hf
     ·injection hf with h1 h2
      injection h1 with h1
      injection h1 with h1 h3
      rw [← h3]
     cases hf
    cases hf
   cases hf
  cases hf
 obtain ⟨h1, h2⟩ := h (c.at_ q.s + q.o) hlo (by omega)
 obtain ⟨h3, h4⟩ := gat_agr h hlo (sizeRc (d.read (c.at_ q.s + q.o))) (by omega)
 rw [← hf0]
 unfold follow
 rw [h1, h2, h3, h4]
end
theorem rcHd_take (b : List UInt8) : rcHd (b.take 64) = rcHd b ∧ rcK (b.take 64) = rcK b := by
 have h1 : (b.take 64).take 2 = b.take 2 := by rw [List.take_take]; rfl
 have h2 : ((b.take 64).drop 14).take 1 = (b.drop 14).take 1 := by rw [List.drop_take, List.take_take]; rfl
 have h3 : ((b.take 64).drop 15).take 1 = (b.drop 15).take 1 := by rw [List.drop_take, List.take_take]; rfl
 unfold rcHd rcN rcK
 rw [h1, h2, h3]
 exact ⟨rfl, rfl⟩
theorem sizeRc_laid {r : Rc} (h : rcMay r = true) : sizeRc ((rcBytes r).take 64) = 1 + r.bl.length := by
 obtain ⟨h1, h2⟩ := rcOf_bytes h
 have hl := rcBytes_length h
 obtain ⟨⟨hm, hn, hp, h3, h6⟩, hi, hb, hf⟩ := rcMay_iff.1 h
 have hk : r.bl.length ≤ 6 := by have := loads_le r.its; omega
 obtain ⟨t1, t2⟩ := rcHd_take (rcBytes r)
 unfold rcFit at h2
 simp only [Bool.and_eq_true, decide_eq_true_eq] at h2
 unfold sizeRc
 rw [t1, t2, if_pos ⟨by rw [List.length_take]; omega, h2.1⟩, rcK_bytes hk]
/-- the record that was laid at a place follows it -/
theorem follow_laid {d : Dk} {c : Cf} {q : Ps} {r : Rc} (hr : rcMay r = true) (hg : gat d (c.at_ q.s + q.o) (1 + r.bl.length) = rcBytes r) (hge : gerr d (c.at_ q.s + q.o) (1 + r.bl.length) = 0) (hd : d.Ok)
  (h1 : 1 ≤ q.o) (h2 : q.o + (1 + r.bl.length : Nat) ≤ c.l) (hn : r.n = q.l) (hp : r.p = q.p) (hm : q.m ≤ r.m) : follow d c q = (some (r, ⟨q.s, q.o + (1 + r.bl.length : Nat), q.l + 1, (rcSum r : Nat), r.m⟩), 0) := by
 have he0 : d.err (c.at_ q.s + q.o) = 0 := by rw [← gerr_one]; exact gerr_le hge (by omega)
 have hs1 : d.read (c.at_ q.s + q.o) = (rcBytes r).take 64 := by
  have h64 := Dk.read_64 hd he0
  have : gat d (c.at_ q.s + q.o) (1 + r.bl.length) = d.read (c.at_ q.s + q.o) ++ gat d (c.at_ q.s + q.o + 1) r.bl.length := by
   unfold gat
   rw [Nat.add_comm 1, List.range_succ_eq_map, List.flatMap_cons, List.flatMap_map]
   congr 1
   ·simp
   congr 1
   funext i
   congr 1
   simp only [Nat.succ_eq_add_one]
   omega
  rw [← hg, this, List.take_left' h64]
 have hsz : sizeRc (d.read (c.at_ q.s + q.o)) = 1 + r.bl.length := by rw [hs1]; exact sizeRc_laid hr
 rw [follow_rec ⟨h1, by omega⟩ rfl he0 hsz (by omega) hge (by rw [hg]; exact dec_rc hr), if_pos ⟨hn, hp, hm⟩]
theorem sizeRc_zero : sizeRc (List.replicate 64 0) = 0 := by
 have : rcHd (List.replicate 64 0) = false := by decide
 unfold sizeRc
 rw [this]
 simp
theorem follow_zero {d : Dk} {c : Cf} {q : Ps} (he : d.err (c.at_ q.s + q.o) = 0) (hz : d.read (c.at_ q.s + q.o) = List.replicate 64 0) : follow d c q = (none, 0) := by
 by_cases h : 1 ≤ q.o ∧ q.o ≤ c.l - 1
 ·exact follow_size h rfl he (by rw [hz]; exact sizeRc_zero) (.inl rfl)
 exact follow_out h
/-- records that follow one another from a place on, none of which tells another segment -/
inductive Laid (d : Dk) (c : Cf) : Ps → List (Ps × Rc) → Ps → Prop
 | nil (q : Ps) : Laid d c q [] q
 | cons {q q1 q' : Ps} {r : Rc} {l : List (Ps × Rc)} : follow d c q = (some (r, q1), 0) → nextOf r = none → Laid d c q1 l q' → Laid d c q ((q, r) :: l) q'
theorem Laid.snoc {d : Dk} {c : Cf} {q q1 q2 : Ps} {r : Rc} {l : List (Ps × Rc)} (h : Laid d c q l q1) (hf : follow d c q1 = (some (r, q2), 0)) (hn : nextOf r = none) : Laid d c q (l ++ [(q1, r)]) q2 := by
 induction h with
 | nil q => exact .cons hf hn (.nil _)
 | cons h1 h2 _ ih => exact .cons h1 h2 (ih hf)
theorem Laid.place {d : Dk} {c : Cf} {q q' : Ps} {l : List (Ps × Rc)} (h : Laid d c q l q') : q'.s = q.s ∧ q.o + l.length ≤ q'.o := by
 induction h with
 | nil q => simp
 | cons h1 h2 _ ih =>
  obtain ⟨e1, e2, _, _⟩ := follow_place h1
  rw [List.length_cons]
  exact ⟨ih.1.trans e1, by omega⟩
theorem Laid.scan {d : Dk} {c : Cf} {q q' : Ps} {l : List (Ps × Rc)} (h : Laid d c q l q') : ∀ k, scanG d c (k + l.length) q = (l ++ (scanG d c k q').1, (scanG d c k q').2) := by
 induction h with
 | nil q => intro k; rfl
 | cons h1 h2 _ ih =>
  intro k
  rw [List.length_cons, ← Nat.add_assoc, scanG_some h1, h2]
  simp only [Option.isSome_none, Bool.false_eq_true, if_false]
  rw [ih k]
  rfl
theorem Laid.agr {d d' : Dk} {c : Cf} {q q' : Ps} {l : List (Ps × Rc)} {lo hi : Int} (h : Laid d c q l q') (ha : Agr d d' lo hi) (hlo : lo ≤ c.at_ q.s + q.o) (hhi : c.at_ q.s + q'.o ≤ hi) : Laid d' c q l q' := by
 induction h with
 | nil q => exact .nil q
 | cons h1 h2 h3 ih =>
  obtain ⟨e1, e2, _, _⟩ := follow_place h1
  obtain ⟨e3, e4⟩ := h3.place
  refine .cons (follow_agr2 ha hlo h1 (by omega)) h2 (ih (by rw [e1]; omega) (by rw [e1]; omega))
/-- gone through to its end -/
theorem Laid.told {d : Dk} {c : Cf} {q q' : Ps} {l : List (Ps × Rc)} {e : Int} (h : Laid d c q l q') (hq : 1 ≤ q.o) (hq' : q'.o ≤ 64) (hf : follow d c q' = (none, e)) : scanG d c 65 q = (l, q', e) := by
 obtain ⟨_, h2⟩ := h.place
 obtain ⟨k, hk⟩ : ∃ k, 65 = k + 1 + l.length := ⟨64 - l.length, by omega⟩
 rw [hk, h.scan (k + 1), scanG_none hf, List.append_nil]
end Go.Kn
namespace Go.Kn
open Go Go.RowKit
/-- the next segment that a list of records tells at its end -/
def nextIn (c : Cf) (l : List (Ps × Rc)) : Option Int := (l.getLast?.bind fun x => nextOf x.2).filter fun v => decide (v ≤ c.s - 1)
def turnP (q : Ps) (v : Int) : Ps := ⟨v, 0, q.l, q.p, q.m⟩
def onP (c : Cf) (r : Rc) (q : Ps) : Ps × Bool := match (nextOf r).filter (fun v => decide (v ≤ c.s - 1)) with
 | some v => (turnP q v, true)
 | none => (q, false)
def chainG (d : Dk) (c : Cf) : Nat → Ps → List (Ps × Rc) × Ps × Int
 | 0, p => ([], p, 0)
 | k + 1, p => match nextIn c (scanR d c false p).1 with
  | some v => ((scanR d c false p).1 ++ (chainG d c k (turnP (scanR d c false p).2.1 v)).1, (chainG d c k (turnP (scanR d c false p).2.1 v)).2)
  | none => scanR d c false p
def ChEnds (d : Dk) (c : Cf) : Nat → Ps → Prop
 | 0, _ => False
 | k + 1, p => match nextIn c (scanR d c false p).1 with
  | some v => ChEnds d c k (turnP (scanR d c false p).2.1 v)
  | none => True
theorem chainG_some {d : Dk} {c : Cf} {k : Nat} {p : Ps} {v : Int} (h : nextIn c (scanR d c false p).1 = some v) : chainG d c (k + 1) p = ((scanR d c false p).1 ++ (chainG d c k (turnP (scanR d c false p).2.1 v)).1, (chainG d c k (turnP (scanR d c false p).2.1 v)).2) := by rw [chainG, h]
theorem chainG_none {d : Dk} {c : Cf} {k : Nat} {p : Ps} (h : nextIn c (scanR d c false p).1 = none) : chainG d c (k + 1) p = scanR d c false p := by rw [chainG, h]
theorem chEnds_some {d : Dk} {c : Cf} {k : Nat} {p : Ps} {v : Int} (h : nextIn c (scanR d c false p).1 = some v) : ChEnds d c (k + 1) p ↔ ChEnds d c k (turnP (scanR d c false p).2.1 v) := by rw [ChEnds, h]
theorem chEnds_none {d : Dk} {c : Cf} {k : Nat} {p : Ps} (h : nextIn c (scanR d c false p).1 = none) : ChEnds d c (k + 1) p := by rw [ChEnds, h]; trivial
theorem nextIn_nil (c : Cf) : nextIn c [] = none := rfl
theorem nextIn_snoc (c : Cf) (l : List (Ps × Rc)) (x : Ps × Rc) : nextIn c (l ++ [x]) = (nextOf x.2).filter fun v => decide (v ≤ c.s - 1) := by simp [nextIn]
theorem onP_some {c : Cf} {r : Rc} {q : Ps} {v : Int} (h : nextOf r = some v) (hv : v ≤ c.s - 1) : onP c r q = (turnP q v, true) := by
 unfold onP
 have e : (nextOf r).filter (fun v => decide (v ≤ c.s - 1)) = some v := by rw [h]; simp [Option.filter, hv]
 rw [e]
theorem onP_far {c : Cf} {r : Rc} {q : Ps} {v : Int} (h : nextOf r = some v) (hv : ¬ v ≤ c.s - 1) : onP c r q = (q, false) := by
 unfold onP
 have e : (nextOf r).filter (fun v => decide (v ≤ c.s - 1)) = none := by rw [h]; simp [Option.filter, hv]
 rw [e]
theorem onP_none {c : Cf} {r : Rc} {q : Ps} (h : nextOf r = none) : onP c r q = (q, false) := by
 unfold onP
 rw [h]
 rfl
/-- the place behind the last that is told is where the next is sought -/
theorem scanG_last {d : Dk} {c : Cf} : ∀ (k : Nat) (p : Ps) (l : List (Ps × Rc)) (x : Ps × Rc), (scanG d c k p).1 = l ++ [x] → follow d c x.1 = (some (x.2, (scanG d c k p).2.1), 0) ∧ ((nextOf x.2).isSome → (scanG d c k p).2.2 = 0)
 | 0, _, l, x, h => by simp [scanG] at h
 | k + 1, p, l, x, h => by
  rcases hf : follow d c p with ⟨_ | ⟨r, q⟩, e⟩
  ·rw [scanG_none hf] at h; simp at h
  obtain ⟨_, _, _, rfl⟩ := follow_place hf
  rw [scanG_some hf] at h ⊢
  cases hn : (nextOf r).isSome with
  | true =>
   rw [hn, if_pos rfl] at h
   rw [if_pos rfl]
   simp only at h ⊢
   cases l with
   | nil =>
    simp only [List.nil_append, List.cons.injEq, and_true] at h
    subst h
    exact ⟨hf, fun _ => trivial⟩
   | cons y l => simp at h
  | false =>
   rw [hn, if_neg (by simp)] at h
   rw [if_neg (by simp)]
   simp only at h ⊢
   cases l with
   | nil =>
    simp only [List.nil_append, List.cons.injEq] at h
    obtain ⟨rfl, h2⟩ := h
    refine ⟨?_, fun h => by rw [hn] at h; cases h⟩
    cases k with
    | zero => exact hf
    | succ k =>
     rcases hf2 : follow d c q with ⟨_ | ⟨r2, q2⟩, e2⟩
     ·rw [scanG_none hf2]; exact hf
     rw [scanG_some hf2] at h2
     split at h2 <;> simp at h2
   | cons y l =>
    simp only [List.cons_append, List.cons.injEq] at h
    exact scanG_last k q l x h.2
theorem scanR_last {d : Dk} {c : Cf} {own : Bool} {p : Ps} {l : List (Ps × Rc)} {x : Ps × Rc} (h : (scanR d c own p).1 = l ++ [x]) : follow d c x.1 = (some (x.2, (scanR d c own p).2.1), 0) ∧ ((nextOf x.2).isSome → (scanR d c own p).2.2 = 0) := by
 unfold scanR at h ⊢
 split
 ·rename_i hb
  rw [if_pos hb] at h
  exact scanG_last _ _ _ _ h
 rename_i hb
 rw [if_neg hb] at h
 simp at h
theorem follow_num {d : Dk} {c : Cf} {p q : Ps} {r : Rc} {e : Int} (h : follow d c p = (some (r, q), e)) : r.n = p.l ∧ q.l = p.l + 1 ∧ 1 ≤ p.l ∧ p.l ≤ 2147483647 ∧ r.p = p.p ∧ q.m = r.m ∧ p.m ≤ r.m ∧ q.p = (rcSum r : Nat) ∧ rcMay r = true := by
 unfold follow at h
 split at h
 ·split at h
  ·split at h
   ·cases h
   split at h
   ·split at h
    ·cases h
    rename_i r' s hd
    split at h
    ·rename_i hc
     injection h with h1 h2
     injection h1 with h1
     injection h1 with h1 h3
     subst h1
     obtain ⟨he, _, _⟩ := encRc_of_dec hd
     obtain ⟨hm, hs, _, _, _, _, hn, _⟩ := enc_some he
     obtain ⟨_, _, hs⟩ := of_enc he
     subst h3
     refine ⟨hc.1, rfl, by omega, by omega, hc.2.1, rfl, by have := hc.2.2; omega, ?_, hm⟩
     simp only
     rw [hs]
    cases h
   cases h
  cases h
 cases h
/-- numbers rise by one along what is told -/
theorem scanG_num {d : Dk} {c : Cf} : ∀ (k : Nat) (p : Ps), (scanG d c k p).2.1.l = p.l + ((scanG d c k p).1.length : Nat) ∧ (∀ i (h : i < (scanG d c k p).1.length), ((scanG d c k p).1[i]).1.l = p.l + (i : Nat) ∧ ((scanG d c k p).1[i]).2.n = p.l + (i : Nat) ∧ 1 ≤ p.l ∧ p.l + (i : Nat) ≤ 2147483647 ∧ ((scanG d c k p).1[i]).2.p = ((scanG d c k p).1[i]).1.p)
 | 0, p => by simp [scanG]
 | k + 1, p => by
  rcases hf : follow d c p with ⟨_ | ⟨r, q⟩, e⟩
  ·rw [scanG_none hf]; simp
  obtain ⟨h1, h2, h3, h4, h5, _⟩ := follow_num hf
  rw [scanG_some hf]
  split
  ·refine ⟨by simp only [List.length_cons, List.length_nil]; omega, fun i hi => ?_⟩
   obtain rfl : i = 0 := by simp at hi; omega
   simp only [g0]
   exact ⟨by simp, by simp [h1], by omega, by simpa using h4, h5⟩
  obtain ⟨g1, g2⟩ := scanG_num k q
  refine ⟨by simp only [List.length_cons]; rw [g1, h2]; push_cast; omega, fun i hi => ?_⟩
  cases i with
  | zero =>
   simp only [g0]
   exact ⟨by simp, by simp [h1], by omega, by simpa using h4, h5⟩
  | succ i =>
   obtain ⟨a1, a2, a3, a4, a5⟩ := g2 i (by simpa using hi)
   simp only [List.getElem_cons_succ]
   rw [h2] at a1 a2 a4
   exact ⟨by rw [a1]; push_cast; omega, by rw [a2]; push_cast; omega, by omega, by push_cast; omega, a5⟩
theorem scanB_num {d : Dk} {c : Cf} {p : Ps} : (scanB d c false p).1.l = p.l := by
 unfold scanB
 split
 ·split
  ·rfl
  split
  ·split
   ·rfl
   split
   ·rename_i hd hf
    rw [Bool.false_or] at hf
    unfold headFits at hf
    simp only [Bool.and_eq_true, beq_iff_eq] at hf
    exact hf.1.1.2
   rfl
  rfl
 rfl
theorem scanR_num {d : Dk} {c : Cf} (p : Ps) : (scanR d c false p).2.1.l = p.l + ((scanR d c false p).1.length : Nat) ∧ (∀ i (h : i < (scanR d c false p).1.length), ((scanR d c false p).1[i]).1.l = p.l + (i : Nat) ∧ ((scanR d c false p).1[i]).2.n = p.l + (i : Nat) ∧ 1 ≤ p.l ∧ p.l + (i : Nat) ≤ 2147483647 ∧ ((scanR d c false p).1[i]).2.p = ((scanR d c false p).1[i]).1.p) := by
 have hb := scanB_num (d := d) (c := c) (p := p)
 unfold scanR
 split
 ·have h := scanG_num (d := d) (c := c) 65 (scanB d c false p).1
  rw [hb] at h
  exact h
 refine ⟨by simp [hb], fun i hi => by simp at hi⟩
theorem nextIn_last {c : Cf} {l : List (Ps × Rc)} {v : Int} (h : nextIn c l = some v) : ∃ l' x, l = l' ++ [x] ∧ nextOf x.2 = some v ∧ v ≤ c.s - 1 := by
 rcases List.eq_nil_or_concat l with rfl | ⟨l', x, rfl⟩
 ·simp [nextIn] at h
 rw [List.concat_eq_append] at h ⊢
 rw [nextIn_snoc, Option.filter_eq_some_iff] at h
 exact ⟨l', x, rfl, h.1, by simpa using h.2⟩
/-- a log ends: its numbers have an end -/
theorem chEnds_all (d : Dk) (c : Cf) : ∀ (k : Nat) (p : Ps), 2147483648 - p.l ≤ (k : Int) → ChEnds d c (k + 1) p
 | k, p, hk => by
  cases hn : nextIn c (scanR d c false p).1 with
  | none => exact chEnds_none hn
  | some v =>
   rw [chEnds_some hn]
   obtain ⟨l', x, hl, _, _⟩ := nextIn_last hn
   obtain ⟨h1, h2⟩ := scanR_num (d := d) (c := c) p
   have hlen : 0 < (scanR d c false p).1.length := by rw [hl]; simp
   have h3 := (h2 0 hlen).2.2.2
   cases k with
   | zero => simp at h3; omega
   | succ k =>
    refine chEnds_all d c k _ ?_
    show 2147483648 - (scanR d c false p).2.1.l ≤ _
    omega
theorem chEnds_some_k (d : Dk) (c : Cf) (p : Ps) : ChEnds d c ((2147483648 - p.l).toNat + 1) p := chEnds_all d c _ p (by omega)
end Go.Kn
namespace Go.Kn
open Go Go.RowKit
theorem GeoAt.keep {S : List Nat} {w w' : World} {p : Nat} {b s l : Int} (h : GeoAt w p b s l) (hO : Only S w w') (hp : p ∉ S) : GeoAt w' p b s l := ⟨hO.cell h.c0 hp, hO.cell h.c1 hp, hO.cell h.c2 hp⟩
end Go.Kn
namespace Go.Proofs.YtgcfdjcpcclcjaaGreat
open Go Go.RowKit Go.Kn
theorem geom_new_any (b s l : Int) (w : World) (hb : CfOk b s l) :
  Calls Tryz.prog 75 #[.agg #[.int .i64 b, .int .i64 s, .int .i64 l]] w fun e w' => ∃ p, e = .returned (.tuple #[.pointer (some ⟨p, 0, none⟩), .int .i64 0]) ∧ w.heap.size ≤ p ∧ GeoAt w' p b s l ∧ Only [] w w' := by
 obtain ⟨h1, h2, h3⟩ := hb
 have H1 : Hid (decide (1 ≤ b ∧ b ≤ 64) = true) := hH (decide_eq_true h1)
 have H2 : Hid (decide (8 ≤ s ∧ s ≤ 32) = true) := hH (decide_eq_true h2)
 have H3 : Hid (decide (24 ≤ l ∧ l ≤ 64) = true) := hH (decide_eq_true h3)
 clear h1 h2 h3
 go_enter Tryz.func75, Tryz.ntmps75
 go_wp2_with (go_at_call 140; refine (geom_within_any _ _ _ _).mono ?_; rintro e w' ⟨rfl, rfl⟩; first | rw [H1.out] | rw [H2.out] | rw [H3.out])
 go_ret2
 have hs : (w.alloc (.cells #[.int .i64 b, .int .i64 s, .int .i64 l] 25)).heap.size = w.heap.size + 1 := by simp
 have hO := Own.new (w.alloc (.cells #[.int .i64 b, .int .i64 s, .int .i64 l] 25)) #[.int .i64 b, .int .i64 s, .int .i64 l] 149
 rw [hs] at hO
 exact ⟨w.heap.size + 1, rfl, by omega, ⟨hO.cell 0 (by simp), hO.cell 1 (by simp), hO.cell 2 (by simp)⟩, ((Only.refl _ _).alloc _).alloc _⟩
end Go.Proofs.YtgcfdjcpcclcjaaGreat
namespace Go.Kn
open Go Go.RowKit
def fewOne (e : KR) : Bool := decide (e.kinds.length ≤ 6 ∧ 0 ≤ e.fill ∧ e.fill ≤ 1099511627776 ∧ -1000 ≤ e.skew ∧ e.skew ≤ 1000 ∧ -1000 ≤ e.up ∧ e.up ≤ 1000)
theorem few_step {l : List KR} {j : Nat} {e : KR} (hj : j < l.length) (hal : (l.take j).all fewOne = true) (he : l[j] = e) (h : fewOne e = true) : (l.take (j + 1)).all fewOne = true := by
 rw [List.take_succ_eq_append_getElem hj, List.all_append, hal, he]
 simp [h]
theorem flatMap_get {α β : Type} (f : α → List β) (m : Nat) (hf : ∀ x, (f x).length = m) : ∀ (xs : List α) (i k : Nat) (hi : i < xs.length), k < m → (xs.flatMap f)[i * m + k]? = (f xs[i])[k]?
 | [], i, k, hi, _ => by simp at hi
 | x :: xs, 0, k, hi, hk => by
  rw [List.flatMap_cons, List.getElem?_append_left (by rw [hf]; omega)]
  simp
 | x :: xs, i + 1, k, hi, hk => by
  rw [List.flatMap_cons, List.getElem?_append_right (by rw [hf, Nat.add_mul]; omega), hf, show (i + 1) * m + k - m = i * m + k from by rw [Nat.add_mul]; omega]
  rw [flatMap_get f m hf xs i k (by simpa using hi) hk]
  simp
/-- a slice of what walk told -/
structure FdP (w : World) (A : Option Addr) (n c : Nat) (xs : List Fnd) : Prop where
 len : xs.length = n
 le : n ≤ c
 cm : c ≤ maxLen
 at_ : 0 < n → ∃ g o, A = some ⟨g, o, none⟩ ∧ ∀ i (h : i < xs.length), w.cell? ⟨g, o + i * 6, none⟩ = some (.int .i64 xs[i].p.o) ∧ w.cell? ⟨g, o + i * 6 + 1, none⟩ = some (.int .i64 xs[i].r.m) ∧ w.cell? ⟨g, o + i * 6 + 2, none⟩ = some (.int .i64 xs[i].r.n) ∧ w.cell? ⟨g, o + i * 6 + 3, none⟩ = some (.int .i64 xs[i].r.p) ∧ w.cell? ⟨g, o + i * 6 + 4, none⟩ = some (slv xs[i].s) ∧ w.cell? ⟨g, o + i * 6 + 5, none⟩ = some (slv xs[i].t)
 rc : ∀ y ∈ xs, y.fct w
structure FdR (w : World) (A : Option Addr) (n c : Nat) (xs : List Fnd) : Prop where
 len : xs.length = n
 le : n ≤ c
 cm : c ≤ maxLen
 at_ : 0 < n → ∃ g o, A = some ⟨g, o, none⟩ ∧ ∀ i (h : i < xs.length), w.cell? ⟨g, o + i * 10 + 0, none⟩ = some (.int .i64 xs[i].p.s) ∧ w.cell? ⟨g, o + i * 10 + 1, none⟩ = some (.int .i64 xs[i].p.o) ∧ w.cell? ⟨g, o + i * 10 + 5, none⟩ = some (.int .i64 xs[i].r.m) ∧ w.cell? ⟨g, o + i * 10 + 6, none⟩ = some (.int .i64 xs[i].r.n) ∧ w.cell? ⟨g, o + i * 10 + 7, none⟩ = some (.int .i64 xs[i].r.p) ∧ w.cell? ⟨g, o + i * 10 + 8, none⟩ = some (slv xs[i].s) ∧ w.cell? ⟨g, o + i * 10 + 9, none⟩ = some (slv xs[i].t)
 rc : ∀ y ∈ xs, y.fct w
theorem cells_owns {w : World} {b e sz n : Nat} {A : Option Addr} {c : Nat} {xs : List Value} (h : w.ownsRow b e sz (.slice A n c) n xs) : n ≤ c ∧ c ≤ maxLen ∧ (0 < n → ∃ g, A = some ⟨g, 0, none⟩ ∧ ∀ j u, xs[j]? = some u → w.cell? ⟨g, j, none⟩ = some u) := by
 obtain ⟨h1, h2⟩ := h
 rcases h2 with ⟨h2, h3⟩ | ⟨g, cap, cur, hv, _, hg, h5, h6, h7, h8⟩
 ·injection h2 with _ e2 e3
  exact ⟨by omega, by omega, fun hn => by omega⟩
 injection hv with e1 e2 e3
 subst e1 e3
 refine ⟨h5, h6, fun hn => ⟨g, rfl, fun j u hj => ?_⟩⟩
 rw [← h8, List.getElem?_take] at hj
 split at hj
 ·unfold World.cell?
  simp only [hg]
  simpa using hj
 cases hj
end Go.Kn
namespace Go.Proofs.YtgcfdjcpcclcjaaGreat
open Go Go.RowKit Go.Kn
theorem FdP.of_owns {w : World} {b e : Nat} {A : Option Addr} {c : Nat} {xs : List Fnd} (h : w.ownsRow b e 6 (.slice A xs.length c) xs.length (fndV xs)) (hr : ∀ y ∈ xs, y.fct w) : FdP w A xs.length c xs := by
 obtain ⟨h1, h2, h3⟩ := cells_owns h
 refine ⟨rfl, h1, h2, fun hn => ?_, hr⟩
 obtain ⟨g, rfl, hc⟩ := h3 hn
 refine ⟨g, 0, rfl, fun i hi => ?_⟩
 have hk : ∀ k, k < 6 → (fndV xs)[i * 6 + k]? = (Kn.Fnd.one xs[i])[k]? := fun k hk => flatMap_get Kn.Fnd.one 6 (fun x => rfl) xs i k hi hk
 simp only [Nat.zero_add]
 exact ⟨hc _ _ ((hk 0 (by decide)).trans rfl), hc _ _ ((hk 1 (by decide)).trans rfl), hc _ _ ((hk 2 (by decide)).trans rfl), hc _ _ ((hk 3 (by decide)).trans rfl), hc _ _ ((hk 4 (by decide)).trans rfl), hc _ _ ((hk 5 (by decide)).trans rfl)⟩
theorem FdR.of_owns {w : World} {b e : Nat} {A : Option Addr} {c : Nat} {xs : List Fnd} (h : w.ownsRow b e 10 (.slice A xs.length c) xs.length (rfndV xs)) (hr : ∀ y ∈ xs, y.fct w) : FdR w A xs.length c xs := by
 obtain ⟨h1, h2, h3⟩ := cells_owns h
 refine ⟨rfl, h1, h2, fun hn => ?_, hr⟩
 obtain ⟨g, rfl, hc⟩ := h3 hn
 refine ⟨g, 0, rfl, fun i hi => ?_⟩
 have hk : ∀ k, k < 10 → (rfndV xs)[i * 10 + k]? = (rfnd xs[i])[k]? := fun k hk => flatMap_get rfnd 10 (fun x => rfl) xs i k hi hk
 simp only [Nat.zero_add]
 exact ⟨hc _ _ ((hk 0 (by decide)).trans rfl), hc _ _ ((hk 1 (by decide)).trans rfl), hc _ _ ((hk 5 (by decide)).trans rfl), hc _ _ ((hk 6 (by decide)).trans rfl), hc _ _ ((hk 7 (by decide)).trans rfl), hc _ _ ((hk 8 (by decide)).trans rfl), hc _ _ ((hk 9 (by decide)).trans rfl)⟩
theorem alike_config_small (z0 z1 z2 : Int) (w : World) (h0 : (Lit.int .i64 z0).wf = true) (h1 : (Lit.int .i64 z1).wf = true) (h2 : (Lit.int .i64 z2).wf = true) :
    Calls Tryz.prog 31 #[.agg #[.int .i64 z0, .int .i64 z1, .int .i64 z2], .bool true] w fun e w' => e = .returned (.agg #[.int .i64 (1 + z0 % 24), .int .i64 (8 + z1 % 3), .int .i64 (24 + z2 % 4)]) ∧ Only [] w w' := by
  have H0 := hH h0
  have H1 := hH h1
  have H2 := hH h2
  have hres : Tryz.f31.results = #[.cell 4 25] := by kernel_rfl
  have HRES := hH hres
  clear h0 h1 h2 hres
  have hw0 := IntWalk.i64_in (1 + z0 % 24) (by omega)
  have hw1 := IntWalk.i64_in (8 + z1 % 3) (by omega)
  have hw2 := IntWalk.i64_in (24 + z2 % 4) (by omega)
  go_enter Tryz.func31, Tryz.ntmps31
  go_wp2_with fail
  have HW := hH (((Only.refl [] w).alloc (.cells #[.int .i64 z0, .int .i64 z1, .int .i64 z2] 71)).alloc (.cells #[.int .i64 0, .int .i64 0, .int .i64 0] 25))
  have c0 : ((w.alloc (.cells #[.int .i64 z0, .int .i64 z1, .int .i64 z2] 71)).alloc (.cells #[.int .i64 0, .int .i64 0, .int .i64 0] 25)).cell? ⟨w.heap.size, 0, none⟩ = some (.int .i64 z0) := by simp
  have c1 : ((w.alloc (.cells #[.int .i64 z0, .int .i64 z1, .int .i64 z2] 71)).alloc (.cells #[.int .i64 0, .int .i64 0, .int .i64 0] 25)).cell? ⟨w.heap.size, 1, none⟩ = some (.int .i64 z1) := by simp
  have c2 : ((w.alloc (.cells #[.int .i64 z0, .int .i64 z1, .int .i64 z2] 71)).alloc (.cells #[.int .i64 0, .int .i64 0, .int .i64 0] 25)).cell? ⟨w.heap.size, 2, none⟩ = some (.int .i64 z2) := by simp
  go_region_held3 (fun w' => w'.cell? ⟨w.heap.size, 0, none⟩ = some (.int .i64 z0) ∧ w'.cell? ⟨w.heap.size, 1, none⟩ = some (.int .i64 z1) ∧ w'.cell? ⟨w.heap.size, 2, none⟩ = some (.int .i64 z2))
    (first | exact ⟨c0, c1, c2⟩ | go_keep)
    (first
    | (go_at_call 21; refine (round_any _ _ _ (by first | exact H0.out | exact H1.out | exact H2.out) (by decide) (by decide)).mono ?_
       rintro e w' ⟨rfl, rfl⟩))
  go_wp2
  (try simp only [Exit.inBlock, Exit.then])
  refine bodyPost_ret (v := .agg #[.int .i64 (1 + z0 % 24), .int .i64 (8 + z1 % 3), .int .i64 (24 + z2 % 4)]) ?_ rfl ⟨rfl, ?_⟩
  · simp only [results, HRES.out]
    go_simp
  exact (((Only.refl _ _).alloc _).alloc _).drew
end Go.Proofs.YtgcfdjcpcclcjaaGreat
namespace Go.Kn
open Go Go.RowKit
theorem may_k (k b c v : Int) : (It.mk k b c v).may = true ↔ ((k = 1 ∨ k = 5) ∧ (0 ≤ b ∧ b ≤ 63) ∧ c = 0 ∧ v = 0) ∨ ((k = 2 ∨ k = 6) ∧ (0 ≤ b ∧ b ≤ 63) ∧ (1 ≤ c ∧ c ≤ 64 - b) ∧ v = 0) ∨ (k = 3 ∧ b = 0 ∧ c = 0 ∧ (1 ≤ v ∧ v ≤ 2147483647)) ∨ (k = 4 ∧ (0 ≤ b ∧ b ≤ 63) ∧ c = 0 ∧ (1 ≤ v ∧ v ≤ 4095)) ∨ (k = 7 ∧ b = 0 ∧ c = 0 ∧ (0 ≤ v ∧ v ≤ 31)) := by
 unfold It.may
 simp only
 split
 ·simp only [Bool.and_eq_true, decide_eq_true_eq, beq_iff_eq]; omega
 split
 ·simp only [Bool.and_eq_true, decide_eq_true_eq, beq_iff_eq]; omega
 split
 ·simp only [Bool.and_eq_true, decide_eq_true_eq, beq_iff_eq]; omega
 split
 ·simp only [Bool.and_eq_true, decide_eq_true_eq, beq_iff_eq]; omega
 split
 ·simp only [Bool.and_eq_true, decide_eq_true_eq, beq_iff_eq]; omega
 simp; omega
theorem loads_one (i : It) (h : i.may = true) : loads [i] = if i.k = 1 ∨ i.k = 4 ∨ i.k = 5 then 1 else 0 := by
 unfold loads It.loaded
 rw [List.filter_cons, h]
 by_cases h1 : i.k = 1
 ·simp [h1]
 by_cases h4 : i.k = 4
 ·simp [h4]
 by_cases h5 : i.k = 5
 ·simp [h5]
 simp [h1, h4, h5]
theorem kIt_may (z f : Int) (i : Nat) (hi : i < 6) : (kIt z f i).may = true ∧ (kIt z f i).k ≠ 7 ∧ loads [kIt z f i] = (kBl z f i).length ∧ full64 (kBl z f i) = true := by
 have hf := Int.emod_nonneg f (b := 1000) (by decide)
 have hf2 := Int.emod_lt_of_pos f (b := 1000) (by decide)
 have hfull : full64 (kBl z f i) = true := by
  unfold kBl
  split
  ·simp [full64, kBlk]
  rfl
 have h : (kIt z f i).may = true ∧ (kIt z f i).k ≠ 7 ∧ (((kIt z f i).k = 1 ∨ (kIt z f i).k = 4 ∨ (kIt z f i).k = 5) ↔ (z % 6 = 0 ∨ z % 6 = 3 ∨ z % 6 = 4)) := by
  unfold kIt
  split
  ·rename_i h
   refine ⟨(may_k _ _ _ _).2 (.inr (.inl ⟨by omega, by omega, by omega, rfl⟩)), ?_, ⟨fun hh => ?_, fun hh => ?_⟩⟩ <;> (try simp only at hh) <;> (try simp only) <;> first | omega | simp
  split
  ·refine ⟨(may_k _ _ _ _).2 (.inr (.inr (.inl ⟨rfl, rfl, rfl, by omega⟩))), ?_, ⟨fun hh => ?_, fun hh => ?_⟩⟩ <;> (try simp only at hh) <;> (try simp only) <;> first | omega | simp
  split
  ·refine ⟨(may_k _ _ _ _).2 (.inr (.inr (.inr (.inl ⟨rfl, by omega, rfl, by omega⟩)))), ?_, ⟨fun hh => ?_, fun hh => ?_⟩⟩ <;> (try simp only at hh) <;> (try simp only) <;> first | omega | simp
  rename_i h1 h2 h3
  refine ⟨(may_k _ _ _ _).2 (.inl ⟨by omega, by omega, rfl, rfl⟩), ?_, ⟨fun hh => ?_, fun hh => ?_⟩⟩ <;> (try simp only at hh) <;> (try simp only) <;> first | omega | simp
 refine ⟨h.1, h.2.1, ?_, hfull⟩
 rw [loads_one _ h.1]
 unfold kBl
 by_cases hz : z % 6 = 0 ∨ z % 6 = 3 ∨ z % 6 = 4
 ·rw [if_pos (h.2.2.2 hz), if_pos hz]; rfl
 rw [if_neg (fun hh => hz (h.2.2.1 hh)), if_neg hz]; rfl
theorem kIts_may (zs : List Int) (f : Int) : ∀ n, n ≤ 6 → (kIts zs f n).all It.may = true ∧ (∀ i ∈ kIts zs f n, i.k ≠ 7) ∧ loads (kIts zs f n) = (kBls zs f n).length ∧ full64 (kBls zs f n) = true
 | 0, _ => ⟨rfl, by simp [kIts], rfl, rfl⟩
 | n + 1, h => by
  obtain ⟨h1, h2, h3, h4⟩ := kIts_may zs f n (by omega)
  obtain ⟨g1, g2, g3, g4⟩ := kIt_may (zs.getD n 0) f n (by omega)
  refine ⟨?_, ?_, ?_, ?_⟩
  ·rw [kIts, List.all_append, h1, List.all_cons, g1]; rfl
  ·intro i hi
   rw [kIts, List.mem_append] at hi
   rcases hi with hi | hi
   ·exact h2 i hi
   rw [List.mem_singleton] at hi
   subst hi
   exact g2
  ·rw [kIts, kBls, List.length_append, loads_snoc, h3]
   have : loads [kIt (zs.getD n 0) f n] = if (kIt (zs.getD n 0) f n).loaded then 1 else 0 := by
    have := loads_snoc [] (kIt (zs.getD n 0) f n)
    simpa [loads] using this
   omega
  rw [kBls]
  unfold full64 at h4 g4 ⊢
  rw [List.all_append, h4, g4]
  rfl
/-- what a record of the kit is, behind a place -/
theorem kMade_ok (q : Ps) (zs : List Int) (f : Int) (hz : zs.length ≤ 6) (hm : 1 ≤ q.m ∧ q.m ≤ 2147483647) (hl : 1 ≤ q.l ∧ q.l ≤ 2147483647) (hp : 0 ≤ q.p ∧ q.p ≤ 4294967295) :
  rcMay (kMade q ⟨zs, f, 0, 0, 0⟩) = true ∧ (kMade q ⟨zs, f, 0, 0, 0⟩).n = q.l ∧ (kMade q ⟨zs, f, 0, 0, 0⟩).p = q.p ∧ (kMade q ⟨zs, f, 0, 0, 0⟩).m = q.m ∧ nextOf (kMade q ⟨zs, f, 0, 0, 0⟩) = none ∧ (kMade q ⟨zs, f, 0, 0, 0⟩).bl.length ≤ 6 := by
 have e1 : kMount q ⟨zs, f, 0, 0, 0⟩ = q.m := by unfold kMount; simp only; omega
 have e2 : kLsn q ⟨zs, f, 0, 0, 0⟩ = q.l := by unfold kLsn; simp only; omega
 have e3 : kPrev q ⟨zs, f, 0, 0, 0⟩ = q.p := by unfold kPrev; simp only; omega
 have hmin : min zs.length 6 = zs.length := by omega
 obtain ⟨h1, h2, h3, h4⟩ := kIts_may zs f zs.length hz
 have hit : (kItems zs f).all It.may = true ∧ (∀ i ∈ kItems zs f, i.k ≠ 7) ∧ loads (kItems zs f) = (kBlocks zs f).length ∧ (1 ≤ (kItems zs f).length ∧ (kItems zs f).length ≤ 6) := by
  unfold kItems kBlocks
  rw [hmin]
  split
  ·rename_i h0
   rw [h0]
   exact ⟨by decide, by simp, rfl, by simp⟩
  rename_i h0
  exact ⟨h1, h2, h3, by rw [kIts_length]; omega⟩
 have hfu : full64 (kBlocks zs f) = true := by unfold kBlocks; rw [hmin]; exact h4
 refine ⟨?_, e2, e3, e1, ?_, ?_⟩
 ·rw [rcMay_iff]
  refine ⟨⟨?_, ?_, ?_, ?_⟩, ?_, ?_, ?_⟩
  ·show 1 ≤ kMount q _ ∧ kMount q _ ≤ _; rw [e1]; exact hm
  ·show 1 ≤ kLsn q _ ∧ kLsn q _ ≤ _; rw [e2]; exact hl
  ·show 0 ≤ kPrev q _ ∧ kPrev q _ ≤ _; rw [e3]; exact hp
  ·exact hit.2.2.2
  ·exact hit.1
  ·exact hit.2.2.1.symm
  exact hfu
 ·rw [nextOf_eq]
  have : (kItems zs f).find? is7 = none := by
   rw [List.find?_eq_none]
   intro i hi
   have := hit.2.1 i hi
   unfold is7
   simpa using this
  show ((kItems zs f).find? is7).map _ = none
  rw [this]
  rfl
 show (kBlocks zs f).length ≤ 6
 rw [← hit.2.2.1]
 have := loads_le (kItems zs f)
 omega
/-- a segment in which records stand from one place on, noughts behind them -/
structure Lg (d : Dk) (c : Cf) (q0 : Ps) (l : List (Ps × Rc)) (q : Ps) : Prop where
 rdy : Rdy d
 len : (d.safe.length : Int) = c.sectors
 laid : Laid d c q0 l q
 zs : ∀ x, c.at_ q.s + q.o ≤ x → x < c.at_ q.s + c.l → d.read x = List.replicate 64 0
 o0 : 1 ≤ q0.o
 o1 : q.o ≤ c.l - 1
 s0 : 0 ≤ q0.s ∧ q0.s ≤ c.s - 1
theorem Cf.sec (c : Cf) (h : c.Ok) (k : Int) (h0 : 0 ≤ k) (h1 : k ≤ c.s - 1) : 2 ≤ c.at_ k ∧ c.at_ k + c.l ≤ c.sectors ∧ c.sectors ≤ 4096 := by
 obtain ⟨m1, m2⟩ := Cf.prod c h k h0 (by omega)
 obtain ⟨m3, m4⟩ := Cf.prod c h c.s (by have := h.2.1; omega) (by omega)
 have h3 := rln_bounds h
 have h4 := pgs_bounds h
 have h5 : (c.s - k) * c.l ≥ 1 * c.l := Int.mul_le_mul_of_nonneg_right (by omega) (by have := h.2.2; omega)
 rw [Int.sub_mul] at h5
 unfold Cf.at_ Cf.sectors
 rw [if_pos ⟨h0, h1⟩]
 omega
theorem Lg.none_ {d : Dk} {c : Cf} {q0 q : Ps} {l : List (Ps × Rc)} (h : Lg d c q0 l q) (hc : c.Ok) : follow d c q = (none, 0) := by
 obtain ⟨h1, h2⟩ := h.laid.place
 obtain ⟨g1, g2, g3⟩ := Cf.sec c hc q.s (by rw [h1]; exact h.s0.1) (by rw [h1]; exact h.s0.2)
 have hl := h.len
 have ho0 := h.o0
 have ho := h.o1
 exact follow_zero (h.rdy.err0 (has_of (by omega) (by omega))) (h.zs _ (Int.le_refl _) (by omega))
theorem Lg.scan {d : Dk} {c : Cf} {q0 q : Ps} {l : List (Ps × Rc)} (h : Lg d c q0 l q) (hc : c.Ok) : scanG d c 65 q0 = (l, q, 0) :=
 h.laid.told h.o0 (by have := h.o1; have := hc.2.2; omega) (h.none_ hc)
/-- one record more -/
theorem Lg.add {d : Dk} {c : Cf} {q0 q : Ps} {l : List (Ps × Rc)} (h : Lg d c q0 l q) (hc : c.Ok) {r : Rc} (hr : rcMay r = true) (hn : r.n = q.l) (hp : r.p = q.p) (hm : q.m ≤ r.m) (hx : nextOf r = none) (hf : q.o + (1 + r.bl.length : Nat) ≤ c.l - 1) :
  Lg (d.puts (c.at_ q.s + q.o) (rcBytes r)) c q0 (l ++ [(q, r)]) ⟨q.s, q.o + (1 + r.bl.length : Nat), q.l + 1, (rcSum r : Nat), r.m⟩ := by
 obtain ⟨h1, h2⟩ := h.laid.place
 obtain ⟨g1, g2, g3⟩ := Cf.sec c hc q.s (by rw [h1]; exact h.s0.1) (by rw [h1]; exact h.s0.2)
 have hl := h.len
 have ho := h.o0
 have hb := rcBytes_length hr
 have hpt := h.rdy.puts (a := c.at_ q.s + q.o) (by omega) hb (by omega)
 have hg := h.rdy.puts_gat (a := c.at_ q.s + q.o) (by omega) hb (by omega)
 refine ⟨hpt.1, by rw [hpt.2.2]; exact hl, ?_, ?_, h.o0, by simp only; omega, h.s0⟩
 ·refine (h.laid.agr (lo := c.at_ q0.s) (h.rdy.puts_agr (lo := c.at_ q0.s) (hi := c.at_ q.s + q.o) (by omega) hb (by omega) (by rw [← h1]; omega) (.inl (Int.le_refl _))) (by omega) (by rw [h1]; exact Int.le_refl _)).snoc ?_ hx
  exact follow_laid hr hg.1 hg.2 hpt.1.ok (by omega) (by omega) hn hp hm
 intro x hx1 hx2
 simp only at hx1 hx2
 have := h.rdy.puts_agr (a := c.at_ q.s + q.o) (lo := x) (hi := x + 1) (by omega) hb (by omega) (by omega) (.inr (by omega)) x (Int.le_refl _) (by omega)
 rw [this.2]
 exact h.zs x (by omega) (by omega)
theorem read_new (n : Nat) (x : Int) (hn : 1 ≤ n ∧ n ≤ 4096) (h0 : 0 ≤ x) (h1 : x < n) : (Dk.new n).read x = List.replicate 64 0 := by
 refine (Rdy.new hn.1 hn.2).read_sec (has_of h0 (by simp [Dk.new]; omega)) ?_
 show (List.replicate n (List.replicate 64 (0 : UInt8)))[x.toNat]? = _
 rw [List.getElem?_replicate, if_pos (by omega)]
/-- a new disk with a segment's head -/
theorem Lg.start (c : Cf) (hc : c.Ok) (p q : Ps) (hq : q.s = p.s) (hs : 0 ≤ p.s ∧ p.s ≤ c.s - 1) (ho : 1 ≤ q.o ∧ q.o ≤ c.l - 1) : Lg ((Dk.new c.sectors.toNat).puts (c.at_ p.s) (headB p)) c q [] q := by
 obtain ⟨g1, g2, g3⟩ := Cf.sec c hc p.s hs.1 hs.2
 have hl := hc.2.2
 have hr : Rdy (Dk.new c.sectors.toNat) := Rdy.new (by omega) (by omega)
 have hlen : (Dk.new c.sectors.toNat).safe.length = c.sectors.toNat := by simp [Dk.new]
 have hpt := hr.puts (a := c.at_ p.s) (b := headB p) (n := 1) (by omega) (headB_length p) (by omega)
 refine ⟨hpt.1, by rw [hpt.2.2, hlen]; omega, .nil q, ?_, ho.1, ho.2, by rw [hq]; exact hs⟩
 intro x hx1 hx2
 rw [hq] at hx1 hx2
 have := hr.puts_agr (a := c.at_ p.s) (b := headB p) (n := 1) (lo := x) (hi := x + 1) (by omega) (headB_length p) (by omega) (by omega) (.inr (by omega)) x (Int.le_refl _) (by omega)
 rw [this.2]
 exact read_new _ x (by omega) (by omega) (by omega)
end Go.Kn
namespace Go.Proofs.YtgcfdjcpcclcjaaGreat
open Go Go.RowKit Go.Kn
theorem _root_.Go.Kn.fc_geo {w : World} {M : Nat → Prop} {p : Nat} {b s l : Int} (h : GeoAt w p b s l) (hp : ¬ M p) : Fc w M (fun W => GeoAt W p b s l) := fun W hW => ⟨fc_cell h.c0 hp W hW, fc_cell h.c1 hp W hW, fc_cell h.c2 hp W hW⟩
def DeskSays (w0 : World) (cf : Cf) (c : Fr3) (en : Ending) (w' : World) : Prop :=
 ∃ (p : PD) (r : RD) (gb : Nat), en = .returned (.tuple #[.pointer (some ⟨p.D, 0, none⟩), .pointer (some ⟨r.M, 0, none⟩), .pointer (some ⟨gb, 0, none⟩), .bool true]) ∧ Duo w0 w' p r (Dk.new cf.sectors.toNat) (Dk.new cf.sectors.toNat) ⟨c.L, c.G, (fun W => GeoAt W gb cf.b cf.s cf.l) :: c.F⟩
end Go.Proofs.YtgcfdjcpcclcjaaGreat
namespace Go.Proofs.YtgcfdjcpcclcjaaGreat
open Go Go.RowKit Go.Kn
theorem Duo.dk {w0 w : World} {p : PD} {r : RD} {d e : Dk} {c : Fr3} (h : Duo w0 w p r d e c) : ∃ L0 G0 F0, Wc w0 w (c.L ++ L0) (c.G ++ G0) (c.F ++ F0) ∧ DkIn p d L0 ∧ ∀ w' (c' : Fr3), Wc w0 w' (c'.L ++ L0) (c'.G ++ G0) (c'.F ++ F0) → Duo w0 w' p r d e c' := by
 obtain ⟨v, v', lv, k, ls, sl, hs, hl, hm⟩ := h.mem
 have pl : ∀ L, (p.L v d (r.L v' lv sl e L)).Perm (L ++ p.L v d (r.L v' lv sl e [])) := fun L => by
  have := List.perm_append_comm (l₁ := p.L v d (r.L v' lv sl e [])) (l₂ := L)
  simpa [PD.L, RD.L] using this
 have pg : ∀ (a b x : Gs) G, (a :: b :: x :: G).Perm (G ++ [a, b, x]) := fun a b x G => by
  have := List.perm_append_comm (l₁ := [a, b, x]) (l₂ := G)
  simpa using this
 refine ⟨p.L v d (r.L v' lv sl e []), [⟨158, 65, v, d.held.length, heldV d.held⟩, ⟨175, 2, v', e.held.length, heldR e.held hs⟩, ⟨47, 1, lv, k, ls⟩], [(fun W => Bls W sl e.safe), (fun W => Bls W hs (e.held.map (·.2)))], ?_, ?_, fun w' c' h' => ?_⟩
 ·refine (hm.perm (pl _) (pg _ _ _ _)).subF ?_
  intro f hf
  rcases List.mem_append.1 hf with hf | hf
  ·exact mc _ (mc _ hf)
  simp only [List.mem_cons, List.not_mem_nil, or_false] at hf ⊢
  rcases hf with hf | hf
  ·exact .inl hf
  exact .inr (.inl hf)
 ·exact ⟨h.ok, h.N, ⟨v, by simp [PD.L]⟩, by simp [PD.L], by simp [PD.L]⟩
 refine ⟨h.ok, h.N, h.hs, h.hn, h.hf, h.ok', h.N', h.hs', h.hf', v, v', lv, k, ls, sl, hs, hl, (h'.perm (pl _).symm (pg _ _ _ _).symm).subF ?_⟩
 intro f hf
 simp only [List.mem_cons] at hf
 rcases hf with hf | hf | hf
 ·exact List.mem_append.2 (.inr (by simp [hf]))
 ·exact List.mem_append.2 (.inr (by simp [hf]))
 exact List.mem_append.2 (.inl hf)
/-- the reference's disk, seen alone; what is told beside it -/
theorem Duo.ref {w0 w : World} {p : PD} {r : RD} {d e : Dk} {c : Fr3} (h : Duo w0 w p r d e c) : ∃ c', (∀ f ∈ c.F, f ∈ c'.F) ∧ Rsk w0 w r e c' ∧ ∀ w' g fs, Rsk w0 w' r e ⟨c'.L, g :: c'.G, fs ++ c'.F⟩ → Duo w0 w' p r d e ⟨c.L, g :: c.G, fs ++ c.F⟩ := by
 obtain ⟨v, v', lv, k, ls, sl, hs, hl, hm⟩ := h.mem
 have pl : ∀ (v' lv : Value) (sl : List (Option Addr × Nat × Nat)) (e : Dk), (p.L v d (r.L v' lv sl e c.L)).Perm (r.L v' lv sl e (p.L v d c.L)) := fun v' lv sl e => by
  have := (List.perm_append_comm (l₁ := p.L v d []) (l₂ := r.L v' lv sl e [])).append_right c.L
  simpa [PD.L, RD.L] using this
 have pg : ∀ (a b x : Gs) (G : List Gs), (a :: b :: x :: G).Perm (b :: x :: a :: G) := fun a b x G => (List.Perm.swap _ _ _).trans ((List.Perm.swap _ _ _).cons _)
 have pg2 : ∀ (a b x g : Gs) (G : List Gs), (b :: x :: g :: a :: G).Perm (a :: b :: x :: g :: G) := fun a b x g G => List.perm_middle (l₁ := [b, x, g]) (a := a) (l₂ := G)
 refine ⟨⟨p.L v d c.L, ⟨158, 65, v, d.held.length, heldV d.held⟩ :: c.G, c.F⟩, fun f hf => hf, ⟨h.ok', h.N', h.hs', h.hf', v', lv, k, ls, sl, hs, hl, hm.perm (pl _ _ _ _) (pg _ _ _ _)⟩, fun w' g fs h' => ?_⟩
 obtain ⟨v2, lv2, k2, ls2, sl2, hs2, hl2, hm2⟩ := h'.mem
 exact ⟨h.ok, h.N, h.hs, h.hn, h.hf, h'.ok, h'.N, h'.hs, h'.hf, v, v2, lv2, k2, ls2, sl2, hs2, hl2, hm2.perm (pl _ _ _ _).symm (pg2 _ _ _ _ _)⟩
def DRef (w0 : World) (p : PD) (r : RD) (d e : Dk) (c : Fr3) (x : List (Ps × Rc) × Ps × Int) (en : Ending) (w' : World) : Prop :=
 ∃ (xs : List Fnd) (A : Option Addr) (k : Nat) (fs : List (World → Prop)), en = .returned (.tuple #[.slice A xs.length k, .agg #[.int .i64 x.2.1.s, .int .i64 x.2.1.o, .int .i64 x.2.1.l, .int .i64 x.2.1.p, .int .i64 x.2.1.m], .int .i64 x.2.2]) ∧ xs.map Fnd.pr = x.1 ∧ (∀ y ∈ xs, y.fct ∈ fs) ∧
  Duo w0 w' p r d e ⟨c.L, ⟨183, 10, .slice A xs.length k, xs.length, rfndV xs⟩ :: c.G, fs ++ c.F⟩
theorem duo_rscan {w0 w : World} {p : PD} {r : RD} {d e : Dk} {c : Fr3} (h : Duo w0 w p r d e c) (hh : e.held.length ≤ 1000000) {cf : Cf} (hc : cf.Ok) (q : Ps) :
  Calls Tryz.prog 36 #[.pointer (some ⟨r.M, 0, none⟩), .agg #[.int .i64 cf.b, .int .i64 cf.s, .int .i64 cf.l], .agg #[.int .i64 q.s, .int .i64 q.o, .int .i64 q.l, .int .i64 q.p, .int .i64 q.m], .int .i64 (-1)] w (DRef w0 p r d e c (scanR e cf false q)) := by
 obtain ⟨c', -, hr, back⟩ := h.ref
 refine (ref_scan_any w0 w r e c' cf q hr hh hc).mono ?_
 rintro en w1 ⟨xs, A, k, fs, rfl, hxs, hfs, h1⟩
 exact ⟨xs, A, k, fs, rfl, hxs, hfs, back w1 _ _ h1⟩
theorem Duo.put {w0 w : World} {p : PD} {r : RD} {d e : Dk} {L : List (Nat × List Value)} {G : List Gs} {F : List (World → Prop)} (h : Duo w0 w p r d e ⟨L, G, F⟩) (i : Nat) {b : Nat} {cs : List Value} (hi : L[i]? = some (b, cs)) (j : Nat) (u : Value) : Duo w0 (w.setCell ⟨b, j, none⟩ u) p r d e ⟨L.set i (b, cs.set j u), G, F⟩ := by
 obtain ⟨L0, G0, F0, hw, back⟩ := h.fr
 have hlt : i < L.length := (List.getElem?_eq_some_iff.1 hi).1
 have hw2 := hw.put i (p := b) (cs := cs) (by show (L ++ L0)[i]? = _; rw [List.getElem?_append_left hlt]; exact hi) j u
 refine back _ ⟨L.set i (b, cs.set j u), G, F⟩ ?_
 have e1 : (L ++ L0).set i (b, cs.set j u) = L.set i (b, cs.set j u) ++ L0 := by rw [List.set_append_left _ _ hlt]
 rw [← e1]
 exact hw2
theorem Duo.alloc {w0 w : World} {p : PD} {r : RD} {d e : Dk} {c : Fr3} (h : Duo w0 w p r d e c) (o : Obj) : Duo w0 (w.alloc o) p r d e c := h.keep0 ((Only.refl _ _).alloc _)
theorem Duo.drew {w0 w : World} {p : PD} {r : RD} {d e : Dk} {c : Fr3} (h : Duo w0 w p r d e c) : Duo w0 w.drew p r d e c := h.keep0 (Only.refl _ _).drew
theorem Duo.row {w0 w : World} {p : PD} {r : RD} {d e : Dk} {c : Fr3} (h : Duo w0 w p r d e c) {g : Gs} (hg : g ∈ c.G) : w.ownsRow w0.heap.size g.e g.sz g.v g.n g.xs := by
 obtain ⟨L0, G0, F0, hw, -⟩ := h.fr
 exact hw.g1 g (List.mem_append_left _ hg)
end Go.Proofs.YtgcfdjcpcclcjaaGreat
namespace Go.Kn
open Go Go.RowKit
theorem headB_dec {p : Ps} (h : headMay p.head = true) : decHead (headB p) = some p.head := by
 obtain ⟨b, h1, _, _, h2⟩ := head_back h
 rw [headB_enc h] at h1
 injection h1 with h1
 rw [h1]
 exact h2
/-- a segment's head stands there -/
structure Hd (d : Dk) (c : Cf) (p : Ps) : Prop where
 e : d.err (c.at_ p.s) = 0
 r : d.read (c.at_ p.s) = headB p
 may : headMay p.head = true
theorem Hd.agr {d d' : Dk} {c : Cf} {p : Ps} {lo hi : Int} (h : Hd d c p) (ha : Agr d d' lo hi) (h1 : lo ≤ c.at_ p.s) (h2 : c.at_ p.s < hi) : Hd d' c p := by
 obtain ⟨e1, e2⟩ := ha _ h1 h2
 exact ⟨e1.trans h.e, e2.trans h.r, h.may⟩
theorem Hd.start (c : Cf) (hc : c.Ok) (p : Ps) (hs : 0 ≤ p.s ∧ p.s ≤ c.s - 1) (hm : headMay p.head = true) : Hd ((Dk.new c.sectors.toNat).puts (c.at_ p.s) (headB p)) c p := by
 obtain ⟨g1, g2, g3⟩ := Cf.sec c hc p.s hs.1 hs.2
 have hl := hc.2.2
 have hr : Rdy (Dk.new c.sectors.toNat) := Rdy.new (by omega) (by omega)
 have hlen : (Dk.new c.sectors.toNat).safe.length = c.sectors.toNat := by simp [Dk.new]
 obtain ⟨h1, h2⟩ := hr.puts_gat (a := c.at_ p.s) (b := headB p) (n := 1) (by omega) (headB_length p) (by omega)
 rw [gat_one] at h1
 rw [gerr_one] at h2
 exact ⟨h2, h1, hm⟩
theorem Hd.scanB {d : Dk} {c : Cf} {p : Ps} (h : Hd d c p) (hc : c.Ok) (hs : 0 ≤ p.s ∧ p.s ≤ c.s - 1) : Kn.scanB d c false ⟨p.s, 0, p.l, p.p, p.m⟩ = (⟨p.s, 1, p.l, p.p, p.m⟩, true, 0) ∧ Kn.scanB d c true ⟨p.s, 0, 0, 0, 0⟩ = (⟨p.s, 1, p.l, p.p, p.m⟩, true, 0) := by
 have hl := hc.2.2
 have hd : decHead (d.read (c.at_ p.s)) = some p.head := by rw [h.r]; exact headB_dec h.may
 constructor
 ·rw [scanB_some (p := ⟨p.s, 0, p.l, p.p, p.m⟩) ⟨hs, by simp only; omega⟩ (by simp) h.e hd]
  simp [headFits, Ps.head]
 rw [scanB_some (p := ⟨p.s, 0, 0, 0, 0⟩) ⟨hs, by simp only; omega⟩ (by simp) h.e hd]
 simp [Ps.head]
theorem Hd.scan {d : Dk} {c : Cf} {p : Ps} (h : Hd d c p) (hc : c.Ok) (hs : 0 ≤ p.s ∧ p.s ≤ c.s - 1) : scanR d c false ⟨p.s, 0, p.l, p.p, p.m⟩ = scanG d c 65 ⟨p.s, 1, p.l, p.p, p.m⟩ ∧ scanR d c true ⟨p.s, 0, 0, 0, 0⟩ = scanG d c 65 ⟨p.s, 1, p.l, p.p, p.m⟩ := by
 obtain ⟨h1, h2⟩ := h.scanB hc hs
 unfold scanR
 rw [h1, h2]
 exact ⟨rfl, rfl⟩
theorem Krs.one {w : World} {g : Nat} {s : Option Addr × Nat × Nat} {zs : List Int} {f : Int} (ho : Own w g [slv s, .int .i64 f, .int .i64 0, .int .i64 0, .int .i64 0]) (hi : Ins w s.1 s.2.1 s.2.2 zs) : Krs w (some ⟨g, 0, none⟩) 1 1 [⟨zs, f, 0, 0, 0⟩] [s] := by
 refine ⟨rfl, rfl, Nat.le_refl _, by decide, fun _ => ⟨g, 0, rfl, fun i h h2 => ?_⟩, fun i h h2 => ?_⟩
 ·obtain rfl : i = 0 := by simp at h; omega
  exact ⟨ho.cell 0 (by simp), ho.cell 1 (by simp), ho.cell 2 (by simp), ho.cell 3 (by simp), ho.cell 4 (by simp)⟩
 obtain rfl : i = 0 := by simp at h; omega
 exact hi
end Go.Kn
namespace Go.Kn
open Go Go.RowKit
/-- what is laid to tell the next segment -/
def nextR (q : Ps) (v : Int) : Rc := ⟨q.m, q.l, q.p, [⟨7, 0, 0, v⟩], []⟩
def nextP (q : Ps) (v o : Int) : Ps := ⟨v, o, q.l + 1, (rcSum (nextR q v) : Nat), q.m⟩
/-- kit.Turn -/
def turnRun (c : Cf) (v : Int) (head : Bool) (q : Ps) (d : Dk) : Ps × Dk :=
 if head = true then (nextP q v 1, (d.puts (c.at_ q.s + q.o) (rcBytes (nextR q v))).puts (c.at_ v) (headB (nextP q v 0)))
 else (nextP q v 0, d.puts (c.at_ q.s + q.o) (rcBytes (nextR q v)))
structure PR where
 recs : List KR
 next : Int
 lost : Bool
/-- law14.laid behind the first head -/
def laidGo (c : Cf) : List PR → Ps → Dk → Ps × Dk
 | [], q, d => (q, d)
 | [x], q, d => logRun c x.recs q d
 | x :: y :: l, q, d =>
  if x.lost = true then turnRun c (x.next % c.s) false (logRun c x.recs q d).1 (logRun c x.recs q d).2
  else laidGo c (y :: l) (turnRun c (x.next % c.s) true (logRun c x.recs q d).1 (logRun c x.recs q d).2).1 (turnRun c (x.next % c.s) true (logRun c x.recs q d).1 (logRun c x.recs q d).2).2
def laidRun (c : Cf) (l : List PR) (p : Ps) (d : Dk) : Ps × Dk := laidGo c l ⟨p.s, 1, p.l, p.p, p.m⟩ (d.puts (c.at_ p.s) (headB p))
theorem nextR_ok {q : Ps} {v : Int} (hm : 1 ≤ q.m ∧ q.m ≤ 2147483647) (hl : 1 ≤ q.l ∧ q.l ≤ 2147483647) (hp : 0 ≤ q.p ∧ q.p ≤ 4294967295) (hv : 0 ≤ v ∧ v ≤ 31) : rcMay (nextR q v) = true ∧ nextOf (nextR q v) = some v := by
 refine ⟨?_, rfl⟩
 rw [rcMay_iff]
 refine ⟨⟨hm, hl, hp, by simp [nextR]⟩, ?_, ?_, rfl⟩
 ·have := (may_k 7 0 0 v).2 (.inr (.inr (.inr (.inr ⟨rfl, rfl, rfl, hv⟩))))
  simp [nextR, this]
 have := loads_one ⟨7, 0, 0, v⟩ ((may_k 7 0 0 v).2 (.inr (.inr (.inr (.inr ⟨rfl, rfl, rfl, hv⟩)))))
 simpa [nextR] using this.symm
/-- segments that a log goes along -/
structure Sgs (c : Cf) (sg : Nat → Int) (T : Nat) : Prop where
 ok : c.Ok
 s : c.s = 8
 l : c.l = 24
 r : ∀ t, t < T → 0 ≤ sg t ∧ sg t ≤ 7
 inj : ∀ t u, t < T → u < T → sg t = sg u → t = u
section
variable {c : Cf} {sg : Nat → Int} {T : Nat} {d d' : Dk}
def Sec (c : Cf) (sg : Nat → Int) (y : Nat) : Int := c.at_ (sg (y / 24)) + ((y % 24 : Nat) : Int)
theorem Sgs.base (h : Sgs c sg T) : ∃ b : Int, 2 ≤ b ∧ b + 192 ≤ c.sectors ∧ c.sectors ≤ 4096 ∧ ∀ k, 0 ≤ k → k ≤ 7 → c.at_ k = b + 24 * k := by
 have hs := h.s
 have hl := h.l
 obtain ⟨g1, _, g3⟩ := Cf.sec c h.ok 0 (by decide) (by omega)
 obtain ⟨_, g2, _⟩ := Cf.sec c h.ok 7 (by decide) (by omega)
 have e : ∀ k, 0 ≤ k → k ≤ 7 → c.at_ k = c.at_ 0 + 24 * k := by
  intro k h0 h1
  unfold Cf.at_
  rw [if_pos ⟨h0, by omega⟩, if_pos ⟨by decide, by omega⟩, hl]
  omega
 have e7 := e 7 (by decide) (by decide)
 exact ⟨c.at_ 0, g1, by omega, g3, e⟩
theorem Sgs.sec (h : Sgs c sg T) {y : Nat} (hy : y < 24 * T) : 2 ≤ Sec c sg y ∧ Sec c sg y + 1 ≤ c.sectors := by
 obtain ⟨b, h1, h2, _, h3⟩ := h.base
 obtain ⟨r1, r2⟩ := h.r (y / 24) (by omega)
 unfold Sec
 rw [h3 _ r1 r2]
 omega
theorem Sgs.ne (h : Sgs c sg T) {y z : Nat} (hy : y < 24 * T) (hz : z < 24 * T) (hn : y ≠ z) : Sec c sg y ≠ Sec c sg z := by
 intro e
 obtain ⟨b, _, _, _, h3⟩ := h.base
 obtain ⟨r1, r2⟩ := h.r (y / 24) (by omega)
 obtain ⟨r3, r4⟩ := h.r (z / 24) (by omega)
 unfold Sec at e
 rw [h3 _ r1 r2, h3 _ r3 r4] at e
 have := h.inj (y / 24) (z / 24) (by omega) (by omega) (by omega)
 omega
structure PlY (sg : Nat → Int) (T Y : Nat) (q : Ps) : Prop where
 s : q.s = sg (Y / 24)
 o : q.o = ((Y % 24 : Nat) : Int)
 o1 : 1 ≤ Y % 24
 lt : Y < 24 * T
theorem PlY.sec {Y : Nat} {q : Ps} (h : PlY sg T Y q) : c.at_ q.s + q.o = Sec c sg Y := by unfold Sec; rw [h.s, h.o]
theorem PlY.seg (hs : Sgs c sg T) {Y : Nat} {q : Ps} (h : PlY sg T Y q) : 0 ≤ q.s ∧ q.s ≤ c.s - 1 := by
 have := hs.r (Y / 24) (by have := h.lt; omega)
 rw [h.s, hs.s]
 omega
/-- records that follow one another along the segments -/
inductive Run (c : Cf) (sg : Nat → Int) (T : Nat) (d : Dk) : Nat → Ps → List (Ps × Rc) → Nat → Ps → Prop
 | nil {Y : Nat} {q : Ps} : PlY sg T Y q → Run c sg T d Y q [] Y q
 | cons {Y Y' : Nat} {q q1 q' : Ps} {r : Rc} {l : List (Ps × Rc)} : PlY sg T Y q → follow d c q = (some (r, q1), 0) → q1.o = q.o + 1 → nextOf r = none → Run c sg T d (Y + 1) q1 l Y' q' → Run c sg T d Y q ((q, r) :: l) Y' q'
 | turn {Y Y' : Nat} {q q1 q' : Ps} {r : Rc} {l : List (Ps × Rc)} : PlY sg T Y q → follow d c q = (some (r, q1), 0) → q1.o = q.o + 1 → nextOf r = some (sg (Y / 24 + 1)) → Hd d c ⟨sg (Y / 24 + 1), 0, q1.l, q1.p, q1.m⟩ →
   Run c sg T d (24 * (Y / 24 + 1) + 1) ⟨sg (Y / 24 + 1), 1, q1.l, q1.p, q1.m⟩ l Y' q' → Run c sg T d Y q ((q, r) :: l) Y' q'
theorem Run.pl {Y Y' : Nat} {q q' : Ps} {l : List (Ps × Rc)} (h : Run c sg T d Y q l Y' q') : PlY sg T Y q ∧ PlY sg T Y' q' ∧ Y + l.length ≤ Y' := by
 induction h with
 | nil h => exact ⟨h, h, Nat.le_refl _⟩
 | cons h _ _ _ _ ih => exact ⟨h, ih.2.1, by rw [List.length_cons]; have := ih.2.2; omega⟩
 | turn h _ _ _ _ _ ih => exact ⟨h, ih.2.1, by rw [List.length_cons]; have := ih.2.2; omega⟩
theorem Run.app {Y Y1 Y2 : Nat} {q q1 q2 : Ps} {l l2 : List (Ps × Rc)} (h : Run c sg T d Y q l Y1 q1) (h2 : Run c sg T d Y1 q1 l2 Y2 q2) : Run c sg T d Y q (l ++ l2) Y2 q2 := by
 induction h with
 | nil _ => exact h2
 | cons a b e f _ ih => exact .cons a b e f (ih h2)
 | turn a b e f g _ ih => exact .turn a b e f g (ih h2)
theorem Run.agr {Y Y' : Nat} {q q' : Ps} {l : List (Ps × Rc)} (h : Run c sg T d Y q l Y' q') (ha : ∀ y, Y ≤ y → y < Y' → d'.err (Sec c sg y) = d.err (Sec c sg y) ∧ d'.read (Sec c sg y) = d.read (Sec c sg y)) : Run c sg T d' Y q l Y' q' := by
 have one : ∀ {Y : Nat} {q q1 : Ps} {r : Rc}, PlY sg T Y q → follow d c q = (some (r, q1), 0) → q1.o = q.o + 1 → d'.err (Sec c sg Y) = d.err (Sec c sg Y) ∧ d'.read (Sec c sg Y) = d.read (Sec c sg Y) → follow d' c q = (some (r, q1), 0) := by
  intro Y q q1 r hp hf ho he
  have hsec := hp.sec (c := c)
  refine follow_agr2 (lo := Sec c sg Y) (hi := Sec c sg Y + 1) ?_ (by omega) hf (by omega)
  intro x h1 h2
  obtain rfl : x = Sec c sg Y := by omega
  exact he
 induction h with
 | nil h => exact .nil h
 | cons hp hf ho hn hr ih =>
  have hl := hr.pl.2.2
  exact .cons hp (one hp hf ho (ha _ (Nat.le_refl _) (by omega))) ho hn (ih (fun y h1 h2 => ha y (by omega) h2))
 | turn hp hf ho hn hh hr ih =>
  rename_i Y Y' q q1 q' r l
  have hl := hr.pl.2.2
  refine .turn hp (one hp hf ho (ha _ (Nat.le_refl _) (by omega))) ho hn ?_ (ih (fun y h1 h2 => ha y (by omega) h2))
  have hs : c.at_ (sg (Y / 24 + 1)) = Sec c sg (24 * (Y / 24 + 1)) := by
   unfold Sec
   rw [show 24 * (Y / 24 + 1) / 24 = Y / 24 + 1 from by omega, show 24 * (Y / 24 + 1) % 24 = 0 from by omega]
   simp
  obtain ⟨e1, e2⟩ := ha (24 * (Y / 24 + 1)) (by omega) (by omega)
  rw [← hs] at e1 e2
  exact ⟨e1.trans hh.e, e2.trans hh.r, hh.may⟩
theorem Run.split {Y Y' : Nat} {q q' : Ps} {l : List (Ps × Rc)} (h : Run c sg T d Y q l Y' q') : ∀ k, k ≤ l.length → ∃ Yk qk, Run c sg T d Y q (l.take k) Yk qk ∧ Run c sg T d Yk qk (l.drop k) Y' q' ∧ (∀ x, l[k]? = some x → x.1 = qk) := by
 induction h with
 | nil h => exact fun k _ => ⟨_, _, by rw [List.take_nil]; exact .nil h, by rw [List.drop_nil]; exact .nil h, fun x hx => by simp at hx⟩
 | cons hp hf ho hn hr ih =>
  intro k hk
  cases k with
  | zero => exact ⟨_, _, .nil hp, .cons hp hf ho hn hr, fun x hx => by simp at hx; rw [← hx]⟩
  | succ k =>
   obtain ⟨Yk, qk, h1, h2, h3⟩ := ih k (by simpa using hk)
   exact ⟨Yk, qk, .cons hp hf ho hn h1, h2, fun x hx => h3 x (by simpa using hx)⟩
 | turn hp hf ho hn hh hr ih =>
  intro k hk
  cases k with
  | zero => exact ⟨_, _, .nil hp, .turn hp hf ho hn hh hr, fun x hx => by simp at hx; rw [← hx]⟩
  | succ k =>
   obtain ⟨Yk, qk, h1, h2, h3⟩ := ih k (by simpa using hk)
   exact ⟨Yk, qk, .turn hp hf ho hn hh h1, h2, fun x hx => h3 x (by simpa using hx)⟩
theorem Run.nums {Y Y' : Nat} {q q' : Ps} {l : List (Ps × Rc)} (h : Run c sg T d Y q l Y' q') : q'.l = q.l + (l.length : Nat) ∧ ∀ i (x : Ps × Rc), l[i]? = some x → x.1.l = q.l + (i : Nat) ∧ x.2.n = q.l + (i : Nat) ∧ x.2.p = x.1.p := by
 have step : ∀ {q q1 : Ps} {r : Rc} {l : List (Ps × Rc)} {q' : Ps}, follow d c q = (some (r, q1), 0) → (q'.l = q1.l + (l.length : Nat) ∧ ∀ i (x : Ps × Rc), l[i]? = some x → x.1.l = q1.l + (i : Nat) ∧ x.2.n = q1.l + (i : Nat) ∧ x.2.p = x.1.p) →
   (q'.l = q.l + (((q, r) :: l).length : Nat) ∧ ∀ i (x : Ps × Rc), ((q, r) :: l)[i]? = some x → x.1.l = q.l + (i : Nat) ∧ x.2.n = q.l + (i : Nat) ∧ x.2.p = x.1.p) := by
  intro q q1 r l q' hf ih
  obtain ⟨f1, f2, _, _, f5, _⟩ := follow_num hf
  refine ⟨by rw [ih.1, f2, List.length_cons]; push_cast; omega, ?_⟩
  intro i x hx
  cases i with
  | zero =>
   simp at hx
   rw [← hx]
   exact ⟨by simp, by simp [f1], f5⟩
  | succ i =>
   obtain ⟨g1, g2, g3⟩ := ih.2 i x (by simpa using hx)
   rw [f2] at g1 g2
   exact ⟨by rw [g1]; push_cast; omega, by rw [g2]; push_cast; omega, g3⟩
 induction h with
 | nil h => exact ⟨by simp, fun i x hx => by simp at hx⟩
 | cons hp hf ho hn hr ih => exact step hf ih
 | turn hp hf ho hn hh hr ih => exact step hf ih
def chM (d : Dk) (c : Cf) (K : Nat) (x : List (Ps × Rc) × Ps × Int) : List (Ps × Rc) × Ps × Int := match nextIn c x.1 with
 | some v => (x.1 ++ (chainG d c K (turnP x.2.1 v)).1, (chainG d c K (turnP x.2.1 v)).2)
 | none => x
theorem chainG_M (d : Dk) (c : Cf) (K : Nat) (p : Ps) : chainG d c (K + 1) p = chM d c K (scanR d c false p) := by
 unfold chainG chM
 cases nextIn c (scanR d c false p).1 <;> rfl
theorem nextIn_cons {c : Cf} {x : Ps × Rc} {l : List (Ps × Rc)} (h : nextOf x.2 = none) : nextIn c (x :: l) = nextIn c l := by
 rcases List.eq_nil_or_concat l with rfl | ⟨l', y, rfl⟩
 ·rw [nextIn_nil, show [x] = [] ++ [x] from rfl, nextIn_snoc, h]
  rfl
 rw [List.concat_eq_append, ← List.cons_append, nextIn_snoc, nextIn_snoc]
theorem chM_cons {d : Dk} {c : Cf} {K : Nat} {x : Ps × Rc} {l : List (Ps × Rc)} {y : Ps × Int} (h : nextOf x.2 = none) : chM d c K (x :: l, y) = (x :: (chM d c K (l, y)).1, (chM d c K (l, y)).2) := by
 unfold chM
 simp only [nextIn_cons h]
 cases nextIn c l <;> rfl
/-- a log is told as it stands -/
theorem Run.chain (hs : Sgs c sg T) {Y Y' : Nat} {q q' : Ps} {l : List (Ps × Rc)} {e : Int} (h : Run c sg T d Y q l Y' q') (hf : follow d c q' = (none, e)) : ∀ f K, 65 ≤ f + Y % 24 → l.length ≤ K → chM d c K (scanG d c f q) = (l, q', e) := by
 induction h with
 | nil h =>
  intro f K h1 _
  obtain ⟨f, rfl⟩ : ∃ g, f = g + 1 := ⟨f - 1, by omega⟩
  rw [scanG_none hf]
  rfl
 | cons hp hf' ho hn hr ih =>
  intro f K h1 h2
  have hp2 := hr.pl.1
  have e1 := hp.o
  have e2 := hp2.o
  obtain ⟨f, rfl⟩ : ∃ g, f = g + 1 := ⟨f - 1, by omega⟩
  have := ih hf f K (by omega) (by simp at h2; omega)
  rw [scanG_some hf', hn]
  simp only [Option.isSome_none, Bool.false_eq_true, if_false]
  have e3 : chM d c K ((scanG d c f _).1, (scanG d c f _).2) = _ := this
  rw [chM_cons hn, e3]
 | turn hp hf' ho hn hh hr ih =>
  rename_i Y Y' q q1 q' r l
  intro f K h1 h2
  obtain ⟨f, rfl⟩ : ∃ g, f = g + 1 := ⟨f - 1, by omega⟩
  obtain ⟨K, rfl⟩ : ∃ g, K = g + 1 := ⟨K - 1, by simp at h2; omega⟩
  have hlt := hr.pl.1.lt
  have hv := hs.r (Y / 24 + 1) (by omega)
  have hc := hs.s
  rw [scanG_some hf', hn]
  simp only [Option.isSome_some, if_true]
  have hni : nextIn c [(q, r)] = some (sg (Y / 24 + 1)) := by
   rw [show [(q, r)] = [] ++ [(q, r)] from rfl, nextIn_snoc, hn]
   simp [Option.filter]
   omega
  have e1 : scanR d c false (turnP q1 (sg (Y / 24 + 1))) = scanG d c 65 ⟨sg (Y / 24 + 1), 1, q1.l, q1.p, q1.m⟩ := (hh.scan hs.ok ⟨hv.1, by show sg (Y / 24 + 1) ≤ _; omega⟩).1
  have e2 := ih hf 65 K (by omega) (by simp at h2; omega)
  unfold chM
  rw [hni]
  simp only
  rw [chainG_M, e1, e2]
  rfl
/-- a log that was laid on a new disk: noughts behind it -/
structure RL (c : Cf) (sg : Nat → Int) (T : Nat) (d : Dk) (q0 : Ps) (l : List (Ps × Rc)) (Y : Nat) (q : Ps) : Prop where
 rdy : Rdy d
 len : (d.safe.length : Int) = c.sectors
 run : Run c sg T d 1 q0 l Y q
 hd : Hd d c ⟨sg 0, 0, q0.l, q0.p, q0.m⟩
 zs : ∀ y, Y ≤ y → y < 24 * T → d.read (Sec c sg y) = List.replicate 64 0
 ql : q.l = q0.l + (l.length : Nat)
 qm : q.m = q0.m
 qp : 0 ≤ q.p ∧ q.p ≤ 4294967295
 b : (1 ≤ q0.l ∧ q0.l ≤ 1000) ∧ (1 ≤ q0.m ∧ q0.m ≤ 1000)
theorem RL.nums (hs : Sgs c sg T) (h4 : T ≤ 8) {q0 q : Ps} {l : List (Ps × Rc)} {Y : Nat} (h : RL c sg T d q0 l Y q) : (1 ≤ q.m ∧ q.m ≤ 2147483647) ∧ (1 ≤ q.l ∧ q.l ≤ 2147483647) := by
 have h1 := h.run.pl.2.2
 have h2 := h.run.pl.2.1.lt
 have h3 := h.b
 have h5 := h.ql
 have h6 := h.qm
 omega
theorem Sec_head (t : Nat) : Sec c sg (24 * t) = c.at_ (sg t) := by
 unfold Sec
 rw [show 24 * t / 24 = t from by omega, show 24 * t % 24 = 0 from by omega]
 simp
theorem RL.none_ (hs : Sgs c sg T) {q0 q : Ps} {l : List (Ps × Rc)} {Y : Nat} (h : RL c sg T d q0 l Y q) : follow d c q = (none, 0) := by
 have hp := h.run.pl.2.1
 obtain ⟨g1, g2⟩ := hs.sec hp.lt
 have hl := h.len
 refine follow_zero ?_ ?_
 ·rw [hp.sec]; exact h.rdy.err0 (has_of (by omega) (by omega))
 rw [hp.sec]; exact h.zs Y (Nat.le_refl _) hp.lt
/-- a row is put where the log ends: what stands elsewhere stays -/
theorem put_else (hs : Sgs c sg T) (hr : Rdy d) (hl : (d.safe.length : Int) = c.sectors) {y : Nat} (hy : y < 24 * T) {b : List UInt8} (hb : b.length = 64) :
  Rdy (d.puts (Sec c sg y) b) ∧ ((d.puts (Sec c sg y) b).safe.length : Int) = c.sectors ∧ (d.puts (Sec c sg y) b).err (Sec c sg y) = 0 ∧ (d.puts (Sec c sg y) b).read (Sec c sg y) = b ∧
   (∀ z, z < 24 * T → z ≠ y → (d.puts (Sec c sg y) b).err (Sec c sg z) = d.err (Sec c sg z) ∧ (d.puts (Sec c sg y) b).read (Sec c sg z) = d.read (Sec c sg z)) := by
 obtain ⟨g1, g2⟩ := hs.sec hy
 have h1 := hr.puts (a := Sec c sg y) (b := b) (n := 1) (by omega) hb (by omega)
 obtain ⟨h2, h3⟩ := hr.puts_gat (a := Sec c sg y) (b := b) (n := 1) (by omega) hb (by omega)
 rw [gat_one] at h2
 rw [gerr_one] at h3
 refine ⟨h1.1, by rw [h1.2.2]; exact hl, h3, h2, fun z hz hn => ?_⟩
 have hne := hs.ne hz hy hn
 obtain ⟨g3, g4⟩ := hs.sec hz
 exact hr.puts_agr (a := Sec c sg y) (b := b) (n := 1) (lo := Sec c sg z) (hi := Sec c sg z + 1) (by omega) hb (by omega) (by omega) (by omega) _ (Int.le_refl _) (by omega)
theorem head_may {s o l p m : Int} (h1 : 0 ≤ s ∧ s ≤ 31) (h2 : 1 ≤ l ∧ l ≤ 2147483647) (h3 : 0 ≤ p ∧ p ≤ 4294967295) (h4 : 1 ≤ m ∧ m ≤ 2147483647) : headMay (⟨s, o, l, p, m⟩ : Ps).head = true := by
 show headMay ⟨s, m, l, p⟩ = true
 unfold headMay
 simp only [Bool.and_eq_true, decide_eq_true_eq]
 exact ⟨⟨⟨h1, h4⟩, h2⟩, h3⟩
theorem rcSum_lt2 {r : Rc} (h : rcMay r = true) : rcSum r < 4294967296 := (enc_some (enc_rc h)).2.2.2.2.2.2.2
theorem rcBytes_64 {r : Rc} (h : rcMay r = true) (hb : r.bl = []) : (rcBytes r).length = 64 := by have := rcBytes_length h; rw [hb] at this; simpa using this
/-- one record more, of one sector -/
theorem RL.step (hs : Sgs c sg T) {q0 q : Ps} {l : List (Ps × Rc)} {Y : Nat} (h : RL c sg T d q0 l Y q) (ho : Y % 24 ≤ 22) {r : Rc} (hr : rcMay r = true) (hb : r.bl = []) (hn : r.n = q.l) (hp : r.p = q.p) (hm : r.m = q.m) :
  ∃ d1, d1 = d.puts (c.at_ q.s + q.o) (rcBytes r) ∧ Rdy d1 ∧ (d1.safe.length : Int) = c.sectors ∧ Run c sg T d1 1 q0 l Y q ∧ Hd d1 c ⟨sg 0, 0, q0.l, q0.p, q0.m⟩ ∧ follow d1 c q = (some (r, ⟨q.s, q.o + 1, q.l + 1, (rcSum r : Nat), r.m⟩), 0) ∧
   (∀ z, z < 24 * T → z ≠ Y → d1.read (Sec c sg z) = d.read (Sec c sg z)) := by
 have hpl := h.run.pl.2.1
 have hY := h.run.pl.2.2
 have hsec := hpl.sec (c := c)
 obtain ⟨h1, h2, h3, h4, h5⟩ := put_else hs h.rdy h.len hpl.lt (rcBytes_64 hr hb)
 have hlt := hpl.lt
 refine ⟨_, rfl, ?_⟩
 rw [hsec]
 refine ⟨h1, h2, h.run.agr (fun y a b => h5 y (by omega) (by omega)), ?_, ?_, fun z a b => (h5 z a b).2⟩
 ·obtain ⟨e1, e2⟩ := h5 0 (by omega) (by omega)
  have e3 : Sec c sg 0 = c.at_ (sg 0) := Sec_head 0
  rw [e3] at e1 e2
  exact ⟨e1.trans h.hd.e, e2.trans h.hd.r, h.hd.may⟩
 have hl := hs.l
 have hoo := hpl.o
 have ho1 := hpl.o1
 have := follow_laid (d := d.puts (Sec c sg Y) (rcBytes r)) (c := c) (q := q) hr (by rw [hb, hsec]; show gat _ _ 1 = _; rw [gat_one]; exact h4) (by rw [hb, hsec]; show gerr _ _ 1 = _; rw [gerr_one]; exact h3) h1.ok (by omega) (by rw [hb]; simp; omega) hn hp (by omega)
 rw [hb] at this
 exact this
theorem pl_next {Y : Nat} {q : Ps} (h : PlY sg T Y q) (ho : Y % 24 ≤ 22) (q1 : Ps) (hs : q1.s = q.s) (h1 : q1.o = q.o + 1) : PlY sg T (Y + 1) q1 := by
 have a := h.s
 have b := h.o
 have e := h.o1
 have f := h.lt
 refine ⟨?_, by rw [h1, b]; omega, by omega, by omega⟩
 rw [hs, a]
 congr 1
 omega
def kr0 : KR := ⟨[], 0, 0, 0, 0⟩
theorem RL.mark (hs : Sgs c sg T) (h4 : T ≤ 8) {q0 q : Ps} {l : List (Ps × Rc)} {Y : Nat} (h : RL c sg T d q0 l Y q) (ho : Y % 24 ≤ 21) (rs : List KR) :
  ∃ r q' d', logRun c (kr0 :: rs) q d = logRun c rs q' d' ∧ RL c sg T d' q0 (l ++ [(q, r)]) (Y + 1) q' := by
 obtain ⟨n1, n2⟩ := h.nums hs h4
 obtain ⟨k1, k2, k3, k4, k5⟩ : rcMay (kMade q kr0) = true ∧ (kMade q kr0).n = q.l ∧ (kMade q kr0).p = q.p ∧ (kMade q kr0).m = q.m ∧ nextOf (kMade q kr0) = none := by
  obtain ⟨a, b, c, d, e, _⟩ := kMade_ok q [] 0 (by decide) n1 n2 h.qp
  exact ⟨a, b, c, d, e⟩
 have hbl : (kMade q kr0).bl = [] := rfl
 obtain ⟨d1, hd1, e1, e2, e3, e4, e5, e6⟩ := h.step hs (by omega) k1 hbl k2 k3 k4
 have hpl := h.run.pl.2.1
 have hY := h.run.pl.2.2
 have hsum := rcSum_lt2 k1
 have h64 := rcBytes_64 k1 hbl
 have hl := hs.l
 have hoo := hpl.o
 have hdiv : (((rcBytes (kMade q kr0)).length / 64 : Nat) : Int) = 1 := by
  have : (rcBytes (kMade q kr0)).length = 64 := h64
  rw [this]
  rfl
 refine ⟨kMade q kr0, ⟨q.s, q.o + 1, q.l + 1, (rcSum (kMade q kr0) : Nat), (kMade q kr0).m⟩, d1, ?_, ?_⟩
 ·refine (Go.Proofs.YtgcfdjcpcclcjaaGreat.logRun_go (r := kr0) (enc_rc k1) (by rw [hdiv]; omega)).trans ?_
  show logRun c rs ⟨q.s, q.o + (((rcBytes (kMade q kr0)).length / 64 : Nat) : Int), (kMade q kr0).n + 1, _, _⟩ _ = _
  rw [hdiv, show (kMade q kr0).n = q.l from k2, hd1]
 have hp2 : PlY sg T (Y + 1) ⟨q.s, q.o + 1, q.l + 1, (rcSum (kMade q kr0) : Nat), (kMade q kr0).m⟩ := pl_next hpl (by omega) _ rfl rfl
 refine ⟨e1, e2, e3.app (.cons hpl e5 rfl k5 (.nil hp2)), e4, fun y a b => (e6 y b (by omega)).trans (h.zs y (by omega) b), ?_, k4.trans h.qm, ⟨?_, ?_⟩, h.b⟩
 ·show q.l + 1 = _
  rw [List.length_append, h.ql]
  simp
  omega
 ·show 0 ≤ ((rcSum (kMade q kr0) : Nat) : Int)
  omega
 show ((rcSum (kMade q kr0) : Nat) : Int) ≤ 4294967295
 have : rcSum (kMade q kr0) < 4294967296 := hsum
 omega
/-- the next segment is told, its head laid -/
theorem RL.turn (hs : Sgs c sg T) (h4 : T ≤ 8) {q0 q : Ps} {l : List (Ps × Rc)} {Y : Nat} (h : RL c sg T d q0 l Y q) (ho : Y % 24 ≤ 22) (hT : Y / 24 + 1 < T) :
  ∃ q' d', turnRun c (sg (Y / 24 + 1)) true q d = (q', d') ∧ RL c sg T d' q0 (l ++ [(q, nextR q (sg (Y / 24 + 1)))]) (24 * (Y / 24 + 1) + 1) q' := by
 obtain ⟨n1, n2⟩ := h.nums hs h4
 obtain ⟨v1, v2⟩ := hs.r (Y / 24 + 1) hT
 obtain ⟨k1, k2⟩ := nextR_ok (v := sg (Y / 24 + 1)) n1 n2 h.qp ⟨v1, by omega⟩
 obtain ⟨d1, hd1, e1, e2, e3, e4, e5, e6⟩ := h.step hs ho k1 rfl rfl rfl rfl
 have hpl := h.run.pl.2.1
 have hlt := hpl.lt
 have hY := h.run.pl.2.2
 have hsum := rcSum_lt2 k1
 have hql := h.ql
 have hb := h.b
 have hmay : headMay (nextP q (sg (Y / 24 + 1)) 0).head = true := by
  exact head_may ⟨v1, by omega⟩ ⟨by omega, by omega⟩ ⟨by omega, by omega⟩ n1
 have hh := Sec_head (c := c) (sg := sg) (Y / 24 + 1)
 obtain ⟨f1, f2, f3, f4, f5⟩ := put_else hs e1 e2 (y := 24 * (Y / 24 + 1)) (by omega) (headB_length (nextP q (sg (Y / 24 + 1)) 0))
 refine ⟨nextP q (sg (Y / 24 + 1)) 1, d1.puts (Sec c sg (24 * (Y / 24 + 1))) (headB (nextP q (sg (Y / 24 + 1)) 0)), ?_, ?_⟩
 ·unfold turnRun
  rw [if_pos rfl, ← hd1, ← hh]
 have hrun := e3.agr (d' := d1.puts (Sec c sg (24 * (Y / 24 + 1))) (headB (nextP q (sg (Y / 24 + 1)) 0))) (fun y a b => f5 y (by omega) (by omega))
 have hfl : follow (d1.puts (Sec c sg (24 * (Y / 24 + 1))) (headB (nextP q (sg (Y / 24 + 1)) 0))) c q = (some (nextR q (sg (Y / 24 + 1)), ⟨q.s, q.o + 1, q.l + 1, (rcSum (nextR q (sg (Y / 24 + 1))) : Nat), q.m⟩), 0) := by
  have hsec := hpl.sec (c := c)
  refine follow_agr2 (lo := Sec c sg Y) (hi := Sec c sg Y + 1) ?_ (by omega) e5 (by show c.at_ q.s + (q.o + 1) ≤ _; omega)
  intro x h1 h2
  obtain rfl : x = Sec c sg Y := by omega
  exact f5 Y hlt (by omega)
 have hd2 : Hd (d1.puts (Sec c sg (24 * (Y / 24 + 1))) (headB (nextP q (sg (Y / 24 + 1)) 0))) c (nextP q (sg (Y / 24 + 1)) 0) := by
  rw [hh] at f3 f4 ⊢
  exact ⟨f3, f4, hmay⟩
 have hp2 : PlY sg T (24 * (Y / 24 + 1) + 1) (nextP q (sg (Y / 24 + 1)) 1) := by
  have e : (24 * (Y / 24 + 1) + 1) / 24 = Y / 24 + 1 := by omega
  have e' : (24 * (Y / 24 + 1) + 1) % 24 = 1 := by omega
  refine ⟨?_, by rw [e']; rfl, by omega, by omega⟩
  rw [e]
  rfl
 refine ⟨f1, f2, hrun.app (.turn hpl hfl rfl k2 hd2 (.nil hp2)), ?_, fun y a b => ((f5 y b (by omega)).2.trans (e6 y b (by omega))).trans (h.zs y (by omega) b), ?_, h.qm, ⟨?_, ?_⟩, h.b⟩
 ·obtain ⟨a1, a2⟩ := f5 0 (by omega) (by omega)
  have e3 : Sec c sg 0 = c.at_ (sg 0) := Sec_head 0
  rw [e3] at a1 a2
  exact ⟨a1.trans e4.e, a2.trans e4.r, e4.may⟩
 ·show q.l + 1 = _
  rw [List.length_append, h.ql]
  simp
  omega
 ·show 0 ≤ ((rcSum (nextR q (sg (Y / 24 + 1))) : Nat) : Int)
  omega
 show ((rcSum (nextR q (sg (Y / 24 + 1))) : Nat) : Int) ≤ 4294967295
 omega
theorem RL.start (hs : Sgs c sg T) (hT : 0 < T) {p : Ps} (hps : p.s = sg 0) (hl : 1 ≤ p.l ∧ p.l ≤ 1000) (hm : 1 ≤ p.m ∧ p.m ≤ 1000) (hp : 0 ≤ p.p ∧ p.p ≤ 4294967295) :
  RL c sg T ((Dk.new c.sectors.toNat).puts (c.at_ p.s) (headB p)) ⟨p.s, 1, p.l, p.p, p.m⟩ [] 1 ⟨p.s, 1, p.l, p.p, p.m⟩ := by
 obtain ⟨b, b1, b2, b3, _⟩ := hs.base
 obtain ⟨v1, v2⟩ := hs.r 0 hT
 have hr : Rdy (Dk.new c.sectors.toNat) := Rdy.new (by omega) (by omega)
 have hlen : ((Dk.new c.sectors.toNat).safe.length : Int) = c.sectors := by simp [Dk.new]; omega
 have hh : Sec c sg 0 = c.at_ p.s := by rw [hps]; exact Sec_head 0
 have hmay : headMay p.head = true := head_may ⟨by rw [hps]; exact v1, by rw [hps]; omega⟩ ⟨hl.1, by omega⟩ hp ⟨hm.1, by omega⟩
 obtain ⟨f1, f2, f3, f4, f5⟩ := put_else hs hr hlen (y := 0) (by omega) (headB_length p)
 rw [hh] at f1 f2 f3 f4 f5
 refine ⟨f1, f2, .nil ⟨hps, rfl, by decide, by show 1 < 24 * T; omega⟩, ?_, fun y a b => ?_, by simp, rfl, hp, hl, hm⟩
 ·refine ⟨?_, ?_, ?_⟩
  ·show Dk.err _ (c.at_ (sg 0)) = 0
   rw [← hps]; exact f3
  ·show Dk.read _ (c.at_ (sg 0)) = _
   rw [← hps, f4]
   unfold headB Ps.head
   rw [hps]
  unfold Ps.head at hmay ⊢
  rw [hps] at hmay
  exact hmay
 rw [(f5 y b (by omega)).2]
 obtain ⟨g1, g2⟩ := hs.sec b
 exact read_new _ _ (by omega) (by omega) (by omega)
end
end Go.Kn
namespace Go.Kn
open Go Go.RowKit
structure PR.Ok (x : PR) : Prop where
 n : x.recs.length ≤ 20
 wf : ∀ y ∈ x.recs, y.Wf
 next : (Lit.int .i64 x.next).wf = true
/-- where a log is that is being laid -/
structure LdOk (cf : Cf) (b : Int) (q : Ps) (d : Dk) : Prop where
 ps : PsOk cf q
 o : 1 ≤ q.o
 m : 1 ≤ q.m ∧ q.m ≤ 2097152 + b
 l : 1 ≤ q.l ∧ q.l ≤ 2097152 + b
 p : 0 ≤ q.p ∧ q.p ≤ 4294967295
 lv : d.Live
 hh : d.held = []
theorem LdOk.log {cf : Cf} (hc : cf.Ok) : ∀ (l : List KR) {b : Int} {q : Ps} {d : Dk}, LdOk cf b q d → LdOk cf (b + 3 * (l.length : Int)) (logRun cf l q d).1 (logRun cf l q d).2 ∧ (logRun cf l q d).1.s = q.s
 | [], b, q, d, h => ⟨by simpa [logRun] using h, rfl⟩
 | r :: rs, b, q, d, h => by
  have wid : ∀ {b' : Int}, b ≤ b' → LdOk cf b' q d := fun hb => ⟨h.ps, h.o, ⟨h.m.1, by have := h.m.2; omega⟩, ⟨h.l.1, by have := h.l.2; omega⟩, h.p, h.lv, h.hh⟩
  cases he : encRc (kMade q r) with
  | none =>
   rw [Go.Proofs.YtgcfdjcpcclcjaaGreat.logRun_none he]
   exact ⟨wid (by simp only [List.length_cons]; omega), rfl⟩
  | some bs =>
   obtain ⟨by_, sm⟩ := bs
   by_cases hf : cf.l - 1 < q.o + ((by_.length / 64 : Nat) : Int)
   ·rw [Go.Proofs.YtgcfdjcpcclcjaaGreat.logRun_far he hf]
    exact ⟨wid (by simp only [List.length_cons]; omega), rfl⟩
   rw [Go.Proofs.YtgcfdjcpcclcjaaGreat.logRun_go he hf]
   obtain ⟨_, _, _, _, _, e1, e2, e3⟩ := enc_some he
   have hp := h.ps.next hc he hf
   have hm : (kMade q r).m ≤ q.m + 3 := by show kMount q r ≤ _; unfold kMount; have := h.m.1; omega
   have hn : (kMade q r).n ≤ q.l + 2 := by show kLsn q r ≤ _; unfold kLsn; have := h.l.1; omega
   have h2 : LdOk cf (b + 3) ⟨q.s, q.o + ((by_.length / 64 : Nat) : Int), (kMade q r).n + 1, (sm : Nat), (kMade q r).m⟩ (d.puts (cf.at_ q.s + q.o) by_) :=
    ⟨hp, by show 1 ≤ q.o + _; have := h.o; omega, ⟨e1.1, by show (kMade q r).m ≤ _; have := h.m.2; omega⟩, ⟨by show 1 ≤ (kMade q r).n + 1; omega, by show (kMade q r).n + 1 ≤ _; have := h.l.2; omega⟩, ⟨by show 0 ≤ ((sm : Nat) : Int); omega, by show ((sm : Nat) : Int) ≤ _; omega⟩, (h.lv.puts _ _).1, (h.lv.puts _ _).2⟩
   obtain ⟨g1, g2⟩ := LdOk.log hc rs h2
   refine ⟨?_, g2⟩
   rw [List.length_cons, show b + 3 * ((rs.length + 1 : Nat) : Int) = b + 3 + 3 * (rs.length : Int) from by push_cast; omega]
   exact g1
theorem LdOk.turn {cf : Cf} (hc : cf.Ok) {b v : Int} {q : Ps} {d : Dk} (h : LdOk cf b q d) (hb : b ≤ 100000) (hv : 0 ≤ v ∧ v ≤ cf.s - 1) : LdOk cf (b + 1) (turnRun cf v true q d).1 (turnRun cf v true q d).2 := by
 have hs := hc.2.1
 obtain ⟨k1, _⟩ := nextR_ok (q := q) (v := v) ⟨h.m.1, by have := h.m.2; omega⟩ ⟨h.l.1, by have := h.l.2; omega⟩ h.p ⟨hv.1, by omega⟩
 have hsum := rcSum_lt2 k1
 unfold turnRun
 rw [if_pos rfl]
 have hl2 := (h.lv.puts (cf.at_ q.s + q.o) (rcBytes (nextR q v))).1
 have hm := h.m
 have hl := h.l
 refine ⟨⟨⟨by show -1000000000000 ≤ q.m ∧ q.m ≤ 1000000000000; omega, by show -1000000000000 ≤ q.l + 1 ∧ q.l + 1 ≤ 1000000000000; omega, by show -1000000000000 ≤ ((rcSum (nextR q v) : Nat) : Int) ∧ ((rcSum (nextR q v) : Nat) : Int) ≤ 1000000000000; omega⟩, hv, by show (0 : Int) ≤ 1 ∧ (1 : Int) ≤ 64; decide⟩, by show (1 : Int) ≤ 1; decide, ⟨hm.1, by show q.m ≤ _; omega⟩, ⟨by show 1 ≤ q.l + 1; omega, by show q.l + 1 ≤ _; omega⟩, ⟨by show 0 ≤ ((rcSum (nextR q v) : Nat) : Int); omega, by show ((rcSum (nextR q v) : Nat) : Int) ≤ _; omega⟩, (hl2.puts _ _).1, (hl2.puts _ _).2⟩
/-- parts of a log in the world -/
structure Prts (w : World) (A : Option Addr) (n c : Nat) (l : List PR) (ss : List ((Option Addr × Nat × Nat) × List (Option Addr × Nat × Nat))) : Prop where
 len : l.length = n
 sl : ss.length = n
 le : n ≤ c
 cm : c ≤ maxLen
 at_ : 0 < n → ∃ g o, A = some ⟨g, o, none⟩ ∧ ∀ i (h : i < l.length) (h2 : i < ss.length), w.cell? ⟨g, o + i * 3, none⟩ = some (slv ss[i].1) ∧ w.cell? ⟨g, o + i * 3 + 1, none⟩ = some (.int .i64 l[i].next) ∧ w.cell? ⟨g, o + i * 3 + 2, none⟩ = some (.bool l[i].lost)
 ks : ∀ i (h : i < l.length) (h2 : i < ss.length), Krs w ss[i].1.1 ss[i].1.2.1 ss[i].1.2.2 l[i].recs ss[i].2
theorem laidGo_one (c : Cf) (x : PR) (q : Ps) (d : Dk) : laidGo c [x] q d = logRun c x.recs q d := by rw [laidGo]
theorem laidGo_lost {c : Cf} {x : PR} {l : List PR} {q : Ps} {d : Dk} (hl : l ≠ []) (h : x.lost = true) : laidGo c (x :: l) q d = turnRun c (x.next % c.s) false (logRun c x.recs q d).1 (logRun c x.recs q d).2 := by
 cases l with
 | nil => exact absurd rfl hl
 | cons y l => rw [laidGo, if_pos h]
theorem laidGo_on {c : Cf} {x : PR} {l : List PR} {q : Ps} {d : Dk} (hl : l ≠ []) (h : x.lost = false) : laidGo c (x :: l) q d = laidGo c l (turnRun c (x.next % c.s) true (logRun c x.recs q d).1 (logRun c x.recs q d).2).1 (turnRun c (x.next % c.s) true (logRun c x.recs q d).1 (logRun c x.recs q d).2).2 := by
 cases l with
 | nil => exact absurd rfl hl
 | cons y l => rw [laidGo, if_neg (by rw [h]; simp)]
end Go.Kn
namespace Go.Proofs.YtgcfdjcpcclcjaaGreat
open Go Go.RowKit Go.Kn
theorem Duo.permL {w0 w : World} {p : PD} {r : RD} {d e : Dk} {L L' : List (Nat × List Value)} {G : List Gs} {F : List (World → Prop)} (h : Duo w0 w p r d e ⟨L, G, F⟩) (hL : L.Perm L') : Duo w0 w p r d e ⟨L', G, F⟩ := by
 obtain ⟨L0, G0, F0, hw, back⟩ := h.fr
 exact back w ⟨L', G, F⟩ (hw.perm (hL.append_right L0) (List.Perm.refl _))
theorem c13ok : CfOk 2 8 24 := ⟨by decide, by decide, by decide⟩
end Go.Proofs.YtgcfdjcpcclcjaaGreat
namespace Go.Proofs.YtgcfdjcpcclcjaaGreat
open Go.ChangeShapes Go.WideShapes Go.ChangeAt Go.RowKit Go.Kn
theorem own : ownKnob Tryz.prog.godebug = none := by kernel_rfl
theorem laidOut : laidOutB Tryz.prog = true := by kernel_rfl
/-- a slice of integers that came in: nil, or a row of cap cells. -/
def IsRow (k : IntKind) (w : World) (a : Option Addr) (len cap : Nat) (zs : List Int) : Prop :=
 (a = none ∧ len = 0 ∧ cap = 0 ∧ zs = []) ∨
 ∃ x, a = some x ∧ len ≤ cap ∧ cap ≤ maxLen ∧ zs.length = cap ∧ (∀ i, i < zs.length → w.cell? (x.add i) = some (.int k (zs.getD i 0))) ∧ ∀ n ∈ zs, (Lit.int k n).wf = true
theorem add_none {w : World} {x : Addr} {i : Nat} {v : Value} (h : w.cell? (x.add i) = some v) (h0 : ∃ u, w.cell? (x.add 0) = some u) : x.add i = ⟨x.block, x.off + i, none⟩ := by
 obtain ⟨u, hu⟩ := h0
 have hs : x.spot = none := by
  have := World.cell?_spot hu
  simpa [Addr.add] using this
 obtain ⟨b, o, s⟩ := x
 simp only at hs
 subst hs
 unfold Addr.add
 split <;> simp_all
theorem IsRow.row1 {k : IntKind} {w : World} {a : Option Addr} {len cap : Nat} {zs : List Int} (h : IsRow k w a len cap zs) : Row1 w a len cap ((zs.take len).map (Value.int k)) := by
 rcases h with ⟨rfl, rfl, rfl, rfl⟩ | ⟨x, rfl, hl, hm, hz, hcell, hwz⟩
 ·exact Row1.nil w
 refine ⟨by simp; omega, hl, hm, fun hn => ⟨x.block, x.off, ?_, fun i hi => ?_⟩⟩
 ·have h0 := hcell 0 (by omega)
  have := add_none h0 ⟨_, h0⟩
  unfold Addr.add at this
  simp at this
  rw [this]
 have hi' : i < len := by simp at hi; omega
 have h0 := hcell 0 (by omega)
 have h1 := hcell i (by omega)
 rw [add_none h1 ⟨_, h0⟩] at h1
 rw [h1]
 simp [List.getElem_take, show i < zs.length by omega]
theorem IsRow.ins {w : World} {a : Option Addr} {len cap : Nat} {zs : List Int} (h : IsRow .i64 w a len cap zs) : Ins w a len cap (zs.take len) := h.row1
theorem IsRow.wf {k : IntKind} {w : World} {a : Option Addr} {len cap : Nat} {zs : List Int} (h : IsRow k w a len cap zs) : ∀ z ∈ zs.take len, (Lit.int k z).wf = true := by
 intro z hz
 rcases h with ⟨rfl, rfl, rfl, rfl⟩ | ⟨x, rfl, hl, hm, hz', hcell, hwz⟩
 ·simp at hz
 exact hwz z (List.mem_of_mem_take hz)
section
open Go.Deep
variable {H : Type} {enc : TypeId × Value → H} {P : Program} {w : World} {base : Nat} {spare : Nat → Bool} {held : Bool}
/-- a slice of structs of one-cell fields, opened to its cells -/
theorem open_slice_fields {t e : TypeId} {fs : Array Field} {fuel : Nat} {cs : List Value} {x : DataW H × List MemPlace} (ht : P.underlying t = some (.slice e)) (he : P.underlying e = some (.struct fs))
  (hone : oneCellFields P fs = true) (hC : P.cellsOf e = fs.size) (h : DataW.trod enc P w base spare held fuel t cs = some x) :
  (cs = [.slice none 0 0] ∧ x = (.nil, [])) ∨
  ∃ (a : Addr) (len cap m : Nat), cs = [.slice (some a) len cap] ∧ len ≤ cap ∧ cap ≤ maxLen ∧ len ≤ m ∧
   ∀ i, i < m → ∃ (ys : List (DataW H × List MemPlace)) (n : Nat), ys.length = fs.size ∧
    ∀ (j : Nat) (f : Field), fs[j]? = some f → ∃ (v : Value) (y : DataW H × List MemPlace), w.cell? (a.add (i * fs.size + j)) = some v ∧ DataW.trod enc P w base spare held n f.type [v] = some y := by
 rcases open_slice ht h with h0 | ⟨a, len, cap, m, n, D, Pl, hcs, hb, hl, hm, hmm, hx, hi⟩
 ·exact .inl h0
 refine .inr ⟨a, len, cap, m, hcs, hl, hm, by rw [hmm]; split <;> omega, fun i him => ?_⟩
 obtain ⟨cs', hc, ht'⟩ := hi i him
 rw [hC] at hc
 obtain ⟨ys, n', hn', hy, hlen, hyl, hf⟩ := DataW.trod_struct he ht'
 obtain ⟨_, hcl, hat⟩ := World.cells?_some hc
 refine ⟨ys, n', hyl, fun j f hj => ?_⟩
 obtain ⟨ho, hk⟩ := hone_of hone j f hj
 have hjl : j < fs.size := (Array.getElem?_eq_some_iff.1 hj).1
 have hcell := hat j hjl
 have hv : cs'[j]? = some (cs'[j]'(by omega)) := List.getElem?_eq_getElem (by omega)
 have h1 := hf j f hj
 rw [ho, hk] at h1
 have hone' : (cs'.drop j).take 1 = [cs'[j]'(by omega)] := by
  rw [List.drop_eq_getElem_cons (by omega)]
  rfl
 rw [hone'] at h1
 have hys : ys[j]? = some (ys[j]'(by omega)) := List.getElem?_eq_getElem (by omega)
 refine ⟨_, _, ?_, h1.trans hys⟩
 rw [← Go.Deep.add_add, hcell, hv]
theorem open_int1 {t : TypeId} {k : IntKind} {fuel : Nat} {v : Value} {y : DataW H × List MemPlace} (ht : P.underlying t = some (.int k)) (h : DataW.trod enc P w base spare held fuel t [v] = some y) : ∃ z, v = .int k z ∧ (Lit.int k z).wf = true := by
 obtain ⟨a, e0, _, wa⟩ := DataW.trod_int ht h
 simp at e0
 exact ⟨a, e0, wa⟩
theorem open_row {t e : TypeId} {k : IntKind} {fuel : Nat} {v : Value} {y : DataW H × List MemPlace} (ht : P.underlying t = some (.slice e)) (he : P.underlying e = some (.int k)) (hC : P.cellsOf e = 1) (h : DataW.trod enc P w base (fun _ => true) held fuel t [v] = some y) :
  ∃ a len cap zs, v = .slice a len cap ∧ IsRow k w a len cap zs := by
 rcases open_ints ht he hC h with ⟨hcs, _⟩ | ⟨x, l, c, zs, hcs, _, hl, hm, hz, _, hcell, hwz⟩
 ·simp at hcs
  exact ⟨none, 0, 0, [], hcs, .inl ⟨rfl, rfl, rfl, rfl⟩⟩
 simp at hcs
 exact ⟨some x, l, c, zs, hcs, .inr ⟨_, rfl, hl, hm, by simpa using hz, hcell, hwz⟩⟩
end
end Go.Proofs.YtgcfdjcpcclcjaaGreat
namespace Go.Proofs.YtgcfdjcpcclcjaaGreat
open Go.ChangeShapes Go.WideShapes Go.ChangeAt Go.RowKit Go.Kn Go.Deep
variable {H : Type} {enc : TypeId × Value → H}
theorem list_of {α : Type} {n : Nat} {p : Nat → α → Prop} (h : ∀ i, i < n → ∃ x, p i x) : ∃ l : List α, l.length = n ∧ ∀ i (hi : i < l.length), p i l[i] := by
 induction n with
 | zero => exact ⟨[], rfl, fun i hi => by simp at hi⟩
 | succ n ih =>
  obtain ⟨l, hl, hp⟩ := ih fun i hi => h i (by omega)
  obtain ⟨x, hx⟩ := h n (by omega)
  refine ⟨l ++ [x], by simp [hl], fun i hi => ?_⟩
  by_cases h1 : i < l.length
  ·rw [List.getElem_append_left h1]; exact hp i h1
  have : i = l.length := by simp at hi; omega
  subst this
  simpa [hl] using hx
end Go.Proofs.YtgcfdjcpcclcjaaGreat
