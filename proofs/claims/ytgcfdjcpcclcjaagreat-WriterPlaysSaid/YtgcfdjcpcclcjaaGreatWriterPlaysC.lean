/- DkE, RecA, RefD, RecC, RecE, DkF, DkG, DkH, KitA, GeoA, GeoB, HeadP, HeadM, HeadE, CrcC, CrcD, HeadR, HeadF, ScanP, GeoS, KitD: joined by pack.py, without what the claim does not use. -/
import Derived.Test.YtgcfdjcpcclcjaaGreatWriterPlaysB
set_option linter.unusedVariables false
set_option linter.unusedSimpArgs false
namespace Go.Kn
open Go Go.RowKit
def zero64 : List UInt8 := List.replicate 64 0
theorem flat_zero (n : Nat) : flat (List.replicate n zero64) = List.replicate (n * 64) (.int .u8 0) := by
 induction n with
 | zero => rfl
 | succ n ih =>
  have e : flat (List.replicate (n + 1) zero64) = bvs zero64 ++ flat (List.replicate n zero64) := by rw [List.replicate_succ]; simp [flat]
  rw [e, ih, show (n + 1) * 64 = 64 + n * 64 from by omega, ← List.replicate_append_replicate]
  congr 1
theorem madeCells_rep (v : Value) (m n : Nat) (hm : 0 < m) : madeCells (List.replicate m v).toArray n = (List.replicate n v).toArray := by
 apply Array.ext
 ·simp [madeCells]
 ·intro i h1 h2
  have hlt : i % m < m := Nat.mod_lt _ hm
  simp [madeCells, hlt]
theorem bls_zero (n : Nat) : bls (List.replicate n false) = List.replicate n (.bool false) := by simp [bls]
theorem Wc.gbox {w0 w : World} {L : List (Nat × List Value)} {G : List Gs} {F : List (World → Prop)} {e sz n g c : Nat} {xs : List Value} (h : Wc w0 w L (⟨e, sz, .slice (some ⟨g, 0, none⟩) n c, n, xs⟩ :: G) F) : Wc w0 w ((g, xs) :: L) G F := by
 have hg := h.gi 0 rfl
 have hob : (Value.slice (some (⟨g, 0, none⟩ : Addr)) n c).ownBlock = some g := rfl
 have hlt := hg.lt g hob
 have hmut : ∀ k, Mut ((g, xs) :: L) G k ↔ Mut L (⟨e, sz, .slice (some ⟨g, 0, none⟩) n c, n, xs⟩ :: G) k := by
  intro k
  unfold Mut
  constructor
  ·rintro (hk | ⟨x, hx, hk⟩)
   ·rcases List.mem_cons.1 hk with rfl | hk
    ·exact .inr ⟨_, List.mem_cons_self, hob⟩
    ·exact .inl hk
   ·exact .inr ⟨x, List.mem_cons_of_mem _ hx, hk⟩
  ·rintro (hk | ⟨x, hx, hk⟩)
   ·exact .inl (List.mem_cons_of_mem _ hk)
   ·rcases List.mem_cons.1 hx with rfl | hx
    ·rw [hob] at hk
     injection hk with hk
     subst hk
     exact .inl List.mem_cons_self
    ·exact .inr ⟨x, hx, hk⟩
 refine ⟨h.only, ?_, ?_, ?_, fun x hx => h.g1 x (List.mem_cons_of_mem _ hx), (List.pairwise_cons.1 h.g2).2, ?_, ?_⟩
 ·intro x hx
  rcases List.mem_cons.1 hx with rfl | hx
  ·rcases hg.2 with ⟨hv, _⟩ | ⟨g', cap, cur, hv, hb, hh, hn, hm, hs, ht⟩
   ·cases hv
   ·injection hv with e1 e2 e3
    injection e1 with e1
    injection e1 with e1
    subst e1
    exact ⟨cur, e, hh, by rw [hg.1]; exact ht⟩
  ·exact h.own x hx
 ·intro x hx
  rcases List.mem_cons.1 hx with rfl | hx
  ·exact hlt.1
  ·exact h.lo x hx
 ·rw [List.map_cons, List.nodup_cons]
  refine ⟨fun hm => ?_, h.nd⟩
  obtain ⟨x, hx, e1⟩ := List.mem_map.1 hm
  refine h.g3 x hx _ List.mem_cons_self ?_
  rw [hob, e1]
 ·intro x hx y hy
  rcases List.mem_cons.1 hx with rfl | hx
  ·exact fun hk => (List.pairwise_cons.1 h.g2).1 y hy g hob hk
  ·exact h.g3 x hx y (List.mem_cons_of_mem _ hy)
 ·intro f hf w2 h2
  exact h.fx f hf w2 fun k o hm hk hc => h2 k o (fun h3 => hm ((hmut k).1 h3)) hk hc
end Go.Kn
namespace Go.Proofs.YtgcfdjcpcclcjaaGreat
open Go Go.RowKit Go.Kn
theorem infoBlockZ : (Tryz.prog.info? 156).map (fun i => (i.zero.map (·.cells), i.size, i.bytes)) = some (some (List.replicate 64 (Value.int .u8 0)).toArray, 64, 64) := by kernel_rfl
theorem infoBoolZ : (Tryz.prog.info? 4).map (fun i => (i.zero, i.size, i.bytes)) = some (some (.bool false), 1, 1) := by kernel_rfl
theorem make_block (n : Nat) (hn : n ≤ 4096) (w : World) : (Instr.makeSlice 150 (.int .i64 n) (.int .i64 n)).run Tryz.prog w = .ok (.slice (some ⟨w.heap.size, 0, none⟩) n n) (w.alloc (.cells (flat (List.replicate n zero64)).toArray 156)) := by
 have hq := infoBlockZ
 cases hi : Tryz.prog.info? 156 with
 | none => simp [hi] at hq
 | some ie =>
  cases hz : ie.zero with
  | none => simp [hi, hz] at hq
  | some z =>
   simp only [hi, hz, Option.map_some, Option.some.injEq, Prod.mk.injEq] at hq
   obtain ⟨q1, q2, q3⟩ := hq
   have h := run_make (P := Tryz.prog) w 150 156 ie z Tryz.underlying150 hi hz .i64 .i64 n n (by omega) (by omega) (by rw [q3]; omega) (by omega)
   rw [h, q1, q2, madeCells_rep _ _ _ (by omega), flat_zero]
   rfl
theorem make_bools (n : Nat) (hn : n ≤ 4096) (w : World) : (Instr.makeSlice 107 (.int .i64 n) (.int .i64 n)).run Tryz.prog w = .ok (.slice (some ⟨w.heap.size, 0, none⟩) n n) (w.alloc (.cells (bls (List.replicate n false)).toArray 4)) := by
 obtain ⟨i0, hi, hz0, hz1, hz2⟩ := info_parts infoBoolZ
 have h := run_make (P := Tryz.prog) w 107 4 i0 (.bool false) Tryz.underlying107 hi hz0 .i64 .i64 n n (by omega) (by omega) (by rw [hz2]; omega) (by omega)
 have e := madeCells_rep (.bool false) 1 n (by omega)
 rw [h, hz1, bls_zero, Nat.mul_one]
 show Result.ok _ (w.alloc (.cells (madeCells (List.replicate 1 (Value.bool false)).toArray _) _)) = _
 rw [madeCells_rep _ _ _ (by omega)]
 rfl
/-- what makes the program's disk -/
def NewP (n : Nat) (w : World) (e : Ending) (w' : World) : Prop := ∃ p : PD, e = .returned (.tuple #[.pointer (some ⟨p.D, 0, none⟩), .int .i64 0]) ∧ p.N = n ∧ Only [] w w' ∧ ∀ (w0 : World) (c : Fr3), Wc w0 w c.L c.G c.F → Dsk w0 w' p (Dk.new n) c
theorem NewP.mk {n D s nn f : Nat} {w w' : World} (h1 : 1 ≤ n) (h2 : n ≤ 4096) (hO : Only [] w w') (hl : n ≤ 4096)
  (h : ∀ (w0 : World) (c : Fr3), Wc w0 w c.L c.G c.F → Wc w0 w' ((D, [.slice (some ⟨s, 0, none⟩) n n, .slice (some ⟨nn, 0, none⟩) n n, .slice none 0 0, .slice (some ⟨f, 0, none⟩) n n, .int .i64 (-1), .int .i64 0, .bool false]) :: (s, flat (List.replicate n zero64)) :: (nn, flat (List.replicate n zero64)) :: (f, bls (List.replicate n false)) :: c.L) c.G c.F) :
  NewP n w (.returned (.tuple #[.pointer (some ⟨D, 0, none⟩), .int .i64 0])) w' :=
 ⟨⟨D, s, nn, f, n, n, n, n⟩, rfl, rfl, hO, fun w0 c hc => ⟨Dk.new_ok h1 h2, by simp [Dk.new], Nat.le_refl _, Nat.le_refl _, Nat.le_refl _, .slice none 0 0, (h w0 c hc).gnew _ _⟩⟩
set_option maxRecDepth 100000 in
set_option maxHeartbeats 8000000 in
theorem dk_new_any (n : Nat) (w : World) (h1 : 1 ≤ n) (h2 : n ≤ 4096) : Calls Tryz.prog 141 #[.int .i64 (n : Int)] w (NewP n w) := by
 obtain ⟨ZB, hZB⟩ : ∃ z, (flat (List.replicate n zero64)) = z := ⟨_, rfl⟩
 obtain ⟨ZF, hZF⟩ : ∃ z, (bls (List.replicate n false)) = z := ⟨_, rfl⟩
 have hmb := make_block n h2
 have hmf := make_bools n h2
 rw [hZB] at hmb
 rw [hZF] at hmf
 have HMB := Lib.hid hmb
 have HMF := Lib.hid hmf
 have HZB := Lib.hid hZB
 have HZF := Lib.hid hZF
 clear hmb hmf hZB hZF
 have HD0 : Hid (∀ (w0 : World) (c : Fr3), Wc w0 w c.L c.G c.F → Wc w0 w.drew c.L c.G c.F) := Lib.hid (fun w0 c h => h.drew)
 have HO0 := Lib.hid (Only.refl [] w).drew
 go_enter Tryz.func141, Tryz.ntmps141
 go_wp2_with fail
 refine wp_region_held_drew (S := fun _ => True) (by kernel_rfl) trivial (fun hSw0 => ?_)
 generalize w.drew = ws at *
 refine Kn.takeS 0 ⟨some 10, _, _, _, _, _⟩ ?_
 refine Kn.takeS 2 ⟨some 12, _, _, _, _, _⟩ ?_
 refine Kn.takeS 4 ⟨some 14, _, _, _, _, _⟩ ?_
 refine wpAnyH_ready (rs := [1, 3, 5]) (by kernel_rfl) (by simp) ?_
 refine AllReadyH.cons (o := ⟨some 11, _, _, _, _, _⟩) rfl (fun K hK => ?_) ?_
 ·have hmk := HMB.out
  go_simp
  clear hmk
  have HD1 : Hid (∀ (w0 : World) (c : Fr3), Wc w0 w c.L c.G c.F → Wc w0 (ws.alloc (.cells ZB.toArray 156)) ((ws.heap.size, ZB) :: c.L) c.G c.F) := Lib.hid (fun w0 c h => (HD0.out w0 c h).newB ZB.toArray 156 rfl)
  have HO1 := Lib.hid (HO0.out.alloc (.cells ZB.toArray 156))
  generalize hzs : ws.heap.size = bs at *
  clear hzs
  clear HD0 HO0
  generalize ws.alloc (.cells ZB.toArray 156) = wa at *
  clear ws
  obtain ⟨ws, rfl⟩ : ∃ x, x = wa := ⟨_, rfl⟩
  refine hK.out _ _ trivial (fun hSn => ?_)
  clear hK K hSw0
  have hSw0 := hSn
  clear hSn
  refine wpAnyH_ready (rs := [3, 5]) (by kernel_rfl) (by simp) ?_
  refine AllReadyH.cons (o := ⟨some 13, _, _, _, _, _⟩) rfl (fun K hK => ?_) ?_
  ·have hmk := HMB.out
   go_simp
   clear hmk
   have HD2 : Hid (∀ (w0 : World) (c : Fr3), Wc w0 w c.L c.G c.F → Wc w0 (ws.alloc (.cells ZB.toArray 156)) ((ws.heap.size, ZB) :: (bs, ZB) :: c.L) c.G c.F) := Lib.hid (fun w0 c h => (HD1.out w0 c h).newB ZB.toArray 156 rfl)
   have HO2 := Lib.hid (HO1.out.alloc (.cells ZB.toArray 156))
   generalize hzn : ws.heap.size = bn at *
   clear hzn
   clear HD1 HO1
   generalize ws.alloc (.cells ZB.toArray 156) = wa at *
   clear ws
   obtain ⟨ws, rfl⟩ : ∃ x, x = wa := ⟨_, rfl⟩
   refine hK.out _ _ trivial (fun hSn => ?_)
   clear hK K hSw0
   have hSw0 := hSn
   clear hSn
   refine Kn.takeR 5 ⟨some 15, _, _, _, _, _⟩ fun K hK => ?_
   have hmk := HMF.out
   go_simp
   clear hmk
   have HD3 : Hid (∀ (w0 : World) (c : Fr3), Wc w0 w c.L c.G c.F → Wc w0 (ws.alloc (.cells ZF.toArray 4)) ((ws.heap.size, ZF) :: (bn, ZB) :: (bs, ZB) :: c.L) c.G c.F) := Lib.hid (fun w0 c h => (HD2.out w0 c h).newB ZF.toArray 4 rfl)
   have HO3 := Lib.hid (HO2.out.alloc (.cells ZF.toArray 4))
   generalize hzf : ws.heap.size = bf at *
   clear hzf
   clear HD2 HO2
   generalize ws.alloc (.cells ZF.toArray 4) = wa at *
   clear ws
   obtain ⟨ws, rfl⟩ : ∃ x, x = wa := ⟨_, rfl⟩
   refine hK.out _ _ trivial (fun hSn => ?_)
   clear hK K hSw0
   have hSw0 := hSn
   clear hSn
   refine Kn.takeS 6 ⟨some 16, _, _, _, _, _⟩ ?_
   refine Kn.takeR 7 ⟨some 17, _, _, _, _, _⟩ fun K hK => ?_
   go_simp
   have HD4 : Hid (∀ (w0 : World) (c : Fr3), Wc w0 w c.L c.G c.F → Wc w0 (ws.alloc (.cells #[.slice (some ⟨bs, 0, none⟩) n n, .slice (some ⟨bn, 0, none⟩) n n, .slice none 0 0, .slice (some ⟨bf, 0, none⟩) n n, .int .i64 (-1), .int .i64 0, .bool false] 153)) ((ws.heap.size, [.slice (some ⟨bs, 0, none⟩) n n, .slice (some ⟨bn, 0, none⟩) n n, .slice none 0 0, .slice (some ⟨bf, 0, none⟩) n n, .int .i64 (-1), .int .i64 0, .bool false]) :: (bf, ZF) :: (bn, ZB) :: (bs, ZB) :: c.L) c.G c.F) := Lib.hid (fun w0 c h => (HD3.out w0 c h).newB #[.slice (some ⟨bs, 0, none⟩) n n, .slice (some ⟨bn, 0, none⟩) n n, .slice none 0 0, .slice (some ⟨bf, 0, none⟩) n n, .int .i64 (-1), .int .i64 0, .bool false] 153 rfl)
   have HO4 := Lib.hid (HO3.out.alloc (.cells #[.slice (some ⟨bs, 0, none⟩) n n, .slice (some ⟨bn, 0, none⟩) n n, .slice none 0 0, .slice (some ⟨bf, 0, none⟩) n n, .int .i64 (-1), .int .i64 0, .bool false] 153))
   generalize hzD : ws.heap.size = bD at *
   clear hzD
   clear HD3 HO3
   generalize ws.alloc (.cells #[.slice (some ⟨bs, 0, none⟩) n n, .slice (some ⟨bn, 0, none⟩) n n, .slice none 0 0, .slice (some ⟨bf, 0, none⟩) n n, .int .i64 (-1), .int .i64 0, .bool false] 153) = wa at *
   clear ws
   obtain ⟨ws, rfl⟩ : ∃ x, x = wa := ⟨_, rfl⟩
   refine hK.out _ _ trivial (fun hSn => ?_)
   clear hK K hSw0
   have hSw0 := hSn
   clear hSn
   refine Kn.takeS 8 ⟨some 2, _, _, _, _, _⟩ ?_
   refine Kn.takeS 9 ⟨some 3, _, _, _, _, _⟩ ?_
   refine wpAnyH_done (by kernel_rfl) ?_ _
   clear hSw0
   go_wp2
   go_ret2
   refine NewP.mk (s := bs) (nn := bn) (f := bf) h1 h2 HO4.out h2 (fun w0 c hc => ?_)
   rw [HZB.out, HZF.out]
   exact (HD4.out w0 c hc).perm ((((List.Perm.refl _).trans ((List.Perm.swap _ _ _).cons _)).trans (((List.Perm.swap _ _ _).cons _).cons _)).trans ((List.Perm.swap _ _ _).cons _)) (List.Perm.refl _)
  refine AllReadyH.cons (o := ⟨some 15, _, _, _, _, _⟩) rfl (fun K hK => ?_) ?_
  ·have hmk := HMF.out
   go_simp
   clear hmk
   have HD2 : Hid (∀ (w0 : World) (c : Fr3), Wc w0 w c.L c.G c.F → Wc w0 (ws.alloc (.cells ZF.toArray 4)) ((ws.heap.size, ZF) :: (bs, ZB) :: c.L) c.G c.F) := Lib.hid (fun w0 c h => (HD1.out w0 c h).newB ZF.toArray 4 rfl)
   have HO2 := Lib.hid (HO1.out.alloc (.cells ZF.toArray 4))
   generalize hzf : ws.heap.size = bf at *
   clear hzf
   clear HD1 HO1
   generalize ws.alloc (.cells ZF.toArray 4) = wa at *
   clear ws
   obtain ⟨ws, rfl⟩ : ∃ x, x = wa := ⟨_, rfl⟩
   refine hK.out _ _ trivial (fun hSn => ?_)
   clear hK K hSw0
   have hSw0 := hSn
   clear hSn
   refine Kn.takeR 3 ⟨some 13, _, _, _, _, _⟩ fun K hK => ?_
   have hmk := HMB.out
   go_simp
   clear hmk
   have HD3 : Hid (∀ (w0 : World) (c : Fr3), Wc w0 w c.L c.G c.F → Wc w0 (ws.alloc (.cells ZB.toArray 156)) ((ws.heap.size, ZB) :: (bf, ZF) :: (bs, ZB) :: c.L) c.G c.F) := Lib.hid (fun w0 c h => (HD2.out w0 c h).newB ZB.toArray 156 rfl)
   have HO3 := Lib.hid (HO2.out.alloc (.cells ZB.toArray 156))
   generalize hzn : ws.heap.size = bn at *
   clear hzn
   clear HD2 HO2
   generalize ws.alloc (.cells ZB.toArray 156) = wa at *
   clear ws
   obtain ⟨ws, rfl⟩ : ∃ x, x = wa := ⟨_, rfl⟩
   refine hK.out _ _ trivial (fun hSn => ?_)
   clear hK K hSw0
   have hSw0 := hSn
   clear hSn
   refine Kn.takeS 6 ⟨some 16, _, _, _, _, _⟩ ?_
   refine Kn.takeR 7 ⟨some 17, _, _, _, _, _⟩ fun K hK => ?_
   go_simp
   have HD4 : Hid (∀ (w0 : World) (c : Fr3), Wc w0 w c.L c.G c.F → Wc w0 (ws.alloc (.cells #[.slice (some ⟨bs, 0, none⟩) n n, .slice (some ⟨bn, 0, none⟩) n n, .slice none 0 0, .slice (some ⟨bf, 0, none⟩) n n, .int .i64 (-1), .int .i64 0, .bool false] 153)) ((ws.heap.size, [.slice (some ⟨bs, 0, none⟩) n n, .slice (some ⟨bn, 0, none⟩) n n, .slice none 0 0, .slice (some ⟨bf, 0, none⟩) n n, .int .i64 (-1), .int .i64 0, .bool false]) :: (bn, ZB) :: (bf, ZF) :: (bs, ZB) :: c.L) c.G c.F) := Lib.hid (fun w0 c h => (HD3.out w0 c h).newB #[.slice (some ⟨bs, 0, none⟩) n n, .slice (some ⟨bn, 0, none⟩) n n, .slice none 0 0, .slice (some ⟨bf, 0, none⟩) n n, .int .i64 (-1), .int .i64 0, .bool false] 153 rfl)
   have HO4 := Lib.hid (HO3.out.alloc (.cells #[.slice (some ⟨bs, 0, none⟩) n n, .slice (some ⟨bn, 0, none⟩) n n, .slice none 0 0, .slice (some ⟨bf, 0, none⟩) n n, .int .i64 (-1), .int .i64 0, .bool false] 153))
   generalize hzD : ws.heap.size = bD at *
   clear hzD
   clear HD3 HO3
   generalize ws.alloc (.cells #[.slice (some ⟨bs, 0, none⟩) n n, .slice (some ⟨bn, 0, none⟩) n n, .slice none 0 0, .slice (some ⟨bf, 0, none⟩) n n, .int .i64 (-1), .int .i64 0, .bool false] 153) = wa at *
   clear ws
   obtain ⟨ws, rfl⟩ : ∃ x, x = wa := ⟨_, rfl⟩
   refine hK.out _ _ trivial (fun hSn => ?_)
   clear hK K hSw0
   have hSw0 := hSn
   clear hSn
   refine Kn.takeS 8 ⟨some 2, _, _, _, _, _⟩ ?_
   refine Kn.takeS 9 ⟨some 3, _, _, _, _, _⟩ ?_
   refine wpAnyH_done (by kernel_rfl) ?_ _
   clear hSw0
   go_wp2
   go_ret2
   refine NewP.mk (s := bs) (nn := bn) (f := bf) h1 h2 HO4.out h2 (fun w0 c hc => ?_)
   rw [HZB.out, HZF.out]
   exact (HD4.out w0 c hc).perm (((List.Perm.refl _).trans (((List.Perm.swap _ _ _).cons _).cons _)).trans ((List.Perm.swap _ _ _).cons _)) (List.Perm.refl _)
  exact AllReadyH.nil
 refine AllReadyH.cons (o := ⟨some 13, _, _, _, _, _⟩) rfl (fun K hK => ?_) ?_
 ·have hmk := HMB.out
  go_simp
  clear hmk
  have HD1 : Hid (∀ (w0 : World) (c : Fr3), Wc w0 w c.L c.G c.F → Wc w0 (ws.alloc (.cells ZB.toArray 156)) ((ws.heap.size, ZB) :: c.L) c.G c.F) := Lib.hid (fun w0 c h => (HD0.out w0 c h).newB ZB.toArray 156 rfl)
  have HO1 := Lib.hid (HO0.out.alloc (.cells ZB.toArray 156))
  generalize hzn : ws.heap.size = bn at *
  clear hzn
  clear HD0 HO0
  generalize ws.alloc (.cells ZB.toArray 156) = wa at *
  clear ws
  obtain ⟨ws, rfl⟩ : ∃ x, x = wa := ⟨_, rfl⟩
  refine hK.out _ _ trivial (fun hSn => ?_)
  clear hK K hSw0
  have hSw0 := hSn
  clear hSn
  refine wpAnyH_ready (rs := [1, 5]) (by kernel_rfl) (by simp) ?_
  refine AllReadyH.cons (o := ⟨some 11, _, _, _, _, _⟩) rfl (fun K hK => ?_) ?_
  ·have hmk := HMB.out
   go_simp
   clear hmk
   have HD2 : Hid (∀ (w0 : World) (c : Fr3), Wc w0 w c.L c.G c.F → Wc w0 (ws.alloc (.cells ZB.toArray 156)) ((ws.heap.size, ZB) :: (bn, ZB) :: c.L) c.G c.F) := Lib.hid (fun w0 c h => (HD1.out w0 c h).newB ZB.toArray 156 rfl)
   have HO2 := Lib.hid (HO1.out.alloc (.cells ZB.toArray 156))
   generalize hzs : ws.heap.size = bs at *
   clear hzs
   clear HD1 HO1
   generalize ws.alloc (.cells ZB.toArray 156) = wa at *
   clear ws
   obtain ⟨ws, rfl⟩ : ∃ x, x = wa := ⟨_, rfl⟩
   refine hK.out _ _ trivial (fun hSn => ?_)
   clear hK K hSw0
   have hSw0 := hSn
   clear hSn
   refine Kn.takeR 5 ⟨some 15, _, _, _, _, _⟩ fun K hK => ?_
   have hmk := HMF.out
   go_simp
   clear hmk
   have HD3 : Hid (∀ (w0 : World) (c : Fr3), Wc w0 w c.L c.G c.F → Wc w0 (ws.alloc (.cells ZF.toArray 4)) ((ws.heap.size, ZF) :: (bs, ZB) :: (bn, ZB) :: c.L) c.G c.F) := Lib.hid (fun w0 c h => (HD2.out w0 c h).newB ZF.toArray 4 rfl)
   have HO3 := Lib.hid (HO2.out.alloc (.cells ZF.toArray 4))
   generalize hzf : ws.heap.size = bf at *
   clear hzf
   clear HD2 HO2
   generalize ws.alloc (.cells ZF.toArray 4) = wa at *
   clear ws
   obtain ⟨ws, rfl⟩ : ∃ x, x = wa := ⟨_, rfl⟩
   refine hK.out _ _ trivial (fun hSn => ?_)
   clear hK K hSw0
   have hSw0 := hSn
   clear hSn
   refine Kn.takeS 6 ⟨some 16, _, _, _, _, _⟩ ?_
   refine Kn.takeR 7 ⟨some 17, _, _, _, _, _⟩ fun K hK => ?_
   go_simp
   have HD4 : Hid (∀ (w0 : World) (c : Fr3), Wc w0 w c.L c.G c.F → Wc w0 (ws.alloc (.cells #[.slice (some ⟨bs, 0, none⟩) n n, .slice (some ⟨bn, 0, none⟩) n n, .slice none 0 0, .slice (some ⟨bf, 0, none⟩) n n, .int .i64 (-1), .int .i64 0, .bool false] 153)) ((ws.heap.size, [.slice (some ⟨bs, 0, none⟩) n n, .slice (some ⟨bn, 0, none⟩) n n, .slice none 0 0, .slice (some ⟨bf, 0, none⟩) n n, .int .i64 (-1), .int .i64 0, .bool false]) :: (bf, ZF) :: (bs, ZB) :: (bn, ZB) :: c.L) c.G c.F) := Lib.hid (fun w0 c h => (HD3.out w0 c h).newB #[.slice (some ⟨bs, 0, none⟩) n n, .slice (some ⟨bn, 0, none⟩) n n, .slice none 0 0, .slice (some ⟨bf, 0, none⟩) n n, .int .i64 (-1), .int .i64 0, .bool false] 153 rfl)
   have HO4 := Lib.hid (HO3.out.alloc (.cells #[.slice (some ⟨bs, 0, none⟩) n n, .slice (some ⟨bn, 0, none⟩) n n, .slice none 0 0, .slice (some ⟨bf, 0, none⟩) n n, .int .i64 (-1), .int .i64 0, .bool false] 153))
   generalize hzD : ws.heap.size = bD at *
   clear hzD
   clear HD3 HO3
   generalize ws.alloc (.cells #[.slice (some ⟨bs, 0, none⟩) n n, .slice (some ⟨bn, 0, none⟩) n n, .slice none 0 0, .slice (some ⟨bf, 0, none⟩) n n, .int .i64 (-1), .int .i64 0, .bool false] 153) = wa at *
   clear ws
   obtain ⟨ws, rfl⟩ : ∃ x, x = wa := ⟨_, rfl⟩
   refine hK.out _ _ trivial (fun hSn => ?_)
   clear hK K hSw0
   have hSw0 := hSn
   clear hSn
   refine Kn.takeS 8 ⟨some 2, _, _, _, _, _⟩ ?_
   refine Kn.takeS 9 ⟨some 3, _, _, _, _, _⟩ ?_
   refine wpAnyH_done (by kernel_rfl) ?_ _
   clear hSw0
   go_wp2
   go_ret2
   refine NewP.mk (s := bs) (nn := bn) (f := bf) h1 h2 HO4.out h2 (fun w0 c hc => ?_)
   rw [HZB.out, HZF.out]
   exact (HD4.out w0 c hc).perm (((List.Perm.refl _).trans ((List.Perm.swap _ _ _).cons _)).trans (((List.Perm.swap _ _ _).cons _).cons _)) (List.Perm.refl _)
  refine AllReadyH.cons (o := ⟨some 15, _, _, _, _, _⟩) rfl (fun K hK => ?_) ?_
  ·have hmk := HMF.out
   go_simp
   clear hmk
   have HD2 : Hid (∀ (w0 : World) (c : Fr3), Wc w0 w c.L c.G c.F → Wc w0 (ws.alloc (.cells ZF.toArray 4)) ((ws.heap.size, ZF) :: (bn, ZB) :: c.L) c.G c.F) := Lib.hid (fun w0 c h => (HD1.out w0 c h).newB ZF.toArray 4 rfl)
   have HO2 := Lib.hid (HO1.out.alloc (.cells ZF.toArray 4))
   generalize hzf : ws.heap.size = bf at *
   clear hzf
   clear HD1 HO1
   generalize ws.alloc (.cells ZF.toArray 4) = wa at *
   clear ws
   obtain ⟨ws, rfl⟩ : ∃ x, x = wa := ⟨_, rfl⟩
   refine hK.out _ _ trivial (fun hSn => ?_)
   clear hK K hSw0
   have hSw0 := hSn
   clear hSn
   refine Kn.takeR 1 ⟨some 11, _, _, _, _, _⟩ fun K hK => ?_
   have hmk := HMB.out
   go_simp
   clear hmk
   have HD3 : Hid (∀ (w0 : World) (c : Fr3), Wc w0 w c.L c.G c.F → Wc w0 (ws.alloc (.cells ZB.toArray 156)) ((ws.heap.size, ZB) :: (bf, ZF) :: (bn, ZB) :: c.L) c.G c.F) := Lib.hid (fun w0 c h => (HD2.out w0 c h).newB ZB.toArray 156 rfl)
   have HO3 := Lib.hid (HO2.out.alloc (.cells ZB.toArray 156))
   generalize hzs : ws.heap.size = bs at *
   clear hzs
   clear HD2 HO2
   generalize ws.alloc (.cells ZB.toArray 156) = wa at *
   clear ws
   obtain ⟨ws, rfl⟩ : ∃ x, x = wa := ⟨_, rfl⟩
   refine hK.out _ _ trivial (fun hSn => ?_)
   clear hK K hSw0
   have hSw0 := hSn
   clear hSn
   refine Kn.takeS 6 ⟨some 16, _, _, _, _, _⟩ ?_
   refine Kn.takeR 7 ⟨some 17, _, _, _, _, _⟩ fun K hK => ?_
   go_simp
   have HD4 : Hid (∀ (w0 : World) (c : Fr3), Wc w0 w c.L c.G c.F → Wc w0 (ws.alloc (.cells #[.slice (some ⟨bs, 0, none⟩) n n, .slice (some ⟨bn, 0, none⟩) n n, .slice none 0 0, .slice (some ⟨bf, 0, none⟩) n n, .int .i64 (-1), .int .i64 0, .bool false] 153)) ((ws.heap.size, [.slice (some ⟨bs, 0, none⟩) n n, .slice (some ⟨bn, 0, none⟩) n n, .slice none 0 0, .slice (some ⟨bf, 0, none⟩) n n, .int .i64 (-1), .int .i64 0, .bool false]) :: (bs, ZB) :: (bf, ZF) :: (bn, ZB) :: c.L) c.G c.F) := Lib.hid (fun w0 c h => (HD3.out w0 c h).newB #[.slice (some ⟨bs, 0, none⟩) n n, .slice (some ⟨bn, 0, none⟩) n n, .slice none 0 0, .slice (some ⟨bf, 0, none⟩) n n, .int .i64 (-1), .int .i64 0, .bool false] 153 rfl)
   have HO4 := Lib.hid (HO3.out.alloc (.cells #[.slice (some ⟨bs, 0, none⟩) n n, .slice (some ⟨bn, 0, none⟩) n n, .slice none 0 0, .slice (some ⟨bf, 0, none⟩) n n, .int .i64 (-1), .int .i64 0, .bool false] 153))
   generalize hzD : ws.heap.size = bD at *
   clear hzD
   clear HD3 HO3
   generalize ws.alloc (.cells #[.slice (some ⟨bs, 0, none⟩) n n, .slice (some ⟨bn, 0, none⟩) n n, .slice none 0 0, .slice (some ⟨bf, 0, none⟩) n n, .int .i64 (-1), .int .i64 0, .bool false] 153) = wa at *
   clear ws
   obtain ⟨ws, rfl⟩ : ∃ x, x = wa := ⟨_, rfl⟩
   refine hK.out _ _ trivial (fun hSn => ?_)
   clear hK K hSw0
   have hSw0 := hSn
   clear hSn
   refine Kn.takeS 8 ⟨some 2, _, _, _, _, _⟩ ?_
   refine Kn.takeS 9 ⟨some 3, _, _, _, _, _⟩ ?_
   refine wpAnyH_done (by kernel_rfl) ?_ _
   clear hSw0
   go_wp2
   go_ret2
   refine NewP.mk (s := bs) (nn := bn) (f := bf) h1 h2 HO4.out h2 (fun w0 c hc => ?_)
   rw [HZB.out, HZF.out]
   exact (HD4.out w0 c hc).perm ((List.Perm.refl _).trans (((List.Perm.swap _ _ _).cons _).cons _)) (List.Perm.refl _)
  exact AllReadyH.nil
 refine AllReadyH.cons (o := ⟨some 15, _, _, _, _, _⟩) rfl (fun K hK => ?_) ?_
 ·have hmk := HMF.out
  go_simp
  clear hmk
  have HD1 : Hid (∀ (w0 : World) (c : Fr3), Wc w0 w c.L c.G c.F → Wc w0 (ws.alloc (.cells ZF.toArray 4)) ((ws.heap.size, ZF) :: c.L) c.G c.F) := Lib.hid (fun w0 c h => (HD0.out w0 c h).newB ZF.toArray 4 rfl)
  have HO1 := Lib.hid (HO0.out.alloc (.cells ZF.toArray 4))
  generalize hzf : ws.heap.size = bf at *
  clear hzf
  clear HD0 HO0
  generalize ws.alloc (.cells ZF.toArray 4) = wa at *
  clear ws
  obtain ⟨ws, rfl⟩ : ∃ x, x = wa := ⟨_, rfl⟩
  refine hK.out _ _ trivial (fun hSn => ?_)
  clear hK K hSw0
  have hSw0 := hSn
  clear hSn
  refine wpAnyH_ready (rs := [1, 3]) (by kernel_rfl) (by simp) ?_
  refine AllReadyH.cons (o := ⟨some 11, _, _, _, _, _⟩) rfl (fun K hK => ?_) ?_
  ·have hmk := HMB.out
   go_simp
   clear hmk
   have HD2 : Hid (∀ (w0 : World) (c : Fr3), Wc w0 w c.L c.G c.F → Wc w0 (ws.alloc (.cells ZB.toArray 156)) ((ws.heap.size, ZB) :: (bf, ZF) :: c.L) c.G c.F) := Lib.hid (fun w0 c h => (HD1.out w0 c h).newB ZB.toArray 156 rfl)
   have HO2 := Lib.hid (HO1.out.alloc (.cells ZB.toArray 156))
   generalize hzs : ws.heap.size = bs at *
   clear hzs
   clear HD1 HO1
   generalize ws.alloc (.cells ZB.toArray 156) = wa at *
   clear ws
   obtain ⟨ws, rfl⟩ : ∃ x, x = wa := ⟨_, rfl⟩
   refine hK.out _ _ trivial (fun hSn => ?_)
   clear hK K hSw0
   have hSw0 := hSn
   clear hSn
   refine Kn.takeR 3 ⟨some 13, _, _, _, _, _⟩ fun K hK => ?_
   have hmk := HMB.out
   go_simp
   clear hmk
   have HD3 : Hid (∀ (w0 : World) (c : Fr3), Wc w0 w c.L c.G c.F → Wc w0 (ws.alloc (.cells ZB.toArray 156)) ((ws.heap.size, ZB) :: (bs, ZB) :: (bf, ZF) :: c.L) c.G c.F) := Lib.hid (fun w0 c h => (HD2.out w0 c h).newB ZB.toArray 156 rfl)
   have HO3 := Lib.hid (HO2.out.alloc (.cells ZB.toArray 156))
   generalize hzn : ws.heap.size = bn at *
   clear hzn
   clear HD2 HO2
   generalize ws.alloc (.cells ZB.toArray 156) = wa at *
   clear ws
   obtain ⟨ws, rfl⟩ : ∃ x, x = wa := ⟨_, rfl⟩
   refine hK.out _ _ trivial (fun hSn => ?_)
   clear hK K hSw0
   have hSw0 := hSn
   clear hSn
   refine Kn.takeS 6 ⟨some 16, _, _, _, _, _⟩ ?_
   refine Kn.takeR 7 ⟨some 17, _, _, _, _, _⟩ fun K hK => ?_
   go_simp
   have HD4 : Hid (∀ (w0 : World) (c : Fr3), Wc w0 w c.L c.G c.F → Wc w0 (ws.alloc (.cells #[.slice (some ⟨bs, 0, none⟩) n n, .slice (some ⟨bn, 0, none⟩) n n, .slice none 0 0, .slice (some ⟨bf, 0, none⟩) n n, .int .i64 (-1), .int .i64 0, .bool false] 153)) ((ws.heap.size, [.slice (some ⟨bs, 0, none⟩) n n, .slice (some ⟨bn, 0, none⟩) n n, .slice none 0 0, .slice (some ⟨bf, 0, none⟩) n n, .int .i64 (-1), .int .i64 0, .bool false]) :: (bn, ZB) :: (bs, ZB) :: (bf, ZF) :: c.L) c.G c.F) := Lib.hid (fun w0 c h => (HD3.out w0 c h).newB #[.slice (some ⟨bs, 0, none⟩) n n, .slice (some ⟨bn, 0, none⟩) n n, .slice none 0 0, .slice (some ⟨bf, 0, none⟩) n n, .int .i64 (-1), .int .i64 0, .bool false] 153 rfl)
   have HO4 := Lib.hid (HO3.out.alloc (.cells #[.slice (some ⟨bs, 0, none⟩) n n, .slice (some ⟨bn, 0, none⟩) n n, .slice none 0 0, .slice (some ⟨bf, 0, none⟩) n n, .int .i64 (-1), .int .i64 0, .bool false] 153))
   generalize hzD : ws.heap.size = bD at *
   clear hzD
   clear HD3 HO3
   generalize ws.alloc (.cells #[.slice (some ⟨bs, 0, none⟩) n n, .slice (some ⟨bn, 0, none⟩) n n, .slice none 0 0, .slice (some ⟨bf, 0, none⟩) n n, .int .i64 (-1), .int .i64 0, .bool false] 153) = wa at *
   clear ws
   obtain ⟨ws, rfl⟩ : ∃ x, x = wa := ⟨_, rfl⟩
   refine hK.out _ _ trivial (fun hSn => ?_)
   clear hK K hSw0
   have hSw0 := hSn
   clear hSn
   refine Kn.takeS 8 ⟨some 2, _, _, _, _, _⟩ ?_
   refine Kn.takeS 9 ⟨some 3, _, _, _, _, _⟩ ?_
   refine wpAnyH_done (by kernel_rfl) ?_ _
   clear hSw0
   go_wp2
   go_ret2
   refine NewP.mk (s := bs) (nn := bn) (f := bf) h1 h2 HO4.out h2 (fun w0 c hc => ?_)
   rw [HZB.out, HZF.out]
   exact (HD4.out w0 c hc).perm ((List.Perm.refl _).trans ((List.Perm.swap _ _ _).cons _)) (List.Perm.refl _)
  refine AllReadyH.cons (o := ⟨some 13, _, _, _, _, _⟩) rfl (fun K hK => ?_) ?_
  ·have hmk := HMB.out
   go_simp
   clear hmk
   have HD2 : Hid (∀ (w0 : World) (c : Fr3), Wc w0 w c.L c.G c.F → Wc w0 (ws.alloc (.cells ZB.toArray 156)) ((ws.heap.size, ZB) :: (bf, ZF) :: c.L) c.G c.F) := Lib.hid (fun w0 c h => (HD1.out w0 c h).newB ZB.toArray 156 rfl)
   have HO2 := Lib.hid (HO1.out.alloc (.cells ZB.toArray 156))
   generalize hzn : ws.heap.size = bn at *
   clear hzn
   clear HD1 HO1
   generalize ws.alloc (.cells ZB.toArray 156) = wa at *
   clear ws
   obtain ⟨ws, rfl⟩ : ∃ x, x = wa := ⟨_, rfl⟩
   refine hK.out _ _ trivial (fun hSn => ?_)
   clear hK K hSw0
   have hSw0 := hSn
   clear hSn
   refine Kn.takeR 1 ⟨some 11, _, _, _, _, _⟩ fun K hK => ?_
   have hmk := HMB.out
   go_simp
   clear hmk
   have HD3 : Hid (∀ (w0 : World) (c : Fr3), Wc w0 w c.L c.G c.F → Wc w0 (ws.alloc (.cells ZB.toArray 156)) ((ws.heap.size, ZB) :: (bn, ZB) :: (bf, ZF) :: c.L) c.G c.F) := Lib.hid (fun w0 c h => (HD2.out w0 c h).newB ZB.toArray 156 rfl)
   have HO3 := Lib.hid (HO2.out.alloc (.cells ZB.toArray 156))
   generalize hzs : ws.heap.size = bs at *
   clear hzs
   clear HD2 HO2
   generalize ws.alloc (.cells ZB.toArray 156) = wa at *
   clear ws
   obtain ⟨ws, rfl⟩ : ∃ x, x = wa := ⟨_, rfl⟩
   refine hK.out _ _ trivial (fun hSn => ?_)
   clear hK K hSw0
   have hSw0 := hSn
   clear hSn
   refine Kn.takeS 6 ⟨some 16, _, _, _, _, _⟩ ?_
   refine Kn.takeR 7 ⟨some 17, _, _, _, _, _⟩ fun K hK => ?_
   go_simp
   have HD4 : Hid (∀ (w0 : World) (c : Fr3), Wc w0 w c.L c.G c.F → Wc w0 (ws.alloc (.cells #[.slice (some ⟨bs, 0, none⟩) n n, .slice (some ⟨bn, 0, none⟩) n n, .slice none 0 0, .slice (some ⟨bf, 0, none⟩) n n, .int .i64 (-1), .int .i64 0, .bool false] 153)) ((ws.heap.size, [.slice (some ⟨bs, 0, none⟩) n n, .slice (some ⟨bn, 0, none⟩) n n, .slice none 0 0, .slice (some ⟨bf, 0, none⟩) n n, .int .i64 (-1), .int .i64 0, .bool false]) :: (bs, ZB) :: (bn, ZB) :: (bf, ZF) :: c.L) c.G c.F) := Lib.hid (fun w0 c h => (HD3.out w0 c h).newB #[.slice (some ⟨bs, 0, none⟩) n n, .slice (some ⟨bn, 0, none⟩) n n, .slice none 0 0, .slice (some ⟨bf, 0, none⟩) n n, .int .i64 (-1), .int .i64 0, .bool false] 153 rfl)
   have HO4 := Lib.hid (HO3.out.alloc (.cells #[.slice (some ⟨bs, 0, none⟩) n n, .slice (some ⟨bn, 0, none⟩) n n, .slice none 0 0, .slice (some ⟨bf, 0, none⟩) n n, .int .i64 (-1), .int .i64 0, .bool false] 153))
   generalize hzD : ws.heap.size = bD at *
   clear hzD
   clear HD3 HO3
   generalize ws.alloc (.cells #[.slice (some ⟨bs, 0, none⟩) n n, .slice (some ⟨bn, 0, none⟩) n n, .slice none 0 0, .slice (some ⟨bf, 0, none⟩) n n, .int .i64 (-1), .int .i64 0, .bool false] 153) = wa at *
   clear ws
   obtain ⟨ws, rfl⟩ : ∃ x, x = wa := ⟨_, rfl⟩
   refine hK.out _ _ trivial (fun hSn => ?_)
   clear hK K hSw0
   have hSw0 := hSn
   clear hSn
   refine Kn.takeS 8 ⟨some 2, _, _, _, _, _⟩ ?_
   refine Kn.takeS 9 ⟨some 3, _, _, _, _, _⟩ ?_
   refine wpAnyH_done (by kernel_rfl) ?_ _
   clear hSw0
   go_wp2
   go_ret2
   refine NewP.mk (s := bs) (nn := bn) (f := bf) h1 h2 HO4.out h2 (fun w0 c hc => ?_)
   rw [HZB.out, HZF.out]
   exact (HD4.out w0 c hc).perm (List.Perm.refl _) (List.Perm.refl _)
  exact AllReadyH.nil
 exact AllReadyH.nil
end Go.Proofs.YtgcfdjcpcclcjaaGreat
namespace Go.Kn
open Go Go.RowKit
def is64 (b : List UInt8) : Bool := decide (b.length = 64)
theorem full64_eq (bl : List (List UInt8)) : full64 bl = bl.all is64 := rfl
theorem full_take {bl : List (List UInt8)} {j : Nat} (hj : j < bl.length) (h : full64 (bl.take j) = true) (hm : is64 bl[j] = true) : full64 (bl.take (j + 1)) = true := by
 rw [full64_eq] at *
 rw [List.take_succ_eq_append_getElem hj, List.all_append, h]
 simp [hm]
theorem full_no {bl : List (List UInt8)} {j : Nat} (hj : j < bl.length) (hm : is64 bl[j] = false) : full64 bl = false := by
 cases h : full64 bl with
 | false => rfl
 | true =>
  have := List.all_eq_true.1 h bl[j] (List.getElem_mem _)
  rw [show decide (bl[j].length = 64) = is64 bl[j] from rfl, hm] at this
  cases this
theorem loads_take {l : List It} {j : Nat} (hj : j < l.length) : loads (l.take (j + 1)) = loads (l.take j) + if l[j].loaded then 1 else 0 := by
 rw [List.take_succ_eq_append_getElem hj, loads_snoc]
theorem rcMay_head {r : Rc} (h : rcHeadMay r = false) : rcMay r = false := by unfold rcMay; rw [h]; rfl
theorem rcMay_its {r : Rc} {j : Nat} (hj : j < r.its.length) (h : r.its[j].may = false) : rcMay r = false := by
 have : r.its.all It.may = false := by
  cases h' : r.its.all It.may with
  | false => rfl
  | true =>
   have := List.all_eq_true.1 h' r.its[j] (List.getElem_mem _)
   rw [h] at this
   cases this
 unfold rcMay
 rw [this, Bool.false_and, Bool.and_false]
theorem rcMay_yes {r : Rc} (h : rcHeadMay r = true) (hi : r.its.all It.may = true) : rcMay r = (decide (r.bl.length = loads r.its) && full64 r.bl) := by
 unfold rcMay
 rw [h, hi]
 rfl
end Go.Kn
namespace Go.Proofs.YtgcfdjcpcclcjaaGreat
open Go Go.RowKit Go.Kn
theorem rec_within_any (n lo hi : Int) (w : World) : Calls Tryz.prog 215 #[.int .i64 n, .int .i64 lo, .int .i64 hi] w fun e w' => e = .returned (.bool (decide (lo ≤ n ∧ n ≤ hi))) ∧ w = w' := by
  go_enter Tryz.func215, Tryz.ntmps215
  by_cases h1 : lo ≤ n <;> by_cases h2 : n ≤ hi <;>
  (go_wp2
   go_ret
   exact ⟨by simp [*], rfl⟩)
theorem rec_is64_any (A : Option Addr) (n c : Nat) (b : List UInt8) (w : World) (h : Bys w A n c b) : Calls Tryz.prog 217 #[.slice A n c] w fun e w' => e = .returned (.bool (!is64 b)) ∧ w = w' := by
 have hl := h.len
 rw [bvs_length] at hl
 have e1 : ((n : Int) != 64) = !is64 b := by unfold is64; rw [hl]; by_cases hn : n = 64 <;> simp [hn] <;> omega
 generalize is64 b = q at *
 have HE := Lib.hid e1
 clear e1 hl h
 go_enter Tryz.func217, Tryz.ntmps217
 go_wp2
 go_ret
 exact ⟨by rw [← HE.out]; rfl, rfl⟩
set_option maxRecDepth 100000 in
set_option maxHeartbeats 2000000 in
theorem rec_index_any (A : Option Addr) (n c : Nat) (bl : List (List UInt8)) (w : World) (hi : Blks w A n c bl) :
  Calls Tryz.prog 220 #[.slice A n c, .func (.func 217) #[] #[]] w fun e w' => ∃ r : Int, e = .returned (.int .i64 r) ∧ decide (0 ≤ r) = !(full64 bl) ∧ w = w' := by
 have hlen := hi.len
 have hcm := hi.cm
 have hcl := hi.le
 unfold maxLen at hcm
 have HI := Lib.hid hi
 have HL := Lib.hid hlen
 clear hi hlen
 have eg : ∀ args w, (callFunc 217 args).run Tryz.prog w = .ok (.enter 217 args) w := enters_of Tryz.func217 (by kernel_rfl) rfl
 go_enter Tryz.func220, Tryz.ntmps220
 go_wp2_with fail
 go_loopg [5, 8] n (fun r _ i wr => ∃ j : Nat, j + r = n ∧ i = .int .i64 j ∧ w = wr ∧ full64 (bl.take j) = true)
 case atStart => exact ⟨0, by omega, rfl, rfl, by simp [full64]⟩
 obtain ⟨j, hj, rfl, rfl, hal⟩ := hrel
 have HAL := Lib.hid hal
 clear hal
 by_cases hlt : j < n
 ·have hjz : j < bl.length := by rw [HL.out]; exact hlt
  obtain ⟨a, o, B, m, d, rfl, c0, hb⟩ := HI.out.at_ j hlt
  have HB := Lib.hid hb
  clear hb
  cases hm : is64 bl[j]
  ·have HM := Lib.hid hm
   clear hm
   generalize hz : bl[j] = z at *
   have HZ := Lib.hid hz
   clear hz
   go_wp2_with fail
   refine (rec_is64_any B m d z _ HB.out).mono ?_
   rintro e w2 ⟨rfl, rfl⟩
   rw [HM.out]
   go_wp2
   go_ret
   exact ⟨_, rfl, by rw [full_no hjz (by rw [HZ.out]; exact HM.out)]; simp, rfl⟩
  ·have HM := Lib.hid hm
   clear hm
   generalize hz : bl[j] = z at *
   have HZ := Lib.hid hz
   clear hz
   go_wp2_with fail
   refine (rec_is64_any B m d z _ HB.out).mono ?_
   rintro e w2 ⟨rfl, rfl⟩
   rw [HM.out]
   go_wp2
   go_roundg (gk - 1)
   case measure => omega
   case rel => exact ⟨j + 1, by omega, by go_num, rfl, full_take hjz HAL.out (by rw [HZ.out]; exact HM.out)⟩
 ·obtain rfl : j = n := by omega
  have hfull : bl.take j = bl := List.take_of_length_le (by rw [HL.out]; omega)
  have hal := HAL.out
  rw [hfull] at hal
  have HAL' := Lib.hid hal
  clear hal hfull
  go_wp2
  go_ret
  exact ⟨_, rfl, by rw [HAL'.out]; simp, rfl⟩
set_option maxRecDepth 100000 in
theorem rec_contains_any (A : Option Addr) (n c : Nat) (bl : List (List UInt8)) (w : World) (hi : Blks w A n c bl) :
  Calls Tryz.prog 216 #[.slice A n c, .func (.func 217) #[] #[]] w fun e w' => e = .returned (.bool (!(full64 bl))) ∧ w = w' := by
 have HI := Lib.hid hi
 clear hi
 obtain ⟨b, hb⟩ : ∃ b, full64 bl = b := ⟨_, rfl⟩
 have HB := Lib.hid hb
 rw [hb]
 clear hb
 go_enter Tryz.func216, Tryz.ntmps216
 go_wp2_with fail
 refine (rec_index_any A n c bl _ HI.out).mono ?_
 rintro e w' ⟨r, rfl, hr, rfl⟩
 rw [HB.out] at hr
 have HR := Lib.hid hr
 clear hr
 go_wp2
 go_ret
 exact ⟨by simp [HR.out], rfl⟩
set_option maxRecDepth 100000 in
set_option maxHeartbeats 8000000 in
theorem rec_may_no (m n p : Int) (A : Option Addr) (na ca : Nat) (B : Option Addr) (nb cb : Nat) (w : World) (ha : na ≤ ca) (hb : ca ≤ maxLen)
    (h : (decide (1 ≤ m ∧ m ≤ 2147483647) && (decide (1 ≤ n ∧ n ≤ 2147483647) && (decide (0 ≤ p ∧ p ≤ 4294967295) && decide (1 ≤ (na : Int) ∧ (na : Int) ≤ 6)))) = false) :
    Calls Tryz.prog 200 #[.agg #[.int .i64 m, .int .i64 n, .int .i64 p, .slice A na ca, .slice B nb cb]] w fun e w' => e = .returned (.bool false) ∧ Only [] w w' := by
  unfold maxLen at hb
  obtain ⟨b1, h1⟩ : ∃ b, decide (1 ≤ m ∧ m ≤ 2147483647) = b := ⟨_, rfl⟩
  obtain ⟨b2, h2⟩ : ∃ b, decide (1 ≤ n ∧ n ≤ 2147483647) = b := ⟨_, rfl⟩
  obtain ⟨b3, h3⟩ : ∃ b, decide (0 ≤ p ∧ p ≤ 4294967295) = b := ⟨_, rfl⟩
  obtain ⟨b4, h4⟩ : ∃ b, decide (1 ≤ (na : Int) ∧ (na : Int) ≤ 6) = b := ⟨_, rfl⟩
  rw [h1, h2, h3, h4] at h
  have H1 := Lib.hid h1
  have H2 := Lib.hid h2
  have H3 := Lib.hid h3
  have H4 := Lib.hid h4
  clear h1 h2 h3 h4
  cases b1 <;> cases b2 <;> cases b3 <;> cases b4 <;> first
    | (exact absurd h (by decide))
    | (clear h
       go_enter Tryz.func200, Tryz.ntmps200
       go_wp2_with (first | (go_at_call 215; refine (rec_within_any _ _ _ _).mono ?_; rintro e w' ⟨rfl, rfl⟩; first | rw [H1.out] | rw [H2.out] | rw [H3.out] | rw [H4.out]))
       go_ret
       exact ⟨rfl, (Only.refl _ _).alloc _⟩)
set_option maxRecDepth 100000 in
set_option maxHeartbeats 8000000 in
theorem rec_may_yes (m n p : Int) (A : Option Addr) (na ca : Nat) (its : List It) (B : Option Addr) (nb cb : Nat) (bl : List (List UInt8)) (w : World) (hi : Its w A na ca its) (hj : Blks w B nb cb bl)
  (h : rcHeadMay ⟨m, n, p, its, bl⟩ = true) :
  Calls Tryz.prog 200 #[.agg #[.int .i64 m, .int .i64 n, .int .i64 p, .slice A na ca, .slice B nb cb]] w fun e w' => e = .returned (.bool (rcMay ⟨m, n, p, its, bl⟩)) ∧ Only [] w w' := by
 have hlen := hi.len
 have hcm := hi.cm
 have hcl := hi.le
 have hln := hj.len
 have hdm := hj.cm
 have hdl := hj.le
 unfold maxLen at hcm hdm
 have h' := h
 unfold rcHeadMay at h'
 simp only [Bool.and_eq_true, decide_eq_true_eq] at h'
 have h1 : decide (1 ≤ m ∧ m ≤ 2147483647) = true := by simp; omega
 have h2 : decide (1 ≤ n ∧ n ≤ 2147483647) = true := by simp; omega
 have h3 : decide (0 ≤ p ∧ p ≤ 4294967295) = true := by simp; omega
 have h4 : decide (1 ≤ (na : Int) ∧ (na : Int) ≤ 6) = true := by simp; omega
 have hna : na ≤ 6 := by omega
 have HX := Lib.hid (And.intro h1 (And.intro h2 (And.intro h3 h4)))
 have HI := Lib.hid hi
 have HJ := Lib.hid hj
 have HL := Lib.hid hlen
 have HLB := Lib.hid hln
 have HH := Lib.hid h
 clear h1 h2 h3 h4 h' h hi hj hlen hln
 go_enter Tryz.func200, Tryz.ntmps200
 go_upto_region 3 with (first | (go_at_call 215; refine (rec_within_any _ _ _ _).mono ?_; rintro e w' ⟨rfl, rfl⟩; first | rw [HX.out.1] | rw [HX.out.2.1] | rw [HX.out.2.2.1] | rw [HX.out.2.2.2]))
 have hO0 := (Only.refl [] w).alloc (.cells #[.int .i64 m, .int .i64 n, .int .i64 p, .slice A na ca, .slice B nb cb] 56)
 have hbx := Own.new w #[.int .i64 m, .int .i64 n, .int .i64 p, .slice A na ca, .slice B nb cb] 56
 have x3 := hbx.cell 3 (by simp)
 have x4 := hbx.cell 4 (by simp)
 simp only [List.getElem_cons_zero, List.getElem_cons_succ] at x3 x4
 generalize w.alloc (.cells #[.int .i64 m, .int .i64 n, .int .i64 p, .slice A na ca, .slice B nb cb] 56) = w1 at *
 have HO := Lib.hid hO0
 have X4 := Lib.hid x4
 clear hO0 hbx x4
 go_wp2_with fail
 clear x3
 go_loopg [3, 32] na (fun r ld i wr => ∃ j : Nat, j + r = na ∧ ld = .int .i64 (loads (its.take j) : Nat) ∧ i = .int .i64 j ∧ Only [] w1 wr ∧ (its.take j).all It.may = true)
 case atStart => exact ⟨0, by omega, by simp [loads], rfl, Only.refl _ _, by simp⟩
 obtain ⟨j, hj, rfl, rfl, hO, hal⟩ := hrel
 have HO1 := Lib.hid hO
 have HAL := Lib.hid hal
 have hld := loads_le (its.take j)
 rw [List.length_take] at hld
 clear hO hal
 by_cases hlt : j < na
 ·have hjz : j < its.length := by rw [HL.out]; exact hlt
  obtain ⟨a, o, rfl, hc⟩ := HI.out.at_ (by omega)
  obtain ⟨q0, q1, q2, q3⟩ := hc j hjz
  have c0 := HO1.out.cell (HO.out.cell q0 (by simp)) (by simp)
  have c1 := HO1.out.cell (HO.out.cell q1 (by simp)) (by simp)
  have c2 := HO1.out.cell (HO.out.cell q2 (by simp)) (by simp)
  have c3 := HO1.out.cell (HO.out.cell q3 (by simp)) (by simp)
  have HIT : Hid (its[j] = ⟨its[j].k, its[j].b, its[j].c, its[j].v⟩) := Lib.hid rfl
  have HLT := Lib.hid (loads_take hjz)
  clear hc q0 q1 q2 q3
  cases hm : its[j].may
  ·have HM := Lib.hid hm
   clear hm
   generalize hik : its[j].k = ik at *
   generalize hib : its[j].b = ib at *
   generalize hic : its[j].c = ic at *
   generalize hiv : its[j].v = iv at *
   have HME : Hid (It.may ⟨ik, ib, ic, iv⟩ = false) := Lib.hid (by rw [← HIT.out]; exact HM.out)
   clear hik hib hic hiv
   go_wp2_with fail
   refine (item_may_any ik ib ic iv _).mono ?_
   rintro e w2 ⟨rfl, hO2⟩
   rw [HME.out]
   go_wp2
   go_ret
   exact ⟨by rw [rcMay_its (r := ⟨m, n, p, its, bl⟩) hjz HM.out]; rfl, (HO.out.trans' (HO1.out.alloc _)).trans' hO2⟩
  ·have HM := Lib.hid hm
   clear hm
   obtain ⟨q, hq⟩ : ∃ q, its[j].loaded = q := ⟨_, rfl⟩
   have HQ := Lib.hid hq
   clear hq
   generalize hik : its[j].k = ik at *
   generalize hib : its[j].b = ib at *
   generalize hic : its[j].c = ic at *
   generalize hiv : its[j].v = iv at *
   have HME : Hid (It.may ⟨ik, ib, ic, iv⟩ = true) := Lib.hid (by rw [← HIT.out]; exact HM.out)
   have HQE : Hid (It.loaded ⟨ik, ib, ic, iv⟩ = q) := Lib.hid (by rw [← HIT.out]; exact HQ.out)
   clear hik hib hic hiv
   go_wp2_with fail
   refine (item_may_any ik ib ic iv _).mono ?_
   rintro e w2 ⟨rfl, hO2⟩
   rw [HME.out]
   have x0 := hO2.cell (p := ⟨wr.heap.size, 0, none⟩) (v := .int .i64 ik) (by simp) (by simp)
   have x1 := hO2.cell (p := ⟨wr.heap.size, 1, none⟩) (v := .int .i64 ib) (by simp) (by simp)
   have x2 := hO2.cell (p := ⟨wr.heap.size, 2, none⟩) (v := .int .i64 ic) (by simp) (by simp)
   have x3 := hO2.cell (p := ⟨wr.heap.size, 3, none⟩) (v := .int .i64 iv) (by simp) (by simp)
   have HO2 := Lib.hid ((HO1.out.alloc (.cells #[.int .i64 ik, .int .i64 ib, .int .i64 ic, .int .i64 iv] 63)).trans' hO2)
   clear hO2 c0 c1 c2 c3
   generalize hlv : loads (its.take j) = lv at *
   have hl9 : lv ≤ 6 := by omega
   cases q
   ·go_wp2_with fail
    refine (item_loaded_any ik ib ic iv _).mono ?_
    rintro e w3 ⟨rfl, hO3⟩
    rw [HQE.out]
    have HO3 := Lib.hid (HO2.out.trans' hO3)
    clear hO3 x0 x1 x2 x3
    go_wp2
    go_roundg (gk - 1)
    case measure => omega
    case rel => exact ⟨j + 1, by omega, by rw [HLT.out, HQ.out]; rfl, by go_num, HO3.out, all_take hjz HAL.out HM.out⟩
   ·go_wp2_with fail
    refine (item_loaded_any ik ib ic iv _).mono ?_
    rintro e w3 ⟨rfl, hO3⟩
    rw [HQE.out]
    have HO3 := Lib.hid (HO2.out.trans' hO3)
    clear hO3 x0 x1 x2 x3
    go_wp2
    go_roundg (gk - 1)
    case measure => omega
    case rel => exact ⟨j + 1, by omega, by rw [HLT.out, HQ.out, if_pos rfl]; go_num, by go_num, HO3.out, all_take hjz HAL.out HM.out⟩
 ·obtain rfl : j = na := by omega
  have hfull : its.take j = its := List.take_of_length_le (by rw [HL.out]; omega)
  have hal := HAL.out
  rw [hfull] at hal hld ⊢
  have HAL' := Lib.hid hal
  have HY := Lib.hid (rcMay_yes (r := ⟨m, n, p, its, bl⟩) HH.out HAL'.out)
  have x4 := HO1.out.cell X4.out (by simp)
  have hlb := HLB.out
  generalize hlv : loads its = lv at *
  have HLV := Lib.hid hlv
  have hl9 : lv ≤ 6 := by omega
  have hd : decide (bl.length = lv) = decide (nb = lv) := by rw [hlb]
  have HD := Lib.hid hd
  clear hal hfull hlv hd hlb
  obtain ⟨q, hq⟩ : ∃ q, full64 bl = q := ⟨_, rfl⟩
  have HQ := Lib.hid hq
  clear hq
  by_cases hnl : nb = lv
  ·have hn1 : ((nb : Int) == (lv : Int)) = true := by simp; omega
   have HNL := Lib.hid hnl
   clear hnl
   go_wp2_with fail
   refine (rec_contains_any B nb cb bl _ (by exact (HJ.out.keep0 HO.out).keep0 HO1.out)).mono ?_
   rintro e w3 ⟨rfl, rfl⟩
   rw [HQ.out]
   go_wp2
   go_ret
   refine ⟨?_, HO.out.trans' HO1.out⟩
   rw [HY.out, HD.out, HQ.out, decide_eq_true HNL.out]
   simp
  ·have hn1 : ((nb : Int) == (lv : Int)) = false := by simp; omega
   have HNL := Lib.hid hnl
   clear hnl
   go_wp2_with fail
   go_ret
   refine ⟨?_, HO.out.trans' HO1.out⟩
   rw [HY.out, HD.out, decide_eq_false HNL.out]
   simp
theorem rec_may_any (m n p : Int) (A : Option Addr) (na ca : Nat) (its : List It) (B : Option Addr) (nb cb : Nat) (bl : List (List UInt8)) (w : World) (hi : Its w A na ca its) (hj : Blks w B nb cb bl) :
  Calls Tryz.prog 200 #[.agg #[.int .i64 m, .int .i64 n, .int .i64 p, .slice A na ca, .slice B nb cb]] w fun e w' => e = .returned (.bool (rcMay ⟨m, n, p, its, bl⟩)) ∧ Only [] w w' := by
 cases h : rcHeadMay ⟨m, n, p, its, bl⟩ with
 | true => exact rec_may_yes m n p A na ca its B nb cb bl w hi hj h
 | false =>
  rw [rcMay_head h]
  refine rec_may_no m n p A na ca B nb cb w hi.le hi.cm ?_
  have hl := hi.len
  have e : decide (1 ≤ its.length ∧ its.length ≤ 6) = decide (1 ≤ (na : Int) ∧ (na : Int) ≤ 6) := by rw [hl]; congr 1; simp only [eq_iff_iff]; omega
  rw [← e]
  exact h
end Go.Proofs.YtgcfdjcpcclcjaaGreat
namespace Go.Kn
open Go Go.RowKit
theorem fit_cons {n : Nat} {z : Int} {zs : List Int} : Fit n (z :: zs) ↔ (0 ≤ z ∧ z < 256 ^ n) ∧ Fit n zs := by simp [Fit]
theorem fit_nil {n : Nat} : Fit n [] ↔ True := by simp [Fit]
end Go.Kn
namespace Go.Proofs.YtgcfdjcpcclcjaaGreat
open Go Go.RowKit Go.Kn
set_option maxRecDepth 100000 in
set_option maxHeartbeats 1000000 in
theorem ref_begun_any (n : Int) (x y : Int) (a b : UInt8) (w : World) (hx : x = ((a.toNat : Nat) : Int)) (hy : y = ((b.toNat : Nat) : Int)) (h2 : 2 ≤ n) (hn : n ≤ 65536) :
  Calls Tryz.prog 87 #[.int .i64 n, .int .u8 x, .int .u8 y] w fun e w' => ∃ p g, e = .returned (.pointer (some ⟨p, 0, none⟩)) ∧ w.heap.size ≤ p ∧ w.heap.size ≤ g ∧ RowAt w' p g (lay (List.replicate n.toNat 0) 0 [a, b]) 2 ∧ Only [] w w' := by
 have HX := Lib.hid hx
 have HY := Lib.hid hy
 clear hx hy
 go_enter Tryz.func87, Tryz.ntmps87
 go_wp2_with fail
 refine (ref_new_any n _ (by omega) hn).mono ?_
 rintro e w1 ⟨p, g, rfl, hp, hg, hr, hO⟩
 have HR := Lib.hid hr
 have HO := Lib.hid hO
 have hb : Bys (w1.alloc (.cells #[.int .u8 x, .int .u8 y] 5)) (some ⟨w1.heap.size, 0, none⟩) 2 2 [a, b] := by
  have h := Own.new w1 #[.int .u8 x, .int .u8 y] 5
  rw [HX.out, HY.out] at h ⊢
  exact Row1.of_Own h (by simp) (Nat.le_refl _) (by simp [maxLen])
 have HB := Lib.hid hb
 clear hr hO hb
 go_wp2_with fail
 refine (ref_lay_any p g 0 _ _ 2 2 [a, b] _ (by exact HR.out.alloc _) (by exact HB.out) (by simp; omega)).mono ?_
 rintro e w2 ⟨rfl, hr, hO⟩
 have HR2 := Lib.hid hr
 have HO2 := Lib.hid ((HO.out.alloc _).trans hO (by simp [hp, hg]) : Only [] w w2)
 clear hr hO
 go_wp2
 go_ret
 exact ⟨p, g, rfl, hp, hg, HR2.out, HO2.out⟩
end Go.Proofs.YtgcfdjcpcclcjaaGreat
namespace Go.Kn
open Go Go.RowKit
/-- what lays a record answers -/
def EncRc (w : World) (o : Option (List UInt8 × Nat)) (err : Int) (e : Ending) (w' : World) : Prop :=
 (o = none ∧ e = .returned (.tuple #[.slice none 0 0, .int .i64 0, .int .i64 err]) ∧ Only [] w w') ∨
 ∃ bs s g c, o = some (bs, s) ∧ e = .returned (.tuple #[.slice (some ⟨g, 0, none⟩) bs.length c, .int .i64 (s : Nat), .int .i64 0]) ∧ bs.length ≤ c ∧ c ≤ maxLen ∧ w.heap.size ≤ g ∧ Own w' g (bvs bs) ∧ Only [] w w'
theorem EncRc.no {w w' : World} {o : Option (List UInt8 × Nat)} {err : Int} (h : o = none) (hO : Only [] w w') : EncRc w o err (.returned (.tuple #[.slice none 0 0, .int .i64 0, .int .i64 err])) w' := .inl ⟨h, rfl, hO⟩
theorem EncRc.of_none {w w' : World} {err : Int} {e : Ending} (h : EncRc w none err e w') : e = .returned (.tuple #[.slice none 0 0, .int .i64 0, .int .i64 err]) ∧ Only [] w w' := by
 rcases h with ⟨_, h⟩ | ⟨_, _, _, _, h, _⟩
 ·exact h
 ·cases h
theorem EncRc.of_some {w w' : World} {bs : List UInt8} {s : Nat} {err : Int} {e : Ending} (h : EncRc w (some (bs, s)) err e w') : ∃ g c, e = .returned (.tuple #[.slice (some ⟨g, 0, none⟩) bs.length c, .int .i64 (s : Nat), .int .i64 0]) ∧ bs.length ≤ c ∧ c ≤ maxLen ∧ w.heap.size ≤ g ∧ Own w' g (bvs bs) ∧ Only [] w w' := by
 rcases h with ⟨h, _⟩ | ⟨bs', s', g, c, h, rest⟩
 ·cases h
 ·injection h with h
  injection h with h1 h2
  subst h1 h2
  exact ⟨g, c, rest⟩
theorem blks_of_owns {w : World} {base e n : Nat} {v : Value} {sl : List (Option Addr × Nat × Nat)} {bl : List (List UInt8)} (h : w.ownsRow base e 1 v n (sl.map slv)) (hb : Bls w sl bl) (hB : base ≤ w.heap.size) : ∃ A c, v = .slice A n c ∧ Blks w A n c bl := by
 have hl := h.1
 have hg : Gath w base e v (sl.map slv) := ⟨by rw [hl, Nat.mul_one]; exact h, hB⟩
 obtain ⟨A, c, hv, hr, _⟩ := hg.formN (n := n) (by rw [hl, Nat.mul_one])
 exact ⟨A, c, hv, sl, hr, hb⟩
theorem Bls.only {w w' : World} {sl : List (Option Addr × Nat × Nat)} {bl : List (List UInt8)} {S : List Nat} (h : Bls w sl bl) (hO : Only S w w') (hs : ∀ s ∈ sl, 0 < s.2.1 → ∀ a, s.1 = some a → a.block ∉ S) : Bls w' sl bl :=
 ⟨h.1, fun i h1 h2 => (h.2 i h1 h2).keepP hO (fun h0 => hs _ (List.getElem_mem h1) h0)⟩
theorem Encs.keepS {S : List Nat} {w0 w w' : World} {p g k b : Nat} {X : List UInt8} {vs : List Value} (h : Encs w0 w p g k b X vs) (hO : Only S w w') (h1 : p ∉ S) (h2 : g ∉ S) (h3 : b ∉ S) (h4 : ∀ i ∈ S, w0.heap.size ≤ i) : Encs w0 w' p g k b X vs :=
 ⟨h.row.keep hO h1 h2, h.box.keep hO h3, h.only.trans hO (fun i hi => .inr (h4 i hi)), h.bp, h.bg, h.hp, h.hg⟩
/-- a slice that was just built of one-cell elements -/
theorem ownsRow_built (w : World) (e : Nat) (vs : List Value) (n : Nat) (hn : vs.length = n) (hm : n ≤ maxLen) : (w.alloc (.cells vs.toArray e)).ownsRow w.heap.size e 1 (.slice (some ⟨w.heap.size, 0, none⟩) n n) n vs :=
 ⟨by rw [hn, Nat.mul_one], .inr ⟨w.heap.size, n, vs.toArray, rfl, Nat.le_refl _, heap_alloc_new w _, Nat.le_refl _, hm, by simp [hn], by rw [Nat.mul_one, ← hn]; simp⟩⟩
/-- the row of a record, laid but for its sum -/
theorem rc_row {r : Rc} (h : r.its.length ≤ 6) : lay (List.replicate 64 0) 0 (cat (rcFs r) ++ itsB r.its) = rcHead r ++ List.replicate 4 0 := by
 unfold rcHead lay
 have hl : (cat (rcFs r) ++ itsB r.its).length = 16 + 7 * r.its.length := by rw [List.length_append, rcFs_len, itsB_length]
 rw [hl, List.take_zero, List.nil_append, List.drop_replicate, List.append_assoc, List.append_assoc, List.append_assoc, List.replicate_append_replicate]
 congr 3
 omega
theorem rc_sum {r : Rc} (h : r.its.length ≤ 6) (s : Nat) : lay (rcHead r ++ List.replicate 4 0) 60 (le 4 s) = rcHead r ++ le 4 s := by
 have hl := rcHead_length h
 unfold lay
 rw [List.take_left' hl, le_length, List.drop_of_length_le (by rw [List.length_append, hl, List.length_replicate]; decide), List.append_nil]
end Go.Kn
namespace Go.Proofs.YtgcfdjcpcclcjaaGreat
open Go Go.RowKit Go.Kn
theorem Tryz.infoBys : (Tryz.prog.info? 47).map (fun i => (i.zero, i.size, i.bytes)) = some (some (.slice none 0 0), 1, 24) := by kernel_rfl
set_option maxRecDepth 100000 in
set_option maxHeartbeats 16000000 in
theorem rec_enc_any (rm rn rp : Int) (A : Option Addr) (na ca : Nat) (its : List It) (B : Option Addr) (nb cb : Nat) (bl : List (List UInt8)) (w : World) (hi : Its w A na ca its) (hj : Blks w B nb cb bl) :
  Calls Tryz.prog 172 #[.agg #[.int .i64 rm, .int .i64 rn, .int .i64 rp, .slice A na ca, .slice B nb cb]] w (EncRc w (encRc ⟨rm, rn, rp, its, bl⟩) 1) := by
 have hlen := hi.len
 have hln := hj.len
 have hdl := hj.le
 have hdm := hj.cm
 have hcl := hi.le
 have hcm := hi.cm
 unfold maxLen at hcm hdm
 have HI := Lib.hid hi
 have HJ := Lib.hid hj
 have HL := Lib.hid hlen
 have HLB := Lib.hid hln
 have hO0 := (Only.refl [] w).alloc (.cells #[.int .i64 rm, .int .i64 rn, .int .i64 rp, .slice A na ca, .slice B nb cb] 56)
 have hbx := Own.new w #[.int .i64 rm, .int .i64 rn, .int .i64 rp, .slice A na ca, .slice B nb cb] 56
 obtain ⟨x0, x1, x2, x3, x4⟩ := Kn.own5 hbx
 clear hi hj hlen hln
 cases hm : rcMay ⟨rm, rn, rp, its, bl⟩
 ·have HM := Lib.hid hm
  clear hm
  go_enter Tryz.func172, Tryz.ntmps172
  go_upto_region 1 with fail
  generalize w.alloc (.cells #[.int .i64 rm, .int .i64 rn, .int .i64 rp, .slice A na ca, .slice B nb cb] 56) = w0 at *
  have HO0 := Lib.hid hO0
  clear hO0 hbx
  go_wp2_with fail
  refine (rec_may_any rm rn rp A na ca its B nb cb bl _ (by exact HI.out.keep0 HO0.out) (by exact HJ.out.keep0 HO0.out)).mono ?_
  rintro e w1 ⟨rfl, hO1⟩
  rw [HM.out]
  have HO1 := Lib.hid (HO0.out.trans' hO1)
  clear hO1 x0 x1 x2 x3 x4
  go_wp2
  go_ret3
  exact EncRc.no (by unfold encRc; rw [HM.out]; rfl) HO1.out
 ·obtain ⟨⟨hm1, hm2, hm3, hm4, hm5⟩, hal, hbn, hbf⟩ := rcMay_iff.1 hm
  have hld := loads_le its
  have hna : na ≤ 6 := by rw [← HL.out]; exact hm5
  have hnb : nb ≤ 6 := by
   have h1 := HLB.out
   simp only at hbn hm5
   omega
  have HF0 : Hid (Fit 1 [75, 82]) := Lib.hid (by simp only [fit_cons, fit_nil, Int.reducePow, and_true]; omega)
  have HF1 : Hid (Fit 4 [rm, rn, rp]) := Lib.hid (by simp only [fit_cons, fit_nil, Int.reducePow, and_true] at *; omega)
  have HF2 : Hid (Fit 1 [(na : Int), (nb : Int)]) := Lib.hid (by simp only [fit_cons, fit_nil, Int.reducePow, and_true]; omega)
  have HE : Hid (encItems its = some (itsB its)) := Lib.hid (by unfold encItems; rw [if_pos ⟨hm5, hal⟩])
  have HM := Lib.hid hm
  have HM5 := Lib.hid hm5
  obtain ⟨L, hL⟩ : ∃ L, (itsB its).length = L := ⟨_, rfl⟩
  have hL7 : L = 7 * na := by rw [← hL, itsB_length, HL.out]
  have hL42 : L ≤ 42 := by omega
  have HLL := Lib.hid hL
  clear hm hal hbn hbf hm1 hm2 hm3 hm4 hm5 hL hL7
  go_enter Tryz.func172, Tryz.ntmps172
  go_upto_region 1 with fail
  generalize hbb : w.heap.size = b at *
  have HSZ : Hid (w.heap.size ≤ b) := Lib.hid (by omega)
  have HBB := Lib.hid hbb
  generalize w.alloc (.cells #[.int .i64 rm, .int .i64 rn, .int .i64 rp, .slice A na ca, .slice B nb cb] 56) = w0 at *
  have HO0 := Lib.hid hO0
  clear hO0 hbb
  go_wp2_with fail
  refine (rec_may_any rm rn rp A na ca its B nb cb bl _ (by exact HI.out.keep0 HO0.out) (by exact HJ.out.keep0 HO0.out)).mono ?_
  rintro e w1 ⟨rfl, hO1⟩
  rw [HM.out]
  have HB1 := Lib.hid (hbx.keep0 hO1)
  have HO1 := Lib.hid (HO0.out.trans' hO1)
  clear hO1 x0 x1 x2 x3 x4 hbx HO0
  have x3 := HB1.out.cell 3 (by simp)
  simp only [List.getElem_cons_zero, List.getElem_cons_succ] at x3
  go_wp2_with fail
  refine (item_enc_any A na ca its _ (by exact HI.out.keep0 HO1.out)).mono ?_
  rintro e w2 ⟨A2, c2, rfl, hb2, hn2, hO2⟩
  rw [HE.out] at hb2 ⊢
  simp only [Option.getD_some, Option.isSome_some, if_true] at hb2 ⊢
  rw [HLL.out] at hb2 ⊢
  have HB2 := Lib.hid (HB1.out.keep0 hO2)
  have HO2 := Lib.hid (HO1.out.trans' hO2)
  have HIB2 := Lib.hid hb2
  have hcL := hb2.le
  have hcM := hb2.cm
  unfold maxLen at hcM
  clear hb2 hn2 hO2 x3 HB1 HO1
  go_wp2_with fail
  refine (new_any 64 _ (by decide) (by decide)).mono ?_
  rintro e w3 ⟨p, g, rfl, hp, hg, hr, hO⟩
  rw [show (List.replicate (Int.toNat 64) (0 : UInt8)) = List.replicate 64 0 from rfl] at hr
  have hz : (List.replicate 64 (0 : UInt8)).length = 64 := by rw [List.length_replicate]
  have HRW := Lib.hid (rc_row (r := ⟨rm, rn, rp, its, bl⟩) HM5.out)
  generalize List.replicate 64 (0 : UInt8) = zr at *
  have HZ := Lib.hid hz
  have HS : Hid (Encs w w3 p g 0 b zr [.int .i64 rm, .int .i64 rn, .int .i64 rp, .slice A na ca, .slice B nb cb]) := Lib.hid (Encs.start HB2.out HO2.out hp hg hr hO)
  have HIB3 := Lib.hid (HIB2.out.keep0 hO)
  have HNE : Hid (0 < L → ∀ a, A2 = some a → a.block ≠ p ∧ a.block ≠ g) := Lib.hid (fun h0 a ha => by have := HIB2.out.block_lt h0 a ha; omega)
  clear hr hO hp hg hz HB2 HO2 HIB2
  have HIB := HIB3
  clear HIB3
  have HX := HZ
  go_wp2_with fail
  refine (put_any p g 0 zr 1 _ 2 2 [75, 82] _ (by exact HS.out.row.alloc _) (by exact ins_built _ [75, 82] _ 2 rfl (by omega)) (by exact ne_built HS.out.row) (by decide) (by rw [HX.out]; omega) HF0.out).mono ?_
  rintro e w4 ⟨rfl, hr, hO⟩
  have hO' := ((Only.refl [p, g] w3).alloc (.cells ([75, 82].map (Value.int .i64)).toArray 3)).trans' hO
  have HIBn := Lib.hid (HIB.out.keepP hO' (fun h0 a ha => by have := HNE.out h0 a ha; simp [this.1, this.2]))
  rw [show lay zr 0 (les 1 [75, 82]) = lay zr 0 (cat [(1, 75), (1, 82)]) from rfl] at hr
  have HSn : Hid (Encs w w4 p g 2 b (lay zr 0 (cat [(1, 75), (1, 82)])) [.int .i64 rm, .int .i64 rn, .int .i64 rp, .slice A na ca, .slice B nb cb]) := Lib.hid ((HS.out.alloc _).put hr hO)
  clear hr hO hO' HS HIB HX
  have HS := HSn
  have HIB := HIBn
  clear HSn HIBn
  have HX : Hid ((lay zr 0 (cat [(1, 75), (1, 82)])).length = 64) := Lib.hid (by rw [lay_length _ _ _ (by rw [cat_length, HZ.out]; decide), HZ.out])
  have HLC := Lib.hid (lay_cat zr [(1, 75), (1, 82)] 2 4 [rm, rn, rp] rfl (by rw [HZ.out]; show (14 : Nat) ≤ 64; decide))
  generalize lay zr 0 (cat [(1, 75), (1, 82)]) = X1 at *
  obtain ⟨x0, x1, x2⟩ := Kn.own3 HS.out.box
  go_wp2_with fail
  refine (put_any p g 2 X1 4 _ 3 3 [rm, rn, rp] _ (by exact HS.out.row.alloc _) (by exact ins_built _ [rm, rn, rp] _ 3 rfl (by omega)) (by exact ne_built HS.out.row) (by decide) (by rw [HX.out]; omega) HF1.out).mono ?_
  rintro e w5 ⟨rfl, hr, hO⟩
  have hO' := ((Only.refl [p, g] w4).alloc (.cells ([rm, rn, rp].map (Value.int .i64)).toArray 3)).trans' hO
  have HIBn := Lib.hid (HIB.out.keepP hO' (fun h0 a ha => by have := HNE.out h0 a ha; simp [this.1, this.2]))
  rw [HLC.out] at hr
  have HSn : Hid (Encs w w5 p g 14 b (lay zr 0 (cat ([(1, 75), (1, 82)] ++ [rm, rn, rp].map fun z => (4, z)))) [.int .i64 rm, .int .i64 rn, .int .i64 rp, .slice A na ca, .slice B nb cb]) := Lib.hid ((HS.out.alloc _).put hr hO)
  clear hr hO hO' HS HIB HX
  have HS := HSn
  have HIB := HIBn
  clear HSn HIBn
  clear HLC x0 x1 x2
  have HX : Hid ((lay zr 0 (cat ([(1, 75), (1, 82)] ++ [rm, rn, rp].map fun z => (4, z)))).length = 64) := Lib.hid (by rw [lay_length _ _ _ (by rw [cat_length, HZ.out]; show (14 : Nat) ≤ 64; decide), HZ.out])
  have HLC := Lib.hid (lay_cat zr ([(1, 75), (1, 82)] ++ [rm, rn, rp].map fun z => (4, z)) 14 1 [(na : Int), (nb : Int)] rfl (by rw [HZ.out]; show (16 : Nat) ≤ 64; decide))
  have HFS : Hid (([(1, 75), (1, 82)] ++ [rm, rn, rp].map fun z => (4, z)) ++ [(na : Int), (nb : Int)].map (fun z => (1, z)) = rcFs ⟨rm, rn, rp, its, bl⟩) := Lib.hid (by unfold rcFs; rw [HL.out, HLB.out]; rfl)
  generalize lay zr 0 (cat ([(1, 75), (1, 82)] ++ [rm, rn, rp].map fun z => (4, z))) = X2 at *
  have x3 := HS.out.box.cell 3 (by simp)
  have x4 := HS.out.box.cell 4 (by simp)
  simp only [List.getElem_cons_zero, List.getElem_cons_succ] at x3 x4
  go_wp2_with fail
  refine (put_any p g 14 X2 1 _ 2 2 [(na : Int), (nb : Int)] _ (by exact HS.out.row.alloc _) (by exact ins_built _ [(na : Int), (nb : Int)] _ 2 rfl (by omega)) (by exact ne_built HS.out.row) (by decide) (by rw [HX.out]; omega) HF2.out).mono ?_
  rintro e w6 ⟨rfl, hr, hO⟩
  have hO' := ((Only.refl [p, g] w5).alloc (.cells ([(na : Int), (nb : Int)].map (Value.int .i64)).toArray 3)).trans' hO
  have HIBn := Lib.hid (HIB.out.keepP hO' (fun h0 a ha => by have := HNE.out h0 a ha; simp [this.1, this.2]))
  rw [HLC.out, HFS.out] at hr
  have HSn : Hid (Encs w w6 p g 16 b (lay zr 0 (cat (rcFs ⟨rm, rn, rp, its, bl⟩))) [.int .i64 rm, .int .i64 rn, .int .i64 rp, .slice A na ca, .slice B nb cb]) := Lib.hid ((HS.out.alloc _).put hr hO)
  clear hr hO hO' HS HIB HX
  have HS := HSn
  have HIB := HIBn
  clear HSn HIBn
  clear HLC HFS x3 x4
  have hcl16 : (cat (rcFs ⟨rm, rn, rp, its, bl⟩)).length = 16 := rcFs_len _
  have HX : Hid ((lay zr 0 (cat (rcFs ⟨rm, rn, rp, its, bl⟩))).length = 64) := Lib.hid (by rw [lay_length _ _ _ (by rw [hcl16, HZ.out]; decide), HZ.out])
  have HLI : Hid (lay (lay zr 0 (cat (rcFs ⟨rm, rn, rp, its, bl⟩))) 16 (itsB its) = rcHead ⟨rm, rn, rp, its, bl⟩ ++ List.replicate 4 0) := Lib.hid (by
   have e := lay_lay zr 0 (cat (rcFs ⟨rm, rn, rp, its, bl⟩)) (itsB its) (by rw [hcl16, HLL.out, HZ.out]; omega)
   rw [hcl16, Nat.zero_add] at e
   rw [e]
   exact HRW.out)
  clear hcl16
  generalize lay zr 0 (cat (rcFs ⟨rm, rn, rp, its, bl⟩)) = X3 at *
  go_wp2_with fail
  refine (lay_any p g 16 X3 A2 L c2 (itsB its) _ (by exact HS.out.row) (by exact HIB.out) (by rw [HX.out]; omega)).mono ?_
  rintro e w7 ⟨rfl, hr, hO⟩
  rw [HLI.out] at hr
  have hl60 := rcHead_length (r := ⟨rm, rn, rp, its, bl⟩) HM5.out
  have HRS := Lib.hid (rc_sum (r := ⟨rm, rn, rp, its, bl⟩) HM5.out (rcSum ⟨rm, rn, rp, its, bl⟩))
  have hs32 : rcSum ⟨rm, rn, rp, its, bl⟩ < 4294967296 := csum_lt _
  have hsm : csum (rcHead ⟨rm, rn, rp, its, bl⟩ :: bl).flatten = rcSum ⟨rm, rn, rp, its, bl⟩ := by rw [List.flatten_cons]; rfl
  have hrb : rcHead ⟨rm, rn, rp, its, bl⟩ ++ le 4 (rcSum ⟨rm, rn, rp, its, bl⟩) ++ bl.flatten = rcBytes ⟨rm, rn, rp, its, bl⟩ := by unfold rcBytes; rw [List.append_assoc]
  have hX4 : (rcHead ⟨rm, rn, rp, its, bl⟩ ++ List.replicate 4 0).length = 64 := by rw [List.length_append, hl60, List.length_replicate]
  have hT4 : (rcHead ⟨rm, rn, rp, its, bl⟩ ++ List.replicate 4 0).take 60 = rcHead ⟨rm, rn, rp, its, bl⟩ := List.take_left' hl60
  have HSn : Hid (Encs w w7 p g (16 + L) b (rcHead ⟨rm, rn, rp, its, bl⟩ ++ List.replicate 4 0) [.int .i64 rm, .int .i64 rn, .int .i64 rp, .slice A na ca, .slice B nb cb]) := Lib.hid (HS.out.put hr hO)
  clear hr hO HS HIB HX HLI
  have HS := HSn
  clear HSn
  have HX4 := Lib.hid hX4
  have HT4 := Lib.hid hT4
  have HL60 := Lib.hid hl60
  clear hX4 hT4 hl60
  rw [← HT4.out] at hsm
  have hrl := rcBytes_length (r := ⟨rm, rn, rp, its, bl⟩) HM.out
  have HENC : Hid (encRc ⟨rm, rn, rp, its, bl⟩ = some (rcBytes ⟨rm, rn, rp, its, bl⟩, rcSum ⟨rm, rn, rp, its, bl⟩)) := Lib.hid (enc_rc HM.out)
  generalize rcSum ⟨rm, rn, rp, its, bl⟩ = s at *
  generalize rcBytes ⟨rm, rn, rp, its, bl⟩ = RB at *
  have HSM := Lib.hid hsm
  have HRB := Lib.hid hrb
  have HRL := Lib.hid hrl
  clear hsm hrb hrl
  generalize rcHead ⟨rm, rn, rp, its, bl⟩ ++ List.replicate 4 0 = X4 at *
  go_wp2_with fail
  have hsub : (44 : Int) - (L : Int) = ((44 - L : Nat) : Int) := by omega
  rw [hsub]
  refine (take_any p g (16 + L) X4 (44 - L) _ (by exact HS.out.row) (by rw [HX4.out]; omega)).mono ?_
  rintro e w8 ⟨A8, c8, rfl, hc8, hm8, hpos8, hr, hO⟩
  rw [show 16 + L + (44 - L) = 60 from by omega] at hr
  have HSn : Hid (Encs w w8 p g 60 b X4 [.int .i64 rm, .int .i64 rn, .int .i64 rp, .slice A na ca, .slice B nb cb]) := Lib.hid (HS.out.put hr (hO.mono (by simp)))
  clear hr hO hpos8 hc8 hm8 hsub HS
  have HS := HSn
  clear HSn
  obtain ⟨i0, hi0, hz0, hz1, hz2⟩ := info_parts Tryz.infoBys
  go_wp2_with fail
  obtain ⟨sl, hrow0, hbls0⟩ := HJ.out
  have HRO0 := Lib.hid hrow0
  have HBL0 := Lib.hid hbls0
  clear hrow0 hbls0
  have HSd : Hid (Encs w (w8).drew p g 60 b X4 [.int .i64 rm, .int .i64 rn, .int .i64 rp, .slice A na ca, .slice B nb cb]) := Lib.hid HS.out.drew
  clear HS
  refine wp_region_held_drew (S := (fun w' => w'.cell? ⟨b, 4, none⟩ = some (.slice B nb cb))) (by kernel_rfl) (HSd.out.box.cell 4 (by simp)) (fun hSw0 => ?_)
  refine Kn.takeS 0 ⟨some 48, _, _, _, _, _⟩ ?_
  refine Kn.takeS 4 ⟨some 52, _, _, _, _, _⟩ ?_
  refine Kn.takeS 5 ⟨some 53, _, _, _, _, _⟩ ?_
  refine Kn.takeR 1 ⟨some 49, _, _, _, _, _⟩ fun K hK => ?_
  go_simp
  refine (bytes_any p g 60 X4 _ (by exact HSd.out.row)).mono ?_
  rintro en va ⟨A9, c9, rfl, hc9, hm9, hpos9, hO⟩
  obtain ⟨g9, rfl, hg9, ho9⟩ := hpos9 (by rw [HX4.out]; decide)
  rw [HX4.out] at hc9 ⊢
  have HSe := Lib.hid (HSd.out.keep hO)
  have HO9 := Lib.hid ho9
  have hgl9 := ho9.lt
  have hm9c := hm9
  unfold maxLen at hm9c
  have hc9i : (60 : Int) ≤ (c9 : Int) := by omega
  clear hO ho9 hpos9 HSd
  refine hK.out _ _ (HSe.out.box.cell 4 (by simp)) (fun hSn => ?_)
  clear hK K hSw0
  have hSw0 := hSn
  clear hSn
  refine Kn.takeS 2 ⟨some 50, _, _, _, _, _⟩ ?_
  refine Kn.takeR 3 ⟨some 51, _, _, _, _, _⟩ fun K hK => ?_
  go_simp
  have HSf := Lib.hid (HSe.out.alloc (.cells #[.slice (some ⟨g9, 0, none⟩) 60 c9] 47))
  have HO9f := Lib.hid (HO9.out.alloc (.cells #[.slice (some ⟨g9, 0, none⟩) 60 c9] 47))
  have HOWf : Hid ((va.alloc (.cells #[.slice (some ⟨g9, 0, none⟩) 60 c9] 47)).ownsRow va.heap.size 47 1 (.slice (some ⟨va.heap.size, 0, none⟩) 1 1) 1 ([(some ⟨g9, 0, none⟩, 60, c9)].map slv)) := Lib.hid (ownsRow_built va 47 [.slice (some ⟨g9, 0, none⟩) 60 c9] 1 rfl (by simp [maxLen]))
  have hvsz : va.heap.size ≤ (va.alloc (.cells #[.slice (some ⟨g9, 0, none⟩) 60 c9] 47)).heap.size := by simp
  have hwa := HSe.out.only.size
  have hlb := HSe.out.box.lt
  have hlp := HSe.out.row.lp
  have hlg := HSe.out.row.lg
  generalize hvz : va.heap.size = vz at *
  generalize hvb : (va.alloc (.cells #[.slice (some ⟨g9, 0, none⟩) 60 c9] 47)) = vb at *
  clear hvb hvz
  clear HSe HO9
  refine hK.out _ _ (HSf.out.box.cell 4 (by simp)) (fun hSn => ?_)
  clear hK K hSw0
  have hSw0 := hSn
  clear hSn
  refine Kn.takeR 6 ⟨some 54, _, _, _, _, _⟩ fun K hK => ?_
  refine step_append_row1 rfl (.tmp 51) (.tmp 53) 54 rfl vz 47 i0 _ 24 Tryz.underlying54 hi0 hz0 hz1 hz2 rfl (.slice (some ⟨vz, 0, none⟩) 1 1) 1 _ rfl HOWf.out B nb cb (sl.map slv) rfl (HRO0.out.keep0 HSf.out.only) (slv_one sl) (by unfold maxLen; omega) (by omega) hvsz ?_
  intro v' vc hown hgrow _
  have hS : Only [vz] vb vc := (Only.refl _ _).grown hgrow fun q hq => .inl (by simp [Value.ownBlock] at hq; simp [hq])
  have HSg := Lib.hid (HSf.out.keepS hS (by simp; omega) (by simp; omega) (by simp; omega) (by simp; omega))
  have hO9g := HO9f.out.keep hS (by simp; omega)
  have hb0 : Bys vc (some ⟨g9, 0, none⟩) 60 c9 (X4.take 60) := Row1.of_Own (show Kn.Own vc g9 (bvs (X4.take 60)) by have := hO9g.take 60; rwa [show (bvs X4).take 60 = bvs (X4.take 60) from by simp [bvs, List.map_take]] at this) (by rw [bvs_length, List.length_take, HX4.out]; decide) (by omega) hm9
  obtain ⟨A5, c5, rfl, hbk⟩ := blks_of_owns (sl := (some ⟨g9, 0, none⟩, 60, c9) :: sl) hown ((HBL0.out.keep0 HSg.out.only).cons hb0) (Nat.le_trans hvsz hS.size)
  have HBK := Lib.hid hbk
  clear hbk hb0 hO9g hS hown hgrow HOWf HO9f HSf hvsz hlb hlp hlg hwa
  refine hK.out _ _ (HSg.out.box.cell 4 (by simp)) (fun hSn => ?_)
  clear hK K hSw0
  have hSw0 := hSn
  clear hSn
  refine Kn.takeR 7 ⟨some 55, _, _, _, _, _⟩ fun K hK => ?_
  go_simp
  refine (crc_sum_blks A5 (1 + nb) c5 _ _ (by exact HBK.out)).mono ?_
  rintro en vd ⟨rfl, hO⟩
  rw [HSM.out]
  have HSh := Lib.hid (HSg.out.keep hO)
  clear hO HSg HBK
  refine hK.out _ _ (HSh.out.box.cell 4 (by simp)) (fun hSn => ?_)
  clear hK K hSw0
  have hSw0 := hSn
  clear hSn
  refine Kn.takeS 8 ⟨some 8, _, _, _, _, _⟩ ?_
  refine wpAnyH_done (by kernel_rfl) ?_ _
  clear hSw0
  have HF3 : Hid (Fit 4 [(s : Int)]) := Lib.hid (by simp only [fit_cons, fit_nil, Int.reducePow, and_true]; omega)
  go_wp2_with fail
  refine (put_any p g 60 X4 4 _ 1 1 [(s : Int)] _ (by exact HSh.out.row.alloc _) (by exact ins_built _ [(s : Int)] _ 1 rfl (by omega)) (by exact ne_built HSh.out.row) (by decide) (by rw [HX4.out]; omega) HF3.out).mono ?_
  rintro e wf ⟨rfl, hr, hO⟩
  rw [les_one, Int.toNat_natCast, HRS.out] at hr
  have HS : Hid (Encs w wf p g 64 b (rcHead ⟨rm, rn, rp, its, bl⟩ ++ le 4 s) [.int .i64 rm, .int .i64 rn, .int .i64 rp, .slice A na ca, .slice B nb cb]) := Lib.hid ((HSh.out.alloc _).put hr hO)
  have hX5 : (rcHead ⟨rm, rn, rp, its, bl⟩ ++ le 4 s).length = 64 := by rw [List.length_append, HL60.out, le_length]
  have HX5 := Lib.hid hX5
  clear hr hO HSh hX5 HF3 HRS HL60
  generalize rcHead ⟨rm, rn, rp, its, bl⟩ ++ le 4 s = X5 at *
  have hfl : (X5 :: bl).flatten = RB := by rw [List.flatten_cons]; exact HRB.out
  have HFL := Lib.hid hfl
  clear hfl
  go_wp2_with fail
  have HSd : Hid (Encs w (wf).drew p g 64 b X5 [.int .i64 rm, .int .i64 rn, .int .i64 rp, .slice A na ca, .slice B nb cb]) := Lib.hid HS.out.drew
  clear HS
  refine wp_region_held_drew (S := (fun w' => w'.cell? ⟨b, 4, none⟩ = some (.slice B nb cb))) (by kernel_rfl) (HSd.out.box.cell 4 (by simp)) (fun hSw0 => ?_)
  refine Kn.takeS 0 ⟨some 60, _, _, _, _, _⟩ ?_
  refine Kn.takeS 3 ⟨some 63, _, _, _, _, _⟩ ?_
  refine Kn.takeS 4 ⟨some 64, _, _, _, _, _⟩ ?_
  refine Kn.takeS 7 ⟨some 67, _, _, _, _, _⟩ ?_
  refine Kn.takeR 1 ⟨some 61, _, _, _, _, _⟩ fun K hK => ?_
  go_simp
  refine (bytes_any p g 64 X5 _ (by exact HSd.out.row)).mono ?_
  rintro en va ⟨A9, c9, rfl, hc9, hm9, hpos9, hO⟩
  obtain ⟨g9, rfl, hg9, ho9⟩ := hpos9 (by rw [HX5.out]; decide)
  rw [HX5.out] at hc9 ⊢
  have HSe := Lib.hid (HSd.out.keep hO)
  have HO9 := Lib.hid ho9
  have hgl9 := ho9.lt
  have hm9c := hm9
  unfold maxLen at hm9c
  have hc9i : (60 : Int) ≤ (c9 : Int) := by omega
  clear hO ho9 hpos9 HSd
  refine hK.out _ _ (HSe.out.box.cell 4 (by simp)) (fun hSn => ?_)
  clear hK K hSw0
  have hSw0 := hSn
  clear hSn
  refine Kn.takeR 2 ⟨some 62, _, _, _, _, _⟩ fun K hK => ?_
  go_simp
  have HSf := Lib.hid (HSe.out.alloc (.cells #[.slice (some ⟨g9, 0, none⟩) 64 c9] 47))
  have HO9f := Lib.hid (HO9.out.alloc (.cells #[.slice (some ⟨g9, 0, none⟩) 64 c9] 47))
  have HOWf : Hid ((va.alloc (.cells #[.slice (some ⟨g9, 0, none⟩) 64 c9] 47)).ownsRow va.heap.size 47 1 (.slice (some ⟨va.heap.size, 0, none⟩) 1 1) 1 ([(some ⟨g9, 0, none⟩, 64, c9)].map slv)) := Lib.hid (ownsRow_built va 47 [.slice (some ⟨g9, 0, none⟩) 64 c9] 1 rfl (by simp [maxLen]))
  have hvsz : va.heap.size ≤ (va.alloc (.cells #[.slice (some ⟨g9, 0, none⟩) 64 c9] 47)).heap.size := by simp
  have hwa := HSe.out.only.size
  have hlb := HSe.out.box.lt
  have hlp := HSe.out.row.lp
  have hlg := HSe.out.row.lg
  generalize hvz : va.heap.size = vz at *
  generalize hvb : (va.alloc (.cells #[.slice (some ⟨g9, 0, none⟩) 64 c9] 47)) = vb at *
  clear hvb hvz
  clear HSe HO9
  refine hK.out _ _ (HSf.out.box.cell 4 (by simp)) (fun hSn => ?_)
  clear hK K hSw0
  have hSw0 := hSn
  clear hSn
  refine Kn.takeR 5 ⟨some 65, _, _, _, _, _⟩ fun K hK => ?_
  refine step_append_row1 rfl (.tmp 62) (.tmp 64) 54 rfl vz 47 i0 _ 24 Tryz.underlying54 hi0 hz0 hz1 hz2 rfl (.slice (some ⟨vz, 0, none⟩) 1 1) 1 _ rfl HOWf.out B nb cb (sl.map slv) rfl (HRO0.out.keep0 HSf.out.only) (slv_one sl) (by unfold maxLen; omega) (by omega) hvsz ?_
  intro v' vc hown hgrow _
  have hS : Only [vz] vb vc := (Only.refl _ _).grown hgrow fun q hq => .inl (by simp [Value.ownBlock] at hq; simp [hq])
  have HSg := Lib.hid (HSf.out.keepS hS (by simp; omega) (by simp; omega) (by simp; omega) (by simp; omega))
  have hO9g := HO9f.out.keep hS (by simp; omega)
  have hb0 : Bys vc (some ⟨g9, 0, none⟩) 64 c9 X5 := Row1.of_Own hO9g (by rw [bvs_length, HX5.out]) hc9 hm9
  obtain ⟨A5, c5, rfl, hbk⟩ := blks_of_owns (sl := (some ⟨g9, 0, none⟩, 64, c9) :: sl) hown ((HBL0.out.keep0 HSg.out.only).cons hb0) (Nat.le_trans hvsz hS.size)
  have HBK := Lib.hid hbk
  clear hbk hb0 hO9g hS hown hgrow HOWf HO9f HSf hvsz hlb hlp hlg hwa
  refine hK.out _ _ (HSg.out.box.cell 4 (by simp)) (fun hSn => ?_)
  clear hK K hSw0
  have hSw0 := hSn
  clear hSn
  refine Kn.takeR 6 ⟨some 66, _, _, _, _, _⟩ fun K hK => ?_
  go_simp
  refine (concat_any A5 (1 + nb) c5 (X5 :: bl) _ (by exact HBK.out) (by rw [HFL.out, HRL.out]; have := HLB.out; omega)).mono ?_
  rintro en vd ⟨A10, c10, rfl, hc10, hm10, hpos10, hO⟩
  rw [HFL.out] at hc10 hpos10 ⊢
  obtain ⟨g10, rfl, hg10, ho10⟩ := hpos10 (by rw [HRL.out]; omega)
  have hgg := HSg.out.only.size
  have HOA := Lib.hid ho10
  have HSh := Lib.hid (HSg.out.keep hO)
  clear hO ho10 hpos10 HSg HBK
  refine hK.out _ _ (HSh.out.box.cell 4 (by simp)) (fun hSn => ?_)
  clear hK K hSw0
  have hSw0 := hSn
  clear hSn
  refine Kn.takeS 8 ⟨some 2, _, _, _, _, _⟩ ?_
  refine Kn.takeS 9 ⟨some 3, _, _, _, _, _⟩ ?_
  refine Kn.takeS 10 ⟨some 4, _, _, _, _, _⟩ ?_
  refine wpAnyH_done (by kernel_rfl) ?_ _
  clear hSw0
  go_wp2
  go_ret3
  exact .inr ⟨RB, s, g10, c10, HENC.out, rfl, hc10, hm10, Nat.le_trans hgg hg10, HOA.out, HSh.out.only⟩
end Go.Proofs.YtgcfdjcpcclcjaaGreat
namespace Go.Kn
open Go Go.RowKit
def rcZ : Rc := ⟨0, 0, 0, [], []⟩
/-- what a reader of records answers -/
def RcSays (w : World) (o : Option (Rc × Nat)) (err : Int) (e : Ending) (w' : World) : Prop :=
 ∃ s t : Option Addr × Nat × Nat, e = .returned (.tuple #[.agg (((o.map (·.1)).getD rcZ).cells s t), .int .i64 ((o.map (·.2)).getD 0 : Nat), .int .i64 (if o.isSome then 0 else err)]) ∧ Fc w' (fun k => k < w.heap.size) (fun W => RcAt W ((o.map (·.1)).getD rcZ) s t) ∧ Only [] w w'
theorem RcSays.no {w w' : World} {o : Option (Rc × Nat)} {err : Int} (h : o = none) (hO : Only [] w w') : RcSays w o err (.returned (.tuple #[.agg #[.int .i64 0, .int .i64 0, .int .i64 0, .slice none 0 0, .slice none 0 0], .int .i64 0, .int .i64 err])) w' := by
 subst h
 exact ⟨(none, 0, 0), (none, 0, 0), rfl, fun W _ => ⟨Its.nil W, Blks.nil W⟩, hO⟩
theorem RcAt.fc {w : World} {M : Nat → Prop} {r : Rc} {s t : Option Addr × Nat × Nat} {sl : List (Option Addr × Nat × Nat)} (h1 : Fc w M (fun W => Its W s.1 s.2.1 s.2.2 r.its)) (h2 : Fc w M (fun W => Row1 W t.1 t.2.1 t.2.2 (sl.map slv))) (h3 : Fc w M (fun W => Bls W sl r.bl)) : Fc w M (fun W => RcAt W r s t) := fun W hW =>
 ⟨h1 W hW, sl, h2 W hW, h3 W hW⟩
theorem Only.putObj {w0 w : World} {D : Nat} {o : Obj} (h : Only [] w0 w) (hD : w0.heap.size ≤ D) : Only [] w0 (w.putObj D o) :=
 h.trans (T := [D]) ⟨rfl, rfl, rfl, by simp, fun k _ hk => World.putObj_heap_other (by simpa using hk)⟩ (by simpa using hD)
theorem Row1.of_owns {w : World} {base e n c : Nat} {A : Option Addr} {xs : List Value} (h : w.ownsRow base e 1 (.slice A n c) n xs) : Row1 w A n c xs ∧ (0 < n → ∀ a, A = some a → base ≤ a.block) := by
 have h1 := h.1
 rw [Nat.mul_one] at h1
 rcases h.2 with ⟨hv, h0⟩ | ⟨g, cap, cur, hv, hb, hh, hn, hm, hs, ht⟩
 ·injection hv with e1 e2 e3
  subst e1 e3
  subst h0
  obtain rfl : xs = [] := List.eq_nil_of_length_eq_zero h1
  exact ⟨Row1.nil w, fun h => absurd h (by omega)⟩
 ·injection hv with e1 e2 e3
  subst e1 e3
  refine ⟨Row1.of_Own ⟨cur, _, hh, by rw [h1]; simpa using ht⟩ h1 hn hm, fun _ a ha => ?_⟩
  injection ha with ha
  subst ha
  exact hb
theorem Its.keepS {S : List Nat} {w w' : World} {A : Option Addr} {n c : Nat} {l : List It} (h : Its w A n c l) (hO : Only S w w') (hS : 0 < n → ∀ a, A = some a → a.block ∉ S) : Its w' A n c l :=
 ⟨h.len, h.le, h.cm, fun hn => by
  obtain ⟨g, o, e, hc⟩ := h.at_ hn
  have hg : g ∉ S := hS hn _ e
  exact ⟨g, o, e, fun i hi => ⟨hO.cell (hc i hi).1 hg, hO.cell (hc i hi).2.1 hg, hO.cell (hc i hi).2.2.1 hg, hO.cell (hc i hi).2.2.2 hg⟩⟩⟩
end Go.Kn
namespace Go.Proofs.YtgcfdjcpcclcjaaGreat
open Go Go.RowKit Go.Kn
def NewR (w0 : World) (n : Nat) (c : Fr3) (w : World) (e : Ending) (w' : World) : Prop := ∃ r : RD, e = .returned (.pointer (some ⟨r.M, 0, none⟩)) ∧ (r.N = n ∧ r.K = 0) ∧ Rsk w0 w' r (Dk.new n) c
theorem NewR.mk {w0 w w' : World} {n M f cc : Nat} {A : Option Addr} {c : Fr3} {sl : List (Option Addr × Nat × Nat)} (h1 : 1 ≤ n) (h2 : n ≤ 4096) 
  (h : Wc w0 w' ((M, [.slice A n cc, .slice none 0 0, .slice (some ⟨f, 0, none⟩) n n, .int .i64 (-1), .bool false, .int .i64 0, .slice none 0 0]) :: (f, bls (List.replicate n false)) :: c.L) (⟨47, 1, .slice A n cc, n, sl.map slv⟩ :: c.G) ((fun W => Bls W sl (List.replicate n zero64)) :: c.F)) :
  NewR w0 n c w (.returned (.pointer (some ⟨M, 0, none⟩))) w' := by
 obtain ⟨A', c', hv, hcc, _, hcl, _⟩ := (h.gath (x := ⟨47, 1, .slice A n cc, n, sl.map slv⟩) List.mem_cons_self).form (by show 0 < 1; omega)
 injection hv with e1 e2 e3
 subst e1 e3
 obtain ⟨g, rfl, _⟩ := hcl (by show 0 < n; omega)
 have hb := h.gbox
 refine ⟨⟨M, g, f, n, cc, n, 0⟩, rfl, ⟨rfl, rfl⟩, Dk.new_ok h1 h2, by simp [Dk.new], hcc, Nat.le_refl _, .slice none 0 0, .slice none 0 0, 0, [], sl, [], rfl, ?_⟩
 have h3 := ((hb.perm (List.Perm.swap _ _ _) (List.Perm.refl _)).gnew 47 1).gnew 175 2
 exact (h3.addF (fun W => Bls W [] []) (fun W _ => Bls.nil W)).fswap
set_option maxRecDepth 100000 in
set_option maxHeartbeats 8000000 in
theorem rk_new_any (w0 w : World) (n : Nat) (c : Fr3) (h : Wc w0 w c.L c.G c.F) (h1 : 1 ≤ n) (h2 : n ≤ 4096) : Calls Tryz.prog 142 #[.int .i64 (n : Int)] w (NewR w0 n c w) := by
 obtain ⟨i1, hi1, hy0, hy1, hy2⟩ := info_parts Tryz.infoBys
 obtain ⟨ZF, hZF⟩ : ∃ z, (bls (List.replicate n false)) = z := ⟨_, rfl⟩
 have hmf := make_bools n h2
 rw [hZF] at hmf
 obtain ⟨zz, hzz⟩ : ∃ x : List UInt8, List.replicate 64 0 = x := ⟨_, rfl⟩
 have hzl := List.length_replicate (n := 64) (a := (0 : UInt8))
 have hmk : ∀ w : World, (Instr.makeSlice 47 (.int .i64 64) (.int .i64 64)).run Tryz.prog w = .ok (.slice (some ⟨w.heap.size, 0, none⟩) 64 64) (w.alloc (.cells (bvs (List.replicate 64 0)).toArray 5)) := make_bys 64 (by decide)
 rw [hzz] at hzl
 simp only [hzz] at hmk
 have HMK := Lib.hid hmk
 have HZZ := Lib.hid hzz
 have HZF := Lib.hid hZF
 have hww : w0.heap.size ≤ w.heap.size := h.only.size
 have HD0 := Lib.hid ((h.newB ZF.toArray 4 rfl).newB #[.slice none 0 0, .slice none 0 0, .slice (some ⟨w.heap.size, 0, none⟩) n n, .int .i64 (-1), .bool false, .int .i64 0, .slice none 0 0] 109 rfl)
 clear hZF hzz hmk h
 have hn1 : 1 ≤ (n : Int) := by omega
 have hn2 : (n : Int) ≤ 4096 := by omega
 go_enter Tryz.func142, Tryz.ntmps142
 go_wp2_with fail
 refine (within_any (n : Int) 1 4096 _).mono ?_
 rintro e w' ⟨rfl, rfl⟩
 rw [decide_eq_true (show (1 : Int) ≤ n ∧ (n : Int) ≤ 4096 from ⟨by omega, by omega⟩)]
 go_wp2_with fail
 clear hmf
 generalize (w.alloc (.cells ZF.toArray 4)).alloc (.cells #[.slice none 0 0, .slice none 0 0, .slice (some ⟨w.heap.size, 0, none⟩) n n, .int .i64 (-1), .bool false, .int .i64 0, .slice none 0 0] 109) = wb at *
 have hbm : (w.alloc (.cells ZF.toArray 4)).heap.size = w.heap.size + 1 := by simp
 rw [hbm] at HD0
 clear hbm
 generalize hbf : w.heap.size = bf at *
 generalize hbm : bf + 1 = bm at *
 have HBF := Lib.hid hbf
 clear hbf hbm
 have hd1 := HD0.out.gnew 47 1
 have HD1 := Lib.hid hd1
 clear HD0 hd1
 go_loopg [4] n (fun r i wr => ∃ (j : Nat) (A4 : Option Addr) (c4 : Nat) (sl : List (Option Addr × Nat × Nat)), j + r = n ∧ i = .int .i64 j ∧
  Wc w0 wr ((bm, [.slice A4 j c4, .slice none 0 0, .slice (some ⟨bf, 0, none⟩) n n, .int .i64 (-1), .bool false, .int .i64 0, .slice none 0 0]) :: (bf, ZF) :: c.L) (⟨47, 1, .slice A4 j c4, j, sl.map slv⟩ :: c.G) ((fun W => Bls W sl (List.replicate j zero64)) :: c.F))
 case atStart => exact ⟨0, none, 0, [], by omega, rfl, HD1.out.addF _ (fun W _ => Bls.nil W)⟩
 obtain ⟨j, A4, c4, sl, hj, rfl, hw⟩ := hrel
 have HD7 := Lib.hid hw.drew
 have HW := Lib.hid hw
 clear HD1 hw
 by_cases hlt : j < n
 ·have hlt2 : (j : Int) < (n : Int) := by omega
  clear HW
  go_wp2_with fail
  refine wp_region_held_drew (S := fun w' => w'.cell? ⟨bm, 1, none⟩ = some (.slice none 0 0)) (by kernel_rfl) ((HD7.out.boxi 0 rfl).cell 1 (by simp)) (fun hSw0 => ?_)
  generalize wr.drew = ws at *
  refine Kn.takeS 0 ⟨some 17, _, _, _, _, _⟩ ?_
  refine Kn.takeS 1 ⟨some 18, _, _, _, _, _⟩ ?_
  refine Kn.takeS 2 ⟨some 19, _, _, _, _, _⟩ ?_
  refine Kn.takeS 3 ⟨some 20, _, _, _, _, _⟩ ?_
  refine wpAnyH_ready (rs := [4, 5]) (by kernel_rfl) (by simp) ?_
  refine AllReadyH.cons (o := ⟨some 21, _, _, _, _, _⟩) rfl (fun K hK => ?_) ?_
  ·have yq := Kn.own1 (HD7.out.boxi 0 rfl)
   go_simp
   clear yq
   refine hK.out _ _ ((HD7.out.boxi 0 rfl).cell 1 (by simp)) (fun hSn => ?_)
   clear hK K hSw0
   have hSw0 := hSn
   clear hSn
   refine Kn.takeR 5 ⟨some 22, _, _, _, _, _⟩ fun K hK => ?_
   have hmk := HMK.out
   go_simp
   clear hmk
   have hbw := HD7.out.only.size
   have ho7 := Own.new ws (bvs zz).toArray 5
   have HDa := Lib.hid (HD7.out.addFc ((Only.refl [] ws).alloc (.cells (bvs zz).toArray 5)) (f := fun V => Bys V (some ⟨ws.heap.size, 0, none⟩) 64 64 zz) (Row1.fc (Row1.of_Own ho7 (by simp [hzl]) (Nat.le_refl _) (by simp [maxLen])) (fun _ a ha => by injection ha with ha; subst ha; simp)))
   obtain ⟨g7, hg7⟩ : ∃ g, ws.heap.size = g := ⟨_, rfl⟩
   clear ho7 hbw
   rw [hg7] at HDa ⊢
   clear hg7
   generalize ws.alloc (.cells (bvs zz).toArray 5) = va at *
   clear HD7
   refine hK.out _ _ ((HDa.out.boxi 0 rfl).cell 1 (by simp)) (fun hSn => ?_)
   clear hK K hSw0
   have hSw0 := hSn
   clear hSn
   refine Kn.takeR 6 ⟨some 23, _, _, _, _, _⟩ fun K hK => ?_
   go_simp
   have HDb := Lib.hid (HDa.out.alloc (.cells #[.slice (some ⟨g7, 0, none⟩) 64 64] 47))
   have hnr : Row1 (va.alloc (.cells #[.slice (some ⟨g7, 0, none⟩) 64 64] 47)) (some ⟨va.heap.size, 0, none⟩) 1 1 ([(some ⟨g7, 0, none⟩, 64, 64)].map slv) := Row1.of_Own (Own.new va #[.slice (some ⟨g7, 0, none⟩) 64 64] 47) rfl (Nat.le_refl _) (by simp [maxLen])
   have HNR2 := Lib.hid hnr
   clear hnr
   have hbw := HDb.out.only.size
   generalize hvz : va.heap.size = vz at *
   generalize hvb : va.alloc (.cells #[.slice (some ⟨g7, 0, none⟩) 64 64] 47) = vb at *
   clear hvb hvz
   refine hK.out _ _ ((HDb.out.boxi 0 rfl).cell 1 (by simp)) (fun hSn => ?_)
   clear hK K hSw0
   have hSw0 := hSn
   clear hSn
   refine Kn.takeR 7 ⟨some 24, _, _, _, _, _⟩ fun K hK => ?_
   refine step_append_row1 rfl (.tmp 21) (.tmp 23) 54 rfl w0.heap.size 47 i1 _ 24 Tryz.underlying54 hi1 hy0 hy1 hy2 rfl (.slice A4 j c4) j (sl.map slv) rfl (HDb.out.gi 0 rfl) (some ⟨vz, 0, none⟩) 1 1 ([(some ⟨g7, 0, none⟩, 64, 64)].map slv) rfl HNR2.out (slv_one _) (by unfold maxLen; omega) (by omega) hbw ?_
   intro v' vd hown hgrow hat
   rw [← List.map_append] at hown
   have hdd := HDb.out.gapp 0 rfl hown hgrow hat
   obtain ⟨A8, c8, rfl⟩ := hdd.gform 0 rfl
   simp only [List.set_cons_zero, List.set_cons_succ] at hdd
   have HDd := Lib.hid hdd
   clear hdd hown hgrow hat
   refine hK.out _ _ ((HDd.out.boxi 0 rfl).cell 1 (by simp)) (fun hSn => ?_)
   clear hK K hSw0
   have hSw0 := hSn
   clear hSn
   refine Kn.takeS 8 ⟨some 25, _, _, _, _, _⟩ ?_
   refine Kn.takeS 9 ⟨some 26, _, _, _, _, _⟩ ?_
   refine Kn.takeR 10 ⟨none, _, _, _, _, _⟩ fun K hK => ?_
   have yq := Kn.own1 (HDd.out.boxi 0 rfl)
   have fq := (HDd.out.boxi 0 rfl).frozen 0
   go_simp
   have hdz := HDd.out.put 0 rfl 0 (.slice A8 (j + 1) c8)
   simp only [List.set_cons_zero, List.set_cons_succ] at hdz
   have HDz := Lib.hid hdz
   clear hdz
   clear yq fq
   refine hK.out _ _ ((HDz.out.boxi 0 rfl).cell 1 (by simp)) (fun hSn => ?_)
   clear hK K hSw0
   have hSw0 := hSn
   clear hSn
   refine wpAnyH_done (by kernel_rfl) ?_ _
   clear hSw0
   go_wp2_with fail
   go_roundg (gk - 1)
   case measure => omega
   case rel =>
    refine ⟨j + 1, A8, c8, sl ++ [(some ⟨g7, 0, none⟩, 64, 64)], by omega, by go_num, ?_⟩
    ·refine (HDz.out.fuse (f1 := fun V => Bys V (some ⟨g7, 0, none⟩) 64 64 zz) (f2 := fun V => Bls V sl (List.replicate j zero64)) (f := fun V => Bls V (sl ++ [(some ⟨g7, 0, none⟩, 64, 64)]) (List.replicate (j + 1) zero64)) (by simp) (by simp) (fun V h1 h2 => by rw [List.replicate_succ']; have := HZZ.out; unfold zero64 at h2 ⊢; rw [this] at h2 ⊢; exact h2.snoc h1)).subF ?_
     intro f1 hf1
     rcases List.mem_cons.1 hf1 with rfl | hf1
     ·simp
     ·simp [hf1]
  refine AllReadyH.cons (o := ⟨some 22, _, _, _, _, _⟩) rfl (fun K hK => ?_) ?_
  ·have hmk := HMK.out
   go_simp
   clear hmk
   have hbw := HD7.out.only.size
   have ho7 := Own.new ws (bvs zz).toArray 5
   have HDa := Lib.hid (HD7.out.addFc ((Only.refl [] ws).alloc (.cells (bvs zz).toArray 5)) (f := fun V => Bys V (some ⟨ws.heap.size, 0, none⟩) 64 64 zz) (Row1.fc (Row1.of_Own ho7 (by simp [hzl]) (Nat.le_refl _) (by simp [maxLen])) (fun _ a ha => by injection ha with ha; subst ha; simp)))
   obtain ⟨g7, hg7⟩ : ∃ g, ws.heap.size = g := ⟨_, rfl⟩
   clear ho7 hbw
   rw [hg7] at HDa ⊢
   clear hg7
   generalize ws.alloc (.cells (bvs zz).toArray 5) = va at *
   clear HD7
   refine hK.out _ _ ((HDa.out.boxi 0 rfl).cell 1 (by simp)) (fun hSn => ?_)
   clear hK K hSw0
   have hSw0 := hSn
   clear hSn
   refine wpAnyH_ready (rs := [4, 6]) (by kernel_rfl) (by simp) ?_
   refine AllReadyH.cons (o := ⟨some 21, _, _, _, _, _⟩) rfl (fun K hK => ?_) ?_
   ·have yq := Kn.own1 (HDa.out.boxi 0 rfl)
    go_simp
    clear yq
    refine hK.out _ _ ((HDa.out.boxi 0 rfl).cell 1 (by simp)) (fun hSn => ?_)
    clear hK K hSw0
    have hSw0 := hSn
    clear hSn
    refine Kn.takeR 6 ⟨some 23, _, _, _, _, _⟩ fun K hK => ?_
    go_simp
    have HDb := Lib.hid (HDa.out.alloc (.cells #[.slice (some ⟨g7, 0, none⟩) 64 64] 47))
    have hnr : Row1 (va.alloc (.cells #[.slice (some ⟨g7, 0, none⟩) 64 64] 47)) (some ⟨va.heap.size, 0, none⟩) 1 1 ([(some ⟨g7, 0, none⟩, 64, 64)].map slv) := Row1.of_Own (Own.new va #[.slice (some ⟨g7, 0, none⟩) 64 64] 47) rfl (Nat.le_refl _) (by simp [maxLen])
    have HNR2 := Lib.hid hnr
    clear hnr
    have hbw := HDb.out.only.size
    generalize hvz : va.heap.size = vz at *
    generalize hvb : va.alloc (.cells #[.slice (some ⟨g7, 0, none⟩) 64 64] 47) = vb at *
    clear hvb hvz
    refine hK.out _ _ ((HDb.out.boxi 0 rfl).cell 1 (by simp)) (fun hSn => ?_)
    clear hK K hSw0
    have hSw0 := hSn
    clear hSn
    refine Kn.takeR 7 ⟨some 24, _, _, _, _, _⟩ fun K hK => ?_
    refine step_append_row1 rfl (.tmp 21) (.tmp 23) 54 rfl w0.heap.size 47 i1 _ 24 Tryz.underlying54 hi1 hy0 hy1 hy2 rfl (.slice A4 j c4) j (sl.map slv) rfl (HDb.out.gi 0 rfl) (some ⟨vz, 0, none⟩) 1 1 ([(some ⟨g7, 0, none⟩, 64, 64)].map slv) rfl HNR2.out (slv_one _) (by unfold maxLen; omega) (by omega) hbw ?_
    intro v' vd hown hgrow hat
    rw [← List.map_append] at hown
    have hdd := HDb.out.gapp 0 rfl hown hgrow hat
    obtain ⟨A8, c8, rfl⟩ := hdd.gform 0 rfl
    simp only [List.set_cons_zero, List.set_cons_succ] at hdd
    have HDd := Lib.hid hdd
    clear hdd hown hgrow hat
    refine hK.out _ _ ((HDd.out.boxi 0 rfl).cell 1 (by simp)) (fun hSn => ?_)
    clear hK K hSw0
    have hSw0 := hSn
    clear hSn
    refine Kn.takeS 8 ⟨some 25, _, _, _, _, _⟩ ?_
    refine Kn.takeS 9 ⟨some 26, _, _, _, _, _⟩ ?_
    refine Kn.takeR 10 ⟨none, _, _, _, _, _⟩ fun K hK => ?_
    have yq := Kn.own1 (HDd.out.boxi 0 rfl)
    have fq := (HDd.out.boxi 0 rfl).frozen 0
    go_simp
    have hdz := HDd.out.put 0 rfl 0 (.slice A8 (j + 1) c8)
    simp only [List.set_cons_zero, List.set_cons_succ] at hdz
    have HDz := Lib.hid hdz
    clear hdz
    clear yq fq
    refine hK.out _ _ ((HDz.out.boxi 0 rfl).cell 1 (by simp)) (fun hSn => ?_)
    clear hK K hSw0
    have hSw0 := hSn
    clear hSn
    refine wpAnyH_done (by kernel_rfl) ?_ _
    clear hSw0
    go_wp2_with fail
    go_roundg (gk - 1)
    case measure => omega
    case rel =>
     refine ⟨j + 1, A8, c8, sl ++ [(some ⟨g7, 0, none⟩, 64, 64)], by omega, by go_num, ?_⟩
     ·refine (HDz.out.fuse (f1 := fun V => Bys V (some ⟨g7, 0, none⟩) 64 64 zz) (f2 := fun V => Bls V sl (List.replicate j zero64)) (f := fun V => Bls V (sl ++ [(some ⟨g7, 0, none⟩, 64, 64)]) (List.replicate (j + 1) zero64)) (by simp) (by simp) (fun V h1 h2 => by rw [List.replicate_succ']; have := HZZ.out; unfold zero64 at h2 ⊢; rw [this] at h2 ⊢; exact h2.snoc h1)).subF ?_
      intro f1 hf1
      rcases List.mem_cons.1 hf1 with rfl | hf1
      ·simp
      ·simp [hf1]
   refine AllReadyH.cons (o := ⟨some 23, _, _, _, _, _⟩) rfl (fun K hK => ?_) ?_
   ·go_simp
    have HDb := Lib.hid (HDa.out.alloc (.cells #[.slice (some ⟨g7, 0, none⟩) 64 64] 47))
    have hnr : Row1 (va.alloc (.cells #[.slice (some ⟨g7, 0, none⟩) 64 64] 47)) (some ⟨va.heap.size, 0, none⟩) 1 1 ([(some ⟨g7, 0, none⟩, 64, 64)].map slv) := Row1.of_Own (Own.new va #[.slice (some ⟨g7, 0, none⟩) 64 64] 47) rfl (Nat.le_refl _) (by simp [maxLen])
    have HNR2 := Lib.hid hnr
    clear hnr
    have hbw := HDb.out.only.size
    generalize hvz : va.heap.size = vz at *
    generalize hvb : va.alloc (.cells #[.slice (some ⟨g7, 0, none⟩) 64 64] 47) = vb at *
    clear hvb hvz
    refine hK.out _ _ ((HDb.out.boxi 0 rfl).cell 1 (by simp)) (fun hSn => ?_)
    clear hK K hSw0
    have hSw0 := hSn
    clear hSn
    refine Kn.takeR 4 ⟨some 21, _, _, _, _, _⟩ fun K hK => ?_
    have yq := Kn.own1 (HDb.out.boxi 0 rfl)
    go_simp
    clear yq
    refine hK.out _ _ ((HDb.out.boxi 0 rfl).cell 1 (by simp)) (fun hSn => ?_)
    clear hK K hSw0
    have hSw0 := hSn
    clear hSn
    refine Kn.takeR 7 ⟨some 24, _, _, _, _, _⟩ fun K hK => ?_
    refine step_append_row1 rfl (.tmp 21) (.tmp 23) 54 rfl w0.heap.size 47 i1 _ 24 Tryz.underlying54 hi1 hy0 hy1 hy2 rfl (.slice A4 j c4) j (sl.map slv) rfl (HDb.out.gi 0 rfl) (some ⟨vz, 0, none⟩) 1 1 ([(some ⟨g7, 0, none⟩, 64, 64)].map slv) rfl HNR2.out (slv_one _) (by unfold maxLen; omega) (by omega) hbw ?_
    intro v' vd hown hgrow hat
    rw [← List.map_append] at hown
    have hdd := HDb.out.gapp 0 rfl hown hgrow hat
    obtain ⟨A8, c8, rfl⟩ := hdd.gform 0 rfl
    simp only [List.set_cons_zero, List.set_cons_succ] at hdd
    have HDd := Lib.hid hdd
    clear hdd hown hgrow hat
    refine hK.out _ _ ((HDd.out.boxi 0 rfl).cell 1 (by simp)) (fun hSn => ?_)
    clear hK K hSw0
    have hSw0 := hSn
    clear hSn
    refine Kn.takeS 8 ⟨some 25, _, _, _, _, _⟩ ?_
    refine Kn.takeS 9 ⟨some 26, _, _, _, _, _⟩ ?_
    refine Kn.takeR 10 ⟨none, _, _, _, _, _⟩ fun K hK => ?_
    have yq := Kn.own1 (HDd.out.boxi 0 rfl)
    have fq := (HDd.out.boxi 0 rfl).frozen 0
    go_simp
    have hdz := HDd.out.put 0 rfl 0 (.slice A8 (j + 1) c8)
    simp only [List.set_cons_zero, List.set_cons_succ] at hdz
    have HDz := Lib.hid hdz
    clear hdz
    clear yq fq
    refine hK.out _ _ ((HDz.out.boxi 0 rfl).cell 1 (by simp)) (fun hSn => ?_)
    clear hK K hSw0
    have hSw0 := hSn
    clear hSn
    refine wpAnyH_done (by kernel_rfl) ?_ _
    clear hSw0
    go_wp2_with fail
    go_roundg (gk - 1)
    case measure => omega
    case rel =>
     refine ⟨j + 1, A8, c8, sl ++ [(some ⟨g7, 0, none⟩, 64, 64)], by omega, by go_num, ?_⟩
     ·refine (HDz.out.fuse (f1 := fun V => Bys V (some ⟨g7, 0, none⟩) 64 64 zz) (f2 := fun V => Bls V sl (List.replicate j zero64)) (f := fun V => Bls V (sl ++ [(some ⟨g7, 0, none⟩, 64, 64)]) (List.replicate (j + 1) zero64)) (by simp) (by simp) (fun V h1 h2 => by rw [List.replicate_succ']; have := HZZ.out; unfold zero64 at h2 ⊢; rw [this] at h2 ⊢; exact h2.snoc h1)).subF ?_
      intro f1 hf1
      rcases List.mem_cons.1 hf1 with rfl | hf1
      ·simp
      ·simp [hf1]
   exact AllReadyH.nil
  exact AllReadyH.nil
 ·obtain rfl : j = n := by omega
  go_wp2
  go_ret
  rw [HZF.out.symm] at HW
  exact NewR.mk h1 h2 HW.out
end Go.Proofs.YtgcfdjcpcclcjaaGreat
namespace Go.Proofs.YtgcfdjcpcclcjaaGreat
open Go Go.RowKit Go.Kn
theorem Rsk.gone1 {w0 w : World} {r : RD} {d : Dk} {c : Fr3} (h : Rsk w0 w r d c) (hg : d.gone = true) :
  Rsk w0 ((w.setCell ⟨r.M, 5, none⟩ (.int .i64 (wrap64 (d.acts + 1)))).setCell ⟨r.M, 4, none⟩ (.bool true)) r d.act c := by
 obtain ⟨v, lv, k, ls, sl, hs, hl, hm⟩ := h.mem
 have h1 := ((hm.put 0 (p := r.M) (cs := r.box v lv d) rfl 5 (.int .i64 (wrap64 (d.acts + 1)))).put 0 rfl 4 (.bool true))
 refine ⟨h.ok.act, h.N, h.hs, h.hf, v, lv, k, ls, sl, hs, hl, ?_⟩
 have e : r.L v lv sl d.act c.L = (r.M, [.slice (some ⟨r.s, 0, none⟩) r.N r.cs, v, .slice (some ⟨r.f, 0, none⟩) r.N r.cf, .int .i64 d.fuse, .bool true, .int .i64 (wrap64 (d.acts + 1)), lv]) :: (r.s, sl.map slv) :: (r.f, bls d.faults) :: c.L := by
  simp only [RD.L, RD.box, Dk.act, hg, if_true, Dk.tick]
 rw [e]
 exact h1
theorem Rsk.gone0 {w0 w : World} {r : RD} {d : Dk} {c : Fr3} (h : Rsk w0 w r d c) (hg : d.gone = false) (hf : 0 < d.fuse) :
  Rsk w0 ((w.setCell ⟨r.M, 5, none⟩ (.int .i64 (wrap64 (d.acts + 1)))).setCell ⟨r.M, 3, none⟩ (.int .i64 (d.fuse - 1))) r d.act c := by
 obtain ⟨v, lv, k, ls, sl, hs, hl, hm⟩ := h.mem
 have h1 := ((hm.put 0 (p := r.M) (cs := r.box v lv d) rfl 5 (.int .i64 (wrap64 (d.acts + 1)))).put 0 rfl 3 (.int .i64 (d.fuse - 1)))
 refine ⟨h.ok.act, h.N, h.hs, h.hf, v, lv, k, ls, sl, hs, hl, ?_⟩
 have hof : d.off = false := by unfold Dk.gone at hg; rw [Bool.or_eq_false_iff] at hg; exact hg.1
 have e : r.L v lv sl d.act c.L = (r.M, [.slice (some ⟨r.s, 0, none⟩) r.N r.cs, v, .slice (some ⟨r.f, 0, none⟩) r.N r.cf, .int .i64 (d.fuse - 1), .bool d.off, .int .i64 (wrap64 (d.acts + 1)), lv]) :: (r.s, sl.map slv) :: (r.f, bls d.faults) :: c.L := by
  simp only [RD.L, RD.box, Dk.act, hg, Bool.false_eq_true, if_false, Dk.tick, hof]
  rw [show max (d.fuse - 1) (-1) = d.fuse - 1 from by omega]
 rw [e]
 exact h1
theorem Rsk.gone0' {w0 w : World} {r : RD} {d : Dk} {c : Fr3} (h : Rsk w0 w r d c) (hg : d.gone = false) (hf : d.fuse < 0) :
  Rsk w0 (w.setCell ⟨r.M, 5, none⟩ (.int .i64 (wrap64 (d.acts + 1)))) r d.act c := by
 obtain ⟨v, lv, k, ls, sl, hs, hl, hm⟩ := h.mem
 have h1 := (hm.put 0 (p := r.M) (cs := r.box v lv d) rfl 5 (.int .i64 (wrap64 (d.acts + 1))))
 refine ⟨h.ok.act, h.N, h.hs, h.hf, v, lv, k, ls, sl, hs, hl, ?_⟩
 have hu := h.ok.u
 have hof : d.off = false := by unfold Dk.gone at hg; rw [Bool.or_eq_false_iff] at hg; exact hg.1
 have e : r.L v lv sl d.act c.L = (r.M, [.slice (some ⟨r.s, 0, none⟩) r.N r.cs, v, .slice (some ⟨r.f, 0, none⟩) r.N r.cf, .int .i64 d.fuse, .bool d.off, .int .i64 (wrap64 (d.acts + 1)), lv]) :: (r.s, sl.map slv) :: (r.f, bls d.faults) :: c.L := by
  simp only [RD.L, RD.box, Dk.act, hg, Bool.false_eq_true, if_false, Dk.tick, hof]
  rw [show max (d.fuse - 1) (-1) = d.fuse from by omega]
 rw [e]
 exact h1
theorem rk_act_any (w0 w : World) (r : RD) (d : Dk) (c : Fr3) (h : Rsk w0 w r d c) :
  Calls Tryz.prog 150 #[.pointer (some ⟨r.M, 0, none⟩)] w fun e w' => e = .returned (.bool (!d.gone)) ∧ Rsk w0 w' r d.act c := by
 obtain ⟨v, lv, k, ls, sl, hs, hl, hm⟩ := h.mem
 have hb := hm.boxi 0 (p := r.M) (cs := r.box v lv d) rfl
 have c3 := hb.cell 3 (by simp [RD.box])
 have c4 := hb.cell 4 (by simp [RD.box])
 have c5 := hb.cell 5 (by simp [RD.box])
 have f3 := hb.frozen 3
 have f4 := hb.frozen 4
 have f5 := hb.frozen 5
 simp only [RD.box, List.getElem_cons_zero, List.getElem_cons_succ] at c3 c4 c5
 have hu := h.ok.u
 have hlt := hb.lt
 obtain ⟨hu1, hu2⟩ := hu
 clear hm hb hl
 by_cases hg : d.gone = true
 ·refine (show Calls _ _ _ _ (fun e w' => e = .returned (.bool false) ∧ Rsk w0 w' r d.act c) from ?_).mono (fun e w' h => by rw [hg]; exact h)
  have H := Lib.hid (Rsk.gone1 h hg)
  clear h
  unfold Dk.gone at hg
  by_cases ho : d.off = true
  ·rw [ho] at c4
   clear hg ho
   go_enter Tryz.func150, Tryz.ntmps150
   go_wp2
   go_ret
   exact ⟨rfl, H.out⟩
  ·rw [Bool.not_eq_true] at ho
   have hf : d.fuse = 0 := by rw [ho] at hg; simpa using hg
   rw [ho] at c4
   rw [hf] at c3
   clear hg ho hf hu1 hu2
   go_enter Tryz.func150, Tryz.ntmps150
   go_wp2
   go_ret
   exact ⟨rfl, H.out⟩
 ·rw [Bool.not_eq_true] at hg
  refine (show Calls _ _ _ _ (fun e w' => e = .returned (.bool true) ∧ Rsk w0 w' r d.act c) from ?_).mono (fun e w' h => by rw [hg]; exact h)
  by_cases hz : 0 < d.fuse
  ·have H := Lib.hid (h.gone0 hg hz)
   clear h
   unfold Dk.gone at hg
   rw [Bool.or_eq_false_iff] at hg
   obtain ⟨ho, hf⟩ := hg
   rw [ho] at c4
   have hf : ¬ d.fuse = 0 := by omega
   clear ho
   go_enter Tryz.func150, Tryz.ntmps150
   go_wp2
   go_ret
   exact ⟨rfl, H.out⟩
  ·have hf0 : ¬ d.fuse = 0 := by
    unfold Dk.gone at hg
    rw [Bool.or_eq_false_iff] at hg
    simpa using hg.2
   have H := Lib.hid (h.gone0' hg (by omega))
   clear h
   unfold Dk.gone at hg
   rw [Bool.or_eq_false_iff] at hg
   obtain ⟨ho, hf⟩ := hg
   rw [ho] at c4
   clear ho hf
   go_enter Tryz.func150, Tryz.ntmps150
   go_wp2
   go_ret
   exact ⟨rfl, H.out⟩
theorem Tryz.infoHeld : (Tryz.prog.info? 175).map (fun i => (i.zero, i.size, i.bytes)) = some (some (.agg #[.int .i64 0, .slice none 0 0]), 2, 32) := by kernel_rfl
theorem Rsk.wroteMk {w0 w' : World} {r : RD} {d : Dk} {c : Fr3} {w : World} {v lv : Value} {k : Nat} {kk : Fin (r.K + 1)} {ls : List Value} {sl hs : List (Option Addr × Nat × Nat)} {b : List UInt8} {s : Option Addr × Nat × Nat} (h : Rsk w0 w r d c) (hh : d.has k = true) (hb : b.length = 64) (hl : hs.length = d.held.length)
  (hm : Wc w0 w' ((r.M, r.box v lv d.act) :: (r.s, sl.map slv) :: (r.f, bls d.faults) :: c.L) (⟨175, 2, v, d.held.length + 1, heldR d.held hs ++ [.int .i64 (k : Int), slv s]⟩ :: ⟨47, 1, lv, kk.val, ls⟩ :: c.G) ((fun W => Bls W sl d.safe) :: (fun W => Bls W (hs ++ [s]) (d.held.map (·.2) ++ [b])) :: c.F)) :
  Rsk w0 w' r (d.wrote k b) c := by
 refine ⟨h.ok.wrote hh hb, h.N, h.hs, h.hf, v, lv, kk, ls, sl, hs ++ [s], by simp [Dk.wrote, hl], ?_⟩
 have e1 : (d.wrote k b).held = d.held ++ [(k, b)] := by unfold Dk.wrote; simp
 rw [e1, heldR_snoc _ _ hl.symm, List.length_append, List.map_append]
 exact hm
set_option maxRecDepth 100000 in
set_option maxHeartbeats 4000000 in
theorem rk_write_any (w0 w : World) (r : RD) (d : Dk) (c : Fr3) (a : Int) (A : Option Addr) (n cc : Nat) (b : List UInt8) (h : Rsk w0 w r d c) (hb : (fun W => Bys W A n cc b) ∈ c.F) (hh : d.held.length ≤ 1000000) :
  Calls Tryz.prog 94 #[.pointer (some ⟨r.M, 0, none⟩), .int .i64 a, .slice A n cc] w fun e w' => e = .returned (.int .i64 (d.write a b).2) ∧ Rsk w0 w' r (d.write a b).1 c := by
 obtain ⟨v, lv, kk, ls, sl, hs, hl, hm⟩ := h.mem
 have hbl : b.length = n := by
  have := (hm.fact _ (List.mem_cons_of_mem _ (List.mem_cons_of_mem _ hb))).len
  rwa [bvs_length] at this
 have hbx := hm.boxi 0 (p := r.M) (cs := r.box v lv d) rfl
 have c0 := hbx.cell 0 (by simp [RD.box])
 simp only [RD.box, List.getElem_cons_zero, List.getElem_cons_succ] at c0
 have hN := h.N
 have hn := h.ok.n
 have hN1 : 1 ≤ r.N ∧ r.N ≤ 4096 := by omega
 obtain ⟨hN1, hN2⟩ := hN1
 have hha : decide (0 ≤ a ∧ a ≤ (r.N : Int) - 1) = d.has a := by
  unfold Dk.has
  rw [hN]
  by_cases h1 : 0 ≤ a ∧ a ≤ (r.N : Int) - 1
  ·rw [decide_eq_true h1, decide_eq_true (by omega)]
  ·rw [decide_eq_false h1, decide_eq_false (by omega)]
 have HHA := Lib.hid hha
 clear hm hbx hN hn hha hl
 by_cases hok : d.has a = true ∧ b.length = 64
 ·obtain ⟨ho1, ho2⟩ := hok
  obtain rfl : n = 64 := by omega
  by_cases hg : d.gone = true
  ·have e : d.write a b = (d.act, 3) := by unfold Dk.write; simp [ho1, ho2, hg]
   rw [e]
   have H := Lib.hid h
   have HG := Lib.hid hg
   have HO := Lib.hid ho1
   clear h hbl ho2 ho1 hg e
   go_enter Tryz.func94, Tryz.ntmps94
   go_wp2_with fail
   refine (within_any a 0 ((r.N : Int) - 1) _).mono ?_
   rintro e w1 ⟨rfl, rfl⟩
   rw [HHA.out, HO.out]
   go_wp2_with fail
   refine (rk_act_any w0 w r d c H.out).mono ?_
   rintro e w1 ⟨rfl, h1⟩
   rw [HG.out]
   have H1 := Lib.hid h1
   clear h1
   go_wp2
   go_ret
   exact ⟨rfl, H1.out⟩
  ·have e : d.write a b = (d.wrote a b, 0) := by unfold Dk.write; simp [ho1, ho2, hg]
   rw [e]
   rw [Bool.not_eq_true] at hg
   obtain ⟨k, rfl⟩ : ∃ k : Nat, a = k := ⟨a.toNat, by unfold Dk.has at ho1; simp only [decide_eq_true_eq] at ho1; omega⟩
   have H := Lib.hid h
   have HG := Lib.hid hg
   have HO := Lib.hid ho1
   have HB := Lib.hid hb
   have HL := Lib.hid ho2
   clear h hbl ho2 ho1 hg e hb
   go_enter Tryz.func94, Tryz.ntmps94
   go_wp2_with fail
   refine (within_any (k : Int) 0 ((r.N : Int) - 1) _).mono ?_
   rintro e w1 ⟨rfl, rfl⟩
   rw [HHA.out, HO.out]
   go_wp2_with fail
   refine (rk_act_any w0 w r d c H.out).mono ?_
   rintro e w1 ⟨rfl, h1⟩
   rw [HG.out]
   clear c0 v lv kk ls sl hs
   obtain ⟨v, lv, kk, ls, sl, hs, hl, hm⟩ := h1.mem
   obtain ⟨i1, hi1, hy0, hy1, hy2⟩ := info_parts Tryz.infoHeld
   have hdl : d.act.held.length = d.held.length := rfl
   have hde : d.act.held = d.held := rfl
   rw [hde] at hm hl
   have HHL := Lib.hid hl
   have HD7 := Lib.hid hm.drew
   clear hm h1 hdl hde hl
   go_wp2_with fail
   refine wp_region_held_drew (S := fun w' => w'.cell? ⟨r.M, 0, none⟩ = some (.slice (some ⟨r.s, 0, none⟩) r.N r.cs)) (by kernel_rfl) (by simpa [RD.box] using (HD7.out.boxi 0 (p := r.M) rfl).cell 0 (by simp [RD.box])) (fun hSw0 => ?_)
   generalize w1.drew = ws at *
   refine Kn.takeS 0 ⟨some 24, _, _, _, _, _⟩ ?_
   refine Kn.takeS 1 ⟨some 25, _, _, _, _, _⟩ ?_
   refine Kn.takeS 2 ⟨some 26, _, _, _, _, _⟩ ?_
   refine Kn.takeS 3 ⟨some 27, _, _, _, _, _⟩ ?_
   refine Kn.takeS 5 ⟨some 29, _, _, _, _, _⟩ ?_
   refine Kn.takeS 6 ⟨some 30, _, _, _, _, _⟩ ?_
   refine Kn.takeS 7 ⟨some 31, _, _, _, _, _⟩ ?_
   refine Kn.takeS 8 ⟨some 32, _, _, _, _, _⟩ ?_
   refine wpAnyH_ready (rs := [4, 9]) (by kernel_rfl) (by simp) ?_
   refine AllReadyH.cons (o := ⟨some 28, _, _, _, _, _⟩) rfl (fun K hK => ?_) ?_
   ·have yq := (HD7.out.boxi 0 (p := r.M) rfl).cell 1 (by simp [RD.box])
    simp only [RD.box, List.getElem_cons_zero, List.getElem_cons_succ] at yq
    go_simp
    clear yq
    refine hK.out _ _ (by simpa [RD.box] using (HD7.out.boxi 0 (p := r.M) rfl).cell 0 (by simp [RD.box])) (fun hSn => ?_)
    clear hK K hSw0
    have hSw0 := hSn
    clear hSn
    refine Kn.takeR 9 ⟨some 33, _, _, _, _, _⟩ fun K hK => ?_
    go_simp
    refine (part_any A 64 cc b 0 64 _ _ (HD7.out.fact _ (List.mem_cons_of_mem _ (List.mem_cons_of_mem _ HB.out))) (by omega) (by omega) (by omega)).mono ?_
    rintro en va ⟨rfl, ho7, hO⟩
    rw [List.drop_zero, List.take_of_length_le (by rw [HL.out]; omega)] at ho7
    have hbw := HD7.out.only.size
    have HDa := Lib.hid (HD7.out.addFc hO (f := fun V => Bys V (some ⟨ws.heap.size, 0, none⟩) 64 64 b) (Row1.fc (Row1.of_Own ho7 (by simp [HL.out]) (Nat.le_refl _) (by simp [maxLen])) (fun _ a ha => by injection ha with ha; subst ha; simp)))
    obtain ⟨g7, hg7⟩ : ∃ g, ws.heap.size = g := ⟨_, rfl⟩
    clear hO ho7 hbw
    rw [hg7] at HDa ⊢
    clear hg7 HD7
    refine hK.out _ _ (by simpa [RD.box] using (HDa.out.boxi 0 (p := r.M) rfl).cell 0 (by simp [RD.box])) (fun hSn => ?_)
    clear hK K hSw0
    have hSw0 := hSn
    clear hSn
    refine Kn.takeS 10 ⟨some 34, _, _, _, _, _⟩ ?_
    refine Kn.takeR 11 ⟨some 35, _, _, _, _, _⟩ fun K hK => ?_
    go_simp
    have HDb := Lib.hid (HDa.out.alloc (.cells #[.int .i64 (k : Int), .slice (some ⟨g7, 0, none⟩) 64 64] 175))
    have hnw := news_new va #[.int .i64 (k : Int), .slice (some ⟨g7, 0, none⟩) 64 64] 175 (by simp [maxLen])
    have HNW := Lib.hid hnw
    clear hnw
    generalize hvz : va.heap.size = vz at *
    generalize hvb : va.alloc (.cells #[.int .i64 (k : Int), .slice (some ⟨g7, 0, none⟩) 64 64] 175) = vb at *
    clear hvb hvz
    refine hK.out _ _ (by simpa [RD.box] using (HDb.out.boxi 0 (p := r.M) rfl).cell 0 (by simp [RD.box])) (fun hSn => ?_)
    clear hK K hSw0
    have hSw0 := hSn
    clear hSn
    refine Kn.takeR 12 ⟨some 36, _, _, _, _, _⟩ fun K hK => ?_
    have hbw := HDb.out.only.size
    refine step_append_own rfl (.tmp 28) (.tmp 35) 106 rfl w0.heap.size 175 i1 _ 2 32 Tryz.underlying106 hi1 hy0 hy1 hy2 rfl (by decide) v d.held.length (heldR d.held hs) rfl (HDb.out.gi 0 rfl) ⟨vz, 0, none⟩ 1 1 [.int .i64 (k : Int), .slice (some ⟨g7, 0, none⟩) 64 64] rfl rfl HNW.out (by intro u hu; simp at hu; rcases hu with rfl | rfl <;> rfl) (by unfold maxLen; omega) (by omega) hbw ?_
    intro v5 vd hown hgrow hat
    have hdd := HDb.out.gapp 0 rfl hown hgrow hat
    obtain ⟨A8, c8, rfl⟩ := hdd.gform 0 rfl
    simp only [List.set_cons_zero, List.set_cons_succ] at hdd
    have HDd := Lib.hid hdd
    clear hdd hown hgrow hat hbw
    refine hK.out _ _ (by simpa [RD.box] using (HDd.out.boxi 0 (p := r.M) rfl).cell 0 (by simp [RD.box])) (fun hSn => ?_)
    clear hK K hSw0
    have hSw0 := hSn
    clear hSn
    refine Kn.takeS 13 ⟨some 37, _, _, _, _, _⟩ ?_
    refine Kn.takeS 14 ⟨some 38, _, _, _, _, _⟩ ?_
    refine Kn.takeR 15 ⟨none, _, _, _, _, _⟩ fun K hK => ?_
    have hxb := HDd.out.boxi 0 (p := r.M) rfl
    have yq := hxb.cell 1 (by simp [RD.box])
    simp only [RD.box, List.getElem_cons_zero, List.getElem_cons_succ] at yq
    have fq := hxb.frozen 1
    go_simp
    clear yq fq hxb
    have hdz := HDd.out.put 0 (p := r.M) rfl 1 (.slice A8 (d.held.length + 1) c8)
    have HDz := Lib.hid hdz
    clear hdz
    refine hK.out _ _ (by simpa [RD.box] using (HDz.out.boxi 0 (p := r.M) rfl).cell 0 (by simp [RD.box])) (fun hSn => ?_)
    clear hK K hSw0
    have hSw0 := hSn
    clear hSn
    refine wpAnyH_done (by kernel_rfl) ?_ _
    clear hSw0
    go_wp2
    go_ret
    refine ⟨rfl, Rsk.wroteMk (v := .slice A8 (d.held.length + 1) c8) (lv := lv) (sl := sl) (hs := hs) (s := (some ⟨g7, 0, none⟩, 64, 64)) (kk := kk) (ls := ls) H.out HO.out HL.out HHL.out ?_⟩
    refine (HDz.out.fuse (f1 := fun V => Bys V (some ⟨g7, 0, none⟩) 64 64 b) (f2 := fun V => Bls V hs (d.held.map (·.2))) (f := fun V => Bls V (hs ++ [(some ⟨g7, 0, none⟩, 64, 64)]) (d.held.map (·.2) ++ [b])) (by simp) (by simp) (fun V h1 h2 => h2.snoc h1)).subF ?_
    intro f1 hf1
    rcases List.mem_cons.1 hf1 with rfl | hf1
    ·exact List.mem_cons_of_mem _ (List.mem_cons_of_mem _ List.mem_cons_self)
    ·rcases List.mem_cons.1 hf1 with rfl | hf1
     ·exact List.mem_cons_self
     ·exact List.mem_cons_of_mem _ (List.mem_cons_of_mem _ (List.mem_cons_of_mem _ (List.mem_cons_of_mem _ hf1)))
   refine AllReadyH.cons (o := ⟨some 33, _, _, _, _, _⟩) rfl (fun K hK => ?_) ?_
   ·go_simp
    refine (part_any A 64 cc b 0 64 _ _ (HD7.out.fact _ (List.mem_cons_of_mem _ (List.mem_cons_of_mem _ HB.out))) (by omega) (by omega) (by omega)).mono ?_
    rintro en va ⟨rfl, ho7, hO⟩
    rw [List.drop_zero, List.take_of_length_le (by rw [HL.out]; omega)] at ho7
    have hbw := HD7.out.only.size
    have HDa := Lib.hid (HD7.out.addFc hO (f := fun V => Bys V (some ⟨ws.heap.size, 0, none⟩) 64 64 b) (Row1.fc (Row1.of_Own ho7 (by simp [HL.out]) (Nat.le_refl _) (by simp [maxLen])) (fun _ a ha => by injection ha with ha; subst ha; simp)))
    obtain ⟨g7, hg7⟩ : ∃ g, ws.heap.size = g := ⟨_, rfl⟩
    clear hO ho7 hbw
    rw [hg7] at HDa ⊢
    clear hg7 HD7
    refine hK.out _ _ (by simpa [RD.box] using (HDa.out.boxi 0 (p := r.M) rfl).cell 0 (by simp [RD.box])) (fun hSn => ?_)
    clear hK K hSw0
    have hSw0 := hSn
    clear hSn
    refine Kn.takeS 10 ⟨some 34, _, _, _, _, _⟩ ?_
    refine wpAnyH_ready (rs := [4, 11]) (by kernel_rfl) (by simp) ?_
    refine AllReadyH.cons (o := ⟨some 28, _, _, _, _, _⟩) rfl (fun K hK => ?_) ?_
    ·have yq := (HDa.out.boxi 0 (p := r.M) rfl).cell 1 (by simp [RD.box])
     simp only [RD.box, List.getElem_cons_zero, List.getElem_cons_succ] at yq
     go_simp
     clear yq
     refine hK.out _ _ (by simpa [RD.box] using (HDa.out.boxi 0 (p := r.M) rfl).cell 0 (by simp [RD.box])) (fun hSn => ?_)
     clear hK K hSw0
     have hSw0 := hSn
     clear hSn
     refine Kn.takeR 11 ⟨some 35, _, _, _, _, _⟩ fun K hK => ?_
     go_simp
     have HDb := Lib.hid (HDa.out.alloc (.cells #[.int .i64 (k : Int), .slice (some ⟨g7, 0, none⟩) 64 64] 175))
     have hnw := news_new va #[.int .i64 (k : Int), .slice (some ⟨g7, 0, none⟩) 64 64] 175 (by simp [maxLen])
     have HNW := Lib.hid hnw
     clear hnw
     generalize hvz : va.heap.size = vz at *
     generalize hvb : va.alloc (.cells #[.int .i64 (k : Int), .slice (some ⟨g7, 0, none⟩) 64 64] 175) = vb at *
     clear hvb hvz
     refine hK.out _ _ (by simpa [RD.box] using (HDb.out.boxi 0 (p := r.M) rfl).cell 0 (by simp [RD.box])) (fun hSn => ?_)
     clear hK K hSw0
     have hSw0 := hSn
     clear hSn
     refine Kn.takeR 12 ⟨some 36, _, _, _, _, _⟩ fun K hK => ?_
     have hbw := HDb.out.only.size
     refine step_append_own rfl (.tmp 28) (.tmp 35) 106 rfl w0.heap.size 175 i1 _ 2 32 Tryz.underlying106 hi1 hy0 hy1 hy2 rfl (by decide) v d.held.length (heldR d.held hs) rfl (HDb.out.gi 0 rfl) ⟨vz, 0, none⟩ 1 1 [.int .i64 (k : Int), .slice (some ⟨g7, 0, none⟩) 64 64] rfl rfl HNW.out (by intro u hu; simp at hu; rcases hu with rfl | rfl <;> rfl) (by unfold maxLen; omega) (by omega) hbw ?_
     intro v5 vd hown hgrow hat
     have hdd := HDb.out.gapp 0 rfl hown hgrow hat
     obtain ⟨A8, c8, rfl⟩ := hdd.gform 0 rfl
     simp only [List.set_cons_zero, List.set_cons_succ] at hdd
     have HDd := Lib.hid hdd
     clear hdd hown hgrow hat hbw
     refine hK.out _ _ (by simpa [RD.box] using (HDd.out.boxi 0 (p := r.M) rfl).cell 0 (by simp [RD.box])) (fun hSn => ?_)
     clear hK K hSw0
     have hSw0 := hSn
     clear hSn
     refine Kn.takeS 13 ⟨some 37, _, _, _, _, _⟩ ?_
     refine Kn.takeS 14 ⟨some 38, _, _, _, _, _⟩ ?_
     refine Kn.takeR 15 ⟨none, _, _, _, _, _⟩ fun K hK => ?_
     have hxb := HDd.out.boxi 0 (p := r.M) rfl
     have yq := hxb.cell 1 (by simp [RD.box])
     simp only [RD.box, List.getElem_cons_zero, List.getElem_cons_succ] at yq
     have fq := hxb.frozen 1
     go_simp
     clear yq fq hxb
     have hdz := HDd.out.put 0 (p := r.M) rfl 1 (.slice A8 (d.held.length + 1) c8)
     have HDz := Lib.hid hdz
     clear hdz
     refine hK.out _ _ (by simpa [RD.box] using (HDz.out.boxi 0 (p := r.M) rfl).cell 0 (by simp [RD.box])) (fun hSn => ?_)
     clear hK K hSw0
     have hSw0 := hSn
     clear hSn
     refine wpAnyH_done (by kernel_rfl) ?_ _
     clear hSw0
     go_wp2
     go_ret
     refine ⟨rfl, Rsk.wroteMk (v := .slice A8 (d.held.length + 1) c8) (lv := lv) (sl := sl) (hs := hs) (s := (some ⟨g7, 0, none⟩, 64, 64)) (kk := kk) (ls := ls) H.out HO.out HL.out HHL.out ?_⟩
     refine (HDz.out.fuse (f1 := fun V => Bys V (some ⟨g7, 0, none⟩) 64 64 b) (f2 := fun V => Bls V hs (d.held.map (·.2))) (f := fun V => Bls V (hs ++ [(some ⟨g7, 0, none⟩, 64, 64)]) (d.held.map (·.2) ++ [b])) (by simp) (by simp) (fun V h1 h2 => h2.snoc h1)).subF ?_
     intro f1 hf1
     rcases List.mem_cons.1 hf1 with rfl | hf1
     ·exact List.mem_cons_of_mem _ (List.mem_cons_of_mem _ List.mem_cons_self)
     ·rcases List.mem_cons.1 hf1 with rfl | hf1
      ·exact List.mem_cons_self
      ·exact List.mem_cons_of_mem _ (List.mem_cons_of_mem _ (List.mem_cons_of_mem _ (List.mem_cons_of_mem _ hf1)))
    refine AllReadyH.cons (o := ⟨some 35, _, _, _, _, _⟩) rfl (fun K hK => ?_) ?_
    ·go_simp
     have HDb := Lib.hid (HDa.out.alloc (.cells #[.int .i64 (k : Int), .slice (some ⟨g7, 0, none⟩) 64 64] 175))
     have hnw := news_new va #[.int .i64 (k : Int), .slice (some ⟨g7, 0, none⟩) 64 64] 175 (by simp [maxLen])
     have HNW := Lib.hid hnw
     clear hnw
     generalize hvz : va.heap.size = vz at *
     generalize hvb : va.alloc (.cells #[.int .i64 (k : Int), .slice (some ⟨g7, 0, none⟩) 64 64] 175) = vb at *
     clear hvb hvz
     refine hK.out _ _ (by simpa [RD.box] using (HDb.out.boxi 0 (p := r.M) rfl).cell 0 (by simp [RD.box])) (fun hSn => ?_)
     clear hK K hSw0
     have hSw0 := hSn
     clear hSn
     refine Kn.takeR 4 ⟨some 28, _, _, _, _, _⟩ fun K hK => ?_
     have yq := (HDb.out.boxi 0 (p := r.M) rfl).cell 1 (by simp [RD.box])
     simp only [RD.box, List.getElem_cons_zero, List.getElem_cons_succ] at yq
     go_simp
     clear yq
     refine hK.out _ _ (by simpa [RD.box] using (HDb.out.boxi 0 (p := r.M) rfl).cell 0 (by simp [RD.box])) (fun hSn => ?_)
     clear hK K hSw0
     have hSw0 := hSn
     clear hSn
     refine Kn.takeR 12 ⟨some 36, _, _, _, _, _⟩ fun K hK => ?_
     have hbw := HDb.out.only.size
     refine step_append_own rfl (.tmp 28) (.tmp 35) 106 rfl w0.heap.size 175 i1 _ 2 32 Tryz.underlying106 hi1 hy0 hy1 hy2 rfl (by decide) v d.held.length (heldR d.held hs) rfl (HDb.out.gi 0 rfl) ⟨vz, 0, none⟩ 1 1 [.int .i64 (k : Int), .slice (some ⟨g7, 0, none⟩) 64 64] rfl rfl HNW.out (by intro u hu; simp at hu; rcases hu with rfl | rfl <;> rfl) (by unfold maxLen; omega) (by omega) hbw ?_
     intro v5 vd hown hgrow hat
     have hdd := HDb.out.gapp 0 rfl hown hgrow hat
     obtain ⟨A8, c8, rfl⟩ := hdd.gform 0 rfl
     simp only [List.set_cons_zero, List.set_cons_succ] at hdd
     have HDd := Lib.hid hdd
     clear hdd hown hgrow hat hbw
     refine hK.out _ _ (by simpa [RD.box] using (HDd.out.boxi 0 (p := r.M) rfl).cell 0 (by simp [RD.box])) (fun hSn => ?_)
     clear hK K hSw0
     have hSw0 := hSn
     clear hSn
     refine Kn.takeS 13 ⟨some 37, _, _, _, _, _⟩ ?_
     refine Kn.takeS 14 ⟨some 38, _, _, _, _, _⟩ ?_
     refine Kn.takeR 15 ⟨none, _, _, _, _, _⟩ fun K hK => ?_
     have hxb := HDd.out.boxi 0 (p := r.M) rfl
     have yq := hxb.cell 1 (by simp [RD.box])
     simp only [RD.box, List.getElem_cons_zero, List.getElem_cons_succ] at yq
     have fq := hxb.frozen 1
     go_simp
     clear yq fq hxb
     have hdz := HDd.out.put 0 (p := r.M) rfl 1 (.slice A8 (d.held.length + 1) c8)
     have HDz := Lib.hid hdz
     clear hdz
     refine hK.out _ _ (by simpa [RD.box] using (HDz.out.boxi 0 (p := r.M) rfl).cell 0 (by simp [RD.box])) (fun hSn => ?_)
     clear hK K hSw0
     have hSw0 := hSn
     clear hSn
     refine wpAnyH_done (by kernel_rfl) ?_ _
     clear hSw0
     go_wp2
     go_ret
     refine ⟨rfl, Rsk.wroteMk (v := .slice A8 (d.held.length + 1) c8) (lv := lv) (sl := sl) (hs := hs) (s := (some ⟨g7, 0, none⟩, 64, 64)) (kk := kk) (ls := ls) H.out HO.out HL.out HHL.out ?_⟩
     refine (HDz.out.fuse (f1 := fun V => Bys V (some ⟨g7, 0, none⟩) 64 64 b) (f2 := fun V => Bls V hs (d.held.map (·.2))) (f := fun V => Bls V (hs ++ [(some ⟨g7, 0, none⟩, 64, 64)]) (d.held.map (·.2) ++ [b])) (by simp) (by simp) (fun V h1 h2 => h2.snoc h1)).subF ?_
     intro f1 hf1
     rcases List.mem_cons.1 hf1 with rfl | hf1
     ·exact List.mem_cons_of_mem _ (List.mem_cons_of_mem _ List.mem_cons_self)
     ·rcases List.mem_cons.1 hf1 with rfl | hf1
      ·exact List.mem_cons_self
      ·exact List.mem_cons_of_mem _ (List.mem_cons_of_mem _ (List.mem_cons_of_mem _ (List.mem_cons_of_mem _ hf1)))
    exact AllReadyH.nil
   exact AllReadyH.nil
 ·have e : d.write a b = (d, 1) := by
   unfold Dk.write
   rw [if_neg]
   simp only [Bool.and_eq_true, decide_eq_true_eq]
   exact hok
  rw [e]
  have H := Lib.hid h
  by_cases ho1 : d.has a = true
  ·have hn2 : ((n : Int) != 64) = true := by
    have : ¬ n = 64 := fun h => hok ⟨ho1, by omega⟩
    simp; omega
   have HO := Lib.hid ho1
   clear h hbl hok ho1 e
   go_enter Tryz.func94, Tryz.ntmps94
   go_wp2_with fail
   refine (within_any a 0 ((r.N : Int) - 1) _).mono ?_
   rintro e w1 ⟨rfl, rfl⟩
   rw [HHA.out, HO.out]
   go_wp2
   go_ret
   exact ⟨rfl, H.out⟩
  ·rw [Bool.not_eq_true] at ho1
   have HO := Lib.hid ho1
   clear h hbl hok ho1 e
   go_enter Tryz.func94, Tryz.ntmps94
   go_wp2_with fail
   refine (within_any a 0 ((r.N : Int) - 1) _).mono ?_
   rintro e w1 ⟨rfl, rfl⟩
   rw [HHA.out, HO.out]
   go_wp2
   go_ret
   exact ⟨rfl, H.out⟩
end Go.Proofs.YtgcfdjcpcclcjaaGreat
namespace Go.Kn
open Go Go.RowKit
theorem has_iff {d : Dk} {N : Nat} (hN : d.safe.length = N) (a : Int) : decide (0 ≤ a ∧ a ≤ (N : Int) - 1) = d.has a := by
 unfold Dk.has
 rw [hN]
 by_cases h1 : 0 ≤ a ∧ a ≤ (N : Int) - 1
 ·rw [decide_eq_true h1, decide_eq_true (by omega)]
 ·rw [decide_eq_false h1, decide_eq_false (by omega)]
theorem Dk.err_off {d : Dk} {a : Int} (h : d.has a = true) (ho : d.off = true) : d.err a = 3 ∧ d.read a = [] := by
 have e : d.err a = 3 := by unfold Dk.err; rw [if_pos h, if_pos ho]
 exact ⟨e, by unfold Dk.read; rw [e]; rfl⟩
theorem Dk.err_bad {d : Dk} {a : Int} (h : d.has a = true) (ho : d.off = false) (hb : d.bad a = true) : d.err a = 4 ∧ d.read a = [] := by
 have e : d.err a = 4 := by unfold Dk.err; rw [if_pos h, if_neg (by simp [ho]), if_pos hb]
 exact ⟨e, by unfold Dk.read; rw [e]; rfl⟩
theorem Dk.err_ok {d : Dk} {a : Int} (h : d.has a = true) (ho : d.off = false) (hb : d.bad a = false) : d.err a = 0 ∧ d.read a = d.sector a := by
 have e : d.err a = 0 := by unfold Dk.err; rw [if_pos h, if_neg (by simp [ho]), if_neg (by simp [hb])]
 exact ⟨e, by unfold Dk.read; rw [if_pos e]⟩
theorem Dk.err_no {d : Dk} {a : Int} (h : d.has a = false) : d.err a = 1 ∧ d.read a = [] := by
 have e : d.err a = 1 := by unfold Dk.err; rw [h]; rfl
 exact ⟨e, by unfold Dk.read; rw [e]; rfl⟩
theorem over_at (s : List (List UInt8)) (h : List (Nat × List UInt8)) (j k : Nat) (hj : j < h.length) (hk : k < s.length) :
  (Dk.over s (h.take (j + 1))).getD k [] = if h[j].1 = k then h[j].2 else (Dk.over s (h.take j)).getD k [] := by
 rw [Dk.over_take _ _ _ hj, List.getD_eq_getElem?_getD, List.getElem?_set]
 have hl : k < (Dk.over s (h.take j)).length := by rw [Dk.over_length]; exact hk
 split
 ·rename_i e
  subst e
  rw [if_pos hl, Option.getD_some]
 ·rw [← List.getD_eq_getElem?_getD]
end Go.Kn
namespace Go.Proofs.YtgcfdjcpcclcjaaGreat
open Go Go.RowKit Go.Kn
theorem Bls.set {w : World} {sl : List (Option Addr × Nat × Nat)} {bl : List (List UInt8)} (h : Bls w sl bl) (k : Nat) {s : Option Addr × Nat × Nat} {b : List UInt8} (hb : Bys w s.1 s.2.1 s.2.2 b) : Bls w (sl.set k s) (bl.set k b) := by
 refine ⟨by rw [List.length_set, List.length_set]; exact h.1, fun i h1 h2 => ?_⟩
 rw [List.length_set] at h1 h2
 by_cases e : k = i
 ·subst e
  rw [List.getElem_set_self, List.getElem_set_self]
  exact hb
 ·rw [List.getElem_set_ne e, List.getElem_set_ne e]
  exact h.2 i h1 h2
end Go.Proofs.YtgcfdjcpcclcjaaGreat
namespace Go.Kn
open Go Go.RowKit
def Dk.wrs (d : Dk) (a : Int) (b : List UInt8) : Nat → Dk
 | 0 => d
 | i + 1 => ((Dk.wrs d a b i).write (a + (i : Nat)) ((b.drop (64 * i)).take 64)).1
def Dk.puts (d : Dk) (a : Int) (b : List UInt8) : Dk := ((d.wrs a b (b.length / 64)).flush).1
theorem Dk.write_held (d : Dk) (a : Int) (b : List UInt8) : (d.write a b).1.held.length ≤ d.held.length + 1 := by
 unfold Dk.write
 split
 ·split
  ·show d.held.length ≤ _
   omega
  ·show (d.held ++ [(a.toNat, b)]).length ≤ _
   rw [List.length_append]
   exact Nat.le_refl _
 ·show d.held.length ≤ _
  omega
theorem Dk.wrs_held (d : Dk) (a : Int) (b : List UInt8) : ∀ i, (d.wrs a b i).held.length ≤ d.held.length + i
 | 0 => Nat.le_refl _
 | i + 1 => by
  have h1 := Dk.wrs_held d a b i
  have h2 := Dk.write_held (d.wrs a b i) (a + (i : Nat)) ((b.drop (64 * i)).take 64)
  show ((Dk.wrs d a b i).write _ _).1.held.length ≤ _
  omega
end Go.Kn
namespace Go.Proofs.YtgcfdjcpcclcjaaGreat
open Go Go.RowKit Go.Kn
theorem Duo.ofRsk {w0 w : World} {p : PD} {r : RD} {d e : Dk} {c : Fr3} {v : Value} (h1 : d.Ok) (h2 : d.safe.length = p.N) (h3 : p.N ≤ p.cs) (h4 : p.N ≤ p.cn) (h5 : p.N ≤ p.cf)
  (h : Rsk w0 w r e ⟨p.L v d c.L, ⟨158, 65, v, d.held.length, heldV d.held⟩ :: c.G, c.F⟩) : Duo w0 w p r d e c := by
 obtain ⟨v', lv, k, ls, sl, hs, hl, hm⟩ := h.mem
 have pl : (p.L v d (r.L v' lv sl e c.L)).Perm (r.L v' lv sl e (p.L v d c.L)) := by
  have := (List.perm_append_comm (l₁ := p.L v d []) (l₂ := r.L v' lv sl e [])).append_right c.L
  simpa [PD.L, RD.L] using this
 have pg : ∀ a b x : Gs, (a :: b :: x :: c.G).Perm (b :: x :: a :: c.G) := fun a b x => (List.Perm.swap _ _ _).trans ((List.Perm.swap _ _ _).cons _)
 exact ⟨h1, h2, h3, h4, h5, h.ok, h.N, h.hs, h.hf, v, v', lv, k, ls, sl, hs, hl, hm.perm pl.symm (pg _ _ _).symm⟩
theorem Duo.imp {w0 w : World} {p : PD} {r : RD} {d e : Dk} {c : Fr3} (h : Duo w0 w p r d e c) {f1 f : World → Prop} (h1 : f1 ∈ c.F) (hf : ∀ W, f1 W → f W) : Duo w0 w p r d e ⟨c.L, c.G, f :: c.F⟩ := by
 obtain ⟨v, v', lv, k, ls, sl, hs, hl, hm⟩ := h.mem
 refine ⟨h.ok, h.N, h.hs, h.hn, h.hf, h.ok', h.N', h.hs', h.hf', v, v', lv, k, ls, sl, hs, hl, ?_⟩
 refine (hm.fuse (f := f) (List.mem_cons_of_mem _ (List.mem_cons_of_mem _ h1)) (List.mem_cons_of_mem _ (List.mem_cons_of_mem _ h1)) (fun W h2 _ => hf W h2)).subF ?_
 intro g hg
 simp only [List.mem_cons] at hg ⊢
 rcases hg with hg | hg | hg | hg
 ·exact .inr (.inl hg)
 ·exact .inr (.inr (.inl hg))
 ·exact .inl hg
 ·exact .inr (.inr (.inr hg))
theorem Duo.subF {w0 w : World} {p : PD} {r : RD} {d e : Dk} {c : Fr3} (h : Duo w0 w p r d e c) {F' : List (World → Prop)} (hF : ∀ f ∈ F', f ∈ c.F) : Duo w0 w p r d e ⟨c.L, c.G, F'⟩ := by
 obtain ⟨v, v', lv, k, ls, sl, hs, hl, hm⟩ := h.mem
 refine ⟨h.ok, h.N, h.hs, h.hn, h.hf, h.ok', h.N', h.hs', h.hf', v, v', lv, k, ls, sl, hs, hl, hm.subF ?_⟩
 intro g hg
 simp only [List.mem_cons] at hg ⊢
 rcases hg with hg | hg | hg
 ·exact .inl hg
 ·exact .inr (.inl hg)
 ·exact .inr (.inr (hF _ hg))
theorem Duo.fact {w0 w : World} {p : PD} {r : RD} {d e : Dk} {c : Fr3} (h : Duo w0 w p r d e c) {f : World → Prop} (hf : f ∈ c.F) : f w := by
 obtain ⟨v, v', lv, k, ls, sl, hs, hl, hm⟩ := h.mem
 exact hm.fact _ (List.mem_cons_of_mem _ (List.mem_cons_of_mem _ hf))
def TwoSays (w0 : World) (n : Nat) (c : Fr3) (e : Ending) (w' : World) : Prop := ∃ p r, e = .returned (.tuple #[.pointer (some ⟨p.D, 0, none⟩), .pointer (some ⟨r.M, 0, none⟩), .bool true]) ∧ p.N = n ∧ (r.N = n ∧ r.K = 0) ∧ Duo w0 w' p r (Dk.new n) (Dk.new n) c
set_option maxRecDepth 100000 in
set_option maxHeartbeats 4000000 in
theorem kit_two_any (w0 w : World) (n : Nat) (c : Fr3) (h : Wc w0 w c.L c.G c.F) (h1 : 1 ≤ n) (h2 : n ≤ 4096) : Calls Tryz.prog 76 #[.int .i64 (n : Int)] w (TwoSays w0 n c) := by
 have H := Lib.hid h
 clear h
 go_enter Tryz.func76, Tryz.ntmps76
 go_wp2_with fail
 refine (dk_new_any n w h1 h2).mono ?_
 rintro e w1 ⟨p, rfl, hpN, hO1, hd⟩
 have hdsk := hd w0 c H.out
 obtain ⟨v, hm⟩ := hdsk.mem
 have HK := Lib.hid hdsk
 have HM := Lib.hid hm
 have HPN := Lib.hid hpN
 clear hd hdsk hm hO1 H hpN
 go_wp2_with fail
 refine (rk_new_any w0 _ n ⟨p.L v (Dk.new n) c.L, _, c.F⟩ HM.out h1 h2).mono ?_
 rintro e w2 ⟨r, rfl, hrN, hr⟩
 have HR := Lib.hid (Duo.ofRsk HK.out.ok HK.out.N HK.out.hs HK.out.hn HK.out.hf hr)
 have HRN := Lib.hid hrN
 clear hr HM hrN
 go_wp2
 refine bodyPost_ret (v := .tuple #[.pointer (some ⟨p.D, 0, none⟩), .pointer (some ⟨r.M, 0, none⟩), .bool true]) (by kernel_rfl) rfl ?_
 exact ⟨p, r, rfl, HPN.out, HRN.out, HR.out⟩
theorem Bys.chunk {w : World} {A : Option Addr} {n c i : Nat} {b : List UInt8} (h : Bys w A n c b) (hi : 64 * i + 64 ≤ n) : Bys w (cutA A c (64 * i)) 64 (c - 64 * i) ((b.drop (64 * i)).take 64) := by
 have := Row1.cut (l := 64 * i) (m := 64) h hi
 rwa [bvs_cut] at this
end Go.Proofs.YtgcfdjcpcclcjaaGreat
namespace Go.Kn
open Go Go.RowKit
/-- a device's numbers that may be -/
def CfOk (b s l : Int) : Prop := (1 ≤ b ∧ b ≤ 64) ∧ (8 ≤ s ∧ s ≤ 32) ∧ (24 ≤ l ∧ l ≤ 64)
/-- a Geom -/
structure GeoAt (w : World) (p : Nat) (b s l : Int) : Prop where
 c0 : w.cell? ⟨p, 0, none⟩ = some (.int .i64 b)
 c1 : w.cell? ⟨p, 1, none⟩ = some (.int .i64 s)
 c2 : w.cell? ⟨p, 2, none⟩ = some (.int .i64 l)
theorem GeoAt.keep0 {w w' : World} {p : Nat} {b s l : Int} (h : GeoAt w p b s l) (hO : Only [] w w') : GeoAt w' p b s l := ⟨hO.cell h.c0 (by simp), hO.cell h.c1 (by simp), hO.cell h.c2 (by simp)⟩
theorem GeoAt.lt {w : World} {p : Nat} {b s l : Int} (h : GeoAt w p b s l) : p < w.heap.size := lt_of_cell h.c0
def upI (n by_ : Int) : Int := (n + by_ - 1) / by_
def pgs (b : Int) : Int := (b + 14) / 15
def rln (s : Int) : Int := (43 + 5 * s + 63) / 64
theorem pgs_bounds {b s l : Int} (h : CfOk b s l) : 1 ≤ pgs b ∧ pgs b ≤ 5 := by unfold pgs; unfold CfOk at h; omega
theorem rln_bounds {b s l : Int} (h : CfOk b s l) : 2 ≤ rln s ∧ rln s ≤ 4 ∧ 43 + 5 * s ≤ 64 * rln s := by unfold rln; unfold CfOk at h; omega
/-- may a place be -/
def posMay (s l ps po pl pp pm : Int) : Bool := decide (0 ≤ ps ∧ ps ≤ s - 1) && (decide (0 ≤ po ∧ po ≤ l - 1) && (decide (1 ≤ pl ∧ pl ≤ 2147483647) && (decide (1 ≤ pm ∧ pm ≤ 2147483647) && decide (0 ≤ pp ∧ pp ≤ 4294967295))))
end Go.Kn
namespace Go.Proofs.YtgcfdjcpcclcjaaGreat
open Go Go.RowKit Go.Kn
theorem geom_within_any (n lo hi : Int) (w : World) : Calls Tryz.prog 140 #[.int .i64 n, .int .i64 lo, .int .i64 hi] w fun e w' => e = .returned (.bool (decide (lo ≤ n ∧ n ≤ hi))) ∧ w = w' := by
  go_enter Tryz.func140, Tryz.ntmps140
  by_cases h1 : lo ≤ n <;> by_cases h2 : n ≤ hi <;>
  (go_wp2
   go_ret
   exact ⟨by simp [*], rfl⟩)
theorem geom_up_any (n b : Int) (w : World) (hn : 0 ≤ n ∧ n ≤ 100000) (hb : 0 < b ∧ b ≤ 1000) : Calls Tryz.prog 182 #[.int .i64 n, .int .i64 b] w fun e w' => e = .returned (.int .i64 (upI n b)) ∧ w = w' := by
 have e1 : (n + b - 1).tdiv b = upI n b := Int.tdiv_eq_ediv_of_nonneg (by omega)
 have hq : 0 ≤ upI n b ∧ upI n b ≤ 1000000 := by
  unfold upI
  exact ⟨Int.ediv_nonneg (by omega) (by omega), Int.le_trans (Int.ediv_le_self _ (by omega)) (by omega)⟩
 have hbne : ¬ (b = 0) := by omega
 go_enter Tryz.func182, Tryz.ntmps182
 go_wp2
 all_goals (first | (exfalso; omega) | skip)
 go_ret
 refine ⟨?_, rfl⟩
 rw [← e1]
 rfl
theorem ref_up_any (n b : Int) (w : World) (hn : 0 ≤ n ∧ n ≤ 100000) (hb : 0 < b ∧ b ≤ 1000) : Calls Tryz.prog 155 #[.int .i64 n, .int .i64 b] w fun e w' => e = .returned (.int .i64 (upI n b)) ∧ w = w' := by
 have e1 : (n + b - 1).tdiv b = upI n b := Int.tdiv_eq_ediv_of_nonneg (by omega)
 have hq : 0 ≤ upI n b ∧ upI n b ≤ 1000000 := by
  unfold upI
  exact ⟨Int.ediv_nonneg (by omega) (by omega), Int.le_trans (Int.ediv_le_self _ (by omega)) (by omega)⟩
 have hbne : ¬ (b = 0) := by omega
 go_enter Tryz.func155, Tryz.ntmps155
 go_wp2
 all_goals (first | (exfalso; omega) | skip)
 go_ret
 refine ⟨?_, rfl⟩
 rw [← e1]
 rfl
theorem geom_config_any (p : Nat) (b s l : Int) (w : World) (hg : GeoAt w p b s l) :
  Calls Tryz.prog 162 #[.pointer (some ⟨p, 0, none⟩)] w fun e w' => e = .returned (.agg #[.int .i64 b, .int .i64 s, .int .i64 l]) ∧ Only [] w w' := by
 have hres : Tryz.f162.results = #[.cell 2 25] := by kernel_rfl
 have HRES := Lib.hid hres
 obtain ⟨c0, c1, c2⟩ := hg
 have hlt := lt_of_cell c0
 clear hres
 go_enter Tryz.func162, Tryz.ntmps162
 go_wp2
 (try simp only [Exit.inBlock, Exit.then])
 refine bodyPost_ret (v := .agg #[.int .i64 b, .int .i64 s, .int .i64 l]) ?_ rfl ⟨rfl, ?_⟩
 ·simp only [results, HRES.out]
  go_simp
 ·exact (Only.refl _ _).alloc _
theorem field_cfg0 (b s l : Int) (w : World) : (Instr.field 25 (.agg #[.int .i64 b, .int .i64 s, .int .i64 l]) 0).run Tryz.prog w = .ok (.int .i64 b) w := by kernel_rfl
theorem field_cfg1 (b s l : Int) (w : World) : (Instr.field 25 (.agg #[.int .i64 b, .int .i64 s, .int .i64 l]) 1).run Tryz.prog w = .ok (.int .i64 s) w := by kernel_rfl
set_option maxRecDepth 100000 in
theorem geom_pages_any (p : Nat) (b s l : Int) (w : World) (hg : GeoAt w p b s l) (hb : CfOk b s l) :
  Calls Tryz.prog 147 #[.pointer (some ⟨p, 0, none⟩)] w fun e w' => e = .returned (.int .i64 (pgs b)) ∧ Only [] w w' := by
 have HG := Lib.hid hg
 have HB := Lib.hid hb
 have e1 : upI b 15 = pgs b := by unfold upI pgs; congr 1; omega
 have HE := Lib.hid e1
 clear hg hb e1
 have hfl := field_cfg0 b s l
 go_enter Tryz.func147, Tryz.ntmps147
 go_wp2_with fail
 refine (geom_config_any p b s l _ HG.out).mono ?_
 rintro e w1 ⟨rfl, hO1⟩
 have HO1 := Lib.hid hO1
 clear hO1
 go_wp2_with fail
 refine (geom_up_any b 15 _ (by have := HB.out; unfold CfOk at this; omega) (by decide)).mono ?_
 rintro e w2 ⟨rfl, rfl⟩
 rw [HE.out]
 go_wp2
 go_ret
 exact ⟨rfl, HO1.out⟩
theorem geom_rlen_any (p : Nat) (b s l : Int) (w : World) (hg : GeoAt w p b s l) (hb : CfOk b s l) :
  Calls Tryz.prog 146 #[.pointer (some ⟨p, 0, none⟩)] w fun e w' => e = .returned (.int .i64 (rln s)) ∧ w = w' := by
 obtain ⟨c0, c1, c2⟩ := hg
 have hlt := lt_of_cell c0
 have HB := Lib.hid hb
 have e1 : upI (43 + 5 * s) 64 = rln s := by unfold upI rln; congr 1; omega
 have HE := Lib.hid e1
 have hs : 8 ≤ s ∧ s ≤ 32 := hb.2.1
 have hw1 := IntWalk.i64_in (5 * s) (by omega)
 have hw2 := IntWalk.i64_in (43 + 5 * s) (by omega)
 clear hb e1
 go_enter Tryz.func146, Tryz.ntmps146
 go_wp2_with fail
 refine (geom_up_any (43 + 5 * s) 64 _ (by omega) (by decide)).mono ?_
 rintro e w2 ⟨rfl, rfl⟩
 rw [HE.out]
 go_wp2
 go_ret
 exact ⟨rfl, rfl⟩
theorem geom_has_any (p : Nat) (b s l x : Int) (w : World) (hg : GeoAt w p b s l) (hb : CfOk b s l) :
  Calls Tryz.prog 80 #[.pointer (some ⟨p, 0, none⟩), .int .i64 x] w fun e w' => e = .returned (.bool (decide (0 ≤ x ∧ x ≤ s - 1))) ∧ w = w' := by
 obtain ⟨c0, c1, c2⟩ := hg
 have hlt := lt_of_cell c0
 have hs : 8 ≤ s ∧ s ≤ 32 := hb.2.1
 have hw1 := IntWalk.i64_in (s - 1) (by omega)
 obtain ⟨bb, hbb⟩ : ∃ bb, decide (0 ≤ x ∧ x ≤ s - 1) = bb := ⟨_, rfl⟩
 have HBB := Lib.hid hbb
 rw [hbb]
 clear hb hbb
 go_enter Tryz.func80, Tryz.ntmps80
 go_wp2_with fail
 refine (geom_within_any x 0 (s - 1) _).mono ?_
 rintro e w2 ⟨rfl, rfl⟩
 rw [HBB.out]
 go_wp2
 go_ret
 exact ⟨rfl, rfl⟩
set_option maxRecDepth 100000 in
theorem ref_pages_any (b s l : Int) (w : World) (hb : CfOk b s l) :
  Calls Tryz.prog 101 #[.agg #[.int .i64 b, .int .i64 s, .int .i64 l]] w fun e w' => e = .returned (.int .i64 (pgs b)) ∧ Only [] w w' := by
 have e1 : upI b 15 = pgs b := by unfold upI pgs; congr 1; omega
 have HE := Lib.hid e1
 have HB := Lib.hid hb
 clear e1 hb
 go_enter Tryz.func101, Tryz.ntmps101
 go_wp2_with fail
 refine (ref_up_any b 15 _ (by have := HB.out; unfold CfOk at this; omega) (by decide)).mono ?_
 rintro e w2 ⟨rfl, rfl⟩
 rw [HE.out]
 go_wp2
 go_ret
 exact ⟨rfl, (Only.refl _ _).alloc _⟩
theorem ref_rlen_any (b s l : Int) (w : World) (hb : CfOk b s l) :
  Calls Tryz.prog 100 #[.agg #[.int .i64 b, .int .i64 s, .int .i64 l]] w fun e w' => e = .returned (.int .i64 (rln s)) ∧ Only [] w w' := by
 have e1 : upI (43 + 5 * s) 64 = rln s := by unfold upI rln; congr 1; omega
 have HE := Lib.hid e1
 have hs : 8 ≤ s ∧ s ≤ 32 := hb.2.1
 have hw1 := IntWalk.i64_in (5 * s) (by omega)
 have hw2 := IntWalk.i64_in (43 + 5 * s) (by omega)
 clear hb e1
 go_enter Tryz.func100, Tryz.ntmps100
 go_wp2_with fail
 refine (ref_up_any (43 + 5 * s) 64 _ (by omega) (by decide)).mono ?_
 rintro e w2 ⟨rfl, rfl⟩
 rw [HE.out]
 go_wp2
 go_ret
 exact ⟨rfl, (Only.refl _ _).alloc _⟩
set_option maxRecDepth 100000 in
set_option maxHeartbeats 4000000 in
theorem ref_posmay_any (b s l ps po pl pp pm : Int) (w : World) (hb : CfOk b s l) :
  Calls Tryz.prog 164 #[.agg #[.int .i64 b, .int .i64 s, .int .i64 l], .agg #[.int .i64 ps, .int .i64 po, .int .i64 pl, .int .i64 pp, .int .i64 pm]] w fun e w' => e = .returned (.bool (posMay s l ps po pl pp pm)) ∧ Only [] w w' := by
 have hs : (8 ≤ s ∧ s ≤ 32) ∧ 24 ≤ l ∧ l ≤ 64 := ⟨hb.2.1, hb.2.2⟩
 have hw1 := IntWalk.i64_in (s - 1) (by omega)
 have hw2 := IntWalk.i64_in (l - 1) (by omega)
 clear hb hs
 have hE : posMay s l ps po pl pp pm = (decide (0 ≤ ps ∧ ps ≤ s - 1) && (decide (0 ≤ po ∧ po ≤ l - 1) && (decide (1 ≤ pl ∧ pl ≤ 2147483647) && (decide (1 ≤ pm ∧ pm ≤ 2147483647) && decide (0 ≤ pp ∧ pp ≤ 4294967295))))) := rfl
 have HE := Lib.hid hE
 clear hE
 go_enter Tryz.func164, Tryz.ntmps164
 go_wp2_with (first | (go_at_call 99; refine (within_any _ _ _ _).mono ?_; rintro e w' ⟨rfl, rfl⟩))
 all_goals (go_ret; exact ⟨by rw [HE.out]; simp [*], ((Only.refl _ _).alloc _).alloc _⟩)
end Go.Proofs.YtgcfdjcpcclcjaaGreat
namespace Go.Kn
open Go Go.RowKit
theorem bool5 (b1 b2 b3 b4 b5 : Bool) : b1 = false ∨ (b1 = true ∧ b2 = false) ∨ (b1 = true ∧ b2 = true ∧ b3 = false) ∨ (b1 = true ∧ b2 = true ∧ b3 = true ∧ b4 = false) ∨ (b1 = true ∧ b2 = true ∧ b3 = true ∧ b4 = true ∧ b5 = false) ∨ (b1 = true ∧ b2 = true ∧ b3 = true ∧ b4 = true ∧ b5 = true) := by
 cases b1 <;> cases b2 <;> cases b3 <;> cases b4 <;> cases b5 <;> simp
end Go.Kn
namespace Go.Proofs.YtgcfdjcpcclcjaaGreat
open Go Go.RowKit Go.Kn
set_option maxRecDepth 100000 in
set_option maxHeartbeats 16000000 in
theorem geom_may_any (p : Nat) (b s l ps po pl pp pm : Int) (w : World) (hg : GeoAt w p b s l) (hb : CfOk b s l) :
  Calls Tryz.prog 161 #[.pointer (some ⟨p, 0, none⟩), .agg #[.int .i64 ps, .int .i64 po, .int .i64 pl, .int .i64 pp, .int .i64 pm]] w fun e w' => e = .returned (.bool (posMay s l ps po pl pp pm)) ∧ Only [] w w' := by
 have hs : (8 ≤ s ∧ s ≤ 32) ∧ 24 ≤ l ∧ l ≤ 64 := ⟨hb.2.1, hb.2.2⟩
 have hw2 := IntWalk.i64_in (l - 1) (by omega)
 have HB := Lib.hid hb
 have hg2 := hg.c2
 have hlt := hg.lt
 have HG := Lib.hid hg
 obtain ⟨b1, h1⟩ : ∃ x, decide (0 ≤ ps ∧ ps ≤ s - 1) = x := ⟨_, rfl⟩
 obtain ⟨b2, h2⟩ : ∃ x, decide (0 ≤ po ∧ po ≤ l - 1) = x := ⟨_, rfl⟩
 obtain ⟨b3, h3⟩ : ∃ x, decide (1 ≤ pl ∧ pl ≤ 2147483647) = x := ⟨_, rfl⟩
 obtain ⟨b4, h4⟩ : ∃ x, decide (1 ≤ pm ∧ pm ≤ 2147483647) = x := ⟨_, rfl⟩
 obtain ⟨b5, h5⟩ : ∃ x, decide (0 ≤ pp ∧ pp ≤ 4294967295) = x := ⟨_, rfl⟩
 have hE : posMay s l ps po pl pp pm = (b1 && (b2 && (b3 && (b4 && b5)))) := by unfold posMay; rw [h1, h2, h3, h4, h5]
 have HE := Lib.hid hE
 have HK1 : Hid (∀ W : World, GeoAt W p b s l → Calls Tryz.prog 80 #[.pointer (some ⟨p, 0, none⟩), .int .i64 ps] W fun e w' => e = .returned (.bool b1) ∧ w' = W) := Lib.hid fun W hW => (geom_has_any p b s l ps W hW hb).mono fun e w' h => ⟨by rw [h.1, h1], h.2.symm⟩
 have HK2 : Hid (∀ W : World, Calls Tryz.prog 140 #[.int .i64 po, .int .i64 0, .int .i64 (l - 1)] W fun e w' => e = .returned (.bool b2) ∧ w' = W) := Lib.hid fun W => (geom_within_any _ _ _ W).mono fun e w' h => ⟨by rw [h.1, h2], h.2.symm⟩
 have HK3 : Hid (∀ W : World, Calls Tryz.prog 140 #[.int .i64 pl, .int .i64 1, .int .i64 2147483647] W fun e w' => e = .returned (.bool b3) ∧ w' = W) := Lib.hid fun W => (geom_within_any _ _ _ W).mono fun e w' h => ⟨by rw [h.1, h3], h.2.symm⟩
 have HK4 : Hid (∀ W : World, Calls Tryz.prog 140 #[.int .i64 pm, .int .i64 1, .int .i64 2147483647] W fun e w' => e = .returned (.bool b4) ∧ w' = W) := Lib.hid fun W => (geom_within_any _ _ _ W).mono fun e w' h => ⟨by rw [h.1, h4], h.2.symm⟩
 have HK5 : Hid (∀ W : World, Calls Tryz.prog 140 #[.int .i64 pp, .int .i64 0, .int .i64 4294967295] W fun e w' => e = .returned (.bool b5) ∧ w' = W) := Lib.hid fun W => (geom_within_any _ _ _ W).mono fun e w' h => ⟨by rw [h.1, h5], h.2.symm⟩
 clear hb hs hg hE h1 h2 h3 h4 h5
 rcases bool5 b1 b2 b3 b4 b5 with rfl | ⟨rfl, rfl⟩ | ⟨rfl, rfl, rfl⟩ | ⟨rfl, rfl, rfl, rfl⟩ | ⟨rfl, rfl, rfl, rfl, rfl⟩ | ⟨rfl, rfl, rfl, rfl, rfl⟩
 all_goals
  go_enter Tryz.func161, Tryz.ntmps161
  go_wp2_with fail
  have hO := (Only.refl [] w).alloc (.cells #[.int .i64 ps, .int .i64 po, .int .i64 pl, .int .i64 pp, .int .i64 pm] 32)
  have hX := Own.new w #[.int .i64 ps, .int .i64 po, .int .i64 pl, .int .i64 pp, .int .i64 pm] 32
  obtain ⟨c0, c1, c2, c3, c4⟩ := Kn.own5 hX
  have d2 := hO.cell hg2 (by simp)
  have HG' := Lib.hid (HG.out.keep0 hO)
  have hl2 := hX.lt
  have hlt2 : p < (w.alloc (.cells #[.int .i64 ps, .int .i64 po, .int .i64 pl, .int .i64 pp, .int .i64 pm] 32)).heap.size := by have := hO.size; omega
  generalize w.alloc (.cells #[.int .i64 ps, .int .i64 po, .int .i64 pl, .int .i64 pp, .int .i64 pm] 32) = wb at *
  have HO := Lib.hid hO
  clear hO hX
  go_big_quiet ((first
   | (go_at_call 80; exact Calls.quiet_of_same (HK1.out _ (HG'.out.keep0 ((Only.refl _ _).drewN _))))
   | (go_at_call 140; first | with_reducible exact Calls.quiet_of_same (HK2.out _) | with_reducible exact Calls.quiet_of_same (HK3.out _) | with_reducible exact Calls.quiet_of_same (HK4.out _) | with_reducible exact Calls.quiet_of_same (HK5.out _))))
  go_wp2
  go_ret
  exact ⟨by rw [HE.out]; rfl, HO.out.drewN _⟩
end Go.Proofs.YtgcfdjcpcclcjaaGreat
namespace Go.Kn
open Go Go.RowKit
def headMay (i : It) : Bool := decide (0 ≤ i.k ∧ i.k ≤ 31) && decide (1 ≤ i.b ∧ i.b ≤ 2147483647) && decide (1 ≤ i.c ∧ i.c ≤ 2147483647) && decide (0 ≤ i.v ∧ i.v ≤ 4294967295)
def headRow (i : It) : List UInt8 := lay (lay zeros64 0 (les 1 [75, 72, i.k])) 3 (les 4 [i.b, i.c, i.v])
def encHead (i : It) : Option (List UInt8) := if headMay i = true then some (sealed (headRow i)) else none
def headOf (bs : List UInt8) : It := ⟨rd bs 2 1, rd bs 3 4, rd bs 7 4, rd bs 11 4⟩
def decHead (bs : List UInt8) : Option It := decBy encHead headOf bs
theorem headMay_iff {i : It} : headMay i = true ↔ (0 ≤ i.k ∧ i.k ≤ 31) ∧ (1 ≤ i.b ∧ i.b ≤ 2147483647) ∧ (1 ≤ i.c ∧ i.c ≤ 2147483647) ∧ (0 ≤ i.v ∧ i.v ≤ 4294967295) := by
 simp [headMay, and_assoc]
theorem headRow_cat (i : It) : headRow i = cat [(1, 75), (1, 72), (1, i.k), (4, i.b), (4, i.c), (4, i.v)] ++ List.replicate 49 0 := by
 unfold headRow
 rw [les_cat 1, lay_cat _ _ 3 4 _ rfl (by simp [zeros64]), lay_zero, cat_length]
 rfl
theorem headRow_length (i : It) : (headRow i).length = 64 := by
 rw [headRow_cat, List.length_append, cat_length]
 rfl
theorem encHead_len {i : It} {b : List UInt8} (h : encHead i = some b) : b.length = 64 := by
 unfold encHead at h
 split at h
 ·injection h with h
  rw [← h]
  exact sealed_length _ (headRow_length i)
 ·cases h
theorem encHead_closed {i : It} {b : List UInt8} (h : encHead i = some b) : Closed b 60 := by
 unfold encHead at h
 split at h
 ·injection h with h
  rw [← h]
  exact sealed_closed _ (headRow_length i)
 ·cases h
theorem encHead_rd {i : It} {b : List UInt8} (h : encHead i = some b) (k n : Nat) (hk : k + n ≤ 60) : rd b k n = rd (headRow i) k n := by
 unfold encHead at h
 split at h
 ·injection h with h
  rw [← h]
  exact rd_sealed _ (headRow_length i) k n hk
 ·cases h
theorem encHead_may {i : It} {b : List UInt8} (h : encHead i = some b) : headMay i = true := by
 unfold encHead at h
 split at h
 ·assumption
 ·cases h
theorem encHead_of {i : It} {b : List UInt8} (h : encHead i = some b) : headOf b = i := by
 obtain ⟨h0, h1, h2, h3⟩ := headMay_iff.1 (encHead_may h)
 have e : (256 : Int) ^ 1 = 256 := rfl
 have e4 : (256 : Int) ^ 4 = 4294967296 := rfl
 unfold headOf
 rw [encHead_rd h 2 1 (by decide), encHead_rd h 3 4 (by decide), encHead_rd h 7 4 (by decide), encHead_rd h 11 4 (by decide), headRow_cat]
 have g0 := cat_get [(1, 75), (1, 72)] 1 i.k [(4, i.b), (4, i.c), (4, i.v)] (List.replicate 49 0) (by omega)
 have g1 := cat_get [(1, 75), (1, 72), (1, i.k)] 4 i.b [(4, i.c), (4, i.v)] (List.replicate 49 0) (by omega)
 have g2 := cat_get [(1, 75), (1, 72), (1, i.k), (4, i.b)] 4 i.c [(4, i.v)] (List.replicate 49 0) (by omega)
 have g3 := cat_get [(1, 75), (1, 72), (1, i.k), (4, i.b), (4, i.c)] 4 i.v [] (List.replicate 49 0) (by omega)
 simp only [wid, List.map_cons, List.map_nil, List.sum_cons, List.sum_nil, List.cons_append, List.nil_append, Nat.reduceAdd] at g0 g1 g2 g3
 rw [g0, g1, g2, g3]
theorem head_back {i : It} (h : headMay i = true) : ∃ b, encHead i = some b ∧ b.length = 64 ∧ Closed b 60 ∧ decHead b = some i := by
 have he : encHead i = some (sealed (headRow i)) := by unfold encHead; rw [if_pos h]
 exact ⟨_, he, encHead_len he, encHead_closed he, decBy_back (encHead_of he) he⟩
end Go.Kn
namespace Go.Kn
open Go Go.RowKit
theorem headRow_ref (i : It) : lay (lay (lay zeros64 0 [75, 72]) 2 (le 1 i.k.toNat)) 3 (les 4 [i.b, i.c, i.v]) = headRow i := by
 have e : lay (lay zeros64 0 [75, 72]) 2 (le 1 i.k.toNat) = lay zeros64 0 (les 1 [75, 72, i.k]) := by
  have h := lay_lay zeros64 0 [75, 72] (le 1 i.k.toNat) (by simp [zeros64])
  simp only [List.length_cons, List.length_nil, Nat.zero_add, Nat.reduceAdd] at h
  rw [h]
  rfl
 rw [e]
 rfl
end Go.Kn
namespace Go.Proofs.YtgcfdjcpcclcjaaGreat
open Go Go.RowKit Go.Kn
theorem head_within_any (n lo hi : Int) (w : World) : Calls Tryz.prog 212 #[.int .i64 n, .int .i64 lo, .int .i64 hi] w fun e w' => e = .returned (.bool (decide (lo ≤ n ∧ n ≤ hi))) ∧ w = w' := by
  go_enter Tryz.func212, Tryz.ntmps212
  by_cases h1 : lo ≤ n <;> by_cases h2 : n ≤ hi <;>
  (go_wp2
   go_ret
   exact ⟨by simp [*], rfl⟩)
set_option maxRecDepth 100000 in
set_option maxHeartbeats 1000000 in
theorem head_may_any (k b c v : Int) (w : World) :
  Calls Tryz.prog 195 #[.agg #[.int .i64 k, .int .i64 b, .int .i64 c, .int .i64 v]] w fun e w' => e = .returned (.bool (headMay ⟨k, b, c, v⟩)) ∧ Only [] w w' := by
 go_enter Tryz.func195, Tryz.ntmps195
 go_wp2_with (first | (go_at_call 212; refine (head_within_any _ _ _ _).mono ?_; rintro e w' ⟨rfl, rfl⟩))
 all_goals (go_ret; exact ⟨by simp [headMay, *], (Only.refl _ _).alloc _⟩)
set_option maxRecDepth 100000 in
set_option maxHeartbeats 1000000 in
theorem ref_head_may_any (k b c v : Int) (w : World) :
  Calls Tryz.prog 143 #[.agg #[.int .i64 k, .int .i64 b, .int .i64 c, .int .i64 v]] w fun e w' => e = .returned (.bool (headMay ⟨k, b, c, v⟩)) ∧ Only [] w w' := by
 go_enter Tryz.func143, Tryz.ntmps143
 go_wp2_with (first | (go_at_call 99; refine (within_any _ _ _ _).mono ?_; rintro e w' ⟨rfl, rfl⟩))
 all_goals (go_ret; exact ⟨by simp [headMay, *], (Only.refl _ _).alloc _⟩)
end Go.Proofs.YtgcfdjcpcclcjaaGreat
namespace Go.Proofs.YtgcfdjcpcclcjaaGreat
open Go Go.RowKit Go.Kn
set_option maxRecDepth 100000 in
set_option maxHeartbeats 4000000 in
theorem head_enc_own (f0 f1 f2 f3 : Int) (w : World) :
  Calls Tryz.prog 171 #[.agg #[.int .i64 f0, .int .i64 f1, .int .i64 f2, .int .i64 f3]] w (EncOwn w (encHead ⟨f0, f1, f2, f3⟩)) := by
 cases hm : headMay ⟨f0, f1, f2, f3⟩
 ·have HM := Lib.hid hm
  clear hm
  go_enter Tryz.func171, Tryz.ntmps171
  go_wp2_with fail
  refine (head_may_any f0 f1 f2 f3 _).mono ?_
  rintro e w1 ⟨rfl, hO1⟩
  rw [HM.out]
  go_wp2
  go_ret2
  exact EncOwn.no (by unfold encHead; rw [HM.out]; rfl) (((Only.refl _ _).alloc _).trans' hO1)
 ·have HM := Lib.hid hm
  have HF0 : Hid (Fit 1 [75, 72, f0]) := Lib.hid (by have := headMay_iff.1 hm; simp only [fit_cons, fit_nil, Int.reducePow, and_true] at *; omega)
  have HF1 : Hid (Fit 4 [f1, f2, f3]) := Lib.hid (by have := headMay_iff.1 hm; simp only [fit_cons, fit_nil, Int.reducePow, and_true] at *; omega)
  have HE : Hid (encHead ⟨f0, f1, f2, f3⟩ = some (sealed (headRow ⟨f0, f1, f2, f3⟩))) := Lib.hid (by unfold encHead; rw [if_pos hm])
  have HLR := Lib.hid (headRow_length ⟨f0, f1, f2, f3⟩)
  clear hm
  go_enter Tryz.func171, Tryz.ntmps171
  go_wp2_with fail
  refine (head_may_any f0 f1 f2 f3 _).mono ?_
  rintro e w1 ⟨rfl, hO1⟩
  rw [HM.out]
  have HB1 := Lib.hid ((Own.new w #[.int .i64 f0, .int .i64 f1, .int .i64 f2, .int .i64 f3] 143).keep0 hO1)
  have HO1 := Lib.hid (((Only.refl [] w).alloc (.cells #[.int .i64 f0, .int .i64 f1, .int .i64 f2, .int .i64 f3] 143)).trans' hO1)
  have HSZ : Hid (w.heap.size ≤ w.heap.size) := Lib.hid (Nat.le_refl _)
  clear hO1
  go_wp2_with fail
  generalize hbb : w.heap.size = b at HB1 HSZ ⊢
  have HBB := Lib.hid hbb
  clear hbb
  refine (new_any 64 _ (by decide) (by decide)).mono ?_
  rintro e w2 ⟨p, g, rfl, hp, hg, hr, hO⟩
  have HS : Hid (Encs w w2 p g 0 b zeros64 [.int .i64 f0, .int .i64 f1, .int .i64 f2, .int .i64 f3]) := Lib.hid (Encs.start HB1.out HO1.out hp hg hr hO)
  have hgg : b < w1.heap.size := HB1.out.lt
  clear hr hO HB1
  obtain ⟨x0, x1, x2, x3⟩ := Kn.own4 HS.out.box
  go_wp2_with fail
  have LX : zeros64.length = 64 := by first | rfl | (simp [lay_length, zeros64]) | (rw [lay_length _ _ _ (by simp [lay_length, zeros64])]; simp [lay_length, zeros64])
  refine (put_any p g 0 zeros64 1 _ 3 3 [75, 72, f0] _ (by exact HS.out.row.alloc _) (by exact ins_built _ [75, 72, f0] _ 3 rfl (by omega)) (by exact ne_built HS.out.row) (by decide) (by rw [LX]; decide) HF0.out).mono ?_
  rintro e w3 ⟨rfl, hr, hO⟩
  have HS0 : Hid (Encs w w3 p g 3 b (lay zeros64 0 (les 1 [75, 72, f0])) [.int .i64 f0, .int .i64 f1, .int .i64 f2, .int .i64 f3]) := Lib.hid ((HS.out.alloc _).put hr hO)
  clear hr hO LX HS x0 x1 x2 x3
  have HS := HS0
  clear HS0
  obtain ⟨x0, x1, x2, x3⟩ := Kn.own4 HS.out.box
  go_wp2_with fail
  have LX : (lay zeros64 0 (les 1 [75, 72, f0])).length = 64 := by first | rfl | (simp [lay_length, zeros64]) | (rw [lay_length _ _ _ (by simp [lay_length, zeros64])]; simp [lay_length, zeros64])
  refine (put_any p g 3 (lay zeros64 0 (les 1 [75, 72, f0])) 4 _ 3 3 [f1, f2, f3] _ (by exact HS.out.row.alloc _) (by exact ins_built _ [f1, f2, f3] _ 3 rfl (by omega)) (by exact ne_built HS.out.row) (by decide) (by rw [LX]; decide) HF1.out).mono ?_
  rintro e w4 ⟨rfl, hr, hO⟩
  have HS1 : Hid (Encs w w4 p g 15 b (lay (lay zeros64 0 (les 1 [75, 72, f0])) 3 (les 4 [f1, f2, f3])) [.int .i64 f0, .int .i64 f1, .int .i64 f2, .int .i64 f3]) := Lib.hid ((HS.out.alloc _).put hr hO)
  clear hr hO LX HS x0 x1 x2 x3
  have HS := HS1
  clear HS1
  go_wp2_with fail
  have HX : Hid ((lay (lay zeros64 0 (les 1 [75, 72, f0])) 3 (les 4 [f1, f2, f3])) = headRow ⟨f0, f1, f2, f3⟩) := Lib.hid rfl
  rw [HX.out] at HS
  generalize headRow ⟨f0, f1, f2, f3⟩ = X at *
  clear HX
  refine (bytes_any p g 15 X _ (by exact HS.out.row)).mono ?_
  rintro e w8 ⟨A4, c4, rfl, hc4, hm4, hpos4, hO4⟩
  obtain ⟨g4, rfl, hg4, ho4⟩ := hpos4 (by rw [HLR.out]; decide)
  rw [HLR.out] at hc4 ⊢
  have HO4 := Lib.hid (HS.out.only.trans' hO4)
  have HW4 := Lib.hid ho4
  have hgw : w.heap.size ≤ g4 := Nat.le_trans HS.out.only.size hg4
  clear hpos4 hO4 ho4 HS
  go_wp2_with fail
  refine (crc_seal_any g4 c4 X 60 _ HLR.out hc4 hm4 (by exact HW4.out)).mono ?_
  rintro e w9 ⟨rfl, ho5, hO5⟩
  have HO5 := Lib.hid (HO4.out.trans hO5 (by simpa using hgw) : Only [] w w9)
  have HW5 := Lib.hid ho5
  clear ho5 hO5
  go_wp2
  go_ret2
  have hl := sealed_length X HLR.out
  exact EncOwn.yes HE.out hl hc4 hm4 hgw HW5.out HO5.out
end Go.Proofs.YtgcfdjcpcclcjaaGreat
namespace Go.Kn
open Go Go.RowKit
theorem div_pow_succ (k t : Nat) : k / 2 ^ t / 2 = k / 2 ^ (t + 1) := by rw [Nat.div_div_eq_div_mul, Nat.pow_succ]
end Go.Kn
namespace Go.Proofs.YtgcfdjcpcclcjaaGreat
open Go Go.RowKit Go.Kn
set_option maxRecDepth 100000 in
set_option maxHeartbeats 4000000 in
theorem ref_more_any (s : Nat) (A : Option Addr) (n c : Nat) (bs : List UInt8) (w : World) (hs : s < 4294967296) (hi : Bys w A n c bs) :
  Calls Tryz.prog 91 #[.int .i64 s, .slice A n c] w fun e w' => e = .returned (.int .i64 ((4294967295 - cadd (4294967295 - s) bs : Nat) : Int)) ∧ Only [] w w' := by
 have hlen := hi.len
 rw [bvs_length] at hlen
 have hle := hi.le
 have hcm := hi.cm
 unfold maxLen at hcm
 have HI := Lib.hid hi
 have HL := Lib.hid hlen
 clear hi hlen
 have hwf : (Lit.int .i64 (s : Int)).wf = true := by simp [Lit.wf, IntKind.min, IntKind.max, IntKind.signed, IntKind.bits]; omega
 have hsm : (s : Int) % 4294967296 = s := by omega
 go_enter Tryz.func91, Tryz.ntmps91
 go_wp2_with fail
 refine (mod_any (s : Int) 4294967296 _ hwf (by decide) (by decide)).mono ?_
 rintro e w1 ⟨rfl, rfl⟩
 rw [hsm]
 have hnb := bits_not_u32 s hs
 have hx : 4294967295 - s < 4294967296 := by omega
 generalize hxx : 4294967295 - s = x at *
 have HXX := Lib.hid hxx
 clear hxx hwf hsm
 go_wp2_with fail
 go_loopg [5, 6] n (fun r v i wr => ∃ j : Nat, j + r = n ∧ i = .int .i64 j ∧ v = .int .u32 (cadd x (bs.take j) : Nat) ∧ Only [] w wr)
 case atStart => exact ⟨0, by omega, rfl, by simp [cadd], Only.refl _ _⟩
 obtain ⟨j, hj, rfl, rfl, hO⟩ := hrel
 have HO := Lib.hid hO
 have hlx := cadd_lt hx (bs.take j)
 clear hO
 by_cases hlt : j < n
 ·have hjz : j < bs.length := by rw [HL.out]; exact hlt
  obtain ⟨a, o, rfl, hc⟩ := HI.out.at_ (by omega)
  have q0 := hc j (by simpa using hjz)
  rw [bvs_get] at q0
  have c0 := HO.out.cell q0 (by simp)
  have hsn : cadd x (bs.take (j + 1)) = cbyte (cadd x (bs.take j)) bs[j] := by rw [List.take_succ_eq_append_getElem hjz, cadd_snoc]
  have HSN := Lib.hid hsn
  clear hc q0 hsn
  generalize bs[j] = cc at *
  generalize cadd x (bs.take j) = y at *
  have hlt2 : (j : Int) < (n : Int) := by omega
  have hge : 0 ≤ (j : Int) := by omega
  have htn : ((j : Int)).toNat = j := by omega
  have hcc : cc.toNat < 256 := cc.toNat_lt
  go_wp2_with fail
  rename World => w2
  obtain ⟨gk0, hgk0⟩ : ∃ g0, g0 = gk := ⟨gk, rfl⟩
  go_loopg [5, 7, 8] 8 (fun r v d i ws => ∃ t : Nat, t + r = 8 ∧ i = .int .i64 t ∧ v = .int .u32 (cbits cc.toNat y t : Nat) ∧ d = .int .u32 (cc.toNat / 2 ^ t : Nat) ∧ ws = w2)
  case atStart => exact ⟨0, by omega, rfl, rfl, by simp, rfl⟩
  obtain ⟨t, ht, rfl, rfl, rfl, rfl⟩ := hrel
  have hlz := cbits_lt hlx cc.toNat t
  have hzz : cbits cc.toNat y (t + 1) = cstep (cbits cc.toNat y t) (cc.toNat / 2 ^ t) := rfl
  have HZ := Lib.hid hzz
  clear hzz
  by_cases ht8 : t < 8
  ·have ht2 : (t : Int) < 8 := by omega
   have htg : 0 ≤ (t : Int) := by omega
   have htt : ((t : Int)).toNat = t := by omega
   have hdt : cc.toNat / 2 ^ t < 256 := Nat.lt_of_le_of_lt (Nat.div_le_self _ _) hcc
   have hcond := crc_cond (cbits cc.toNat y t) (cc.toNat / 2 ^ t) hlz hdt
   have hxp := bits_xor_u32_nat (cbits cc.toNat y t / 2) 2197175160 (by omega) (by decide)
   rw [show ((cbits cc.toNat y t / 2 : Nat) : Int) = ((cbits cc.toNat y t : Nat) : Int) / 2 from by simp, show ((2197175160 : Nat) : Int) = 2197175160 from rfl] at hxp
   have hz2 : ((cbits cc.toNat y t / 2 : Nat) : Int) = ((cbits cc.toNat y t : Nat) : Int) / 2 := by simp
   have hd2 : ((cc.toNat / 2 ^ t : Nat) : Int) / 2 = ((cc.toNat / 2 ^ (t + 1) : Nat) : Int) := by rw [← div_pow_succ]; rfl
   have HXP := Lib.hid hxp
   have HZ2 := Lib.hid hz2
   have HD2 := Lib.hid hd2
   clear hxp hz2 hd2
   generalize cc.toNat / 2 ^ t = d at *
   generalize cbits cc.toNat y t = z at *
   generalize cc.toNat = k at *
   by_cases hb : (z ^^^ d) % 2 = 1
   ·rw [decide_eq_true hb] at hcond
    have HC := Lib.hid hb
    clear hb
    go_wp2_with fail
    go_roundg (gk - 1)
    case measure => omega
    case rel =>
     refine ⟨t + 1, by omega, by go_num, ?_, ?_, rfl⟩
     ·rw [HXP.out, HZ.out]
      unfold cstep
      rw [if_pos HC.out]
     ·rw [HD2.out]
   ·rw [decide_eq_false hb] at hcond
    have HC := Lib.hid hb
    clear hb
    go_wp2_with fail
    go_roundg (gk - 1)
    case measure => omega
    case rel =>
     refine ⟨t + 1, by omega, by go_num, ?_, ?_, rfl⟩
     ·rw [HZ.out]
      unfold cstep
      rw [if_neg HC.out, HZ2.out]
     ·rw [HD2.out]
  ·obtain rfl : t = 8 := by omega
   have HSB : Hid (cadd x (bs.take (j + 1)) = cbits cc.toNat y 8) := Lib.hid HSN.out
   generalize cbits cc.toNat y 8 = z at *
   go_wp2_with fail
   go_roundg (gk0 - 1)
   case measure => omega
   case rel => exact ⟨j + 1, by omega, by go_num, by rw [HSB.out], HO.out⟩
 ·obtain rfl : j = n := by omega
  have htk : bs.take j = bs := List.take_of_length_le (by rw [HL.out]; omega)
  rw [htk] at hlx ⊢
  have hn := bits_not_u32 (cadd x bs) hlx
  have HXX' := Lib.hid (rfl : cadd x bs = cadd x bs)
  generalize hyy : cadd x bs = y at *
  have HYY := Lib.hid hyy
  have hr : 4294967295 - y < 4294967296 := by omega
  generalize hzz : 4294967295 - y = z at *
  have HZZ := Lib.hid hzz
  clear hyy hzz hnb
  go_wp2
  go_ret
  refine ⟨?_, HO.out⟩
  rw [HXX.out, HYY.out, HZZ.out]
  simp
theorem ref_sum_any (A : Option Addr) (n c : Nat) (bs : List UInt8) (w : World) (hi : Bys w A n c bs) :
  Calls Tryz.prog 92 #[.slice A n c] w fun e w' => e = .returned (.int .i64 (csum bs : Nat)) ∧ Only [] w w' := by
 go_enter Tryz.func92, Tryz.ntmps92
 go_wp2_with fail
 refine (ref_more_any 0 A n c bs _ (by decide) hi).mono ?_
 rintro e w1 ⟨rfl, hO⟩
 go_wp2
 go_ret
 exact ⟨rfl, hO⟩
end Go.Proofs.YtgcfdjcpcclcjaaGreat
namespace Go.Proofs.YtgcfdjcpcclcjaaGreat
open Go Go.RowKit Go.Kn
set_option maxRecDepth 100000 in
set_option maxHeartbeats 4000000 in
theorem ref_closed_any (p g k : Nat) (bs : List UInt8) (w : World) (h : RowAt w p g bs k) (hl : bs.length = 64) :
  Calls Tryz.prog 144 #[.pointer (some ⟨p, 0, none⟩)] w fun e w' => ∃ c, e = .returned (.slice (some ⟨g, 0, none⟩) 64 c) ∧ 64 ≤ c ∧ c ≤ maxLen ∧ Kn.Own w' g (bvs (sealed bs)) ∧ Only [p, g] w w' := by
 obtain ⟨old, c, hf0, hcl, hf1, _, _⟩ := h.facts hl (show 0 < 64 by omega)
 have hpz := h.pz 1
 have hcm : c ≤ maxLen := by
  obtain ⟨A', c', h1, _, h3, _⟩ := h.fb
  rw [h1] at hf0
  injection hf0 with hf0
  injection hf0 with _ _ hcc
  omega
 have hpl := h.place 60 (by omega)
 have HL := Lib.hid hl
 have HP := Lib.hid hpl
 have hO0 : Only [p] w (w.setCell ⟨p, 1, none⟩ (.int .i64 ((60 : Nat) : Int))) := (Only.refl _ _).set (by simp) _
 have HO0 := Lib.hid hO0
 have H := Lib.hid h
 clear hpl hl hO0 h
 go_enter Tryz.func144, Tryz.ntmps144
 go_wp2_with fail
 have e60 : ((60 : Nat) : Int) = 60 := rfl
 rw [e60] at HP HO0
 have hb : Bys (w.setCell ⟨p, 1, none⟩ (.int .i64 60)) (some ⟨g, 0, none⟩) 60 c (bs.take 60) := by
  have h1 := (HP.out.own (by have := HL.out; omega)).take 60
  rw [show (bvs bs).take 60 = bvs (bs.take 60) from by simp [bvs, List.map_take]] at h1
  exact Row1.of_Own h1 (by simp; have := HL.out; omega) (by omega) hcm
 generalize w.setCell ⟨p, 1, none⟩ (.int .i64 60) = w0 at *
 refine (ref_sum_any (some ⟨g, 0, none⟩) 60 c (bs.take 60) _ (by exact hb)).mono ?_
 rintro e w1 ⟨rfl, hO1⟩
 have HR1 := Lib.hid (HP.out.keep0 hO1)
 have HO1 := Lib.hid (HO0.out.trans' (hO1.mono (by simp)))
 have hs := csum_lt (bs.take 60)
 have hsd : sealed bs = lay bs 60 (le 4 (csum (bs.take 60))) := rfl
 have HSD := Lib.hid hsd
 clear hO1 hb HP HO0 H hf0 hf1 hpz hsd
 generalize csum (bs.take 60) = s at *
 go_wp2_with fail
 refine (ref_one_any p g 60 bs 4 (s : Int) _ (by exact HR1.out) (by decide) (by rw [HL.out]; decide) ⟨by omega, by have e : (256 : Int) ^ 4 = 4294967296 := rfl; omega⟩).mono ?_
 rintro e w2 ⟨rfl, hr2, hO2⟩
 have e3 : ((s : Nat) : Int).toNat = s := by omega
 rw [e3, ← HSD.out] at hr2
 have hl2 := sealed_length bs HL.out
 obtain ⟨A2, c2, hc2, hle2, hm2, hA2⟩ := hr2.fb
 have hA := hA2 (by omega)
 subst hA
 rw [hl2] at hc2 hle2
 have HOW := Lib.hid (hr2.own (by omega))
 have HO2 := Lib.hid (((HO1.out.mono (T := [p, g]) (by simp)).trans' hO2) : Only [p, g] w w2)
 clear hr2 hO2 hA2 hl2
 go_wp2
 go_ret
 exact ⟨c2, rfl, hle2, hm2, HOW.out, HO2.out⟩
end Go.Proofs.YtgcfdjcpcclcjaaGreat
namespace Go.Proofs.YtgcfdjcpcclcjaaGreat
open Go Go.RowKit Go.Kn
set_option maxRecDepth 100000 in
set_option maxHeartbeats 4000000 in
theorem ref_head_enc_own (f0 f1 f2 f3 : Int) (w : World) :
  Calls Tryz.prog 78 #[.agg #[.int .i64 f0, .int .i64 f1, .int .i64 f2, .int .i64 f3]] w (EncOwn w (encHead ⟨f0, f1, f2, f3⟩)) := by
 cases hm : headMay ⟨f0, f1, f2, f3⟩
 ·have HM := Lib.hid hm
  clear hm
  go_enter Tryz.func78, Tryz.ntmps78
  go_wp2_with fail
  refine (ref_head_may_any f0 f1 f2 f3 _).mono ?_
  rintro e w1 ⟨rfl, hO1⟩
  rw [HM.out]
  go_wp2
  go_ret2
  exact EncOwn.no (by unfold encHead; rw [HM.out]; rfl) (((Only.refl _ _).alloc _).trans' hO1)
 ·have HM := Lib.hid hm
  have HF0 : Hid (0 ≤ f0 ∧ f0 < 256 ^ 1) := Lib.hid (by have := headMay_iff.1 hm; simp only [Int.reducePow] at *; omega)
  have HF1 : Hid (Fit 4 [f1, f2, f3]) := Lib.hid (by have := headMay_iff.1 hm; simp only [fit_cons, fit_nil, Int.reducePow, and_true] at *; omega)
  have HE : Hid (encHead ⟨f0, f1, f2, f3⟩ = some (sealed (headRow ⟨f0, f1, f2, f3⟩))) := Lib.hid (by unfold encHead; rw [if_pos hm])
  have HLR := Lib.hid (headRow_length ⟨f0, f1, f2, f3⟩)
  clear hm
  go_enter Tryz.func78, Tryz.ntmps78
  go_wp2_with fail
  refine (ref_head_may_any f0 f1 f2 f3 _).mono ?_
  rintro e w1 ⟨rfl, hO1⟩
  rw [HM.out]
  have HB1 := Lib.hid ((Own.new w #[.int .i64 f0, .int .i64 f1, .int .i64 f2, .int .i64 f3] 143).keep0 hO1)
  have HO1 := Lib.hid (((Only.refl [] w).alloc (.cells #[.int .i64 f0, .int .i64 f1, .int .i64 f2, .int .i64 f3] 143)).trans' hO1)
  have HSZ : Hid (w.heap.size ≤ w.heap.size) := Lib.hid (Nat.le_refl _)
  clear hO1
  go_wp2_with fail
  generalize hbb : w.heap.size = b at HB1 HSZ ⊢
  have HBB := Lib.hid hbb
  clear hbb
  refine (ref_begun_any 64 75 72 75 72 _ rfl rfl (by decide) (by decide)).mono ?_
  rintro e w2 ⟨p, g, rfl, hp, hg, hr, hO⟩
  have HS : Hid (Encs w w2 p g 2 b (lay zeros64 0 [75, 72]) [.int .i64 f0, .int .i64 f1, .int .i64 f2, .int .i64 f3]) := Lib.hid (Encs.start HB1.out HO1.out hp hg hr hO)
  have hgg : b < w1.heap.size := HB1.out.lt
  clear hr hO HB1
  obtain ⟨x0, x1, x2, x3⟩ := Kn.own4 HS.out.box
  go_wp2_with fail
  have LX : (lay zeros64 0 [75, 72]).length = 64 := by first | rfl | (simp [lay_length, zeros64]) | (rw [lay_length _ _ _ (by simp [lay_length, zeros64])]; simp [lay_length, zeros64])
  refine (ref_one_any p g 2 (lay zeros64 0 [75, 72]) 1 f0 _ (by exact HS.out.row) (by decide) (by rw [LX]; decide) HF0.out).mono ?_
  rintro e w3 ⟨rfl, hr, hO⟩
  have HS0 : Hid (Encs w w3 p g 3 b (lay (lay zeros64 0 [75, 72]) 2 (le 1 f0.toNat)) [.int .i64 f0, .int .i64 f1, .int .i64 f2, .int .i64 f3]) := Lib.hid (HS.out.put hr hO)
  clear hr hO LX HS x0 x1 x2 x3
  have HS := HS0
  clear HS0
  obtain ⟨x0, x1, x2, x3⟩ := Kn.own4 HS.out.box
  go_wp2_with fail
  have LX : (lay (lay zeros64 0 [75, 72]) 2 (le 1 f0.toNat)).length = 64 := by first | rfl | (simp [lay_length, zeros64]) | (rw [lay_length _ _ _ (by simp [lay_length, zeros64])]; simp [lay_length, zeros64])
  refine (ref_put_any p g 3 (lay (lay zeros64 0 [75, 72]) 2 (le 1 f0.toNat)) 4 _ 3 3 [f1, f2, f3] _ (by exact HS.out.row.alloc _) (by exact ins_built _ [f1, f2, f3] _ 3 rfl (by omega)) (by exact ne_built HS.out.row) (by decide) (by rw [LX]; decide) HF1.out).mono ?_
  rintro e w4 ⟨rfl, hr, hO⟩
  have HS1 : Hid (Encs w w4 p g 15 b (lay (lay (lay zeros64 0 [75, 72]) 2 (le 1 f0.toNat)) 3 (les 4 [f1, f2, f3])) [.int .i64 f0, .int .i64 f1, .int .i64 f2, .int .i64 f3]) := Lib.hid ((HS.out.alloc _).put hr hO)
  clear hr hO LX HS x0 x1 x2 x3
  have HS := HS1
  clear HS1
  go_wp2_with fail
  have HX : Hid ((lay (lay (lay zeros64 0 [75, 72]) 2 (le 1 f0.toNat)) 3 (les 4 [f1, f2, f3])) = headRow ⟨f0, f1, f2, f3⟩) := Lib.hid (headRow_ref ⟨f0, f1, f2, f3⟩)
  rw [HX.out] at HS
  generalize headRow ⟨f0, f1, f2, f3⟩ = X at *
  clear HX
  refine (ref_closed_any p g 15 X _ (by exact HS.out.row) HLR.out).mono ?_
  rintro e w8 ⟨c4, rfl, hc4, hm4, ho5, hO5⟩
  have hgw : w.heap.size ≤ g := HS.out.hg
  have HO5 := Lib.hid (HS.out.only.trans hO5 (by simp [HS.out.hg, HS.out.hp]) : Only [] w w8)
  have HW5 := Lib.hid ho5
  clear ho5 hO5 HS
  go_wp2
  go_ret2
  have hl := sealed_length X HLR.out
  exact EncOwn.yes HE.out hl hc4 hm4 hgw HW5.out HO5.out
end Go.Proofs.YtgcfdjcpcclcjaaGreat
namespace Go.Kn
open Go Go.RowKit
/-- does what was read fit a place -/
def headFits (o : Option It) (s l pv m : Int) : Bool := match o with
 | none => false
 | some h => (h.k == s) && (h.c == l) && (h.v == pv) && decide (m ≤ h.b)
end Go.Kn
namespace Go.Kn
open Go Go.RowKit
structure Ps where
 s : Int
 o : Int
 l : Int
 p : Int
 m : Int
def Ps.vals (p : Ps) : List Value := [.int .i64 p.s, .int .i64 p.o, .int .i64 p.l, .int .i64 p.p, .int .i64 p.m]
structure Cf where
 b : Int
 s : Int
 l : Int
abbrev Cf.Ok (c : Cf) : Prop := CfOk c.b c.s c.l
/-- where a segment begins -/
def Cf.at_ (c : Cf) (k : Int) : Int := if 0 ≤ k ∧ k ≤ c.s - 1 then 2 + 2 * rln c.s + 4 * pgs c.b + k * c.l else -1
def Cf.sectors (c : Cf) : Int := 2 + 2 * rln c.s + 4 * pgs c.b + c.s * c.l
/-- so many sectors from one on, and the first error -/
def gat (d : Dk) (a : Int) (n : Nat) : List UInt8 := (List.range n).flatMap fun i => d.read (a + (i : Nat))
def gerr (d : Dk) (a : Int) : Nat → Int
 | 0 => 0
 | n + 1 => if gerr d a n = 0 then d.err (a + n) else gerr d a n
theorem gat_succ (d : Dk) (a : Int) (n : Nat) : gat d a (n + 1) = gat d a n ++ d.read (a + (n : Nat)) := by simp [gat, List.range_succ]
theorem gat_one (d : Dk) (a : Int) : gat d a 1 = d.read a := by simp [gat]
theorem gerr_one (d : Dk) (a : Int) : gerr d a 1 = d.err a := by simp [gerr]
theorem gerr_succ (d : Dk) (a : Int) (n : Nat) : gerr d a (n + 1) = if gerr d a n = 0 then d.err (a + (n : Nat)) else gerr d a n := rfl
theorem gerr_le {d : Dk} {a : Int} {n m : Nat} (h : gerr d a n = 0) (hm : m ≤ n) : gerr d a m = 0 := by
  induction n with
  | zero => obtain rfl : m = 0 := by omega
            rfl
  | succ n ih =>
    rw [gerr_succ] at h
    split at h
    · rename_i h0
      rcases Nat.lt_or_ge n m with h2 | h2
      · obtain rfl : m = n + 1 := by omega
        rw [gerr_succ, if_pos h0]; exact h
      · exact ih h0 h2
    · rename_i h0; exact absurd h h0
/-- the segment that a record tells -/
def nextOf (r : Rc) : Option Int := (r.its.find? fun i => i.k == 7).map (·.v)
/-- the record that follows a place, and the place behind it; the error -/
def follow (d : Dk) (c : Cf) (p : Ps) : Option (Rc × Ps) × Int :=
 if 1 ≤ p.o ∧ p.o ≤ c.l - 1 then
  if d.err (c.at_ p.s + p.o) = 0 then
   if sizeRc (d.read (c.at_ p.s + p.o)) = 0 ∨ c.l < p.o + (sizeRc (d.read (c.at_ p.s + p.o)) : Nat) then (none, 0)
   else if gerr d (c.at_ p.s + p.o) (sizeRc (d.read (c.at_ p.s + p.o))) = 0 then
    match decRc (gat d (c.at_ p.s + p.o) (sizeRc (d.read (c.at_ p.s + p.o)))) with
    | none => (none, 0)
    | some (r, sum) => if r.n = p.l ∧ r.p = p.p ∧ p.m ≤ r.m then (some (r, ⟨p.s, p.o + (sizeRc (d.read (c.at_ p.s + p.o)) : Nat), p.l + 1, (sum : Nat), r.m⟩), 0) else (none, 0)
   else (none, gerr d (c.at_ p.s + p.o) (sizeRc (d.read (c.at_ p.s + p.o))))
  else (none, d.err (c.at_ p.s + p.o))
 else (none, 0)
/-- gone through from a place on: what is told, the place behind it, the error -/
def scanG (d : Dk) (c : Cf) : Nat → Ps → List (Ps × Rc) × Ps × Int
 | 0, p => ([], p, 0)
 | k + 1, p => match follow d c p with
  | (none, e) => ([], p, e)
  | (some (r, q), _) => if (nextOf r).isSome then ([(p, r)], q, 0) else ((p, r) :: (scanG d c k q).1, (scanG d c k q).2)
/-- where it begins; does it; the error -/
def scanB (d : Dk) (c : Cf) (own : Bool) (p : Ps) : Ps × Bool × Int :=
 if (0 ≤ p.s ∧ p.s ≤ c.s - 1) ∧ 0 ≤ p.o ∧ p.o < c.l then
  if 0 < p.o then (p, true, 0)
  else if d.err (c.at_ p.s) = 0 then
   match decHead (d.read (c.at_ p.s)) with
   | none => (p, false, 0)
   | some h => if (own || headFits (some h) p.s p.l p.p p.m) = true then (⟨p.s, 1, h.c, h.v, h.b⟩, true, 0) else (p, false, 0)
  else (p, false, d.err (c.at_ p.s))
 else (p, false, 0)
def scanR (d : Dk) (c : Cf) (own : Bool) (p : Ps) : List (Ps × Rc) × Ps × Int :=
 if (scanB d c own p).2.1 then scanG d c 65 (scanB d c own p).1 else ([], (scanB d c own p).1, (scanB d c own p).2.2)
end Go.Kn
namespace Go.Kn
open Go Go.RowKit
def Cf.vals (c : Cf) : Array Value := #[.int .i64 c.b, .int .i64 c.s, .int .i64 c.l]
theorem Cf.prod (c : Cf) (h : c.Ok) (k : Int) (h0 : 0 ≤ k) (h1 : k ≤ c.s) : 0 ≤ k * c.l ∧ k * c.l ≤ 2048 := by
 obtain ⟨_, hs, hl⟩ := h
 refine ⟨Int.mul_nonneg h0 (by omega), ?_⟩
 have := Int.mul_le_mul (show k ≤ 32 by omega) (show c.l ≤ 64 by omega) (by omega) (by omega)
 omega
end Go.Kn
namespace Go.Proofs.YtgcfdjcpcclcjaaGreat
open Go Go.RowKit Go.Kn
theorem geom_segs_any (p : Nat) (b s l : Int) (w : World) (hg : GeoAt w p b s l) (hb : CfOk b s l) :
  Calls Tryz.prog 82 #[.pointer (some ⟨p, 0, none⟩)] w fun e w' => e = .returned (.int .i64 (2 + 2 * rln s + 4 * pgs b)) ∧ Only [] w w' := by
 have HG := Lib.hid hg
 have HB := Lib.hid hb
 have h1 := rln_bounds hb
 have h2 := pgs_bounds hb
 have hw1 := IntWalk.i64_in (2 * pgs b) (by omega)
 have hw2 := IntWalk.i64_in (rln s + 2 * pgs b) (by omega)
 have hw3 := IntWalk.i64_in (2 * (rln s + 2 * pgs b)) (by omega)
 have hw4 := IntWalk.i64_in (2 + 2 * (rln s + 2 * pgs b)) (by omega)
 obtain ⟨r1, r2, r3⟩ := h1
 obtain ⟨g1, g2⟩ := h2
 clear hg hb r3
 go_enter Tryz.func82, Tryz.ntmps82
 go_wp2_with fail
 refine (geom_rlen_any p b s l _ HG.out HB.out).mono ?_
 rintro e w1 ⟨rfl, rfl⟩
 go_wp2_with fail
 refine (geom_pages_any p b s l _ HG.out HB.out).mono ?_
 rintro e w2 ⟨rfl, hO⟩
 have HO := Lib.hid hO
 clear hO
 have he : 2 + 2 * (rln s + 2 * pgs b) = 2 + 2 * rln s + 4 * pgs b := by omega
 have HE := Lib.hid he
 clear he
 go_wp2
 go_ret
 exact ⟨by rw [HE.out]; rfl, HO.out⟩
set_option maxRecDepth 100000 in
set_option maxHeartbeats 4000000 in
theorem geom_seg_any (p : Nat) (c : Cf) (k : Int) (w : World) (hg : GeoAt w p c.b c.s c.l) (hb : c.Ok) :
  Calls Tryz.prog 22 #[.pointer (some ⟨p, 0, none⟩), .int .i64 k] w fun e w' => e = .returned (.int .i64 (c.at_ k)) ∧ Only [] w w' := by
 have HG := Lib.hid hg
 have HB := Lib.hid hb
 by_cases hk : 0 ≤ k ∧ k ≤ c.s - 1
 ·have e : c.at_ k = 2 + 2 * rln c.s + 4 * pgs c.b + k * c.l := by unfold Cf.at_; rw [if_pos hk]
  rw [e]
  obtain ⟨m1, m2⟩ := Cf.prod c hb k hk.1 (by omega)
  have h1 := rln_bounds hb
  have h2 := pgs_bounds hb
  have hq : 2 ≤ 2 + 2 * rln c.s + 4 * pgs c.b ∧ 2 + 2 * rln c.s + 4 * pgs c.b ≤ 30 := by omega
  have HK := Lib.hid (decide_eq_true hk)
  have hw1 := IntWalk.i64_in (k * c.l) (by omega)
  have hw2 := IntWalk.i64_in (2 + 2 * rln c.s + 4 * pgs c.b + k * c.l) (by omega)
  obtain ⟨Q, hQ⟩ : ∃ q, 2 + 2 * rln c.s + 4 * pgs c.b = q := ⟨_, rfl⟩
  rw [hQ] at hw2 hq ⊢
  have HQ := Lib.hid hQ
  obtain ⟨hq1, hq2⟩ := hq
  clear hg hb h1 h2 hk e hQ
  go_enter Tryz.func22, Tryz.ntmps22
  go_wp2_with fail
  refine (geom_has_any p c.b c.s c.l k _ HG.out HB.out).mono ?_
  rintro e w1 ⟨rfl, rfl⟩
  rw [HK.out]
  go_wp2_with fail
  have HG7 := Lib.hid (HG.out.keep0 (Only.refl [] w).drew)
  have HO7 := Lib.hid (Only.refl [] w).drew
  refine wp_region_held_drew (S := fun w' => w'.cell? ⟨p, 2, none⟩ = some (.int .i64 c.l)) (by kernel_rfl) HG7.out.c2 (fun hSw0 => ?_)
  generalize w.drew = ws at *
  refine Kn.takeS 0 ⟨some 9, _, _, _, _, _⟩ ?_
  refine Kn.takeS 2 ⟨some 11, _, _, _, _, _⟩ ?_
  refine Kn.takeS 3 ⟨some 12, _, _, _, _, _⟩ ?_
  refine Kn.takeS 4 ⟨some 13, _, _, _, _, _⟩ ?_
  refine Kn.takeS 5 ⟨some 14, _, _, _, _, _⟩ ?_
  refine Kn.takeS 6 ⟨some 15, _, _, _, _, _⟩ ?_
  refine Kn.takeS 7 ⟨some 16, _, _, _, _, _⟩ ?_
  refine Kn.takeS 8 ⟨some 17, _, _, _, _, _⟩ ?_
  refine Kn.takeR 1 ⟨some 10, _, _, _, _, _⟩ fun K hK => ?_
  go_simp
  refine (geom_segs_any p c.b c.s c.l _ HG7.out HB.out).mono ?_
  rintro e w2 ⟨rfl, hO⟩
  rw [HQ.out]
  have HO8 := Lib.hid (HO7.out.trans' hO)
  have HG8 := Lib.hid (HG7.out.keep0 hO)
  clear hO
  refine hK.out _ _ HG8.out.c2 (fun hSn => ?_)
  clear hK K hSw0
  have hSw0 := hSn
  clear hSn
  refine Kn.takeS 9 ⟨some 18, _, _, _, _, _⟩ ?_
  refine Kn.takeS 10 ⟨some 4, _, _, _, _, _⟩ ?_
  refine wpAnyH_done (by kernel_rfl) ?_ _
  clear hSw0
  go_wp2
  go_ret
  exact ⟨rfl, HO8.out⟩
 ·have e : c.at_ k = -1 := by unfold Cf.at_; rw [if_neg hk]
  rw [e]
  have HK := Lib.hid (decide_eq_false hk)
  clear hg hb hk e
  go_enter Tryz.func22, Tryz.ntmps22
  go_wp2_with fail
  refine (geom_has_any p c.b c.s c.l k _ HG.out HB.out).mono ?_
  rintro e w1 ⟨rfl, rfl⟩
  rw [HK.out]
  go_wp2
  go_ret
  exact ⟨rfl, Only.refl _ _⟩
set_option maxRecDepth 100000 in
set_option maxHeartbeats 4000000 in
theorem ref_segat_any (c : Cf) (k : Int) (w : World) (hb : c.Ok) :
  Calls Tryz.prog 32 #[.agg #[.int .i64 c.b, .int .i64 c.s, .int .i64 c.l], .int .i64 k] w fun e w' => e = .returned (.int .i64 (c.at_ k)) ∧ Only [] w w' := by
 have HB := Lib.hid hb
 have hss : 8 ≤ c.s ∧ c.s ≤ 32 := hb.2.1
 have hw0 := IntWalk.i64_in (c.s - 1) (by omega)
 obtain ⟨hs1, hs2⟩ := hss
 by_cases hk : 0 ≤ k ∧ k ≤ c.s - 1
 ·have e : c.at_ k = 2 + 2 * rln c.s + 4 * pgs c.b + k * c.l := by unfold Cf.at_; rw [if_pos hk]
  rw [e]
  obtain ⟨m1, m2⟩ := Cf.prod c hb k hk.1 (by omega)
  have h1 := rln_bounds hb
  have h2 := pgs_bounds hb
  have HK := Lib.hid (decide_eq_true hk)
  have hx1 := IntWalk.i64_in (2 * rln c.s) (by omega)
  have hx2 := IntWalk.i64_in (2 + 2 * rln c.s) (by omega)
  have hx3 := IntWalk.i64_in (4 * pgs c.b) (by omega)
  have hx4 := IntWalk.i64_in (2 + 2 * rln c.s + 4 * pgs c.b) (by omega)
  have hw1 := IntWalk.i64_in (k * c.l) (by omega)
  have hw2 := IntWalk.i64_in (2 + 2 * rln c.s + 4 * pgs c.b + k * c.l) (by omega)
  clear hb h1 h2 hk e
  go_enter Tryz.func32, Tryz.ntmps32
  have ho0 := Own.new w #[.int .i64 c.b, .int .i64 c.s, .int .i64 c.l] 25
  have HX0 := Lib.hid ho0
  have HO0 := Lib.hid ((Only.refl [] w).alloc (.cells #[.int .i64 c.b, .int .i64 c.s, .int .i64 c.l] 25))
  clear ho0
  go_wp2_with fail
  generalize w.alloc (.cells #[.int .i64 c.b, .int .i64 c.s, .int .i64 c.l] 25) = wa at *
  generalize w.heap.size = fb at *
  refine (within_any k 0 (c.s - 1) _).mono ?_
  rintro e w1 ⟨rfl, rfl⟩
  rw [HK.out]
  go_wp2_with fail
  have HX7 := Lib.hid HX0.out.drew
  have HO7 := Lib.hid HO0.out.drew
  refine wp_region_held_drew (S := fun w' => w'.cell? ⟨fb, 0, none⟩ = some (.int .i64 c.b) ∧ w'.cell? ⟨fb, 1, none⟩ = some (.int .i64 c.s) ∧ w'.cell? ⟨fb, 2, none⟩ = some (.int .i64 c.l)) (by kernel_rfl) ⟨HX7.out.cell 0 (by simp), HX7.out.cell 1 (by simp), HX7.out.cell 2 (by simp)⟩ (fun hSw0 => ?_)
  generalize wa.drew = ws at *
  refine Kn.takeS 0 ⟨some 11, _, _, _, _, _⟩ ?_
  refine Kn.takeS 4 ⟨some 15, _, _, _, _, _⟩ ?_
  refine Kn.takeS 8 ⟨some 19, _, _, _, _, _⟩ ?_
  refine Kn.takeS 9 ⟨some 20, _, _, _, _, _⟩ ?_
  refine Kn.takeS 10 ⟨some 21, _, _, _, _, _⟩ ?_
  refine Kn.takeS 11 ⟨some 22, _, _, _, _, _⟩ ?_
  refine Kn.takeR 1 ⟨some 12, _, _, _, _, _⟩ fun K hK => ?_
  go_simp
  refine (ref_rlen_any c.b c.s c.l _ HB.out).mono ?_
  rintro e w9 ⟨rfl, hO⟩
  have HO8 := Lib.hid (HO7.out.trans' hO)
  have HX8 := Lib.hid (HX7.out.keep0 hO)
  clear hO
  refine hK.out _ _ ⟨HX8.out.cell 0 (by simp), HX8.out.cell 1 (by simp), HX8.out.cell 2 (by simp)⟩ (fun hSn => ?_)
  clear hK K hSw0
  have hSw0 := hSn
  clear hSn
  refine Kn.takeS 2 ⟨some 13, _, _, _, _, _⟩ ?_
  refine Kn.takeS 3 ⟨some 14, _, _, _, _, _⟩ ?_
  refine Kn.takeR 5 ⟨some 16, _, _, _, _, _⟩ fun K hK => ?_
  go_simp
  refine (ref_pages_any c.b c.s c.l _ HB.out).mono ?_
  rintro e w10 ⟨rfl, hO⟩
  have HO9 := Lib.hid (HO8.out.trans' hO)
  have HX9 := Lib.hid (HX8.out.keep0 hO)
  clear hO
  refine hK.out _ _ ⟨HX9.out.cell 0 (by simp), HX9.out.cell 1 (by simp), HX9.out.cell 2 (by simp)⟩ (fun hSn => ?_)
  clear hK K hSw0
  have hSw0 := hSn
  clear hSn
  refine Kn.takeS 6 ⟨some 17, _, _, _, _, _⟩ ?_
  refine Kn.takeS 7 ⟨some 18, _, _, _, _, _⟩ ?_
  refine Kn.takeS 12 ⟨some 23, _, _, _, _, _⟩ ?_
  refine Kn.takeS 13 ⟨some 4, _, _, _, _, _⟩ ?_
  refine wpAnyH_done (by kernel_rfl) ?_ _
  clear hSw0
  go_wp2
  go_ret
  exact ⟨rfl, HO9.out⟩
 ·have e : c.at_ k = -1 := by unfold Cf.at_; rw [if_neg hk]
  rw [e]
  have HK := Lib.hid (decide_eq_false hk)
  clear hb hk e
  go_enter Tryz.func32, Tryz.ntmps32
  go_wp2_with fail
  refine (within_any k 0 (c.s - 1) _).mono ?_
  rintro e w1 ⟨rfl, rfl⟩
  rw [HK.out]
  go_wp2
  go_ret
  exact ⟨rfl, (Only.refl _ _).alloc _⟩
theorem Cf.at0 (c : Cf) (h : c.Ok) : c.at_ 0 = 2 + 2 * rln c.s + 4 * pgs c.b := by
 unfold Cf.at_
 obtain ⟨_, hs, hl⟩ := h
 rw [if_pos (by omega)]
 omega
set_option maxRecDepth 100000 in
set_option maxHeartbeats 4000000 in
theorem ref_sectors_any (c : Cf) (w : World) (hb : c.Ok) :
  Calls Tryz.prog 77 #[.agg #[.int .i64 c.b, .int .i64 c.s, .int .i64 c.l]] w fun e w' => e = .returned (.int .i64 c.sectors) ∧ Only [] w w' := by
 have HB := Lib.hid hb
 have hss : 8 ≤ c.s ∧ c.s ≤ 32 := hb.2.1
 obtain ⟨m1, m2⟩ := Cf.prod c hb c.s (by omega) (by omega)
 have h1 := rln_bounds hb
 have h2 := pgs_bounds hb
 have h3 := Cf.at0 c hb
 have hw1 := IntWalk.i64_in (c.s * c.l) (by omega)
 have hw2 := IntWalk.i64_in (c.at_ 0 + c.s * c.l) (by omega)
 have hE : c.sectors = c.at_ 0 + c.s * c.l := by rw [h3]; rfl
 have HE := Lib.hid hE
 obtain ⟨Q, hQ⟩ : ∃ q, c.at_ 0 = q := ⟨_, rfl⟩
 rw [hQ] at hw2 HE
 have hqb : 2 ≤ Q ∧ Q ≤ 30 := by omega
 have HQ := Lib.hid hQ
 obtain ⟨hq1, hq2⟩ := hqb
 clear hb h1 h2 h3 hE hss hQ
 go_enter Tryz.func77, Tryz.ntmps77
 have ho0 := Own.new w #[.int .i64 c.b, .int .i64 c.s, .int .i64 c.l] 25
 have HX0 := Lib.hid ho0
 have HO0 := Lib.hid ((Only.refl [] w).alloc (.cells #[.int .i64 c.b, .int .i64 c.s, .int .i64 c.l] 25))
 clear ho0
 go_wp2_with fail
 generalize w.alloc (.cells #[.int .i64 c.b, .int .i64 c.s, .int .i64 c.l] 25) = wa at *
 generalize w.heap.size = fb at *
 have HX7 := Lib.hid HX0.out.drew
 have HO7 := Lib.hid HO0.out.drew
 refine wp_region_held_drew (S := fun w' => w'.cell? ⟨fb, 0, none⟩ = some (.int .i64 c.b) ∧ w'.cell? ⟨fb, 1, none⟩ = some (.int .i64 c.s) ∧ w'.cell? ⟨fb, 2, none⟩ = some (.int .i64 c.l)) (by kernel_rfl) ⟨HX7.out.cell 0 (by simp), HX7.out.cell 1 (by simp), HX7.out.cell 2 (by simp)⟩ (fun hSw0 => ?_)
 generalize wa.drew = ws at *
 refine Kn.takeS 0 ⟨some 3, _, _, _, _, _⟩ ?_
 refine Kn.takeS 2 ⟨some 5, _, _, _, _, _⟩ ?_
 refine Kn.takeS 3 ⟨some 6, _, _, _, _, _⟩ ?_
 refine Kn.takeS 4 ⟨some 7, _, _, _, _, _⟩ ?_
 refine Kn.takeS 5 ⟨some 8, _, _, _, _, _⟩ ?_
 refine Kn.takeS 6 ⟨some 9, _, _, _, _, _⟩ ?_
 refine Kn.takeR 1 ⟨some 4, _, _, _, _, _⟩ fun K hK => ?_
 go_simp
 refine (ref_segat_any c 0 _ HB.out).mono ?_
 rintro e w9 ⟨rfl, hO⟩
 rw [HQ.out]
 have HO8 := Lib.hid (HO7.out.trans' hO)
 have HX8 := Lib.hid (HX7.out.keep0 hO)
 clear hO
 refine hK.out _ _ ⟨HX8.out.cell 0 (by simp), HX8.out.cell 1 (by simp), HX8.out.cell 2 (by simp)⟩ (fun hSn => ?_)
 clear hK K hSw0
 have hSw0 := hSn
 clear hSn
 refine Kn.takeS 7 ⟨some 10, _, _, _, _, _⟩ ?_
 refine Kn.takeS 8 ⟨some 2, _, _, _, _, _⟩ ?_
 refine wpAnyH_done (by kernel_rfl) ?_ _
 clear hSw0
 go_wp2
 go_ret
 exact ⟨by rw [HE.out]; rfl, HO8.out⟩
end Go.Proofs.YtgcfdjcpcclcjaaGreat
namespace Go.Kn
open Go Go.RowKit
def Ps.head (p : Ps) : It := ⟨p.s, p.m, p.l, p.p⟩
def headB (p : Ps) : List UInt8 := sealed (headRow p.head)
theorem headB_length (p : Ps) : (headB p).length = 64 := sealed_length _ (headRow_length _)
theorem headB_enc {p : Ps} (h : headMay p.head = true) : encHead p.head = some (headB p) := by unfold encHead; rw [if_pos h]; rfl
theorem encOwn_some {w w' : World} {bs : List UInt8} {e : Ending} (h : EncOwn w (some bs) e w') : ∃ g c, e = .returned (.tuple #[.slice (some ⟨g, 0, none⟩) bs.length c, .int .i64 0]) ∧ bs.length ≤ c ∧ c ≤ maxLen ∧ w.heap.size ≤ g ∧ Own w' g (bvs bs) ∧ Only [] w w' := by
 rcases h with ⟨h, _⟩ | ⟨bs', g, c, h, rest⟩
 ·cases h
 ·injection h with h
  subst h
  exact ⟨g, c, rest⟩
end Go.Kn
namespace Go.Proofs.YtgcfdjcpcclcjaaGreat
open Go Go.RowKit Go.Kn
/-- the frame of both disks comes to the front -/
theorem Duo.fr {w0 w : World} {p : PD} {r : RD} {d e : Dk} {c : Fr3} (h : Duo w0 w p r d e c) : ∃ L0 G0 F0, Wc w0 w (c.L ++ L0) (c.G ++ G0) (c.F ++ F0) ∧ ∀ w' (c' : Fr3), Wc w0 w' (c'.L ++ L0) (c'.G ++ G0) (c'.F ++ F0) → Duo w0 w' p r d e c' := by
 obtain ⟨v, v', lv, k, ls, sl, hs, hl, hm⟩ := h.mem
 have pl : ∀ L, (p.L v d (r.L v' lv sl e L)).Perm (L ++ p.L v d (r.L v' lv sl e [])) := fun L => by
  have := List.perm_append_comm (l₁ := p.L v d (r.L v' lv sl e [])) (l₂ := L)
  simpa [PD.L, RD.L] using this
 have pg : ∀ (a b x : Gs) G, (a :: b :: x :: G).Perm (G ++ [a, b, x]) := fun a b x G => by
  have := List.perm_append_comm (l₁ := [a, b, x]) (l₂ := G)
  simpa using this
 refine ⟨p.L v d (r.L v' lv sl e []), [⟨158, 65, v, d.held.length, heldV d.held⟩, ⟨175, 2, v', e.held.length, heldR e.held hs⟩, ⟨47, 1, lv, k.val, ls⟩], [(fun W => Bls W sl e.safe), (fun W => Bls W hs (e.held.map (·.2)))], ?_, fun w' c' h' => ?_⟩
 ·refine (hm.perm (pl _) (pg _ _ _ _)).subF ?_
  intro f hf
  rcases List.mem_append.1 hf with hf | hf
  ·exact List.mem_cons_of_mem _ (List.mem_cons_of_mem _ hf)
  ·simp only [List.mem_cons, List.not_mem_nil, or_false] at hf ⊢
   rcases hf with hf | hf
   ·exact .inl hf
   ·exact .inr (.inl hf)
 ·refine ⟨h.ok, h.N, h.hs, h.hn, h.hf, h.ok', h.N', h.hs', h.hf', v, v', lv, k, ls, sl, hs, hl, (h'.perm (pl _).symm (pg _ _ _ _).symm).subF ?_⟩
  intro f hf
  simp only [List.mem_cons] at hf
  rcases hf with hf | hf | hf
  ·exact List.mem_append.2 (.inr (by simp [hf]))
  ·exact List.mem_append.2 (.inr (by simp [hf]))
  ·exact List.mem_append.2 (.inl hf)
theorem Duo.addFc {w0 w w' : World} {p : PD} {r : RD} {d e : Dk} {c : Fr3} (h : Duo w0 w p r d e c) (hO : Only [] w w') {f : World → Prop} (hf : Fc w' (fun k => k < w.heap.size) f) : Duo w0 w' p r d e ⟨c.L, c.G, f :: c.F⟩ := by
 obtain ⟨L0, G0, F0, hw, back⟩ := h.fr
 exact back w' ⟨c.L, c.G, f :: c.F⟩ (hw.addFc hO hf)
theorem Duo.newB {w0 w : World} {p : PD} {r : RD} {d e : Dk} {c : Fr3} (h : Duo w0 w p r d e c) (cs : Array Value) (t : TypeId) {b : Nat} (hb : w.heap.size = b) : Duo w0 (w.alloc (.cells cs t)) p r d e ⟨(b, cs.toList) :: c.L, c.G, c.F⟩ := by
 obtain ⟨L0, G0, F0, hw, back⟩ := h.fr
 exact back _ ⟨(b, cs.toList) :: c.L, c.G, c.F⟩ (hw.newB cs t hb)
theorem Duo.ldrop {w0 w : World} {p : PD} {r : RD} {d e : Dk} {x : Nat × List Value} {L : List (Nat × List Value)} {G : List Gs} {F : List (World → Prop)} (h : Duo w0 w p r d e ⟨x :: L, G, F⟩) : Duo w0 w p r d e ⟨L, G, F⟩ := by
 obtain ⟨L0, G0, F0, hw, back⟩ := h.fr
 exact back _ ⟨L, G, F⟩ hw.ldrop
theorem Duo.box {w0 w : World} {p : PD} {r : RD} {d e : Dk} {c : Fr3} (h : Duo w0 w p r d e c) {x : Nat × List Value} (hx : x ∈ c.L) : Kn.Own w x.1 x.2 := by
 obtain ⟨L0, G0, F0, hw, back⟩ := h.fr
 exact hw.own x (List.mem_append.2 (.inl hx))
theorem Duo.only {w0 w : World} {p : PD} {r : RD} {d e : Dk} {c : Fr3} (h : Duo w0 w p r d e c) : Only [] w0 w := by
 obtain ⟨L0, G0, F0, hw, back⟩ := h.fr
 exact hw.only
end Go.Proofs.YtgcfdjcpcclcjaaGreat
