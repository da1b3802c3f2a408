/- ScnI, ScnJ, RecH, ScnK, ScnL, ScnM, GeoC: joined by pack.py, without what the claim does not use. -/
import Derived.Test.YtgcfdjcpcclcjaaGreatScanPlaysF
set_option linter.unusedVariables false
set_option linter.unusedSimpArgs false
namespace Go.Proofs.YtgcfdjcpcclcjaaGreat
open Go Go.RowKit Go.Kn Go.Shelf
attribute [local go_sem] Oper.semAt_some
set_option maxRecDepth 100000 in
set_option maxHeartbeats 4000000 in
theorem places1_nil (w0 W : World) (b1 : Nat) (L : List (Nat × List Value)) (G : List Gs) (F : List (World → Prop)) (n : Nat) (hn : 1 ≤ n) (hb1 : (b1, [.pointer none]) ∈ L) :
  SeqW Fence.wide n Tryz.prog 151 #[.pointer (some ⟨b1, 0, none⟩)] Fnd.enc (fun _ _ _ => False) (fun xs φ => xs = [] ∧ φ = ⟨L, G, F⟩) (fun _ _ => False) 65 w0 W ⟨L, G, F⟩ := by
 intro l J c0 hJc hY hJ0 hA
 have hA' : Wc w0 W (L ++ c0.L) (G ++ c0.G) (F ++ c0.F) := hA
 have c1 := Kn.own1 (hA'.own _ (List.mem_append_left _ hb1))
 refine callsIn_of_wp Tryz.func151 rfl trivial ?_ rfl
 simp only [Tryz.ntmps151, List.size_toArray, List.length_cons, List.length_nil, Nat.reduceAdd, Nat.reduceSub, Array.replicate_succ, Array.replicate_zero, List.push_toArray, List.append_toArray, List.nil_append, List.cons_append]
 gi_wp2_with fail
 refine bodyPost_ret (results_none rfl _ _ _) rfl ⟨⟨_, rfl⟩, Nat.le_refl _, _, c0, hA, [], ⟨rfl, rfl⟩, hJ0⟩
set_option maxRecDepth 100000 in
set_option maxHeartbeats 4000000 in
theorem records1_nil (w0 W : World) (b1 : Nat) (L : List (Nat × List Value)) (G : List Gs) (F : List (World → Prop)) (n : Nat) (hn : 4 ≤ n) (hb1 : (b1, [.pointer none]) ∈ L) :
  SeqW Fence.wide n Tryz.prog 97 #[.pointer (some ⟨b1, 0, none⟩)] Fnd.enc2 (fun _ _ _ => False) (fun xs φ => xs = [] ∧ φ = ⟨L, G, F⟩) (fun _ _ => False) 65 w0 W ⟨L, G, F⟩ := by
 intro l J c0 hJc hY hJ0 hA
 have h1 : 1 ≤ n := by omega
 have hA' : Wc w0 W (L ++ c0.L) (G ++ c0.G) (F ++ c0.F) := hA
 have c1 := Kn.own1 (hA'.own _ (List.mem_append_left _ hb1))
 have lb := (hA'.own _ (List.mem_append_left _ hb1)).lt
 have HA := Lib.hid hA'
 clear hA hA' hb1
 refine callsIn_of_wp_marks Tryz.func97 rfl trivial ?_ rfl
 simp only [Tryz.ntmps97, List.size_toArray, List.length_cons, List.length_nil, Nat.reduceAdd, Nat.reduceSub, Array.replicate_succ, Array.replicate_zero, List.push_toArray, List.append_toArray, List.nil_append, List.cons_append]
 gi_wp2_with fail
 refine ⟨trivial, callsIn_wide.2 ((places_any _ _).mono ?_)⟩
 rintro en w1 ⟨rfl, rfl⟩
 have hsb : (W.alloc (.cells #[.func (.yield l) #[] #[]] 170)).heap.size = W.heap.size + 1 := by simp
 have hw2 := (HA.out.newB #[.func (.yield l) #[] #[]] 170 (b := W.heap.size) rfl).newB #[.pointer none] 40 (b := W.heap.size + 1) hsb
 rw [hsb]
 have hJ2 : J none [] c0 ((W.alloc (.cells #[.func (.yield l) #[] #[]] 170)).alloc (.cells #[.pointer none] 40)) := hJc _ _ _ _ _ hJ0 (Kb.of_only (S := []) (((Only.refl _ _).alloc _).alloc _) (by simp))
 have HW2 := Lib.hid hw2
 have hsw : W.heap.size ≤ ((W.alloc (.cells #[.func (.yield l) #[] #[]] 170)).alloc (.cells #[.pointer none] 40)).heap.size := by simp; omega
 clear hw2 hsb c1 lb HA
 generalize hg2 : (W.alloc (.cells #[.func (.yield l) #[] #[]] 170)).alloc (.cells #[.pointer none] 40) = w2 at *
 obtain ⟨bx, hbx⟩ : ∃ k, k = W.heap.size := ⟨_, rfl⟩
 have hwx : W.heap.size ≤ bx := by omega
 rw [← hbx] at HW2 ⊢
 clear hg2 hbx
 gi_wp2_with fail
 refine wpIn_rangeFunc_W rfl h1 (gf := 151) (lb := #[.pointer (some ⟨bx + 1, 0, none⟩)]) rfl trivial (enters_of Tryz.func151 (by kernel_rfl) rfl)
  (φ0 := ⟨(bx + 1, [.pointer none]) :: L, G, F⟩) (c0 := ⟨ReB bx l :: c0.L, c0.G, c0.F⟩) (fun W1 _ => places1_nil w0 W1 (bx + 1) ((bx + 1, [.pointer none]) :: L) G F (n - 1) (by omega) List.mem_cons_self) (fun _ => rfl)
  (fun pe xs c W => pe = none ∧ xs = [] ∧ c = ⟨ReB bx l :: c0.L, c0.G, c0.F⟩ ∧ J none [] c0 W) (fun _ _ _ _ _ => False) ?hJ (fun _ _ _ _ _ _ h => h.elim) ⟨rfl, rfl, rfl, hJ2⟩ (HW2.out.perm ((List.perm_middle (l₁ := (bx + 1, [.pointer none]) :: L) (a := ReB bx l) (l₂ := c0.L)).trans (List.Perm.swap _ _ _)).symm (List.Perm.refl _)) ?assign ?body ?done ?stop
 case hJ =>
  rintro pe xs c X Y ⟨h1, h2, h3, h4⟩ hb
  exact ⟨h1, h2, h3, hJc _ _ _ _ _ h4 (hb.mono hsw)⟩
 case assign =>
  intro lr pre x φ c W1 K hpre
  exact hpre.elim
 case body =>
  intro lr pre x φ c a' W1 hpre
  exact hpre.elim
 case done =>
  rintro D xs φ c W1 hD ⟨rfl, rfl⟩ ⟨-, -, rfl, hj⟩ hat hK hsz
  gi_wp2
  have hat' : Wc w0 W1 ((bx + 1, [.pointer none]) :: (L ++ ReB bx l :: c0.L)) (G ++ c0.G) (F ++ c0.F) := hat
  have hw := hat'.putObj (.deferred none) hK rfl (Nat.le_trans HW2.out.only.size hD)
  have hkb : Kb W.heap.size W1 (W1.putObj D (.deferred none)) := kb_putObj _ _ (Nat.le_trans hsw hD)
  refine ⟨by simp, .inl ⟨D, _, rfl, run_takeDeferred hK, _, results_none rfl _ _ _, ⟨_, rfl⟩, by simp; omega, ⟨L, G, F⟩, c0, hw.sub (L' := L ++ c0.L) (.cons _ ((List.Sublist.refl _).append (.cons _ (List.Sublist.refl _)))) (fun f hf => hf), .inl ⟨[], ⟨rfl, rfl⟩, hJc _ _ _ _ _ hj hkb⟩⟩⟩
 case stop =>
  rintro D cd pre φ c W1 hD hfix
  exact hfix.elim
set_option maxRecDepth 100000 in
set_option maxHeartbeats 4000000 in
theorem walk13_nil {wb : World} (w0 w : World) (L : List (Nat × List Value)) (G : List Gs) (F : List (World → Prop)) (most : Nat)
  (hw : Wk w0 wb w L G F) (hmm : most ≤ 1000) :
  Calls Tryz.prog 19 #[.pointer none, .int .i64 (most : Int)] w fun e w' => e = .returned (.slice none 0 0) ∧ Wk w0 wb w' L G F := by
 have HA := Lib.hid hw
 clear hw
 have hfn := fun (w : World) (x y : Array Value) => run_eql_func_nil (P := Tryz.prog) w 68 Tryz.underlying68 (.func 97) x y
 refine (callsIn_wide (n := 6)).1 (callsIn_of_wp_marks Tryz.func19 rfl trivial ?_ rfl)
 simp only [Tryz.ntmps19, List.size_toArray, List.length_cons, List.length_nil, Nat.reduceAdd, Nat.reduceSub, Array.replicate_succ, Array.replicate_zero, List.push_toArray, List.append_toArray, List.nil_append, List.cons_append]
 refine wpIn_wide.2 ?_
 go_wp2_with fail
 refine (records_any _ _).mono ?_
 rintro en w1 ⟨rfl, rfl⟩
 go_wp2_with fail
 obtain ⟨b3, h3⟩ : ∃ k, k = w.heap.size := ⟨_, rfl⟩
 have hs1 : (w.alloc (.cells #[.int .i64 (most : Int)] 3)).heap.size = w.heap.size + 1 := by simp
 have hs2 : ((w.alloc (.cells #[.int .i64 (most : Int)] 3)).alloc (.cells #[.pointer none] 40)).heap.size = w.heap.size + 1 + 1 := by simp
 have hw2 := ((HA.out.newB #[.int .i64 (most : Int)] 3 rfl).newB #[.pointer none] 40 hs1).newB #[.slice none 0 0] 42 hs2
 generalize hz : ((w.alloc (.cells #[.int .i64 (most : Int)] 3)).alloc (.cells #[.pointer none] 40)).alloc (.cells #[.slice none 0 0] 42) = w2 at *
 rw [← h3] at hw2 ⊢
 have HW2 := Lib.hid hw2
 obtain ⟨bS, hbS⟩ : ∃ k, k = b3 + 1 := ⟨_, rfl⟩
 rw [← hbS] at HW2 ⊢
 obtain ⟨b6, hb6⟩ : ∃ k, k = bS + 1 := ⟨_, rfl⟩
 rw [← hb6] at HW2 ⊢
 have hbw : wb.heap.size ≤ w2.heap.size := HW2.out.hs
 clear hw2 hz h3 hbS hb6 hs1 hs2 HA
 refine (wpIn_wide (n := 6)).1 ?_
 refine wpIn_rangeFunc_W (F := Fence.wide) (n := 6) rfl (by decide) (gf := 97) (lb := #[.pointer (some ⟨bS, 0, none⟩)]) rfl trivial (enters_of Tryz.func97 (by kernel_rfl) rfl)
  (φ0 := ⟨(bS, [.pointer none]) :: L, G, F⟩) (c0 := ⟨[(b6, [.slice none 0 0])], [], []⟩) (fun W1 _ => records1_nil w0 W1 bS ((bS, [.pointer none]) :: L) G F (6 - 1) (by decide) List.mem_cons_self) (fun _ => rfl)
  (fun pe xs c W => pe = none ∧ c = ⟨[(b6, [.slice none 0 0])], [], []⟩ ∧ Kb wb.heap.size wb W) (fun _ _ _ _ _ => False) ?hJ (fun _ _ _ _ _ _ h => h.elim) ⟨rfl, rfl, HW2.out.kb⟩ ?h0 ?assign ?body ?done ?stop
 case h0 =>
  show Wc w0 w2 ((bS, [.pointer none]) :: (L ++ [(b6, [.slice none 0 0])])) (G ++ []) (F ++ [])
  rw [List.append_nil, List.append_nil]
  exact ((HW2.out.sub (L' := (b6, [.slice none 0 0]) :: (bS, [.pointer none]) :: L) (.cons_cons _ (.cons_cons _ (.cons _ (List.Sublist.refl _)))) (fun f hf => hf)).perm ((List.Perm.swap _ _ _).trans ((List.perm_append_comm (l₁ := [(b6, [.slice none 0 0])]) (l₂ := L)).cons _)) (List.Perm.refl _)).toWc
 case hJ =>
  rintro pe xs c X Y ⟨h1, h2, h3⟩ hb
  exact ⟨h1, h2, h3.trans (hb.mono hbw)⟩
 case assign =>
  intro lr pre x φ c W1 K hpre
  exact hpre.elim
 case body =>
  intro lr pre x φ c a' W1 hpre
  exact hpre.elim
 case stop =>
  rintro D cd pre φ c W1 hD hfix
  exact hfix.elim
 case done =>
  rintro D xs φ c W1 hD ⟨rfl, rfl⟩ ⟨-, rfl, hkb⟩ hat hK hsz
  have HF := Lib.hid (Wk.start hat.flip)
  have c6 := Kn.own1 (HF.out.boxi 0 rfl)
  clear hat
  go_wp2_with fail
  refine marks_ret1 (v := .slice none 0 0) (D := D) hK (by kernel_rfl) rfl ?_
  have hw := HF.out.toWc.putObj (.deferred none) hK rfl (Nat.le_trans HW2.out.only.size hD)
  simp only [List.append_nil, List.nil_append] at hw
  exact ⟨rfl, hw.sub (L' := L) (.cons _ (.cons _ (List.Sublist.refl _))) (fun f hf => hf), hkb.trans (kb_putObj _ _ (Nat.le_trans hbw hD))⟩
end Go.Proofs.YtgcfdjcpcclcjaaGreat
namespace Go.Kn
open Go Go.RowKit
theorem wpList_copy_full {P : Program} {w : World} {ops : Array Oper} {rest : List Oper} {o : Oper} {a : Act} {Q : Exit → Act → World → Prop} (hgd : o.guard = none) (d s : Operand) (dT sT : TypeId)
  (ho : o.op = .call { callee := .builtin .copy, args := #[d, s], argTypes := #[dT, sT] }) (elem : TypeId) (hu : P.underlying dT = some (.slice elem)) (hsz : (P.info? elem).map (·.size) = some 1)
  (g m : Nat) (sp : Option Addr) (sCap : Nat) (hed : a.eval d = .slice (some ⟨g, 0, none⟩) m m) (hes : a.eval s = .slice sp m sCap)
  (cur : Array Value) (xs : List Value) (hs : Row1 w sp m sCap xs) (hx1 : ∀ u ∈ xs, u.oneCell' = true) (hc : w.heap[g]? = some (.cells cur elem (0, 0))) (hcs : cur.size = m) (hm : 0 < m) (hml : m ≤ maxLen) (base : Nat) (hb : base ≤ g)
  (h : ∀ w', w'.ownsRow base elem 1 (.slice (some ⟨g, 0, none⟩) m m) m xs → Only [g] w w' → wpList P ops Q rest (a.put o.dst (goInt m)) w') : wpList P ops Q (o :: rest) a w := by
 refine wpList_plain hgd fun K hK => ?_
 have hl := hs.len
 obtain ⟨ga, oa, rfl, _⟩ := hs.at_ (by omega)
 have hrun := run_copy_row (P := P) w dT sT o.type elem g 0 m m ⟨ga, oa, none⟩ m sCap cur elem xs hu hsz hc (by rw [hl]; exact (Nat.min_self m).symm) (hs.news rfl) (by omega) hx1
 rw [hl] at hrun
 unfold Oper.wp
 simp only [execOp, ho, resolve, invoke, builtin, hed, hes]
 have e1 : (cur.toList.take 0 ++ xs ++ cur.toList.drop (0 + m)).toArray = xs.toArray := by
  rw [List.take_zero, List.nil_append, List.drop_of_length_le (by simp; omega), List.append_nil]
 rw [e1] at hrun
 simp [hed, hes, hrun, Result.andThen, builtin]
 exact hK _ _ (h _ ⟨by omega, .inr ⟨g, m, xs.toArray, rfl, hb, setRow_heap w g _ _ elem _ hc, Nat.le_refl _, hml, by simp [hl], by simpa using List.take_of_length_le (by omega)⟩⟩ ⟨rfl, rfl, rfl, by simp [World.setRow], fun k _ hk => setRow_other w g k _ (by simpa using hk)⟩)
end Go.Kn
namespace Go.Proofs.YtgcfdjcpcclcjaaGreat
open Go Go.RowKit Go.Kn
set_option maxRecDepth 100000 in
theorem part64_own (A : Option Addr) (c : Nat) (bs : List UInt8) (w : World) (h : Bys w A 64 c bs) :
  Calls Tryz.prog 102 #[.slice A 64 c, .int .i64 0, .int .i64 64] w fun e w' => e = .returned (.slice (some ⟨w.heap.size, 0, none⟩) 64 64) ∧ w'.ownsRow w.heap.size 5 1 (.slice (some ⟨w.heap.size, 0, none⟩) 64 64) 64 (bvs bs) ∧ Only [] w w' := by
 have hlen := h.len
 rw [bvs_length] at hlen
 have hcm := h.cm
 have hcl := h.le
 unfold maxLen at hcm
 have hmk : ∀ w, (Instr.makeSlice 47 (.int .i64 64) (.int .i64 64)).run Tryz.prog w = .ok (.slice (some ⟨w.heap.size, 0, none⟩) 64 64) (w.alloc (.cells (bvs (List.replicate 64 0)).toArray 5)) := fun w => make_bys 64 (by omega) w
 have hsl := fun w => run_slice1 (P := Tryz.prog) w 47 5 Tryz.underlying47 (by kernel_rfl) A 64 c 0 64 0 64 64 .i64 .i64 rfl rfl (by omega) (by omega) (by omega)
 have hcut := (h.alloc (.cells (bvs (List.replicate 64 0)).toArray 5)).cut (l := 0) (m := 64) (by omega)
 rw [bvs_cut, List.drop_zero, List.take_of_length_le (by omega)] at hcut
 have HC := Lib.hid hcut
 have hown := World.alloc_heap_new w (.cells (bvs (List.replicate 64 0)).toArray 5)
 have HO := Lib.hid hown
 have HZ := Lib.hid (show (bvs (List.replicate 64 0)).toArray.size = 64 by simp)
 clear h hcut hown hlen
 generalize (bvs (List.replicate 64 0)).toArray = zs at *
 have hO0 : Only [] w (w.alloc (.cells zs 5)) := (Only.refl _ _).alloc _
 have HO0 := Lib.hid hO0
 clear hO0
 go_enter Tryz.func102, Tryz.ntmps102
 go_wp2_with (first
  | (with_reducible refine wpList_copy_full rfl (.tmp 12) (.tmp 16) 47 47 rfl 5 Tryz.underlying47 (by kernel_rfl) w.heap.size 64 (cutA A c 0) (c - 0) rfl rfl zs (bvs bs) HC.out (bvs_one _) HO.out HZ.out (by decide) (by decide) w.heap.size (Nat.le_refl _) ?_; intro w2 hown2 hO2))
 go_ret
 exact ⟨rfl, hown2, HO0.out.trans hO2 (by simp)⟩
set_option maxRecDepth 100000 in
set_option maxHeartbeats 4000000 in
theorem rk_read_own (w0 w : World) (r : RD) (d : Dk) (c : Fr3) (a : Int) (h : Rsk w0 w r d c) (hh : d.held.length ≤ 1000000) :
  Calls Tryz.prog 33 #[.pointer (some ⟨r.M, 0, none⟩), .int .i64 a] w (RdOwn w (d.read a) (d.err a)) := by
 obtain ⟨v, lv, kk, ls, sl, hs, hl, hm⟩ := h.mem
 have hbx := hm.boxi 0 (p := r.M) (cs := r.box v lv d) rfl
 have c0 := hbx.cell 0 (by simp [RD.box])
 have c1 := hbx.cell 1 (by simp [RD.box])
 have c2 := hbx.cell 2 (by simp [RD.box])
 have c4 := hbx.cell 4 (by simp [RD.box])
 simp only [RD.box, List.getElem_cons_zero, List.getElem_cons_succ] at c0 c1 c2 c4
 have hN := h.N
 have hF := h.ok.f
 have hn := h.ok.n
 have hN1 : 1 ≤ r.N ∧ r.N ≤ 4096 := by omega
 obtain ⟨hN1, hN2⟩ := hN1
 have HHA := Lib.hid (has_iff hN a)
 by_cases ho : d.has a = true
 ·have hr : 0 ≤ a ∧ a < (r.N : Int) := by unfold Dk.has at ho; simp only [decide_eq_true_eq] at ho; omega
  obtain ⟨k, rfl⟩ : ∃ k : Nat, a = k := ⟨a.toNat, by omega⟩
  have hkN : k < r.N := by omega
  have HO := Lib.hid ho
  by_cases hof : d.off = true
  ·obtain ⟨e1, e2⟩ := Dk.err_off ho hof
   rw [e1, e2]
   rw [hof] at c4
   clear hm hbx h hN hF hn ho hof e1 e2 c1 c2 hl
   go_enter Tryz.func33, Tryz.ntmps33
   go_wp2_with fail
   refine (within_any (k : Int) 0 ((r.N : Int) - 1) _).mono ?_
   rintro e w1 ⟨rfl, rfl⟩
   rw [HHA.out, HO.out]
   go_wp2
   go_ret2
   exact RdOwn.none _ _
  ·rw [Bool.not_eq_true] at hof
   have hfb := hm.boxi 2 (p := r.f) (cs := bls d.faults) rfl
   have hbl : k < (bls d.faults).length := by rw [bls_length]; omega
   have q0 := hfb.cell k hbl
   have hbg : (bls d.faults)[k] = .bool (d.bad k) := by
    unfold Dk.bad
    rw [bls_get, List.getD_eq_getElem?_getD, show ((k : Int)).toNat = k from by omega, List.getElem?_eq_getElem (by omega), Option.getD_some]
   rw [hbg] at q0
   rw [hof] at c4
   by_cases hb : d.bad k = true
   ·obtain ⟨e1, e2⟩ := Dk.err_bad ho hof hb
    rw [e1, e2]
    rw [hb] at q0
    clear hm hbx hfb h hN hF hn ho hof e1 e2 c1 hbg hbl hb hl
    go_enter Tryz.func33, Tryz.ntmps33
    go_wp2_with fail
    refine (within_any (k : Int) 0 ((r.N : Int) - 1) _).mono ?_
    rintro e w1 ⟨rfl, rfl⟩
    rw [HHA.out, HO.out]
    go_wp2
    go_ret2
    exact RdOwn.none _ _
   ·rw [Bool.not_eq_true] at hb
    obtain ⟨e1, e2⟩ := Dk.err_ok ho hof hb
    have hsec : d.sector k = (Dk.over d.safe (d.held.take d.held.length)).getD k [] := by
     rw [List.take_length]
     rfl
    rw [e1, e2, hsec]
    have HLS : Hid ((d.sector k).length = 64) := Lib.hid (Dk.sector_64 h.ok ho)
    rw [hsec] at HLS
    rw [hb] at q0
    have hsb := hm.boxi 1 (p := r.s) (cs := sl.map slv) rfl
    have hB1 := hm.fi 0 rfl
    have hB2 := hm.fi 1 rfl
    have hkl : k < sl.length := by rw [hB1.1]; omega
    have q1 := hsb.cell k (by simpa using hkl)
    rw [List.getElem_map] at q1
    have hs0 := hB1.2 k hkl (by omega)
    obtain ⟨⟨A0, n0, k0⟩, hsl⟩ : ∃ s, sl[k] = s := ⟨_, rfl⟩
    rw [hsl] at q1 hs0
    obtain rfl : n0 = 64 := by
     have h1 := hs0.len
     have h2 := h.ok.s d.safe[k] (List.getElem_mem _)
     rw [bvs_length] at h1
     have h3 : d.safe[k].length = n0 := h1
     omega
    have hs1 : Bys w A0 64 k0 ((Dk.over d.safe (d.held.take 0)).getD k []) := by
     have : (Dk.over d.safe (d.held.take 0)).getD k [] = d.safe[k] := by
      rw [List.take_zero]
      show d.safe.getD k [] = _
      rw [List.getD_eq_getElem?_getD, List.getElem?_eq_getElem (by omega), Option.getD_some]
     rw [this]
     exact hs0
    have HS1 := Lib.hid hs1
    obtain ⟨Ah, ch, rfl⟩ := hm.gform 0 rfl
    obtain ⟨A', c', hv, _, _, hcl, _⟩ := (hm.gath (x := ⟨175, 2, .slice Ah d.held.length ch, d.held.length, heldR d.held hs⟩) List.mem_cons_self).form (by show 0 < 2; omega)
    injection hv with e1 e2 e3
    subst e1 e3
    have HCL := Lib.hid hcl
    have HB2 := Lib.hid hB2
    have HHL := Lib.hid hl
    have H := Lib.hid h
    obtain ⟨n, hhn⟩ : ∃ n, d.held.length = n := ⟨_, rfl⟩
    rw [hhn] at c1 hh
    have HHN := Lib.hid hhn
    simp only [slv] at q1
    clear hm hbx hfb h hN hF hn ho hof e1 e2 hbg hbl hb hl hsec hsb hB1 hB2 hkl hs0 hsl hs1 hcl hhn
    go_enter Tryz.func33, Tryz.ntmps33
    go_wp2_with fail
    refine (within_any (k : Int) 0 ((r.N : Int) - 1) _).mono ?_
    rintro e w1 ⟨rfl, rfl⟩
    rw [HHA.out, HO.out]
    go_wp2_with fail
    rw [HHN.out]
    go_loopg [6, 7] n (fun r t6 i wr => ∃ (j : Nat) (A : Option Addr) (cc : Nat), j + r = n ∧ i = .int .i64 j ∧ t6 = .slice A 64 cc ∧ wr = w ∧ Bys w A 64 cc ((Dk.over d.safe (d.held.take j)).getD k []))
    case atStart => exact ⟨0, A0, k0, by omega, rfl, rfl, rfl, HS1.out⟩
    obtain ⟨j, A, cc, hj, rfl, rfl, rfl, hby⟩ := hrel
    have HBY := Lib.hid hby
    clear hby q1 q0
    by_cases hlt : j < n
    ·have hjl : j < d.held.length := by rw [HHN.out]; exact hlt
     obtain ⟨g, rfl, _, _, hcells⟩ := HCL.out (by omega)
     obtain ⟨g0, g1⟩ := heldR_get d.held hs HHL.out.symm j hjl
     have y0 := hcells _ _ g0
     have y1 := hcells _ _ g1
     have hjh : j < hs.length := by rw [HHL.out]; exact hjl
     have hbb := HB2.out.2 j hjh (by simpa using hjl)
     rw [List.getElem_map] at hbb
     have h64 := (H.out.ok.h d.held[j] (List.getElem_mem _)).2
     have hov := over_at d.safe d.held j k hjl (by rw [H.out.N]; exact hkN)
     obtain ⟨⟨A1, n1, k1⟩, hs1⟩ : ∃ s, hs[j] = s := ⟨_, rfl⟩
     rw [hs1] at y1 hbb
     obtain rfl : n1 = 64 := by
      have h1 := hbb.len
      rw [bvs_length] at h1
      have h3 : d.held[j].2.length = n1 := h1
      omega
     simp only [slv] at y1
     rw [Nat.mul_comm 2 j] at y0 y1
     have HOV := Lib.hid hov
     have HBB := Lib.hid hbb
     have hlt2 : (j : Int) < (n : Int) := by omega
     generalize d.held[j].1 = x at *
     generalize d.held[j].2 = b at *
     clear hcells g0 g1 hbb h64 hov hs1 hjl hjh
     by_cases hx : x = k
     ·subst hx
      clear c0 c2 c4
      go_wp2_with fail
      go_roundg (gk - 1)
      case measure => omega
      case rel => exact ⟨j + 1, A1, k1, by omega, by go_num, rfl, rfl, by rw [HOV.out, if_pos trivial]; exact HBB.out⟩
     ·have hx2 : ((x : Int) == (k : Int)) = false := by simp; omega
      have HX := Lib.hid hx
      clear hx c0 c2 c4
      go_wp2_with fail
      go_roundg (gk - 1)
      case measure => omega
      case rel => exact ⟨j + 1, A, cc, by omega, by go_num, rfl, rfl, by rw [HOV.out, if_neg HX.out]; exact HBY.out⟩
    ·obtain rfl : j = n := by omega
     clear c0 c2 c4
     have hnn := HHN.out
     go_wp2_with fail
     refine (part64_own A cc _ _ HBY.out).mono ?_
     rintro en wa ⟨rfl, ho7, hO⟩
     rw [← HHN.out] at ho7
     have HF := Lib.hid ho7
     have HO9 := Lib.hid hO
     clear ho7 hO hnn
     go_wp2
     go_ret2
     rw [← HHN.out]
     exact ⟨_, 64, rfl, HF.out, HO9.out⟩
 ·rw [Bool.not_eq_true] at ho
  obtain ⟨e1, e2⟩ := Dk.err_no ho
  rw [e1, e2]
  have HO := Lib.hid ho
  clear hm hbx h hN hF hn ho e1 e2 c1 c2 c4 hl
  go_enter Tryz.func33, Tryz.ntmps33
  go_wp2_with fail
  refine (within_any a 0 ((r.N : Int) - 1) _).mono ?_
  rintro e w1 ⟨rfl, rfl⟩
  rw [HHA.out, HO.out]
  go_wp2
  go_ret2
  exact RdOwn.none _ _
set_option maxRecDepth 100000 in
set_option maxHeartbeats 2000000 in
theorem ref_next_any (x : Rc) (s t : Option Addr × Nat × Nat) (w : World) (hi : Its w s.1 s.2.1 s.2.2 x.its) :
  Calls Tryz.prog 106 #[.agg (x.cells s t)] w fun e w' => e = .returned (.int .i64 ((nextOf x).getD (-1))) ∧ Only [] w w' := by
 obtain ⟨A, n, c⟩ := s
 obtain ⟨t1, t2, t3⟩ := t
 have hcm := hi.cm
 have hcl := hi.le
 have hlen := hi.len
 unfold maxLen at hcm
 simp only at hi hcm hcl hlen
 have HB := Lib.hid (Own.new w #[.int .i64 x.m, .int .i64 x.n, .int .i64 x.p, .slice A n c, .slice t1 t2 t3] 56)
 have HO := Lib.hid ((Only.refl [] w).alloc (.cells #[.int .i64 x.m, .int .i64 x.n, .int .i64 x.p, .slice A n c, .slice t1 t2 t3] 56))
 have HI := Lib.hid (hi.keep0 HO.out)
 have HL := Lib.hid hlen
 have HNX := Lib.hid (nextOf_eq x)
 clear hi hlen
 unfold Rc.cells
 simp only [slv]
 go_enter Tryz.func106, Tryz.ntmps106
 go_wp2_with fail
 generalize w.alloc (.cells #[.int .i64 x.m, .int .i64 x.n, .int .i64 x.p, .slice A n c, .slice t1 t2 t3] 56) = w1 at *
 obtain ⟨b1, hb1⟩ : ∃ b, b = w.heap.size := ⟨_, rfl⟩
 rw [← hb1] at HB ⊢
 clear hb1
 obtain ⟨l, hl⟩ : ∃ l, l = x.its := ⟨_, rfl⟩
 rw [← hl] at HI HL HNX
 have y3 := HB.out.cell 3 (by simp)
 simp only [List.getElem_cons_zero, List.getElem_cons_succ] at y3
 go_loopg [3] n (fun r i wr => ∃ j : Nat, j + r = n ∧ i = .int .i64 j ∧ wr = w1 ∧ (l.take j).find? is7 = none)
 case atStart => exact ⟨0, by omega, rfl, rfl, by simp⟩
 obtain ⟨j, hj, rfl, rfl, hal⟩ := hrel
 have HAL := Lib.hid hal
 clear hal
 by_cases hlt : j < n
 ·have hjz : j < l.length := by rw [HL.out]; exact hlt
  obtain ⟨a, o, rfl, hc⟩ := HI.out.at_ (by omega)
  obtain ⟨c0, c1, c2, c3⟩ := hc j hjz
  obtain ⟨⟨ik, ib, ic, iv⟩, hit⟩ : ∃ i, l[j] = i := ⟨_, rfl⟩
  rw [hit] at c0 c1 c2 c3
  simp only at c0 c1 c2 c3
  have h7 : is7 l[j] = (ik == 7) := by rw [hit]; rfl
  have H7 := Lib.hid h7
  have HIT := Lib.hid hit
  clear hc hit h7
  have hlt2 : (j : Int) < (n : Int) := by omega
  by_cases hm : ik = 7
  ·subst hm
   have H8 : Hid (is7 l[j] = true) := Lib.hid H7.out
   go_wp2
   go_ret
   refine ⟨?_, HO.out⟩
   rw [HNX.out, find_at hjz HAL.out H8.out, HIT.out]
   rfl
  ·have h1 : (ik == 7) = false := by simpa using hm
   have H8 : Hid (is7 l[j] = false) := Lib.hid (by rw [H7.out, h1])
   have HM := Lib.hid hm
   clear hm
   go_wp2
   go_roundg (gk - 1)
   case measure => omega
   case rel => exact ⟨j + 1, by omega, by go_num, rfl, find_step hjz HAL.out H8.out⟩
 ·obtain rfl : j = n := by omega
  have hfull : l.take j = l := List.take_of_length_le (by rw [HL.out]; omega)
  have hal := HAL.out
  rw [hfull] at hal
  have HAL' := Lib.hid hal
  clear hal hfull
  go_wp2
  go_ret
  refine ⟨?_, HO.out⟩
  rw [HNX.out, HAL'.out]
  rfl
end Go.Proofs.YtgcfdjcpcclcjaaGreat
namespace Go.Kn
open Go Go.RowKit
theorem rcFit_ref {b : List UInt8} (h : 64 ≤ b.length) : rcFit b = decide (64 * sizeRc (b.take 64) = b.length) := by
 have e1 : (b.take 64).take 2 = b.take 2 := by rw [List.take_take]; rfl
 have e2 : ((b.take 64).drop 14).take 1 = (b.drop 14).take 1 := by rw [List.drop_take, List.take_take]; rfl
 have e3 : ((b.take 64).drop 15).take 1 = (b.drop 15).take 1 := by rw [List.drop_take, List.take_take]; rfl
 have h1 : rcHd (b.take 64) = rcHd b := by unfold rcHd rcN rcK; rw [e1, e2, e3]
 have h2 : rcK (b.take 64) = rcK b := by unfold rcK; rw [e3]
 have h3 : (b.take 64).length = 64 := by rw [List.length_take]; omega
 unfold rcFit sizeRc
 rw [h1, h2, h3]
 cases hd : rcHd b with
 | false =>
  rw [if_neg (by simp), Bool.false_and]
  symm
  simp
  omega
 | true =>
  rw [if_pos ⟨rfl, rfl⟩, Bool.true_and]
  congr 1
  simp only [eq_iff_iff]
  omega
theorem rc_short {b : List UInt8} (h : b.length < 64) : rcFit b = false := by
 cases hf : rcFit b with
 | false => rfl
 | true =>
  obtain ⟨_, hl⟩ := rcFit_iff.1 hf
  omega
theorem addr_add0 (a : Addr) : a.add 0 = a := by rcases a with ⟨b, o, p⟩; cases p <;> rfl
theorem run_slice1_hi {P : Program} (w : World) (t e : TypeId) (ht : P.underlying t = some (.slice e)) (hs : (P.info? e).map (·.size) = some 1) (A : Option Addr) (len cap : Nat) (hi : Int) (h : Nat) (kh : IntKind)
  (e2 : hi = h) (hh : h ≤ cap) :
  (Instr.slice t (.slice A len cap) none (some (.int kh hi)) none).run P w = .ok (.slice A h cap) w := by
 subst e2
 cases hq : P.info? e with
 | none => simp [hq] at hs
 | some i =>
  simp [hq] at hs
  simp [Instr.slice, Instr.sliceBounds, Instr.sliceBound, run_underlying ht, sizeOf, typeInfo, hq, asIntOf, hh, hs, addr_add0]
/-- two boxes and a row that is read -/
structure Dr2 (w0 w : World) (p g k f fr : Nat) (bs : List UInt8) (vs us : List Value) : Prop where
 d : Decs w0 w p g k f bs vs
 r : Kn.Own w fr us
 rp : fr ≠ p
 rf : fr ≠ f
 hr : w0.heap.size ≤ fr
section
variable {w0 w w' : World} {p g k k' f fr : Nat} {bs : List UInt8} {vs us : List Value}
theorem Dr2.keep (h : Dr2 w0 w p g k f fr bs vs us) (hO : Only [] w w') : Dr2 w0 w' p g k f fr bs vs us := ⟨h.d.keep hO, h.r.keep0 hO, h.rp, h.rf, h.hr⟩
theorem Dr2.got (h : Dr2 w0 w p g k f fr bs vs us) (hr : RowAt w' p g bs k') (hO : Only [p] w w') : Dr2 w0 w' p g k' f fr bs vs us := ⟨h.d.got hr hO, h.r.keep hO (by simpa using h.rp), h.rp, h.rf, h.hr⟩
theorem Dr2.place (h : Dr2 w0 w p g k f fr bs vs us) (hk : k' ≤ bs.length) : Dr2 w0 (w.setCell ⟨p, 1, none⟩ (.int .i64 (k' : Int))) p g k' f fr bs vs us := ⟨h.d.place hk, h.r.far (Ne.symm h.rp) _, h.rp, h.rf, h.hr⟩
theorem Dr2.put (h : Dr2 w0 w p g k f fr bs vs us) (i : Nat) (u : Value) : Dr2 w0 (w.setCell ⟨f, i, none⟩ u) p g k f fr bs (vs.set i u) us := ⟨h.d.put i u, h.r.far (Ne.symm h.rf) _, h.rp, h.rf, h.hr⟩
end
theorem Wc.mk2 {w0 w : World} {f fr : Nat} {cs us : List Value} (hO : Only [] w0 w) (ho : Kn.Own w f cs) (hf : w0.heap.size ≤ f) (ho2 : Kn.Own w fr us) (hf2 : w0.heap.size ≤ fr) (hne : fr ≠ f) : Wc w0 w [(f, cs), (fr, us)] [] [] :=
 ⟨hO, by intro x hx; simp at hx; rcases hx with rfl | rfl <;> assumption, by intro x hx; simp at hx; rcases hx with rfl | rfl <;> assumption, by simp; exact fun e => hne e.symm, by simp, by simp, by simp, by simp⟩
end Go.Kn
namespace Go.Proofs.YtgcfdjcpcclcjaaGreat
open Go Go.RowKit Go.Kn
set_option maxRecDepth 100000 in
set_option maxHeartbeats 16000000 in
theorem ref_rec_dec_any (A : Option Addr) (n c : Nat) (bs : List UInt8) (w : World) (hi : Bys w A n c bs) (hn : n ≤ 60000) :
  Calls Tryz.prog 160 #[.slice A n c] w (RcSays w (decRc bs) 2) := by
 have hres : Tryz.f160.results = #[.cell 2 56, .tmp 3, .tmp 4] := by kernel_rfl
 have HRES := Lib.hid hres
 obtain ⟨i0, hi0, hz0, hz1, hz2⟩ := info_parts Tryz.infoBys
 have hlen := hi.len
 have hnc := hi.le
 have hcm := hi.cm
 rw [bvs_length] at hlen
 have HI := Lib.hid hi
 have HL := Lib.hid hlen
 unfold maxLen at hcm
 have hB0 := (Own.new w #[.int .i64 0, .int .i64 0, .int .i64 0, .slice none 0 0, .slice none 0 0] 56).alloc (.cells #[.int .i64 0, .int .i64 0, .int .i64 0, .slice none 0 0, .slice none 0 0] 56)
 have hB1 := Own.new (w.alloc (.cells #[.int .i64 0, .int .i64 0, .int .i64 0, .slice none 0 0, .slice none 0 0] 56)) #[.int .i64 0, .int .i64 0, .int .i64 0, .slice none 0 0, .slice none 0 0] 56
 have hO0 := ((Only.refl [] w).alloc (.cells #[.int .i64 0, .int .i64 0, .int .i64 0, .slice none 0 0, .slice none 0 0] 56)).alloc (.cells #[.int .i64 0, .int .i64 0, .int .i64 0, .slice none 0 0, .slice none 0 0] 56)
 have hi0' := (HI.out.alloc (.cells #[.int .i64 0, .int .i64 0, .int .i64 0, .slice none 0 0, .slice none 0 0] 56)).alloc (.cells #[.int .i64 0, .int .i64 0, .int .i64 0, .slice none 0 0, .slice none 0 0] 56)
 have hsz : (w.alloc (.cells #[.int .i64 0, .int .i64 0, .int .i64 0, .slice none 0 0, .slice none 0 0] 56)).heap.size = w.heap.size + 1 := by simp
 rw [hsz] at hB1
 have hfl := hB1.lt
 have hrl := hB0.lt
 clear hi hlen hres hsz
 go_enter Tryz.func160, Tryz.ntmps160
 go_upto_region 2 with fail
 generalize (w.alloc (.cells #[.int .i64 0, .int .i64 0, .int .i64 0, .slice none 0 0, .slice none 0 0] 56)).alloc (.cells #[.int .i64 0, .int .i64 0, .int .i64 0, .slice none 0 0, .slice none 0 0] 56) = w0 at *
 obtain ⟨f, hf⟩ : ∃ f, f = w.heap.size + 1 := ⟨_, rfl⟩
 obtain ⟨fr, hfr⟩ : ∃ f, f = w.heap.size := ⟨_, rfl⟩
 rw [← hf] at hB1 hfl ⊢
 rw [← hfr] at hB0 hrl ⊢
 have hrf : fr ≠ f := by omega
 have hfw : w.heap.size ≤ f := by omega
 have hrw : w.heap.size ≤ fr := by omega
 clear hf hfr
 have HB0 := Lib.hid hB0
 have HB1 := Lib.hid hB1
 have HO0 := Lib.hid hO0
 have HI0 := Lib.hid hi0'
 obtain ⟨hx0, hx1, hx2, hx3, hx4⟩ := Kn.own5 hB1
 obtain ⟨hy0, hy1, hy2, hy3, hy4⟩ := Kn.own5 hB0
 have hz0 := hB0.frozen 0
 have hz1 := hB0.frozen 1
 have hz2 := hB0.frozen 2
 have hz3 := hB0.frozen 3
 have hz4 := hB0.frozen 4
 have hzl := hB0.lt
 clear hB0 hB1 hO0 hi0'
 by_cases h64 : n < 64
 ·have HNO : Hid (decRc bs = none) := Lib.hid (rc_not_fit (rc_short (by rw [HL.out]; exact h64)))
  have hd : decide ((n : Int) < 64) = true := by simp; omega
  go_wp2
  (try simp only [Exit.inBlock, Exit.then])
  refine bodyPost_ret (v := (.tuple #[.agg #[.int .i64 0, .int .i64 0, .int .i64 0, .slice none 0 0, .slice none 0 0], .int .i64 0, .int .i64 2])) ?_ rfl (RcSays.no HNO.out ?_)
  ·simp only [results, HRES.out]
   go_simp
  ·(repeat' first | (with_reducible refine Only.set ?_ (.inr hrw) _) | (with_reducible exact HO0.out))
 have hd64 : decide ((n : Int) < 64) = false := by simp; omega
 have hs60 : ∀ w, (Instr.slice 47 (.slice A n c) none (some (.int .i64 64)) none).run Tryz.prog w = .ok (.slice A 64 c) w := fun w => by
  have h := run_slice1_hi (P := Tryz.prog) w 47 5 Tryz.underlying47 (by kernel_rfl) A n c 64 64 .i64 rfl (by omega)
  exact h
 have HC1 : Hid (∀ V, Bys V A n c bs → Bys V A 64 c (bs.take 64)) := Lib.hid (fun V h => by
  have h2 := h.cut (l := 0) (m := 64) (by omega)
  rw [bvs_cut, List.drop_zero, Nat.sub_zero] at h2
  have e : cutA A c 0 = A := by
   rw [cutA, if_neg (by omega)]
   simp [addr_add0]
  rwa [e] at h2)
 have hsz6 : sizeRc (bs.take 64) ≤ 256 := by
  unfold sizeRc rcK
  have := num_lt (((bs.take 64).drop 15).take 1)
  have h2 : (((bs.take 64).drop 15).take 1).length ≤ 1 := by simp <;> omega
  have h3 : (256 : Nat) ^ (((bs.take 64).drop 15).take 1).length ≤ 256 ^ 1 := Nat.pow_le_pow_right (by decide) h2
  split <;> omega
 have hfe := rcFit_ref (b := bs) (by rw [HL.out]; omega)
 rw [HL.out] at hfe
 obtain ⟨sq, hsq⟩ : ∃ x, sizeRc (bs.take 64) = x := ⟨_, rfl⟩
 rw [hsq] at hsz6 hfe
 have HSQ := Lib.hid hsq
 have HFE := Lib.hid hfe
 have hw1 : IntKind.i64.wrap ((sq : Int) * 64) = (sq : Int) * 64 := IntWalk.i64_in _ (by omega)
 clear hsq hfe
 go_wp2_with fail
 refine (ref_rec_size_any A 64 c (bs.take 64) _ (HC1.out _ HI0.out)).mono ?_
 rintro en w1 ⟨rfl, hO1⟩
 rw [HSQ.out]
 have HB0n := Lib.hid (HB0.out.keep0 hO1)
 have HB1n := Lib.hid (HB1.out.keep0 hO1)
 have HO1 := Lib.hid (HO0.out.trans' hO1)
 have HI1 := Lib.hid (HI0.out.keep0 hO1)
 clear hO1 HB0 HB1 HO0 HI0 hs60 hx0 hx1 hx2 hx3 hx4 hy0 hy1 hy2 hy3 hy4 hz0 hz1 hz2 hz3 hz4 hzl hfl hrl
 obtain ⟨hx0, hx1, hx2, hx3, hx4⟩ := Kn.own5 HB1n.out
 obtain ⟨hy0, hy1, hy2, hy3, hy4⟩ := Kn.own5 HB0n.out
 have hz0 := HB0n.out.frozen 0
 have hz1 := HB0n.out.frozen 1
 have hz2 := HB0n.out.frozen 2
 have hz3 := HB0n.out.frozen 3
 have hz4 := HB0n.out.frozen 4
 have hzl := HB0n.out.lt
 by_cases hfit : ¬ (64 * sq = n)
 ·have HNO : Hid (decRc bs = none) := Lib.hid (rc_not_fit (by rw [HFE.out]; exact decide_eq_false hfit))
  have hd : ((sq : Int) * 64 != (n : Int)) = true := by simp; omega
  clear hfit
  go_wp2
  (try simp only [Exit.inBlock, Exit.then])
  refine bodyPost_ret (v := (.tuple #[.agg #[.int .i64 0, .int .i64 0, .int .i64 0, .slice none 0 0, .slice none 0 0], .int .i64 0, .int .i64 2])) ?_ rfl (RcSays.no HNO.out ?_)
  ·simp only [results, HRES.out]
   go_simp
  ·(repeat' first | (with_reducible refine Only.set ?_ (.inr hrw) _) | (with_reducible exact HO1.out))
 have hsn : 64 * sq = n := Classical.not_not.1 hfit
 have hd : ((sq : Int) * 64 != (n : Int)) = false := by simp; omega
 have hft : rcFit bs = true := by rw [HFE.out]; exact decide_eq_true hsn
 have HFT := Lib.hid hft
 obtain ⟨⟨-, ⟨h1N, hN6⟩, hKN⟩, hlk⟩ := rcFit_iff.1 hft
 rw [HL.out] at hlk
 obtain ⟨Nv, hNv⟩ : ∃ x, rcN bs = x := ⟨_, rfl⟩
 obtain ⟨kb, hkb⟩ : ∃ x, rcK bs = x := ⟨_, rfl⟩
 have HNR := Lib.hid hNv
 have HKR := Lib.hid hkb
 rw [hNv] at h1N hN6 hKN
 rw [hkb] at hKN hlk
 have HNK := Lib.hid hlk
 have hn7 : n ≤ 448 := by omega
 have hnb : 64 ≤ n := by omega
 clear hft hNv hkb hlk hfit HFE hsn
 go_wp2_with fail
 refine (ref_from_any A n c bs _ (by exact HI1.out) (by omega)).mono ?_
 rintro en w2 ⟨p, g, rfl, hp, hg, hr, hO⟩
 have hd2 : Dr2 w w2 p g 0 f fr bs [.int .i64 0, .int .i64 0, .int .i64 0, .slice none 0 0, .slice none 0 0] [.int .i64 0, .int .i64 0, .int .i64 0, .slice none 0 0, .slice none 0 0] := ⟨Decs.start HB1n.out hfw HO1.out hp hg hr hO, HB0n.out.keep0 hO, by omega, hrf, hrw⟩
 have HS := Lib.hid hd2
 clear hp hg hr hO hd2 HB0n HB1n HI1 HO1 hd hd64 hw1 hx0 hx1 hx2 hx3 hx4 hy0 hy1 hy2 hy3 hy4 hz0 hz1 hz2 hz3 hz4 hzl
 have hq0 := HS.out.d.row.fk
 have hq1 := HS.out.d.row.pz 1
 have hq2 := HS.out.d.row.lp
 go_upto_region 6 with fail
 have HSn := Lib.hid (HS.out.place (k' := 2) (by rw [HL.out]; omega))
 rw [show ((2 : Nat) : Int) = 2 from rfl] at HSn
 clear HS hq0 hq1 hq2
 have HS := HSn
 clear HSn
 generalize World.setCell w2 ⟨p, 1, none⟩ (.int .i64 2) = w3 at *
 have HRM : Hid (((num ((bs.drop 2).take 4) : Nat) : Int) = rd bs 2 4) := Lib.hid rfl
 have HRN : Hid (((num ((bs.drop 6).take 4) : Nat) : Int) = rd bs 6 4) := Lib.hid rfl
 have HRP : Hid (((num ((bs.drop 10).take 4) : Nat) : Int) = rd bs 10 4) := Lib.hid rfl
 have HRO : Hid (rcOf bs = ⟨rd bs 2 4, rd bs 6 4, rd bs 10 4, (rcOf bs).its, rcBl bs kb⟩) := Lib.hid (by rw [← HKR.out]; rfl)
 generalize rd bs 2 4 = rm at *
 generalize rd bs 6 4 = rn at *
 generalize rd bs 10 4 = rp at *
 go_wp2_with fail
 refine (ref_num_any p g 2 bs 4 _ HS.out.d.row (by decide) (by rw [HL.out]; omega)).mono ?_
 rintro en w4 ⟨rfl, hr, hO⟩
 rw [HRM.out]
 have HSg := Lib.hid (HS.out.got hr hO)
 clear hr hO HS
 have hq0 := Kn.own1 HSg.out.d.box
 have hq1 := HSg.out.d.box.frozen 0
 have hq2 := HSg.out.d.box.lt
 have hp5 := HSg.out.put 0 (.int .i64 rm)
 simp only [List.set_cons_zero, List.set_cons_succ] at hp5
 have HS := Lib.hid hp5
 clear hp5 HSg
 go_upto_region 7 with fail
 generalize hw5 : World.setCell w4 ⟨f, 0, none⟩ (.int .i64 rm) = w5 at *
 clear hw5 hq0 hq1 hq2
 go_wp2_with fail
 refine (ref_num_any p g 6 bs 4 _ HS.out.d.row (by decide) (by rw [HL.out]; omega)).mono ?_
 rintro en w6 ⟨rfl, hr, hO⟩
 rw [HRN.out]
 have HSg := Lib.hid (HS.out.got hr hO)
 clear hr hO HS
 have hq0 := HSg.out.d.box.cell 1 (by simp)
 simp only [List.getElem_cons_zero, List.getElem_cons_succ] at hq0
 have hq1 := HSg.out.d.box.frozen 1
 have hq2 := HSg.out.d.box.lt
 have hp5 := HSg.out.put 1 (.int .i64 rn)
 simp only [List.set_cons_zero, List.set_cons_succ] at hp5
 have HS := Lib.hid hp5
 clear hp5 HSg
 go_upto_region 8 with fail
 generalize hw5 : World.setCell w6 ⟨f, 1, none⟩ (.int .i64 rn) = w7 at *
 clear hw5 hq0 hq1 hq2
 go_wp2_with fail
 refine (ref_num_any p g 10 bs 4 _ HS.out.d.row (by decide) (by rw [HL.out]; omega)).mono ?_
 rintro en w8 ⟨rfl, hr, hO⟩
 rw [HRP.out]
 have HSg := Lib.hid (HS.out.got hr hO)
 clear hr hO HS
 have hq0 := HSg.out.d.box.cell 2 (by simp)
 simp only [List.getElem_cons_zero, List.getElem_cons_succ] at hq0
 have hq1 := HSg.out.d.box.frozen 2
 have hq2 := HSg.out.d.box.lt
 have hp5 := HSg.out.put 2 (.int .i64 rp)
 simp only [List.set_cons_zero, List.set_cons_succ] at hp5
 have HS := Lib.hid hp5
 clear hp5 HSg
 go_upto_region 9 with fail
 generalize hw5 : World.setCell w8 ⟨f, 2, none⟩ (.int .i64 rp) = w9 at *
 clear hw5 hq0 hq1 hq2
 have HNM : Hid (num ((bs.drop 14).take 1) = Nv) := HNR
 have HKM : Hid (num ((bs.drop 15).take 1) = kb) := HKR
 go_wp2_with fail
 refine (ref_num_any p g 14 bs 1 _ HS.out.d.row (by decide) (by rw [HL.out]; omega)).mono ?_
 rintro en wa ⟨rfl, hr, hO⟩
 rw [HNM.out]
 have HSg := Lib.hid (HS.out.got hr hO)
 clear hr hO HS
 go_wp2_with fail
 refine (ref_num_any p g 15 bs 1 _ HSg.out.d.row (by decide) (by rw [HL.out]; omega)).mono ?_
 rintro en wb ⟨rfl, hr, hO⟩
 rw [HKM.out]
 have HS := Lib.hid (HSg.out.got hr hO)
 clear hr hO HSg
 have hw3 : IntKind.i64.wrap (7 * (Nv : Int)) = 7 * (Nv : Int) := IntWalk.i64_in _ (by omega)
 go_wp2_with fail
 rw [show (7 : Int) * (Nv : Int) = ((7 * Nv : Nat) : Int) from by omega]
 refine (ref_take_any p g 16 bs (7 * Nv) _ HS.out.d.row (by rw [HL.out]; omega)).mono ?_
 rintro en wc ⟨A3, c3, rfl, hc3, hm3, hpos3, hr3, hO3⟩
 obtain ⟨g3, rfl, hg3, ho3⟩ := hpos3 (by omega)
 have HB3 : Hid (Bys wc (some ⟨g3, 0, none⟩) (7 * Nv) c3 ((bs.drop 16).take (7 * Nv))) := Lib.hid (Row1.of_Own ho3 (by rw [bvs_length, ← HNR.out]; exact rc_its_len HFT.out) hc3 hm3)
 have HS4 := Lib.hid (HS.out.got hr3 hO3)
 clear hw3 hpos3 hr3 hO3 ho3 HS
 obtain ⟨L7, hL7⟩ : ∃ x, x = 7 * Nv := ⟨_, rfl⟩
 rw [← hL7] at HB3 hc3 ⊢
 have hL42 : L7 ≤ 42 := by omega
 have HL7 := Lib.hid hL7
 clear hL7
 go_wp2_with fail
 refine (ref_item_of_any (some ⟨g3, 0, none⟩) L7 c3 _ _ (by exact HB3.out)).mono ?_
 rintro en wd ⟨A4, c4, rfl, hits, hfr, hO4⟩
 have HS5 := Lib.hid (HS4.out.keep hO4)
 have hw3s := HS4.out.d.only.size
 have hf3 := HS4.out.d.box.lt
 have hf4 := HS4.out.r.lt
 obtain ⟨hx0, hx1, hx2, hx3, hx4⟩ := Kn.own5 HS5.out.d.box
 have hv0 := HS5.out.d.box.frozen 0
 have hv1 := HS5.out.d.box.frozen 1
 have hv2 := HS5.out.d.box.frozen 2
 have hv3 := HS5.out.d.box.frozen 3
 have hv4 := HS5.out.d.box.frozen 4
 have hvl := HS5.out.d.box.lt
 obtain ⟨hy0, hy1, hy2, hy3, hy4⟩ := Kn.own5 HS5.out.r
 have hz0 := HS5.out.r.frozen 0
 have hz1 := HS5.out.r.frozen 1
 have hz2 := HS5.out.r.frozen 2
 have hz3 := HS5.out.r.frozen 3
 have hz4 := HS5.out.r.frozen 4
 have hzl := HS5.out.r.lt
 clear hO4 HS4 HB3
 rw [HL7.out, ← HNR.out] at hits hfr ⊢
 cases hdi : decItems ((bs.drop 16).take (7 * rcN bs)) with
 | none =>
  have hno : decRc bs = none := rc_no_items HFT.out hdi
  have HNO := Lib.hid hno
  simp only [Option.getD_none, Option.isSome_none, List.length_nil, Bool.false_eq_true, if_false]
  clear hits hfr hno
  go_wp2
  (try simp only [Exit.inBlock, Exit.then])
  refine bodyPost_ret (v := (.tuple #[.agg #[.int .i64 0, .int .i64 0, .int .i64 0, .slice none 0 0, .slice none 0 0], .int .i64 0, .int .i64 2])) ?_ rfl (RcSays.no HNO.out ?_)
  ·simp only [results, HRES.out]
   go_simp
  ·(repeat' first | (with_reducible refine Only.set ?_ (.inr hrw) _) | (with_reducible exact HS5.out.d.only))
 | some its =>
  have hie := rc_some_items HFT.out hdi
  have hil : its.length = Nv := by rw [hie, ← HNR.out]; exact parse_length _ _
  rw [hdi] at hits hfr
  simp only [Option.getD_some] at hits hfr
  rw [hil] at hits hfr
  simp only [Option.getD_some, Option.isSome_some, if_true]
  rw [hil]
  rw [← hie] at HRO
  have HFR : Hid (0 < Nv → ∀ a, A4 = some a → a.block ≠ f ∧ a.block ≠ fr ∧ w.heap.size ≤ a.block) := Lib.hid (fun h0 a ha => by have := hfr h0 a ha; omega)
  have hits5 := hits.keepS ((Only.refl [f] wd).set (p := ⟨f, 3, none⟩) (by simp) (.slice A4 Nv c4)) (fun h0 a ha => by simpa using (HFR.out h0 a ha).1)
  have hp5 := HS5.out.put 3 (.slice A4 Nv c4)
  simp only [List.set_cons_zero, List.set_cons_succ] at hp5
  have HP5 := Lib.hid hp5
  have HIT := Lib.hid hits5
  clear hdi hie hil hits hfr hp5 hits5
  go_upto_region 16 with fail
  generalize World.setCell wd ⟨f, 3, none⟩ (.slice A4 Nv c4) = we at *
  clear HS5 hx0 hx1 hx2 hx3 hx4 hy0 hy1 hy2 hy3 hy4 hz0 hz1 hz2 hz3 hz4 hzl hv0 hv1 hv2 hv3 hv4 hvl
  have hw1 := ((Wc.mk2 HP5.out.d.only HP5.out.d.box HP5.out.d.hf HP5.out.r HP5.out.hr HP5.out.rf).gnew 47 1)
  have hw2 := (((hw1.addF (fun W => Its W A4 Nv c4 its) (HIT.out.fc (fun h0 a ha hm => by
   have := HFR.out h0 a ha
   simp [Mut, Value.ownBlock] at hm
   omega))).old (f := fun W => Bys W A n c bs) (Row1.fc HI.out (fun _ _ _ h => h))).addF (fun W => Bls W [] []) (fun W _ => Bls.nil W))
  have HWL := Lib.hid hw2
  clear hw1 hw2 HP5 HIT
  go_wp2_with fail
  go_loopg [13] kb (fun r i wr => ∃ (j : Nat) (A5 : Option Addr) (c5 : Nat) (sl : List (Option Addr × Nat × Nat)), j + r = kb ∧ i = .int .i64 ((j + 1 : Nat) : Int) ∧ Wc w wr [(f, [.int .i64 rm, .int .i64 rn, .int .i64 rp, .slice A4 Nv c4, .slice A5 j c5]), (fr, [.int .i64 0, .int .i64 0, .int .i64 0, .slice none 0 0, .slice none 0 0])] [⟨47, 1, .slice A5 j c5, j, sl.map slv⟩] [(fun W => Bls W sl (rcBl bs j)), (fun W => Bys W A n c bs), (fun W => Its W A4 Nv c4 its)] ∧ (∀ s ∈ sl, ∀ a, s.1 = some a → w.heap.size ≤ a.block))
  case atStart => exact ⟨0, none, 0, [], by omega, rfl, HWL.out, by simp⟩
  obtain ⟨j, A5, c5, sl, hj, rfl, hw, hfr⟩ := hrel
  have HWR := Lib.hid hw
  have HFRR := Lib.hid hfr
  clear hw hfr HWL
  obtain ⟨q, hq⟩ : ∃ q, q = j + 1 := ⟨_, rfl⟩
  rw [← hq]
  have HQQ := Lib.hid hq
  have hjk : j ≤ 6 := by omega
  by_cases hlt : j < kb
  ·have hqk : (q : Int) ≤ (kb : Int) := by omega
   have hq1 : 1 ≤ q := by omega
   have hq2 : q ≤ 6 := by omega
   have hm1 : IntKind.i64.wrap ((q : Int) * 64) = (q : Int) * 64 := IntWalk.i64_in _ (by omega)
   have hm2 : IntKind.i64.wrap ((q : Int) + 1) = (q : Int) + 1 := IntWalk.i64_in _ (by omega)
   have hm3 : IntKind.i64.wrap (((q : Int) + 1) * 64) = ((q : Int) + 1) * 64 := IntWalk.i64_in _ (by omega)
   have HCK : Hid ((bs.drop (64 * q)).take 64 = chunkB bs j) := Lib.hid (by rw [hq]; rfl)
   have HCL : Hid ((chunkB bs j).length = 64) := Lib.hid (by
    have := HNK.out
    have := HL.out
    unfold chunkB
    rw [List.length_take, List.length_drop]
    omega)
   have hroom : 64 * q + 64 ≤ n := by have := HNK.out; omega
   clear hq
   go_wp2_with fail
   have HDs := Lib.hid HWR.out.drew
   clear HWR
   refine wp_region_held_drew (S := fun w' => w'.cell? ⟨f, 0, none⟩ = some (.int .i64 rm)) (by kernel_rfl) ((HDs.out.boxi 0 rfl).cell 0 (by simp)) (fun hSw0 => ?_)
   generalize World.drew wr = ws at *
   refine Kn.takeS 0 ⟨some 70, _, _, _, _, _⟩ ?_
   refine Kn.takeS 2 ⟨some 72, _, _, _, _, _⟩ ?_
   refine Kn.takeS 3 ⟨some 73, _, _, _, _, _⟩ ?_
   refine Kn.takeS 4 ⟨some 74, _, _, _, _, _⟩ ?_
   refine Kn.takeS 5 ⟨some 75, _, _, _, _, _⟩ ?_
   refine Kn.takeS 6 ⟨some 76, _, _, _, _, _⟩ ?_
   refine Kn.takeS 7 ⟨some 77, _, _, _, _, _⟩ ?_
   refine wpAnyH_ready (rs := [1, 8]) (by kernel_rfl) (by simp) ?_
   refine AllReadyH.cons (o := ⟨some 71, _, _, _, _, _⟩) rfl (fun K hK => ?_) ?_
   ·have yq := (HDs.out.boxi 0 rfl).cell 4 (by simp)
    simp only [List.getElem_cons_zero, List.getElem_cons_succ] at yq
    have lq := (HDs.out.boxi 0 rfl).lt
    go_simp
    clear yq lq
    refine hK.out _ _ ((HDs.out.boxi 0 rfl).cell 0 (by simp)) (fun hSn => ?_)
    clear hK K hSw0
    have hSw0 := hSn
    clear hSn
    refine Kn.takeR 8 ⟨some 78, _, _, _, _, _⟩ fun K hK => ?_
    go_simp
    rw [show (q : Int) * 64 = ((64 * q : Nat) : Int) from by omega]
    refine (part_any A n c bs (64 * q) 64 _ _ (HDs.out.fi 1 rfl) hroom (by omega) (by omega)).mono ?_
    rintro en va ⟨rfl, ho7, hO⟩
    rw [HCK.out] at ho7
    have hbw := HDs.out.only.size
    have hgw : w.heap.size ≤ ws.heap.size := hbw
    generalize hg7 : ws.heap.size = g7 at *
    have HDa := Lib.hid (HDs.out.addFc hO (f := fun V => Bys V (some ⟨g7, 0, none⟩) 64 64 (chunkB bs j)) (Row1.fc (Row1.of_Own ho7 (by rw [bvs_length, HCL.out]) (Nat.le_refl _) (by simp [maxLen])) (fun _ a ha => by injection ha with ha; subst ha; simp; omega)))
    clear hO ho7 hg7 hbw
    refine hK.out _ _ ((HDa.out.boxi 0 rfl).cell 0 (by simp)) (fun hSn => ?_)
    clear hK K hSw0
    have hSw0 := hSn
    clear hSn
    refine Kn.takeR 9 ⟨some 79, _, _, _, _, _⟩ fun K hK => ?_
    go_simp
    have HDb := Lib.hid (HDa.out.alloc (.cells #[.slice (some ⟨g7, 0, none⟩) 64 64] 47))
    have hnr : Row1 (va.alloc (.cells #[.slice (some ⟨g7, 0, none⟩) 64 64] 47)) (some ⟨va.heap.size, 0, none⟩) 1 1 ([(some ⟨g7, 0, none⟩, 64, 64)].map slv) := Row1.of_Own (Own.new va #[.slice (some ⟨g7, 0, none⟩) 64 64] 47) rfl (Nat.le_refl _) (by simp [maxLen])
    have HNR2 := Lib.hid hnr
    clear hnr
    have hbw := HDb.out.only.size
    generalize hvz : va.heap.size = vz at *
    generalize hvb : va.alloc (.cells #[.slice (some ⟨g7, 0, none⟩) 64 64] 47) = vb at *
    clear hvb hvz
    refine hK.out _ _ ((HDb.out.boxi 0 rfl).cell 0 (by simp)) (fun hSn => ?_)
    clear hK K hSw0
    have hSw0 := hSn
    clear hSn
    refine Kn.takeR 10 ⟨some 80, _, _, _, _, _⟩ fun K hK => ?_
    refine step_append_row1 rfl (.tmp 71) (.tmp 79) 54 rfl w.heap.size 47 i0 _ 24 Tryz.underlying54 hi0 hz0 hz1 hz2 rfl (.slice A5 j c5) j (sl.map slv) rfl (HDb.out.gi 0 rfl) (some ⟨vz, 0, none⟩) 1 1 ([(some ⟨g7, 0, none⟩, 64, 64)].map slv) rfl HNR2.out (slv_one _) (by unfold maxLen; omega) (by omega) hbw ?_
    intro v' vd hown hgrow hat
    rw [← List.map_append] at hown
    have hdd := HDb.out.gapp 0 rfl hown hgrow hat
    obtain ⟨A6, c6, rfl⟩ := hdd.gform 0 rfl
    have HDd := Lib.hid hdd
    clear hdd hown hgrow hat
    refine hK.out _ _ ((HDd.out.boxi 0 rfl).cell 0 (by simp)) (fun hSn => ?_)
    clear hK K hSw0
    have hSw0 := hSn
    clear hSn
    refine Kn.takeS 11 ⟨some 81, _, _, _, _, _⟩ ?_
    refine Kn.takeR 12 ⟨none, _, _, _, _, _⟩ fun K hK => ?_
    have yq := (HDd.out.boxi 0 rfl).cell 4 (by simp)
    simp only [List.getElem_cons_zero, List.getElem_cons_succ] at yq
    have lq := (HDd.out.boxi 0 rfl).lt
    have fq := (HDd.out.boxi 0 rfl).frozen 4
    go_simp
    have HDz := Lib.hid (HDd.out.put 0 rfl 4 (.slice A6 (j + 1) c6))
    clear yq lq fq
    refine hK.out _ _ ((HDz.out.boxi 0 rfl).cell 0 (by simp)) (fun hSn => ?_)
    clear hK K hSw0
    have hSw0 := hSn
    clear hSn
    refine wpAnyH_done (by kernel_rfl) ?_ _
    clear hSw0
    go_wp2
    go_roundg (gk - 1)
    case measure => omega
    case rel =>
     have hrb : rcBl bs (j + 1) = rcBl bs j ++ [chunkB bs j] := rcBl_succ bs j
     refine ⟨j + 1, A6, c6, sl ++ [(some ⟨g7, 0, none⟩, 64, 64)], by omega, by rw [HQQ.out]; go_num, ?_, ?_⟩
     ·rw [hrb]
      refine (HDz.out.fuse (f1 := fun V => Bys V (some ⟨g7, 0, none⟩) 64 64 (chunkB bs j)) (f2 := fun V => Bls V sl (rcBl bs j)) (f := fun V => Bls V (sl ++ [(some ⟨g7, 0, none⟩, 64, 64)]) (rcBl bs j ++ [chunkB bs j])) (List.mem_cons_self ..) (List.mem_cons_of_mem _ (List.mem_cons_self ..)) (fun V h1 h2 => h2.snoc h1)).sub (List.Sublist.refl _) ?_
      intro f1 hf1
      simp only [List.mem_cons, List.not_mem_nil, or_false] at hf1 ⊢
      rcases hf1 with rfl | rfl | rfl <;> simp
     ·intro s hs a ha
      rcases List.mem_append.1 hs with hs | hs
      ·exact HFRR.out s hs a ha
      ·simp at hs
       subst hs
       injection ha with ha
       subst ha
       exact hgw
   refine AllReadyH.cons (o := ⟨some 78, _, _, _, _, _⟩) rfl (fun K hK => ?_) ?_
   ·go_simp
    rw [show (q : Int) * 64 = ((64 * q : Nat) : Int) from by omega]
    refine (part_any A n c bs (64 * q) 64 _ _ (HDs.out.fi 1 rfl) hroom (by omega) (by omega)).mono ?_
    rintro en va ⟨rfl, ho7, hO⟩
    rw [HCK.out] at ho7
    have hbw := HDs.out.only.size
    have hgw : w.heap.size ≤ ws.heap.size := hbw
    generalize hg7 : ws.heap.size = g7 at *
    have HDa := Lib.hid (HDs.out.addFc hO (f := fun V => Bys V (some ⟨g7, 0, none⟩) 64 64 (chunkB bs j)) (Row1.fc (Row1.of_Own ho7 (by rw [bvs_length, HCL.out]) (Nat.le_refl _) (by simp [maxLen])) (fun _ a ha => by injection ha with ha; subst ha; simp; omega)))
    clear hO ho7 hg7 hbw
    refine hK.out _ _ ((HDa.out.boxi 0 rfl).cell 0 (by simp)) (fun hSn => ?_)
    clear hK K hSw0
    have hSw0 := hSn
    clear hSn
    refine wpAnyH_ready (rs := [1, 9]) (by kernel_rfl) (by simp) ?_
    refine AllReadyH.cons (o := ⟨some 71, _, _, _, _, _⟩) rfl (fun K hK => ?_) ?_
    ·have yq := (HDa.out.boxi 0 rfl).cell 4 (by simp)
     simp only [List.getElem_cons_zero, List.getElem_cons_succ] at yq
     have lq := (HDa.out.boxi 0 rfl).lt
     go_simp
     clear yq lq
     refine hK.out _ _ ((HDa.out.boxi 0 rfl).cell 0 (by simp)) (fun hSn => ?_)
     clear hK K hSw0
     have hSw0 := hSn
     clear hSn
     refine Kn.takeR 9 ⟨some 79, _, _, _, _, _⟩ fun K hK => ?_
     go_simp
     have HDb := Lib.hid (HDa.out.alloc (.cells #[.slice (some ⟨g7, 0, none⟩) 64 64] 47))
     have hnr : Row1 (va.alloc (.cells #[.slice (some ⟨g7, 0, none⟩) 64 64] 47)) (some ⟨va.heap.size, 0, none⟩) 1 1 ([(some ⟨g7, 0, none⟩, 64, 64)].map slv) := Row1.of_Own (Own.new va #[.slice (some ⟨g7, 0, none⟩) 64 64] 47) rfl (Nat.le_refl _) (by simp [maxLen])
     have HNR2 := Lib.hid hnr
     clear hnr
     have hbw := HDb.out.only.size
     generalize hvz : va.heap.size = vz at *
     generalize hvb : va.alloc (.cells #[.slice (some ⟨g7, 0, none⟩) 64 64] 47) = vb at *
     clear hvb hvz
     refine hK.out _ _ ((HDb.out.boxi 0 rfl).cell 0 (by simp)) (fun hSn => ?_)
     clear hK K hSw0
     have hSw0 := hSn
     clear hSn
     refine Kn.takeR 10 ⟨some 80, _, _, _, _, _⟩ fun K hK => ?_
     refine step_append_row1 rfl (.tmp 71) (.tmp 79) 54 rfl w.heap.size 47 i0 _ 24 Tryz.underlying54 hi0 hz0 hz1 hz2 rfl (.slice A5 j c5) j (sl.map slv) rfl (HDb.out.gi 0 rfl) (some ⟨vz, 0, none⟩) 1 1 ([(some ⟨g7, 0, none⟩, 64, 64)].map slv) rfl HNR2.out (slv_one _) (by unfold maxLen; omega) (by omega) hbw ?_
     intro v' vd hown hgrow hat
     rw [← List.map_append] at hown
     have hdd := HDb.out.gapp 0 rfl hown hgrow hat
     obtain ⟨A6, c6, rfl⟩ := hdd.gform 0 rfl
     have HDd := Lib.hid hdd
     clear hdd hown hgrow hat
     refine hK.out _ _ ((HDd.out.boxi 0 rfl).cell 0 (by simp)) (fun hSn => ?_)
     clear hK K hSw0
     have hSw0 := hSn
     clear hSn
     refine Kn.takeS 11 ⟨some 81, _, _, _, _, _⟩ ?_
     refine Kn.takeR 12 ⟨none, _, _, _, _, _⟩ fun K hK => ?_
     have yq := (HDd.out.boxi 0 rfl).cell 4 (by simp)
     simp only [List.getElem_cons_zero, List.getElem_cons_succ] at yq
     have lq := (HDd.out.boxi 0 rfl).lt
     have fq := (HDd.out.boxi 0 rfl).frozen 4
     go_simp
     have HDz := Lib.hid (HDd.out.put 0 rfl 4 (.slice A6 (j + 1) c6))
     clear yq lq fq
     refine hK.out _ _ ((HDz.out.boxi 0 rfl).cell 0 (by simp)) (fun hSn => ?_)
     clear hK K hSw0
     have hSw0 := hSn
     clear hSn
     refine wpAnyH_done (by kernel_rfl) ?_ _
     clear hSw0
     go_wp2
     go_roundg (gk - 1)
     case measure => omega
     case rel =>
      have hrb : rcBl bs (j + 1) = rcBl bs j ++ [chunkB bs j] := rcBl_succ bs j
      refine ⟨j + 1, A6, c6, sl ++ [(some ⟨g7, 0, none⟩, 64, 64)], by omega, by rw [HQQ.out]; go_num, ?_, ?_⟩
      ·rw [hrb]
       refine (HDz.out.fuse (f1 := fun V => Bys V (some ⟨g7, 0, none⟩) 64 64 (chunkB bs j)) (f2 := fun V => Bls V sl (rcBl bs j)) (f := fun V => Bls V (sl ++ [(some ⟨g7, 0, none⟩, 64, 64)]) (rcBl bs j ++ [chunkB bs j])) (List.mem_cons_self ..) (List.mem_cons_of_mem _ (List.mem_cons_self ..)) (fun V h1 h2 => h2.snoc h1)).sub (List.Sublist.refl _) ?_
       intro f1 hf1
       simp only [List.mem_cons, List.not_mem_nil, or_false] at hf1 ⊢
       rcases hf1 with rfl | rfl | rfl <;> simp
      ·intro s hs a ha
       rcases List.mem_append.1 hs with hs | hs
       ·exact HFRR.out s hs a ha
       ·simp at hs
        subst hs
        injection ha with ha
        subst ha
        exact hgw
    refine AllReadyH.cons (o := ⟨some 79, _, _, _, _, _⟩) rfl (fun K hK => ?_) ?_
    ·go_simp
     have HDb := Lib.hid (HDa.out.alloc (.cells #[.slice (some ⟨g7, 0, none⟩) 64 64] 47))
     have hnr : Row1 (va.alloc (.cells #[.slice (some ⟨g7, 0, none⟩) 64 64] 47)) (some ⟨va.heap.size, 0, none⟩) 1 1 ([(some ⟨g7, 0, none⟩, 64, 64)].map slv) := Row1.of_Own (Own.new va #[.slice (some ⟨g7, 0, none⟩) 64 64] 47) rfl (Nat.le_refl _) (by simp [maxLen])
     have HNR2 := Lib.hid hnr
     clear hnr
     have hbw := HDb.out.only.size
     generalize hvz : va.heap.size = vz at *
     generalize hvb : va.alloc (.cells #[.slice (some ⟨g7, 0, none⟩) 64 64] 47) = vb at *
     clear hvb hvz
     refine hK.out _ _ ((HDb.out.boxi 0 rfl).cell 0 (by simp)) (fun hSn => ?_)
     clear hK K hSw0
     have hSw0 := hSn
     clear hSn
     refine Kn.takeR 1 ⟨some 71, _, _, _, _, _⟩ fun K hK => ?_
     have yq := (HDb.out.boxi 0 rfl).cell 4 (by simp)
     simp only [List.getElem_cons_zero, List.getElem_cons_succ] at yq
     have lq := (HDb.out.boxi 0 rfl).lt
     go_simp
     clear yq lq
     refine hK.out _ _ ((HDb.out.boxi 0 rfl).cell 0 (by simp)) (fun hSn => ?_)
     clear hK K hSw0
     have hSw0 := hSn
     clear hSn
     refine Kn.takeR 10 ⟨some 80, _, _, _, _, _⟩ fun K hK => ?_
     refine step_append_row1 rfl (.tmp 71) (.tmp 79) 54 rfl w.heap.size 47 i0 _ 24 Tryz.underlying54 hi0 hz0 hz1 hz2 rfl (.slice A5 j c5) j (sl.map slv) rfl (HDb.out.gi 0 rfl) (some ⟨vz, 0, none⟩) 1 1 ([(some ⟨g7, 0, none⟩, 64, 64)].map slv) rfl HNR2.out (slv_one _) (by unfold maxLen; omega) (by omega) hbw ?_
     intro v' vd hown hgrow hat
     rw [← List.map_append] at hown
     have hdd := HDb.out.gapp 0 rfl hown hgrow hat
     obtain ⟨A6, c6, rfl⟩ := hdd.gform 0 rfl
     have HDd := Lib.hid hdd
     clear hdd hown hgrow hat
     refine hK.out _ _ ((HDd.out.boxi 0 rfl).cell 0 (by simp)) (fun hSn => ?_)
     clear hK K hSw0
     have hSw0 := hSn
     clear hSn
     refine Kn.takeS 11 ⟨some 81, _, _, _, _, _⟩ ?_
     refine Kn.takeR 12 ⟨none, _, _, _, _, _⟩ fun K hK => ?_
     have yq := (HDd.out.boxi 0 rfl).cell 4 (by simp)
     simp only [List.getElem_cons_zero, List.getElem_cons_succ] at yq
     have lq := (HDd.out.boxi 0 rfl).lt
     have fq := (HDd.out.boxi 0 rfl).frozen 4
     go_simp
     have HDz := Lib.hid (HDd.out.put 0 rfl 4 (.slice A6 (j + 1) c6))
     clear yq lq fq
     refine hK.out _ _ ((HDz.out.boxi 0 rfl).cell 0 (by simp)) (fun hSn => ?_)
     clear hK K hSw0
     have hSw0 := hSn
     clear hSn
     refine wpAnyH_done (by kernel_rfl) ?_ _
     clear hSw0
     go_wp2
     go_roundg (gk - 1)
     case measure => omega
     case rel =>
      have hrb : rcBl bs (j + 1) = rcBl bs j ++ [chunkB bs j] := rcBl_succ bs j
      refine ⟨j + 1, A6, c6, sl ++ [(some ⟨g7, 0, none⟩, 64, 64)], by omega, by rw [HQQ.out]; go_num, ?_, ?_⟩
      ·rw [hrb]
       refine (HDz.out.fuse (f1 := fun V => Bys V (some ⟨g7, 0, none⟩) 64 64 (chunkB bs j)) (f2 := fun V => Bls V sl (rcBl bs j)) (f := fun V => Bls V (sl ++ [(some ⟨g7, 0, none⟩, 64, 64)]) (rcBl bs j ++ [chunkB bs j])) (List.mem_cons_self ..) (List.mem_cons_of_mem _ (List.mem_cons_self ..)) (fun V h1 h2 => h2.snoc h1)).sub (List.Sublist.refl _) ?_
       intro f1 hf1
       simp only [List.mem_cons, List.not_mem_nil, or_false] at hf1 ⊢
       rcases hf1 with rfl | rfl | rfl <;> simp
      ·intro s hs a ha
       rcases List.mem_append.1 hs with hs | hs
       ·exact HFRR.out s hs a ha
       ·simp at hs
        subst hs
        injection ha with ha
        subst ha
        exact hgw
    exact AllReadyH.nil
   exact AllReadyH.nil
  ·obtain rfl : j = kb := by omega
   have hqk : ¬ (q : Int) ≤ (j : Int) := by omega
   have HDO := Lib.hid (rc_dec_of HFT.out)
   have HGB : Hid (Blks wr A5 j c5 (rcBl bs j)) := Lib.hid ⟨sl, (Row1.of_owns (HWR.out.gi 0 rfl)).1, HWR.out.fi 0 rfl⟩
   clear hq hlt
   obtain ⟨x0, x1, x2, x3, x4⟩ := Kn.own5 (HWR.out.boxi 0 rfl)
   go_wp2_with fail
   refine (ref_rec_enc_any rm rn rp A4 Nv c4 its A5 j c5 (rcBl bs j) _ (by exact HWR.out.fi 2 rfl) (by exact HGB.out)).mono ?_
   intro en wy he
   rw [← HRO.out] at he
   have hdo := HDO.out
   cases hen : encRc (rcOf bs) with
   | none =>
    rw [hen] at he hdo
    obtain ⟨rfl, hO⟩ := he.of_none
    have HY := Lib.hid (HWR.out.keep0 hO)
    have HNO : Hid (decRc bs = none) := Lib.hid hdo
    clear hen hO he hdo x0 x1 x2 x3 x4
    obtain ⟨hx0, hx1, hx2, hx3, hx4⟩ := Kn.own5 (HY.out.boxi 0 rfl)
    obtain ⟨hy0, hy1, hy2, hy3, hy4⟩ := Kn.own5 (HY.out.boxi 1 rfl)
    have hz0 := (HY.out.boxi 1 rfl).frozen 0
    have hz1 := (HY.out.boxi 1 rfl).frozen 1
    have hz2 := (HY.out.boxi 1 rfl).frozen 2
    have hz3 := (HY.out.boxi 1 rfl).frozen 3
    have hz4 := (HY.out.boxi 1 rfl).frozen 4
    have hzl := (HY.out.boxi 1 rfl).lt
    go_wp2
    (try simp only [Exit.inBlock, Exit.then])
    refine bodyPost_ret (v := (.tuple #[.agg #[.int .i64 0, .int .i64 0, .int .i64 0, .slice none 0 0, .slice none 0 0], .int .i64 0, .int .i64 2])) ?_ rfl (RcSays.no HNO.out ?_)
    ·simp only [results, HRES.out]
     go_simp
    ·(repeat' first | (with_reducible refine Only.set ?_ (.inr hrw) _) | (with_reducible exact HY.out.only))
   | some ys =>
    obtain ⟨y, s⟩ := ys
    rw [hen] at he hdo
    obtain ⟨g9, c9, rfl, hc9, hm9, hg9, ho9, hO⟩ := he.of_some
    have HY := Lib.hid (HWR.out.keep0 hO)
    have HB9 : Hid (Bys wy (some ⟨g9, 0, none⟩) y.length c9 y) := Lib.hid (Row1.of_Own ho9 (bvs_length _) hc9 hm9)
    have HDO2 : Hid (decRc bs = if y = bs then some (rcOf bs, s) else none) := Lib.hid hdo
    clear hen hO he hdo ho9 x0 x1 x2 x3 x4 HDO
    go_wp2_with fail
    refine (equal_any (some ⟨g9, 0, none⟩) y.length c9 y A n c bs _ (by exact HB9.out) (by exact HY.out.fi 1 rfl)).mono ?_
    rintro en w5 ⟨rfl, kz, rfl⟩
    have HYn := Lib.hid (HY.out.drewN kz)
    clear HY HB9
    have HY := HYn
    clear HYn
    obtain ⟨hx0, hx1, hx2, hx3, hx4⟩ := Kn.own5 (HY.out.boxi 0 rfl)
    obtain ⟨hy0, hy1, hy2, hy3, hy4⟩ := Kn.own5 (HY.out.boxi 1 rfl)
    have hz0 := (HY.out.boxi 1 rfl).frozen 0
    have hz1 := (HY.out.boxi 1 rfl).frozen 1
    have hz2 := (HY.out.boxi 1 rfl).frozen 2
    have hz3 := (HY.out.boxi 1 rfl).frozen 3
    have hz4 := (HY.out.boxi 1 rfl).frozen 4
    have hzl := (HY.out.boxi 1 rfl).lt
    generalize World.drewN wy kz = wz at *
    by_cases hyb : y = bs
    ·have hd : decide (y = bs) = true := by simp [hyb]
     have HYES : Hid (decRc bs = some (rcOf bs, s)) := Lib.hid (by rw [HDO2.out, if_pos hyb])
     clear hyb
     go_wp2
     (try simp only [Exit.inBlock, Exit.then])
     have hfin := (((((HY.out.put 1 rfl 0 (.int .i64 rm)).put 1 rfl 1 (.int .i64 rn)).put 1 rfl 2 (.int .i64 rp)).put 1 rfl 3 (.slice A4 Nv c4)).put 1 rfl 4 (.slice A5 j c5))
     refine bodyPost_ret (v := .tuple #[.agg #[.int .i64 rm, .int .i64 rn, .int .i64 rp, .slice A4 Nv c4, .slice A5 j c5], .int .i64 (s : Nat), .int .i64 0]) ?_ rfl ?_
     ·simp only [results, HRES.out]
      go_simp
     ·rw [HYES.out]
      refine ⟨(A4, Nv, c4), (A5, j, c5), ?_, ?_, hfin.only⟩
      ·simp only [Option.map_some, Option.getD_some, Option.isSome_some, if_true]
       rw [HRO.out]
       rfl
      ·simp only [Option.map_some, Option.getD_some]
       rw [HRO.out]
       exact hfin.rcFc (List.mem_cons_self ..) (List.mem_cons_of_mem _ (List.mem_cons_of_mem _ (List.mem_cons_self ..))) (fun h0 a ha => (HFR.out h0 a ha).2.2) HFRR.out
    ·have hd : decide (y = bs) = false := by simp [hyb]
     have HNO : Hid (decRc bs = none) := Lib.hid (by rw [HDO2.out, if_neg hyb])
     clear hyb
     go_wp2
     (try simp only [Exit.inBlock, Exit.then])
     refine bodyPost_ret (v := (.tuple #[.agg #[.int .i64 0, .int .i64 0, .int .i64 0, .slice none 0 0, .slice none 0 0], .int .i64 0, .int .i64 2])) ?_ rfl (RcSays.no HNO.out ?_)
     ·simp only [results, HRES.out]
      go_simp
     ·(repeat' first | (with_reducible refine Only.set ?_ (.inr hrw) _) | (with_reducible exact HY.out.only))
end Go.Proofs.YtgcfdjcpcclcjaaGreat
namespace Go.Proofs.YtgcfdjcpcclcjaaGreat
open Go Go.RowKit Go.Kn
def FolSays (w : World) (q : Ps) (x : Option (Rc × Ps) × Int) (en : Ending) (w' : World) : Prop := Only [] w w' ∧
 match x with
 | (none, er) => en = .returned (.tuple #[.agg #[.int .i64 0, .int .i64 0, .int .i64 0, .slice none 0 0, .slice none 0 0], .agg #[.int .i64 q.s, .int .i64 q.o, .int .i64 q.l, .int .i64 q.p, .int .i64 q.m], .bool false, .int .i64 er])
 | (some (r, nx), _) => ∃ s t, en = .returned (.tuple #[.agg (r.cells s t), .agg #[.int .i64 nx.s, .int .i64 nx.o, .int .i64 nx.l, .int .i64 nx.p, .int .i64 nx.m], .bool true, .int .i64 0]) ∧ Fc w' (fun k => k < w.heap.size) (fun W => RcAt W r s t)
theorem FolSays.no {w w' : World} {q : Ps} {x : Option (Rc × Ps) × Int} {er : Int} (hx : x = (none, er)) (hw : Only [] w w') : FolSays w q x (.returned (.tuple #[.agg #[.int .i64 0, .int .i64 0, .int .i64 0, .slice none 0 0, .slice none 0 0], .agg #[.int .i64 q.s, .int .i64 q.o, .int .i64 q.l, .int .i64 q.p, .int .i64 q.m], .bool false, .int .i64 er])) w' := by
 subst hx
 exact ⟨hw, rfl⟩
/-- a record that was told lies in blocks of its own -/
theorem fc_wc {w w7 w8 : World} {f : World → Prop} (h8 : Fc w8 (fun k => k < w7.heap.size) f) (h78 : w7.heap.size ≤ w8.heap.size) (h7 : w.heap.size ≤ w7.heap.size) {L : List (Nat × List Value)} {w' : World} (hL : ∀ x ∈ L, x.1 < w7.heap.size ∨ w8.heap.size ≤ x.1) (hO : Only (L.map (·.1)) w8 w') : Fc w' (fun k => k < w.heap.size) f := by
 intro W hW
 refine h8 W fun k o hk hko hc => hW k o (by omega) ?_ hc
 rw [hO.block k (lt_of_obj hko) ?_]
 ·exact hko
 ·intro hm
  obtain ⟨x, hx, rfl⟩ := List.mem_map.1 hm
  have := lt_of_obj hko
  rcases hL x hx with h | h <;> omega
set_option maxRecDepth 100000 in
set_option maxHeartbeats 16000000 in
theorem ref_follow_any (w0 w : World) (r : RD) (d : Dk) (c : Fr3) (cf : Cf) (q : Ps) (h : Rsk w0 w r d c) (hh : d.held.length ≤ 1000000) (hc : cf.Ok) (hqs : 0 ≤ q.s ∧ q.s ≤ cf.s - 1) :
  Calls Tryz.prog 105 #[.pointer (some ⟨r.M, 0, none⟩), .agg #[.int .i64 cf.b, .int .i64 cf.s, .int .i64 cf.l], .agg #[.int .i64 q.s, .int .i64 q.o, .int .i64 q.l, .int .i64 q.p, .int .i64 q.m]] w (FolSays w q (Kn.follow d cf q)) := by
 have hres : Tryz.f105.results = #[.cell 6 56, .cell 7 32, .tmp 8, .tmp 9] := by kernel_rfl
 have HRES := Lib.hid hres
 have HC := Lib.hid hc
 have HR := Lib.hid h
 have HOK := Lib.hid h.ok
 have hat : 0 ≤ cf.at_ q.s ∧ cf.at_ q.s ≤ 100000 := by
  obtain ⟨m1, m2⟩ := Cf.prod cf hc q.s hqs.1 (by omega)
  have h1 := rln_bounds hc
  have h2 := pgs_bounds hc
  unfold Cf.at_
  rw [if_pos hqs]
  omega
 obtain ⟨hl0, hl1⟩ := hc.2.2
 have HW0 := Lib.hid ((((((Wc.start w).newB #[.int .i64 cf.b, .int .i64 cf.s, .int .i64 cf.l] 25 rfl).newB #[.int .i64 q.s, .int .i64 q.o, .int .i64 q.l, .int .i64 q.p, .int .i64 q.m] 32 rfl).newB #[.int .i64 0, .int .i64 0, .int .i64 0, .slice none 0 0, .slice none 0 0] 56 rfl).newB #[.int .i64 0, .int .i64 0, .int .i64 0, .int .i64 0, .int .i64 0] 32 rfl).newB #[.int .i64 0, .int .i64 0, .int .i64 0, .slice none 0 0, .slice none 0 0] 56 rfl)
 clear hres hc h
 go_enter Tryz.func105, Tryz.ntmps105
 have hwl := IntWalk.i64_in (cf.l - 1) (by omega)
 go_wp2_with fail
 refine (within_any _ _ _ _).mono ?_
 rintro en wx ⟨rfl, rfl⟩
 generalize hz1 : ((((w.alloc (.cells #[.int .i64 cf.b, .int .i64 cf.s, .int .i64 cf.l] 25)).alloc (.cells #[.int .i64 q.s, .int .i64 q.o, .int .i64 q.l, .int .i64 q.p, .int .i64 q.m] 32)).alloc (.cells #[.int .i64 0, .int .i64 0, .int .i64 0, .slice none 0 0, .slice none 0 0] 56)).alloc (.cells #[.int .i64 0, .int .i64 0, .int .i64 0, .int .i64 0, .int .i64 0] 32)).alloc (.cells #[.int .i64 0, .int .i64 0, .int .i64 0, .slice none 0 0, .slice none 0 0] 56) = w1 at *
 have hs1 : (w.alloc (.cells #[.int .i64 cf.b, .int .i64 cf.s, .int .i64 cf.l] 25)).heap.size = w.heap.size + 1 := by simp
 have hs2 : ((w.alloc (.cells #[.int .i64 cf.b, .int .i64 cf.s, .int .i64 cf.l] 25)).alloc (.cells #[.int .i64 q.s, .int .i64 q.o, .int .i64 q.l, .int .i64 q.p, .int .i64 q.m] 32)).heap.size = w.heap.size + 1 + 1 := by simp
 have hs3 : (((w.alloc (.cells #[.int .i64 cf.b, .int .i64 cf.s, .int .i64 cf.l] 25)).alloc (.cells #[.int .i64 q.s, .int .i64 q.o, .int .i64 q.l, .int .i64 q.p, .int .i64 q.m] 32)).alloc (.cells #[.int .i64 0, .int .i64 0, .int .i64 0, .slice none 0 0, .slice none 0 0] 56)).heap.size = w.heap.size + 1 + 1 + 1 := by simp
 have hs4 : ((((w.alloc (.cells #[.int .i64 cf.b, .int .i64 cf.s, .int .i64 cf.l] 25)).alloc (.cells #[.int .i64 q.s, .int .i64 q.o, .int .i64 q.l, .int .i64 q.p, .int .i64 q.m] 32)).alloc (.cells #[.int .i64 0, .int .i64 0, .int .i64 0, .slice none 0 0, .slice none 0 0] 56)).alloc (.cells #[.int .i64 0, .int .i64 0, .int .i64 0, .int .i64 0, .int .i64 0] 32)).heap.size = w.heap.size + 1 + 1 + 1 + 1 := by simp
 rw [hs1, hs2, hs3, hs4] at HW0
 have hwf : w.heap.size ≤ w.heap.size := Nat.le_refl _
 clear hz1 hs1 hs2 hs3 hs4
 obtain ⟨f4, hf4⟩ : ∃ k, k = w.heap.size := ⟨_, rfl⟩
 rw [← hf4] at HW0 ⊢
 clear hf4 hwf
 generalize f4 + 1 = f5 at *
 generalize f5 + 1 = f6 at *
 generalize f6 + 1 = f7 at *
 generalize f7 + 1 = f10 at *
 have HW1 : Hid (Wc w w1 ((f10, [.int .i64 0, .int .i64 0, .int .i64 0, .slice none 0 0, .slice none 0 0]) :: (f7, [.int .i64 0, .int .i64 0, .int .i64 0, .int .i64 0, .int .i64 0]) :: (f6, [.int .i64 0, .int .i64 0, .int .i64 0, .slice none 0 0, .slice none 0 0]) :: (f5, [.int .i64 q.s, .int .i64 q.o, .int .i64 q.l, .int .i64 q.p, .int .i64 q.m]) :: (f4, [.int .i64 cf.b, .int .i64 cf.s, .int .i64 cf.l]) :: []) [] []) := Lib.hid HW0.out
 clear HW0
 by_cases hin : 1 ≤ q.o ∧ q.o ≤ cf.l - 1
 ·have hdb : decide (1 ≤ q.o ∧ q.o ≤ cf.l - 1) = true := decide_eq_true hin
  rw [hdb]
  obtain ⟨ho0, ho1⟩ := hin
  clear hdb
  have hw3 := IntWalk.i64_in (cf.at_ q.s + q.o) (by omega)
  obtain ⟨a, ha⟩ : ∃ a, cf.at_ q.s + q.o = a := ⟨_, rfl⟩
  have hab : 0 ≤ a ∧ a ≤ 200000 := by omega
  have HA := Lib.hid ha
  obtain ⟨ha0, ha1⟩ := hab
  obtain ⟨sa, hsa⟩ : ∃ z, cf.at_ q.s = z := ⟨_, rfl⟩
  have HSA := Lib.hid hsa
  rw [hsa] at hw3 hat ha
  have hw4 : IntKind.i64.wrap (sa + q.o) = a := by rw [hw3, ha]
  obtain ⟨hat0, hat1⟩ := hat
  clear ha hsa hw3
  go_wp2_with fail
  have HY := Lib.hid HW1.out.drew
  clear HW1
  refine wp_region_held_drew (S := (fun w' => Kn.Own w' f4 [.int .i64 cf.b, .int .i64 cf.s, .int .i64 cf.l] ∧ Kn.Own w' f5 [.int .i64 q.s, .int .i64 q.o, .int .i64 q.l, .int .i64 q.p, .int .i64 q.m])) (by kernel_rfl) ⟨HY.out.boxi 4 rfl, HY.out.boxi 3 rfl⟩ (fun hSw0 => ?_)
  generalize w1.drew = wz at *
  refine Kn.takeS 0 ⟨some 30, _, _, _, _, _⟩ (v := (.agg #[.int .i64 cf.b, .int .i64 cf.s, .int .i64 cf.l])) (hy := fun w hSw => by
   have q0 := hSw.1
   obtain ⟨q00, q01, q02⟩ := Kn.own3 q0
   clear q0
   go_simp) ?_
  refine Kn.takeS 1 ⟨some 31, _, _, _, _, _⟩ ?_
  refine Kn.takeS 2 ⟨some 32, _, _, _, _, _⟩ (v := (.int .i64 q.s)) (hy := fun w hSw => by
   have q0 := Kn.own1 hSw.2
   go_simp) ?_
  refine Kn.takeS 4 ⟨some 34, _, _, _, _, _⟩ ?_
  refine Kn.takeS 5 ⟨some 35, _, _, _, _, _⟩ (v := (.int .i64 q.o)) (hy := fun w hSw => by
   have q0 := hSw.2.cell 1 (by simp)
   simp only [List.getElem_cons_zero, List.getElem_cons_succ] at q0
   go_simp) ?_
  refine Kn.takeR 3 ⟨some 33, _, _, _, _, _⟩ fun K hK => ?_
  go_simp
  refine (ref_segat_any cf q.s _ HC.out).mono ?_
  rintro en w3 ⟨rfl, hO⟩
  rw [HSA.out]
  have HW3 := Lib.hid (HY.out.keep0 hO)
  clear hO HY
  refine hK.out _ _ ⟨HW3.out.boxi 4 rfl, HW3.out.boxi 3 rfl⟩ (fun hSn => ?_)
  clear hK K hSw0
  have hSw0 := hSn
  clear hSn
  refine Kn.takeS 6 ⟨some 36, _, _, _, _, _⟩ ?_
  refine Kn.takeS 7 ⟨some 11, _, _, _, _, _⟩ ?_
  refine wpAnyH_done (by kernel_rfl) ?_ _
  clear hSw0
  go_wp2_with fail
  refine (rk_read_own w0 _ r d c a (HR.out.keep0 HW3.out.only) hh).mono ?_
  rintro en w4 ⟨v, n, rfl, hown, hO⟩
  have hW := HW3.out.gadd hO hown
  obtain ⟨A, cc, rfl⟩ := hW.gform 0 rfl
  have HW4 := Lib.hid hW
  clear hown hW hO HW3
  have hbo := (Row1.of_owns (HW4.out.gi 0 rfl)).1
  have hnl := hbo.len
  rw [bvs_length] at hnl
  have hn64 : n ≤ 65536 := by rw [← hnl, Dk.read_len HOK.out]; split <;> omega
  have HBO := Lib.hid hbo
  have HNL := Lib.hid hnl
  obtain ⟨z, hz⟩ : ∃ z, d.err a = z := ⟨_, rfl⟩
  rw [hz]
  have HZ := Lib.hid hz
  clear hbo hnl hz
  by_cases hz0 : z = 0
  ·subst hz0
   go_wp2_with fail
   refine (ref_rec_size_any A n cc _ _ HBO.out).mono ?_
   rintro en w5 ⟨rfl, hO⟩
   have HW5 := Lib.hid (HW4.out.keep0 hO)
   clear hO HW4 HBO
   obtain ⟨N, hN⟩ : ∃ N, sizeRc (d.read a) = N := ⟨_, rfl⟩
   have hN7 : N ≤ 7 := by rw [← hN]; exact sizeRc_le _
   rw [hN]
   have HN := Lib.hid hN
   clear hN
   have b5 := HW5.out.boxi 3 rfl
   obtain ⟨p0, p1, p2, p3, p4⟩ := Kn.own5 b5
   have b4 := HW5.out.boxi 4 rfl
   obtain ⟨e0, e1, e2⟩ := Kn.own3 b4
   clear b5 b4
   by_cases hN0 : N = 0
   ·subst hN0
    go_wp2_with fail
    have HY := Lib.hid HW5.out.drew
    clear HW5
    refine wp_region_held_drew (S := (fun w' => Kn.Own w' f10 [.int .i64 0, .int .i64 0, .int .i64 0, .slice none 0 0, .slice none 0 0] ∧ Kn.Own w' f5 [.int .i64 q.s, .int .i64 q.o, .int .i64 q.l, .int .i64 q.p, .int .i64 q.m])) (by kernel_rfl) ⟨HY.out.boxi 0 rfl, HY.out.boxi 3 rfl⟩ (fun hSw0 => ?_)
    generalize w5.drew = wz at *
    refine Kn.takeS 0 ⟨some 61, _, _, _, _, _⟩ (v := (.agg #[.int .i64 0, .int .i64 0, .int .i64 0, .slice none 0 0, .slice none 0 0])) (hy := fun w hSw => by
     have q0 := hSw.1
     obtain ⟨q00, q01, q02, q03, q04⟩ := Kn.own5 q0
     clear q0
     go_simp) ?_
    refine Kn.takeS 1 ⟨some 62, _, _, _, _, _⟩ (v := (.agg #[.int .i64 q.s, .int .i64 q.o, .int .i64 q.l, .int .i64 q.p, .int .i64 q.m])) (hy := fun w hSw => by
     have q0 := hSw.2
     obtain ⟨q00, q01, q02, q03, q04⟩ := Kn.own5 q0
     clear q0
     go_simp) ?_
    refine Kn.takeR 2 ⟨none, _, _, _, _, _⟩ fun K hK => ?_
    refine step_store_own rfl 56 (.tmp 6) (.tmp 61) rfl f6 [.int .i64 0, .int .i64 0, .int .i64 0, .slice none 0 0, .slice none 0 0] [.int .i64 0, .int .i64 0, .int .i64 0, .slice none 0 0, .slice none 0 0] (by kernel_rfl) rfl rfl (HY.out.boxi 2 rfl) rfl (by intro u hu; simp at hu; rcases hu with rfl | rfl <;> rfl) ?_
    intro wa ho hO
    have HY1 := Lib.hid (HY.out.call1 2 rfl ho hO)
    clear ho hO HY
    refine hK.out _ _ ⟨HY1.out.boxi 0 rfl, HY1.out.boxi 3 rfl⟩ (fun hSn => ?_)
    clear hK K hSw0
    have hSw0 := hSn
    clear hSn
    refine Kn.takeR 3 ⟨none, _, _, _, _, _⟩ fun K hK => ?_
    refine step_store_own rfl 32 (.tmp 7) (.tmp 62) rfl f7 [.int .i64 0, .int .i64 0, .int .i64 0, .int .i64 0, .int .i64 0] [.int .i64 q.s, .int .i64 q.o, .int .i64 q.l, .int .i64 q.p, .int .i64 q.m] (by kernel_rfl) rfl rfl (HY1.out.boxi 1 rfl) rfl (by intro u hu; simp at hu; rcases hu with rfl | rfl | rfl | rfl | rfl <;> rfl) ?_
    intro wy ho hO
    have HY2 := Lib.hid (HY1.out.call1 1 rfl ho hO)
    clear ho hO HY1
    refine hK.out _ _ ⟨HY2.out.boxi 0 rfl, HY2.out.boxi 3 rfl⟩ (fun hSn => ?_)
    clear hK K hSw0
    have hSw0 := hSn
    clear hSn
    refine Kn.takeS 4 ⟨some 8, _, _, _, _, _⟩ ?_
    refine Kn.takeS 5 ⟨some 9, _, _, _, _, _⟩ ?_
    refine wpAnyH_done (by kernel_rfl) ?_ _
    clear hSw0
    have HFOL := Lib.hid (follow_size (d := d) (c := cf) (p := q) ⟨ho0, by omega⟩ HA.out HZ.out HN.out (.inl rfl))
    have br := HY2.out.boxi 2 rfl
    have bn := HY2.out.boxi 1 rfl
    obtain ⟨r0, r1, r2, r3, r4⟩ := Kn.own5 br
    obtain ⟨n0, n1, n2, n3, n4⟩ := Kn.own5 bn
    clear br bn
    go_wp2
    (try simp only [Exit.inBlock, Exit.then])
    refine bodyPost_ret (v := .tuple #[.agg #[.int .i64 0, .int .i64 0, .int .i64 0, .slice none 0 0, .slice none 0 0], .agg #[.int .i64 q.s, .int .i64 q.o, .int .i64 q.l, .int .i64 q.p, .int .i64 q.m], .bool false, .int .i64 0]) ?_ rfl ?_
    ·simp only [results, HRES.out]
     go_simp
    ·exact FolSays.no HFOL.out HY2.out.only
   ·have hN1 : ((N : Int) == 0) = false := by simp; omega
    have hwN := IntWalk.i64_in (q.o + (N : Int)) (by omega)
    by_cases hfar2 : cf.l < q.o + (N : Int)
    ·go_wp2_with fail
     have HY := Lib.hid HW5.out.drew
     clear HW5
     refine wp_region_held_drew (S := (fun w' => Kn.Own w' f10 [.int .i64 0, .int .i64 0, .int .i64 0, .slice none 0 0, .slice none 0 0] ∧ Kn.Own w' f5 [.int .i64 q.s, .int .i64 q.o, .int .i64 q.l, .int .i64 q.p, .int .i64 q.m])) (by kernel_rfl) ⟨HY.out.boxi 0 rfl, HY.out.boxi 3 rfl⟩ (fun hSw0 => ?_)
     generalize w5.drew = wz at *
     refine Kn.takeS 0 ⟨some 61, _, _, _, _, _⟩ (v := (.agg #[.int .i64 0, .int .i64 0, .int .i64 0, .slice none 0 0, .slice none 0 0])) (hy := fun w hSw => by
      have q0 := hSw.1
      obtain ⟨q00, q01, q02, q03, q04⟩ := Kn.own5 q0
      clear q0
      go_simp) ?_
     refine Kn.takeS 1 ⟨some 62, _, _, _, _, _⟩ (v := (.agg #[.int .i64 q.s, .int .i64 q.o, .int .i64 q.l, .int .i64 q.p, .int .i64 q.m])) (hy := fun w hSw => by
      have q0 := hSw.2
      obtain ⟨q00, q01, q02, q03, q04⟩ := Kn.own5 q0
      clear q0
      go_simp) ?_
     refine Kn.takeR 2 ⟨none, _, _, _, _, _⟩ fun K hK => ?_
     refine step_store_own rfl 56 (.tmp 6) (.tmp 61) rfl f6 [.int .i64 0, .int .i64 0, .int .i64 0, .slice none 0 0, .slice none 0 0] [.int .i64 0, .int .i64 0, .int .i64 0, .slice none 0 0, .slice none 0 0] (by kernel_rfl) rfl rfl (HY.out.boxi 2 rfl) rfl (by intro u hu; simp at hu; rcases hu with rfl | rfl <;> rfl) ?_
     intro wa ho hO
     have HY1 := Lib.hid (HY.out.call1 2 rfl ho hO)
     clear ho hO HY
     refine hK.out _ _ ⟨HY1.out.boxi 0 rfl, HY1.out.boxi 3 rfl⟩ (fun hSn => ?_)
     clear hK K hSw0
     have hSw0 := hSn
     clear hSn
     refine Kn.takeR 3 ⟨none, _, _, _, _, _⟩ fun K hK => ?_
     refine step_store_own rfl 32 (.tmp 7) (.tmp 62) rfl f7 [.int .i64 0, .int .i64 0, .int .i64 0, .int .i64 0, .int .i64 0] [.int .i64 q.s, .int .i64 q.o, .int .i64 q.l, .int .i64 q.p, .int .i64 q.m] (by kernel_rfl) rfl rfl (HY1.out.boxi 1 rfl) rfl (by intro u hu; simp at hu; rcases hu with rfl | rfl | rfl | rfl | rfl <;> rfl) ?_
     intro wy ho hO
     have HY2 := Lib.hid (HY1.out.call1 1 rfl ho hO)
     clear ho hO HY1
     refine hK.out _ _ ⟨HY2.out.boxi 0 rfl, HY2.out.boxi 3 rfl⟩ (fun hSn => ?_)
     clear hK K hSw0
     have hSw0 := hSn
     clear hSn
     refine Kn.takeS 4 ⟨some 8, _, _, _, _, _⟩ ?_
     refine Kn.takeS 5 ⟨some 9, _, _, _, _, _⟩ ?_
     refine wpAnyH_done (by kernel_rfl) ?_ _
     clear hSw0
     have HFOL := Lib.hid (follow_size (d := d) (c := cf) (p := q) ⟨ho0, by omega⟩ HA.out HZ.out HN.out (.inr hfar2))
     have br := HY2.out.boxi 2 rfl
     have bn := HY2.out.boxi 1 rfl
     obtain ⟨r0, r1, r2, r3, r4⟩ := Kn.own5 br
     obtain ⟨n0, n1, n2, n3, n4⟩ := Kn.own5 bn
     clear br bn
     go_wp2
     (try simp only [Exit.inBlock, Exit.then])
     refine bodyPost_ret (v := .tuple #[.agg #[.int .i64 0, .int .i64 0, .int .i64 0, .slice none 0 0, .slice none 0 0], .agg #[.int .i64 q.s, .int .i64 q.o, .int .i64 q.l, .int .i64 q.p, .int .i64 q.m], .bool false, .int .i64 0]) ?_ rfl ?_
     ·simp only [results, HRES.out]
      go_simp
     ·exact FolSays.no HFOL.out HY2.out.only
    ·have hlz : N = 0 ∨ cf.l < q.o + (N : Int) → False := fun h => h.elim (fun h => hN0 h) (fun h => hfar2 h)
     have HLZ := Lib.hid hlz
     clear hlz
     have hg1 : gerr d a 1 = 0 := by rw [gerr_one]; exact HZ.out
     have hga : gat d a 1 = d.read a := gat_one d a
     have HWS : Hid (Wc w w5 ((f10, [.int .i64 0, .int .i64 0, .int .i64 0, .slice none 0 0, .slice none 0 0]) :: (f7, [.int .i64 0, .int .i64 0, .int .i64 0, .int .i64 0, .int .i64 0]) :: (f6, [.int .i64 0, .int .i64 0, .int .i64 0, .slice none 0 0, .slice none 0 0]) :: (f5, [.int .i64 q.s, .int .i64 q.o, .int .i64 q.l, .int .i64 q.p, .int .i64 q.m]) :: (f4, [.int .i64 cf.b, .int .i64 cf.s, .int .i64 cf.l]) :: []) (⟨5, 1, .slice A n cc, n, bvs (gat d a 1)⟩ :: []) []) := Lib.hid (by rw [hga]; exact HW5.out)
     have HG1 := Lib.hid hg1
     clear hg1 hga HW5
     obtain ⟨i0, hi0, hy0, hy1, hy2⟩ := info_parts Tryz.infoU8
     have hNge : 1 ≤ N := by omega
     clear hN0 HNL hn64
     go_wp2_with fail
     go_loopg [12, 15] (N - 1) (fun rr t12 i wr => ∃ (j : Nat) (A : Option Addr) (n cc : Nat), j + rr = N ∧ 1 ≤ j ∧ i = .int .i64 j ∧ t12 = .slice A n cc ∧ gerr d a j = 0 ∧ Wc w wr ((f10, [.int .i64 0, .int .i64 0, .int .i64 0, .slice none 0 0, .slice none 0 0]) :: (f7, [.int .i64 0, .int .i64 0, .int .i64 0, .int .i64 0, .int .i64 0]) :: (f6, [.int .i64 0, .int .i64 0, .int .i64 0, .slice none 0 0, .slice none 0 0]) :: (f5, [.int .i64 q.s, .int .i64 q.o, .int .i64 q.l, .int .i64 q.p, .int .i64 q.m]) :: (f4, [.int .i64 cf.b, .int .i64 cf.s, .int .i64 cf.l]) :: []) (⟨5, 1, .slice A n cc, n, bvs (gat d a j)⟩ :: []) [])
     case atStart => exact ⟨1, A, n, cc, by omega, by omega, rfl, rfl, HG1.out, HWS.out⟩
     clear p0 p1 p2 p3 p4 e0 e1 e2
     obtain ⟨j, A, n, cc, hj, hj1, rfl, rfl, hge, hw⟩ := hrel
     have HGE := Lib.hid hge
     have HW6 := Lib.hid hw
     have hnl := (hw.gi 0 rfl).1
     rw [bvs_length, gat_len HOK.out j hge] at hnl
     have hn4 : n = 64 * j := by simpa using hnl.symm
     have hn448 : n ≤ 448 := by omega
     have HN4 := Lib.hid hn4
     clear HWS HG1 hge hw hnl hn4
     by_cases hlt : j < N
     ·have hlt2 : (j : Int) < (N : Int) := by omega
      have hwa := IntWalk.i64_in (a + (j : Int)) (by omega)
      go_wp2_with fail
      refine (rk_read_own w0 _ r d c (a + (j : Int)) (HR.out.keep0 HW6.out.only) hh).mono ?_
      rintro en w7 ⟨v, nx, rfl, hown, hO⟩
      have hW := HW6.out.gadd hO hown
      obtain ⟨AX, ccx, rfl⟩ := hW.gform 0 rfl
      have HW7 := Lib.hid hW
      clear hown hW hO HW6
      obtain ⟨z2, hz2⟩ : ∃ z, d.err (a + (j : Int)) = z := ⟨_, rfl⟩
      rw [hz2]
      have HZ2 := Lib.hid hz2
      clear hz2
      have hgs := gerr_succ d a j
      rw [if_pos HGE.out, HZ2.out] at hgs
      have HGS := Lib.hid hgs
      clear hgs
      by_cases hz20 : z2 = 0
      ·subst hz20
       have hrx := (Row1.of_owns (HW7.out.gi 0 rfl)).1
       have hnx := hrx.len
       rw [bvs_length] at hnx
       have hnx64 : nx ≤ 64 := by rw [← hnx, Dk.read_len HOK.out]; split <;> omega
       have HRX := Lib.hid hrx
       have HBS := Lib.hid HW7.out.only.size
       clear hrx hnx
       go_wp2_with (first
        | (at_builtin; refine wpList_append_row1 rfl (.tmp 81) (.tmp 82) 47 rfl w.heap.size 5 i0 _ 1 Tryz.underlying47 hi0 hy0 hy1 hy2 rfl (.slice A n cc) n (bvs (gat d a j)) rfl (HW7.out.gi 1 rfl) AX nx ccx (bvs (d.read (a + (j : Int)))) rfl HRX.out (bvs_one _) (by unfold maxLen; omega) (by omega) HBS.out ?_; intro v8 w8 hown hgrow hat; have hdd := HW7.out.gapp 1 rfl hown hgrow hat; obtain ⟨A8, c8, rfl⟩ := hdd.gform 1 rfl; simp only [List.set_cons_zero, List.set_cons_succ] at hdd; have HW8 := Lib.hid hdd.gdrop; clear hdd hown hgrow hat HRX HBS HW7)
        | fail)
       have hba : bvs (gat d a j) ++ bvs (d.read (a + (j : Int))) = bvs (gat d a (j + 1)) := by rw [gat_succ]; simp [bvs]
       rw [hba] at HW8
       clear hba
       go_roundg (gk - 1)
       case measure => omega
       case rel => exact ⟨j + 1, A8, n + nx, c8, by omega, by omega, by go_num, rfl, HGS.out, HW8.out⟩
      ·have hzb : (z2 != 0) = true := by simpa using hz20
       go_wp2_with fail
       have HY := Lib.hid HW7.out.drew
       clear HW7
       refine wp_region_held_drew (S := (fun w' => Kn.Own w' f10 [.int .i64 0, .int .i64 0, .int .i64 0, .slice none 0 0, .slice none 0 0] ∧ Kn.Own w' f5 [.int .i64 q.s, .int .i64 q.o, .int .i64 q.l, .int .i64 q.p, .int .i64 q.m])) (by kernel_rfl) ⟨HY.out.boxi 0 rfl, HY.out.boxi 3 rfl⟩ (fun hSw0 => ?_)
       generalize w7.drew = wz at *
       refine Kn.takeS 0 ⟨some 78, _, _, _, _, _⟩ (v := (.agg #[.int .i64 0, .int .i64 0, .int .i64 0, .slice none 0 0, .slice none 0 0])) (hy := fun w hSw => by
        have q0 := hSw.1
        obtain ⟨q00, q01, q02, q03, q04⟩ := Kn.own5 q0
        clear q0
        go_simp) ?_
       refine Kn.takeS 1 ⟨some 79, _, _, _, _, _⟩ (v := (.agg #[.int .i64 q.s, .int .i64 q.o, .int .i64 q.l, .int .i64 q.p, .int .i64 q.m])) (hy := fun w hSw => by
        have q0 := hSw.2
        obtain ⟨q00, q01, q02, q03, q04⟩ := Kn.own5 q0
        clear q0
        go_simp) ?_
       refine Kn.takeS 2 ⟨some 80, _, _, _, _, _⟩ ?_
       refine Kn.takeR 3 ⟨none, _, _, _, _, _⟩ fun K hK => ?_
       refine step_store_own rfl 56 (.tmp 6) (.tmp 78) rfl f6 [.int .i64 0, .int .i64 0, .int .i64 0, .slice none 0 0, .slice none 0 0] [.int .i64 0, .int .i64 0, .int .i64 0, .slice none 0 0, .slice none 0 0] (by kernel_rfl) rfl rfl (HY.out.boxi 2 rfl) rfl (by intro u hu; simp at hu; rcases hu with rfl | rfl <;> rfl) ?_
       intro wa ho hO
       have HY1 := Lib.hid (HY.out.call1 2 rfl ho hO)
       clear ho hO HY
       refine hK.out _ _ ⟨HY1.out.boxi 0 rfl, HY1.out.boxi 3 rfl⟩ (fun hSn => ?_)
       clear hK K hSw0
       have hSw0 := hSn
       clear hSn
       refine Kn.takeR 4 ⟨none, _, _, _, _, _⟩ fun K hK => ?_
       refine step_store_own rfl 32 (.tmp 7) (.tmp 79) rfl f7 [.int .i64 0, .int .i64 0, .int .i64 0, .int .i64 0, .int .i64 0] [.int .i64 q.s, .int .i64 q.o, .int .i64 q.l, .int .i64 q.p, .int .i64 q.m] (by kernel_rfl) rfl rfl (HY1.out.boxi 1 rfl) rfl (by intro u hu; simp at hu; rcases hu with rfl | rfl | rfl | rfl | rfl <;> rfl) ?_
       intro wy ho hO
       have HY2 := Lib.hid (HY1.out.call1 1 rfl ho hO)
       clear ho hO HY1
       refine hK.out _ _ ⟨HY2.out.boxi 0 rfl, HY2.out.boxi 3 rfl⟩ (fun hSn => ?_)
       clear hK K hSw0
       have hSw0 := hSn
       clear hSn
       refine Kn.takeS 5 ⟨some 8, _, _, _, _, _⟩ ?_
       refine Kn.takeS 6 ⟨some 9, _, _, _, _, _⟩ ?_
       refine wpAnyH_done (by kernel_rfl) ?_ _
       clear hSw0
       have HFOL := Lib.hid ((follow_gerr (d := d) (c := cf) (p := q) ⟨ho0, by omega⟩ HA.out HZ.out HN.out (fun h => HLZ.out h) (by rw [gerr_stop (m := j + 1) (by rw [HGS.out]; exact hz20) (by omega), HGS.out]; exact hz20)).trans (by rw [gerr_stop (m := j + 1) (by rw [HGS.out]; exact hz20) (by omega), HGS.out]))
       have br := HY2.out.boxi 2 rfl
       have bn := HY2.out.boxi 1 rfl
       obtain ⟨r0, r1, r2, r3, r4⟩ := Kn.own5 br
       obtain ⟨n0, n1, n2, n3, n4⟩ := Kn.own5 bn
       clear br bn
       go_wp2
       (try simp only [Exit.inBlock, Exit.then])
       refine bodyPost_ret (v := .tuple #[.agg #[.int .i64 0, .int .i64 0, .int .i64 0, .slice none 0 0, .slice none 0 0], .agg #[.int .i64 q.s, .int .i64 q.o, .int .i64 q.l, .int .i64 q.p, .int .i64 q.m], .bool false, .int .i64 z2]) ?_ rfl ?_
       ·simp only [results, HRES.out]
        go_simp
       ·exact FolSays.no HFOL.out HY2.out.only
     ·obtain rfl : j = N := by omega
      have hbo := (Row1.of_owns (HW6.out.gi 0 rfl)).1
      have HBO := Lib.hid hbo
      clear hbo
      go_wp2_with fail
      refine (ref_rec_dec_any A n cc (gat d a j) _ HBO.out (by omega)).mono ?_
      rintro en w8 ⟨s, t, rfl, hfc, hO⟩
      obtain ⟨s1, s2, s3⟩ := s
      obtain ⟨t1, t2, t3⟩ := t
      have hwA := HW6.out.keep0 hO
      have h7s := HW6.out.only.size
      have h78 := hO.size
      have l6 := (HW6.out.boxi 2 rfl).lt
      have l7 := (HW6.out.boxi 1 rfl).lt
      have HFX : Hid (∀ wy, Only [f7, f6] w8 wy → Fc wy (fun k => k < w.heap.size) (fun W => RcAt W (((decRc (gat d a j)).map (·.1)).getD rcZ) (s1, s2, s3) (t1, t2, t3))) := Lib.hid (fun wy ho => fc_wc hfc h78 h7s (L := [(f7, []), (f6, [])]) (by intro x hx; simp at hx; rcases hx with rfl | rfl <;> simp <;> omega) ho)
      clear l6 l7 h7s h78 hfc
      cases hdec : decRc (gat d a j) with
      | none =>
       have HDEC := Lib.hid hdec
       simp only [Option.map_none, Option.getD_none, Option.isSome_none, rcZ, Rc.cells, slv]
       go_upto_region 19 with (fail)
       have hwB := hwA.newB #[.int .i64 0, .int .i64 0, .int .i64 0, .slice s1 s2 s3, .slice t1 t2 t3] 56 rfl
       have HWB := Lib.hid hwB
       have HO9 : Hid (Only [f7, f6] w8 (w8.alloc (.cells #[.int .i64 0, .int .i64 0, .int .i64 0, .slice s1 s2 s3, .slice t1 t2 t3] 56))) := Lib.hid ((Only.refl _ _).alloc _)
       clear hwA hwB HBO HW6 hO
       clear hdec HFX
       generalize hw9 : w8.alloc (.cells #[.int .i64 0, .int .i64 0, .int .i64 0, .slice s1 s2 s3, .slice t1 t2 t3] 56) = w9 at *
       generalize w8.heap.size = f18 at *
       clear hw9
       have k9 := HWB.out.boxi 0 rfl
       obtain ⟨k0, k1, k2, k3, k4⟩ := Kn.own5 k9
       clear k9
       have p9 := HWB.out.boxi 4 rfl
       obtain ⟨p0, p1, p2, p3, p4⟩ := Kn.own5 p9
       clear p9
       go_wp2_with fail
       have HY := Lib.hid HWB.out.drew
       clear HWB
       refine wp_region_held_drew (S := (fun w' => Kn.Own w' f10 [.int .i64 0, .int .i64 0, .int .i64 0, .slice none 0 0, .slice none 0 0] ∧ Kn.Own w' f5 [.int .i64 q.s, .int .i64 q.o, .int .i64 q.l, .int .i64 q.p, .int .i64 q.m])) (by kernel_rfl) ⟨HY.out.boxi 1 rfl, HY.out.boxi 4 rfl⟩ (fun hSw0 => ?_)
       generalize w9.drew = wz at *
       refine Kn.takeS 0 ⟨some 113, _, _, _, _, _⟩ (v := (.agg #[.int .i64 0, .int .i64 0, .int .i64 0, .slice none 0 0, .slice none 0 0])) (hy := fun w hSw => by
        have q0 := hSw.1
        obtain ⟨q00, q01, q02, q03, q04⟩ := Kn.own5 q0
        clear q0
        go_simp) ?_
       refine Kn.takeS 1 ⟨some 114, _, _, _, _, _⟩ (v := (.agg #[.int .i64 q.s, .int .i64 q.o, .int .i64 q.l, .int .i64 q.p, .int .i64 q.m])) (hy := fun w hSw => by
        have q0 := hSw.2
        obtain ⟨q00, q01, q02, q03, q04⟩ := Kn.own5 q0
        clear q0
        go_simp) ?_
       refine Kn.takeR 2 ⟨none, _, _, _, _, _⟩ fun K hK => ?_
       refine step_store_own rfl 56 (.tmp 6) (.tmp 113) rfl f6 [.int .i64 0, .int .i64 0, .int .i64 0, .slice none 0 0, .slice none 0 0] [.int .i64 0, .int .i64 0, .int .i64 0, .slice none 0 0, .slice none 0 0] (by kernel_rfl) rfl rfl (HY.out.boxi 3 rfl) rfl (by intro u hu; simp at hu; rcases hu with rfl | rfl <;> rfl) ?_
       intro wa ho hO
       have HY1 := Lib.hid (HY.out.call1 3 rfl ho hO)
       clear ho hO HY
       refine hK.out _ _ ⟨HY1.out.boxi 1 rfl, HY1.out.boxi 4 rfl⟩ (fun hSn => ?_)
       clear hK K hSw0
       have hSw0 := hSn
       clear hSn
       refine Kn.takeR 3 ⟨none, _, _, _, _, _⟩ fun K hK => ?_
       refine step_store_own rfl 32 (.tmp 7) (.tmp 114) rfl f7 [.int .i64 0, .int .i64 0, .int .i64 0, .int .i64 0, .int .i64 0] [.int .i64 q.s, .int .i64 q.o, .int .i64 q.l, .int .i64 q.p, .int .i64 q.m] (by kernel_rfl) rfl rfl (HY1.out.boxi 2 rfl) rfl (by intro u hu; simp at hu; rcases hu with rfl | rfl | rfl | rfl | rfl <;> rfl) ?_
       intro wy ho hO
       have HY2 := Lib.hid (HY1.out.call1 2 rfl ho hO)
       clear ho hO HY1
       refine hK.out _ _ ⟨HY2.out.boxi 1 rfl, HY2.out.boxi 4 rfl⟩ (fun hSn => ?_)
       clear hK K hSw0
       have hSw0 := hSn
       clear hSn
       refine Kn.takeS 4 ⟨some 8, _, _, _, _, _⟩ ?_
       refine Kn.takeS 5 ⟨some 9, _, _, _, _, _⟩ ?_
       refine wpAnyH_done (by kernel_rfl) ?_ _
       clear hSw0
       have HFOL := Lib.hid (follow_dec (d := d) (c := cf) (p := q) ⟨ho0, by omega⟩ HA.out HZ.out HN.out (fun h => HLZ.out h) HGE.out HDEC.out)
       have br := HY2.out.boxi 3 rfl
       have bn := HY2.out.boxi 2 rfl
       obtain ⟨r0, r1, r2, r3, r4⟩ := Kn.own5 br
       obtain ⟨n0, n1, n2, n3, n4⟩ := Kn.own5 bn
       clear br bn
       go_wp2
       (try simp only [Exit.inBlock, Exit.then])
       refine bodyPost_ret (v := .tuple #[.agg #[.int .i64 0, .int .i64 0, .int .i64 0, .slice none 0 0, .slice none 0 0], .agg #[.int .i64 q.s, .int .i64 q.o, .int .i64 q.l, .int .i64 q.p, .int .i64 q.m], .bool false, .int .i64 0]) ?_ rfl ?_
       ·simp only [results, HRES.out]
        go_simp
       ·exact FolSays.no HFOL.out HY2.out.only
      | some x =>
       obtain ⟨⟨rm, rn, rp, ri, rb⟩, sm⟩ := x
       have HDEC := Lib.hid hdec
       obtain ⟨he1, _, _⟩ := encRc_of_dec hdec
       obtain ⟨hq1, hq2, hq3, hq4, hq5, hq6, hq7, hq8⟩ := enc_some he1
       simp only at hq6 hq7
       obtain ⟨hrn0, hrn1⟩ := hq7
       rw [hdec] at HFX
       simp only [Option.map_some, Option.getD_some] at HFX
       have hFR := follow_rec (d := d) (c := cf) (p := q) ⟨ho0, by omega⟩ HA.out HZ.out HN.out (fun h => HLZ.out h) HGE.out HDEC.out
       have HFR := Lib.hid hFR
       clear hFR
       simp only [Option.map_some, Option.getD_some, Option.isSome_some, Rc.cells, slv]
       clear hdec he1 hq1 hq2 hq3 hq4 hq5 hq6 hq8
       go_upto_region 19 with (fail)
       have hwB := hwA.newB #[.int .i64 rm, .int .i64 rn, .int .i64 rp, .slice s1 s2 s3, .slice t1 t2 t3] 56 rfl
       have HWB := Lib.hid hwB
       have HO9 : Hid (Only [f7, f6] w8 (w8.alloc (.cells #[.int .i64 rm, .int .i64 rn, .int .i64 rp, .slice s1 s2 s3, .slice t1 t2 t3] 56))) := Lib.hid ((Only.refl _ _).alloc _)
       clear hwA hwB HBO HW6 hO
       generalize hw9 : w8.alloc (.cells #[.int .i64 rm, .int .i64 rn, .int .i64 rp, .slice s1 s2 s3, .slice t1 t2 t3] 56) = w9 at *
       generalize w8.heap.size = f18 at *
       clear hw9
       have k9 := HWB.out.boxi 0 rfl
       obtain ⟨k0, k1, k2, k3, k4⟩ := Kn.own5 k9
       clear k9
       have p9 := HWB.out.boxi 4 rfl
       obtain ⟨p0, p1, p2, p3, p4⟩ := Kn.own5 p9
       clear p9
       by_cases c1 : rn = q.l
       ·by_cases c2 : rp = q.p
        ·by_cases c3 : q.m ≤ rm
         ·have HFOL := Lib.hid (HFR.out.trans (if_pos ⟨c1, c2, c3⟩))
          have hb1 : (rn != q.l) = false := by simp [c1]
          have hb2 : (rp != q.p) = false := by simp [c2]
          have hb3 : ¬ rm < q.m := by omega
          have hwn := IntWalk.i64_in (q.l + 1) (by omega)
          clear c1 c2
          go_wp2_with fail
          have HOD := Lib.hid HO9.out.drew
          clear HO9
          have HY := Lib.hid HWB.out.drew
          clear HWB
          refine wp_region_held_drew (S := (fun w' => Kn.Own w' f18 [.int .i64 rm, .int .i64 rn, .int .i64 rp, .slice s1 s2 s3, .slice t1 t2 t3] ∧ Kn.Own w' f5 [.int .i64 q.s, .int .i64 q.o, .int .i64 q.l, .int .i64 q.p, .int .i64 q.m])) (by kernel_rfl) ⟨HY.out.boxi 0 rfl, HY.out.boxi 4 rfl⟩ (fun hSw0 => ?_)
          generalize w9.drew = wz at *
          refine Kn.takeS 0 ⟨some 115, _, _, _, _, _⟩ (v := (.agg #[.int .i64 rm, .int .i64 rn, .int .i64 rp, .slice s1 s2 s3, .slice t1 t2 t3])) (hy := fun w hSw => by
           have q0 := hSw.1
           obtain ⟨q00, q01, q02, q03, q04⟩ := Kn.own5 q0
           clear q0
           go_simp) ?_
          refine Kn.takeS 1 ⟨some 116, _, _, _, _, _⟩ ?_
          refine Kn.takeS 2 ⟨some 117, _, _, _, _, _⟩ (v := (.int .i64 q.s)) (hy := fun w hSw => by
           have q0 := Kn.own1 hSw.2
           go_simp) ?_
          refine Kn.takeS 3 ⟨some 118, _, _, _, _, _⟩ ?_
          refine Kn.takeS 4 ⟨some 119, _, _, _, _, _⟩ (v := (.int .i64 q.o)) (hy := fun w hSw => by
           have q0 := hSw.2.cell 1 (by simp)
           simp only [List.getElem_cons_zero, List.getElem_cons_succ] at q0
           go_simp) ?_
          refine Kn.takeS 5 ⟨some 120, _, _, _, _, _⟩ ?_
          refine Kn.takeS 6 ⟨some 121, _, _, _, _, _⟩ ?_
          refine Kn.takeS 7 ⟨some 122, _, _, _, _, _⟩ ?_
          refine Kn.takeS 8 ⟨some 123, _, _, _, _, _⟩ (v := (.int .i64 q.l)) (hy := fun w hSw => by
           have q0 := hSw.2.cell 2 (by simp)
           simp only [List.getElem_cons_zero, List.getElem_cons_succ] at q0
           go_simp) ?_
          refine Kn.takeS 9 ⟨some 124, _, _, _, _, _⟩ ?_
          refine Kn.takeS 10 ⟨some 125, _, _, _, _, _⟩ ?_
          refine Kn.takeS 11 ⟨some 126, _, _, _, _, _⟩ ?_
          refine Kn.takeS 12 ⟨some 127, _, _, _, _, _⟩ (v := (.int .i64 rm)) (hy := fun w hSw => by
           have q0 := Kn.own1 hSw.1
           go_simp) ?_
          refine Kn.takeS 13 ⟨some 128, _, _, _, _, _⟩ ?_
          refine Kn.takeR 14 ⟨none, _, _, _, _, _⟩ fun K hK => ?_
          refine step_store_own rfl 56 (.tmp 6) (.tmp 115) rfl f6 [.int .i64 0, .int .i64 0, .int .i64 0, .slice none 0 0, .slice none 0 0] [.int .i64 rm, .int .i64 rn, .int .i64 rp, .slice s1 s2 s3, .slice t1 t2 t3] (by kernel_rfl) rfl rfl (HY.out.boxi 3 rfl) rfl (by intro u hu; simp at hu; rcases hu with rfl | rfl | rfl | rfl | rfl <;> rfl) ?_
          intro wa ho hO
          have HY1 := Lib.hid (HY.out.call1 3 rfl ho hO)
          have HOY := Lib.hid hO
          clear ho hO HY
          have HOA := Lib.hid (HOD.out.trans HOY.out (by simp))
          clear HOD HOY
          refine hK.out _ _ ⟨HY1.out.boxi 0 rfl, HY1.out.boxi 4 rfl⟩ (fun hSn => ?_)
          clear hK K hSw0
          have hSw0 := hSn
          clear hSn
          refine Kn.takeR 15 ⟨none, _, _, _, _, _⟩ fun K hK => ?_
          refine step_store_own rfl 32 (.tmp 7) (.tmp 128) rfl f7 [.int .i64 0, .int .i64 0, .int .i64 0, .int .i64 0, .int .i64 0] [.int .i64 q.s, .int .i64 (q.o + (j : Int)), .int .i64 (q.l + 1), .int .i64 (sm : Nat), .int .i64 rm] (by kernel_rfl) rfl rfl (HY1.out.boxi 2 rfl) rfl (by intro u hu; simp at hu; rcases hu with rfl | rfl | rfl | rfl | rfl <;> rfl) ?_
          intro wy ho hO
          have HY2 := Lib.hid (HY1.out.call1 2 rfl ho hO)
          have HOB := Lib.hid (HOA.out.trans hO (by simp))
          clear ho hO HY1 HOA
          refine hK.out _ _ ⟨HY2.out.boxi 0 rfl, HY2.out.boxi 4 rfl⟩ (fun hSn => ?_)
          clear hK K hSw0
          have hSw0 := hSn
          clear hSn
          refine Kn.takeS 16 ⟨some 8, _, _, _, _, _⟩ ?_
          refine Kn.takeS 17 ⟨some 9, _, _, _, _, _⟩ ?_
          refine wpAnyH_done (by kernel_rfl) ?_ _
          clear hSw0
          have br := HY2.out.boxi 3 rfl
          have bn := HY2.out.boxi 2 rfl
          obtain ⟨r0, r1, r2, r3, r4⟩ := Kn.own5 br
          obtain ⟨n0, n1, n2, n3, n4⟩ := Kn.own5 bn
          clear br bn
          go_wp2
          (try simp only [Exit.inBlock, Exit.then])
          refine bodyPost_ret (v := .tuple #[.agg #[.int .i64 rm, .int .i64 rn, .int .i64 rp, .slice s1 s2 s3, .slice t1 t2 t3], .agg #[.int .i64 q.s, .int .i64 (q.o + (j : Int)), .int .i64 (q.l + 1), .int .i64 (sm : Nat), .int .i64 rm], .bool true, .int .i64 0]) ?_ rfl ?_
          ·simp only [results, HRES.out]
           go_simp
          ·rw [HFOL.out]
           exact ⟨HY2.out.only, (s1, s2, s3), (t1, t2, t3), rfl, HFX.out _ HOB.out⟩
         ·have hb1 : (rn != q.l) = false := by simp [c1]
          have hb2 : (rp != q.p) = false := by simp [c2]
          have hb3 : rm < q.m := by omega
          clear c1 c2
          go_wp2_with fail
          have HY := Lib.hid HWB.out.drew
          clear HWB
          refine wp_region_held_drew (S := (fun w' => Kn.Own w' f10 [.int .i64 0, .int .i64 0, .int .i64 0, .slice none 0 0, .slice none 0 0] ∧ Kn.Own w' f5 [.int .i64 q.s, .int .i64 q.o, .int .i64 q.l, .int .i64 q.p, .int .i64 q.m])) (by kernel_rfl) ⟨HY.out.boxi 1 rfl, HY.out.boxi 4 rfl⟩ (fun hSw0 => ?_)
          generalize w9.drew = wz at *
          refine Kn.takeS 0 ⟨some 113, _, _, _, _, _⟩ (v := (.agg #[.int .i64 0, .int .i64 0, .int .i64 0, .slice none 0 0, .slice none 0 0])) (hy := fun w hSw => by
           have q0 := hSw.1
           obtain ⟨q00, q01, q02, q03, q04⟩ := Kn.own5 q0
           clear q0
           go_simp) ?_
          refine Kn.takeS 1 ⟨some 114, _, _, _, _, _⟩ (v := (.agg #[.int .i64 q.s, .int .i64 q.o, .int .i64 q.l, .int .i64 q.p, .int .i64 q.m])) (hy := fun w hSw => by
           have q0 := hSw.2
           obtain ⟨q00, q01, q02, q03, q04⟩ := Kn.own5 q0
           clear q0
           go_simp) ?_
          refine Kn.takeR 2 ⟨none, _, _, _, _, _⟩ fun K hK => ?_
          refine step_store_own rfl 56 (.tmp 6) (.tmp 113) rfl f6 [.int .i64 0, .int .i64 0, .int .i64 0, .slice none 0 0, .slice none 0 0] [.int .i64 0, .int .i64 0, .int .i64 0, .slice none 0 0, .slice none 0 0] (by kernel_rfl) rfl rfl (HY.out.boxi 3 rfl) rfl (by intro u hu; simp at hu; rcases hu with rfl | rfl <;> rfl) ?_
          intro wa ho hO
          have HY1 := Lib.hid (HY.out.call1 3 rfl ho hO)
          clear ho hO HY
          refine hK.out _ _ ⟨HY1.out.boxi 1 rfl, HY1.out.boxi 4 rfl⟩ (fun hSn => ?_)
          clear hK K hSw0
          have hSw0 := hSn
          clear hSn
          refine Kn.takeR 3 ⟨none, _, _, _, _, _⟩ fun K hK => ?_
          refine step_store_own rfl 32 (.tmp 7) (.tmp 114) rfl f7 [.int .i64 0, .int .i64 0, .int .i64 0, .int .i64 0, .int .i64 0] [.int .i64 q.s, .int .i64 q.o, .int .i64 q.l, .int .i64 q.p, .int .i64 q.m] (by kernel_rfl) rfl rfl (HY1.out.boxi 2 rfl) rfl (by intro u hu; simp at hu; rcases hu with rfl | rfl | rfl | rfl | rfl <;> rfl) ?_
          intro wy ho hO
          have HY2 := Lib.hid (HY1.out.call1 2 rfl ho hO)
          clear ho hO HY1
          refine hK.out _ _ ⟨HY2.out.boxi 1 rfl, HY2.out.boxi 4 rfl⟩ (fun hSn => ?_)
          clear hK K hSw0
          have hSw0 := hSn
          clear hSn
          refine Kn.takeS 4 ⟨some 8, _, _, _, _, _⟩ ?_
          refine Kn.takeS 5 ⟨some 9, _, _, _, _, _⟩ ?_
          refine wpAnyH_done (by kernel_rfl) ?_ _
          clear hSw0
          have HFOL := Lib.hid (HFR.out.trans (if_neg (by intro h; omega)))
          have br := HY2.out.boxi 3 rfl
          have bn := HY2.out.boxi 2 rfl
          obtain ⟨r0, r1, r2, r3, r4⟩ := Kn.own5 br
          obtain ⟨n0, n1, n2, n3, n4⟩ := Kn.own5 bn
          clear br bn
          go_wp2
          (try simp only [Exit.inBlock, Exit.then])
          refine bodyPost_ret (v := .tuple #[.agg #[.int .i64 0, .int .i64 0, .int .i64 0, .slice none 0 0, .slice none 0 0], .agg #[.int .i64 q.s, .int .i64 q.o, .int .i64 q.l, .int .i64 q.p, .int .i64 q.m], .bool false, .int .i64 0]) ?_ rfl ?_
          ·simp only [results, HRES.out]
           go_simp
          ·exact FolSays.no HFOL.out HY2.out.only
        ·have hb1 : (rn != q.l) = false := by simp [c1]
         have hb2 : (rp != q.p) = true := by simpa using c2
         clear c1
         go_wp2_with fail
         have HY := Lib.hid HWB.out.drew
         clear HWB
         refine wp_region_held_drew (S := (fun w' => Kn.Own w' f10 [.int .i64 0, .int .i64 0, .int .i64 0, .slice none 0 0, .slice none 0 0] ∧ Kn.Own w' f5 [.int .i64 q.s, .int .i64 q.o, .int .i64 q.l, .int .i64 q.p, .int .i64 q.m])) (by kernel_rfl) ⟨HY.out.boxi 1 rfl, HY.out.boxi 4 rfl⟩ (fun hSw0 => ?_)
         generalize w9.drew = wz at *
         refine Kn.takeS 0 ⟨some 113, _, _, _, _, _⟩ (v := (.agg #[.int .i64 0, .int .i64 0, .int .i64 0, .slice none 0 0, .slice none 0 0])) (hy := fun w hSw => by
          have q0 := hSw.1
          obtain ⟨q00, q01, q02, q03, q04⟩ := Kn.own5 q0
          clear q0
          go_simp) ?_
         refine Kn.takeS 1 ⟨some 114, _, _, _, _, _⟩ (v := (.agg #[.int .i64 q.s, .int .i64 q.o, .int .i64 q.l, .int .i64 q.p, .int .i64 q.m])) (hy := fun w hSw => by
          have q0 := hSw.2
          obtain ⟨q00, q01, q02, q03, q04⟩ := Kn.own5 q0
          clear q0
          go_simp) ?_
         refine Kn.takeR 2 ⟨none, _, _, _, _, _⟩ fun K hK => ?_
         refine step_store_own rfl 56 (.tmp 6) (.tmp 113) rfl f6 [.int .i64 0, .int .i64 0, .int .i64 0, .slice none 0 0, .slice none 0 0] [.int .i64 0, .int .i64 0, .int .i64 0, .slice none 0 0, .slice none 0 0] (by kernel_rfl) rfl rfl (HY.out.boxi 3 rfl) rfl (by intro u hu; simp at hu; rcases hu with rfl | rfl <;> rfl) ?_
         intro wa ho hO
         have HY1 := Lib.hid (HY.out.call1 3 rfl ho hO)
         clear ho hO HY
         refine hK.out _ _ ⟨HY1.out.boxi 1 rfl, HY1.out.boxi 4 rfl⟩ (fun hSn => ?_)
         clear hK K hSw0
         have hSw0 := hSn
         clear hSn
         refine Kn.takeR 3 ⟨none, _, _, _, _, _⟩ fun K hK => ?_
         refine step_store_own rfl 32 (.tmp 7) (.tmp 114) rfl f7 [.int .i64 0, .int .i64 0, .int .i64 0, .int .i64 0, .int .i64 0] [.int .i64 q.s, .int .i64 q.o, .int .i64 q.l, .int .i64 q.p, .int .i64 q.m] (by kernel_rfl) rfl rfl (HY1.out.boxi 2 rfl) rfl (by intro u hu; simp at hu; rcases hu with rfl | rfl | rfl | rfl | rfl <;> rfl) ?_
         intro wy ho hO
         have HY2 := Lib.hid (HY1.out.call1 2 rfl ho hO)
         clear ho hO HY1
         refine hK.out _ _ ⟨HY2.out.boxi 1 rfl, HY2.out.boxi 4 rfl⟩ (fun hSn => ?_)
         clear hK K hSw0
         have hSw0 := hSn
         clear hSn
         refine Kn.takeS 4 ⟨some 8, _, _, _, _, _⟩ ?_
         refine Kn.takeS 5 ⟨some 9, _, _, _, _, _⟩ ?_
         refine wpAnyH_done (by kernel_rfl) ?_ _
         clear hSw0
         have HFOL := Lib.hid (HFR.out.trans (if_neg (by intro h; exact c2 h.2.1)))
         have br := HY2.out.boxi 3 rfl
         have bn := HY2.out.boxi 2 rfl
         obtain ⟨r0, r1, r2, r3, r4⟩ := Kn.own5 br
         obtain ⟨n0, n1, n2, n3, n4⟩ := Kn.own5 bn
         clear br bn
         go_wp2
         (try simp only [Exit.inBlock, Exit.then])
         refine bodyPost_ret (v := .tuple #[.agg #[.int .i64 0, .int .i64 0, .int .i64 0, .slice none 0 0, .slice none 0 0], .agg #[.int .i64 q.s, .int .i64 q.o, .int .i64 q.l, .int .i64 q.p, .int .i64 q.m], .bool false, .int .i64 0]) ?_ rfl ?_
         ·simp only [results, HRES.out]
          go_simp
         ·exact FolSays.no HFOL.out HY2.out.only
       ·have hb1 : (rn != q.l) = true := by simpa using c1
        go_wp2_with fail
        have HY := Lib.hid HWB.out.drew
        clear HWB
        refine wp_region_held_drew (S := (fun w' => Kn.Own w' f10 [.int .i64 0, .int .i64 0, .int .i64 0, .slice none 0 0, .slice none 0 0] ∧ Kn.Own w' f5 [.int .i64 q.s, .int .i64 q.o, .int .i64 q.l, .int .i64 q.p, .int .i64 q.m])) (by kernel_rfl) ⟨HY.out.boxi 1 rfl, HY.out.boxi 4 rfl⟩ (fun hSw0 => ?_)
        generalize w9.drew = wz at *
        refine Kn.takeS 0 ⟨some 113, _, _, _, _, _⟩ (v := (.agg #[.int .i64 0, .int .i64 0, .int .i64 0, .slice none 0 0, .slice none 0 0])) (hy := fun w hSw => by
         have q0 := hSw.1
         obtain ⟨q00, q01, q02, q03, q04⟩ := Kn.own5 q0
         clear q0
         go_simp) ?_
        refine Kn.takeS 1 ⟨some 114, _, _, _, _, _⟩ (v := (.agg #[.int .i64 q.s, .int .i64 q.o, .int .i64 q.l, .int .i64 q.p, .int .i64 q.m])) (hy := fun w hSw => by
         have q0 := hSw.2
         obtain ⟨q00, q01, q02, q03, q04⟩ := Kn.own5 q0
         clear q0
         go_simp) ?_
        refine Kn.takeR 2 ⟨none, _, _, _, _, _⟩ fun K hK => ?_
        refine step_store_own rfl 56 (.tmp 6) (.tmp 113) rfl f6 [.int .i64 0, .int .i64 0, .int .i64 0, .slice none 0 0, .slice none 0 0] [.int .i64 0, .int .i64 0, .int .i64 0, .slice none 0 0, .slice none 0 0] (by kernel_rfl) rfl rfl (HY.out.boxi 3 rfl) rfl (by intro u hu; simp at hu; rcases hu with rfl | rfl <;> rfl) ?_
        intro wa ho hO
        have HY1 := Lib.hid (HY.out.call1 3 rfl ho hO)
        clear ho hO HY
        refine hK.out _ _ ⟨HY1.out.boxi 1 rfl, HY1.out.boxi 4 rfl⟩ (fun hSn => ?_)
        clear hK K hSw0
        have hSw0 := hSn
        clear hSn
        refine Kn.takeR 3 ⟨none, _, _, _, _, _⟩ fun K hK => ?_
        refine step_store_own rfl 32 (.tmp 7) (.tmp 114) rfl f7 [.int .i64 0, .int .i64 0, .int .i64 0, .int .i64 0, .int .i64 0] [.int .i64 q.s, .int .i64 q.o, .int .i64 q.l, .int .i64 q.p, .int .i64 q.m] (by kernel_rfl) rfl rfl (HY1.out.boxi 2 rfl) rfl (by intro u hu; simp at hu; rcases hu with rfl | rfl | rfl | rfl | rfl <;> rfl) ?_
        intro wy ho hO
        have HY2 := Lib.hid (HY1.out.call1 2 rfl ho hO)
        clear ho hO HY1
        refine hK.out _ _ ⟨HY2.out.boxi 1 rfl, HY2.out.boxi 4 rfl⟩ (fun hSn => ?_)
        clear hK K hSw0
        have hSw0 := hSn
        clear hSn
        refine Kn.takeS 4 ⟨some 8, _, _, _, _, _⟩ ?_
        refine Kn.takeS 5 ⟨some 9, _, _, _, _, _⟩ ?_
        refine wpAnyH_done (by kernel_rfl) ?_ _
        clear hSw0
        have HFOL := Lib.hid (HFR.out.trans (if_neg (by intro h; exact c1 h.1)))
        have br := HY2.out.boxi 3 rfl
        have bn := HY2.out.boxi 2 rfl
        obtain ⟨r0, r1, r2, r3, r4⟩ := Kn.own5 br
        obtain ⟨n0, n1, n2, n3, n4⟩ := Kn.own5 bn
        clear br bn
        go_wp2
        (try simp only [Exit.inBlock, Exit.then])
        refine bodyPost_ret (v := .tuple #[.agg #[.int .i64 0, .int .i64 0, .int .i64 0, .slice none 0 0, .slice none 0 0], .agg #[.int .i64 q.s, .int .i64 q.o, .int .i64 q.l, .int .i64 q.p, .int .i64 q.m], .bool false, .int .i64 0]) ?_ rfl ?_
        ·simp only [results, HRES.out]
         go_simp
        ·exact FolSays.no HFOL.out HY2.out.only
  ·have hzb : (z != 0) = true := by simpa using hz0
   go_wp2_with fail
   have HY := Lib.hid HW4.out.drew
   clear HW4
   refine wp_region_held_drew (S := (fun w' => Kn.Own w' f10 [.int .i64 0, .int .i64 0, .int .i64 0, .slice none 0 0, .slice none 0 0] ∧ Kn.Own w' f5 [.int .i64 q.s, .int .i64 q.o, .int .i64 q.l, .int .i64 q.p, .int .i64 q.m])) (by kernel_rfl) ⟨HY.out.boxi 0 rfl, HY.out.boxi 3 rfl⟩ (fun hSw0 => ?_)
   generalize w4.drew = wz at *
   refine Kn.takeS 0 ⟨some 45, _, _, _, _, _⟩ (v := (.agg #[.int .i64 0, .int .i64 0, .int .i64 0, .slice none 0 0, .slice none 0 0])) (hy := fun w hSw => by
    have q0 := hSw.1
    obtain ⟨q00, q01, q02, q03, q04⟩ := Kn.own5 q0
    clear q0
    go_simp) ?_
   refine Kn.takeS 1 ⟨some 46, _, _, _, _, _⟩ (v := (.agg #[.int .i64 q.s, .int .i64 q.o, .int .i64 q.l, .int .i64 q.p, .int .i64 q.m])) (hy := fun w hSw => by
    have q0 := hSw.2
    obtain ⟨q00, q01, q02, q03, q04⟩ := Kn.own5 q0
    clear q0
    go_simp) ?_
   refine Kn.takeS 2 ⟨some 47, _, _, _, _, _⟩ ?_
   refine Kn.takeR 3 ⟨none, _, _, _, _, _⟩ fun K hK => ?_
   refine step_store_own rfl 56 (.tmp 6) (.tmp 45) rfl f6 [.int .i64 0, .int .i64 0, .int .i64 0, .slice none 0 0, .slice none 0 0] [.int .i64 0, .int .i64 0, .int .i64 0, .slice none 0 0, .slice none 0 0] (by kernel_rfl) rfl rfl (HY.out.boxi 2 rfl) rfl (by intro u hu; simp at hu; rcases hu with rfl | rfl <;> rfl) ?_
   intro wa ho hO
   have HY1 := Lib.hid (HY.out.call1 2 rfl ho hO)
   clear ho hO HY
   refine hK.out _ _ ⟨HY1.out.boxi 0 rfl, HY1.out.boxi 3 rfl⟩ (fun hSn => ?_)
   clear hK K hSw0
   have hSw0 := hSn
   clear hSn
   refine Kn.takeR 4 ⟨none, _, _, _, _, _⟩ fun K hK => ?_
   refine step_store_own rfl 32 (.tmp 7) (.tmp 46) rfl f7 [.int .i64 0, .int .i64 0, .int .i64 0, .int .i64 0, .int .i64 0] [.int .i64 q.s, .int .i64 q.o, .int .i64 q.l, .int .i64 q.p, .int .i64 q.m] (by kernel_rfl) rfl rfl (HY1.out.boxi 1 rfl) rfl (by intro u hu; simp at hu; rcases hu with rfl | rfl | rfl | rfl | rfl <;> rfl) ?_
   intro wy ho hO
   have HY2 := Lib.hid (HY1.out.call1 1 rfl ho hO)
   clear ho hO HY1
   refine hK.out _ _ ⟨HY2.out.boxi 0 rfl, HY2.out.boxi 3 rfl⟩ (fun hSn => ?_)
   clear hK K hSw0
   have hSw0 := hSn
   clear hSn
   refine Kn.takeS 5 ⟨some 8, _, _, _, _, _⟩ ?_
   refine Kn.takeS 6 ⟨some 9, _, _, _, _, _⟩ ?_
   refine wpAnyH_done (by kernel_rfl) ?_ _
   clear hSw0
   have HFOL := Lib.hid ((follow_err (d := d) (c := cf) (p := q) ⟨ho0, by omega⟩ HA.out (by rw [HZ.out]; exact hz0)).trans (by rw [HZ.out]))
   have br := HY2.out.boxi 2 rfl
   have bn := HY2.out.boxi 1 rfl
   obtain ⟨r0, r1, r2, r3, r4⟩ := Kn.own5 br
   obtain ⟨n0, n1, n2, n3, n4⟩ := Kn.own5 bn
   clear br bn
   go_wp2
   (try simp only [Exit.inBlock, Exit.then])
   refine bodyPost_ret (v := .tuple #[.agg #[.int .i64 0, .int .i64 0, .int .i64 0, .slice none 0 0, .slice none 0 0], .agg #[.int .i64 q.s, .int .i64 q.o, .int .i64 q.l, .int .i64 q.p, .int .i64 q.m], .bool false, .int .i64 z]) ?_ rfl ?_
   ·simp only [results, HRES.out]
    go_simp
   ·exact FolSays.no HFOL.out HY2.out.only
 ·have hdb : decide (1 ≤ q.o ∧ q.o ≤ cf.l - 1) = false := decide_eq_false hin
  rw [hdb]
  clear hdb
  go_wp2_with fail
  have HY := Lib.hid HW1.out.drew
  clear HW1
  refine wp_region_held_drew (S := (fun w' => Kn.Own w' f10 [.int .i64 0, .int .i64 0, .int .i64 0, .slice none 0 0, .slice none 0 0] ∧ Kn.Own w' f5 [.int .i64 q.s, .int .i64 q.o, .int .i64 q.l, .int .i64 q.p, .int .i64 q.m])) (by kernel_rfl) ⟨HY.out.boxi 0 rfl, HY.out.boxi 3 rfl⟩ (fun hSw0 => ?_)
  generalize w1.drew = wz at *
  refine Kn.takeS 0 ⟨some 28, _, _, _, _, _⟩ (v := (.agg #[.int .i64 0, .int .i64 0, .int .i64 0, .slice none 0 0, .slice none 0 0])) (hy := fun w hSw => by
   have q0 := hSw.1
   obtain ⟨q00, q01, q02, q03, q04⟩ := Kn.own5 q0
   clear q0
   go_simp) ?_
  refine Kn.takeS 1 ⟨some 29, _, _, _, _, _⟩ (v := (.agg #[.int .i64 q.s, .int .i64 q.o, .int .i64 q.l, .int .i64 q.p, .int .i64 q.m])) (hy := fun w hSw => by
   have q0 := hSw.2
   obtain ⟨q00, q01, q02, q03, q04⟩ := Kn.own5 q0
   clear q0
   go_simp) ?_
  refine Kn.takeR 2 ⟨none, _, _, _, _, _⟩ fun K hK => ?_
  refine step_store_own rfl 56 (.tmp 6) (.tmp 28) rfl f6 [.int .i64 0, .int .i64 0, .int .i64 0, .slice none 0 0, .slice none 0 0] [.int .i64 0, .int .i64 0, .int .i64 0, .slice none 0 0, .slice none 0 0] (by kernel_rfl) rfl rfl (HY.out.boxi 2 rfl) rfl (by intro u hu; simp at hu; rcases hu with rfl | rfl <;> rfl) ?_
  intro wa ho hO
  have HY1 := Lib.hid (HY.out.call1 2 rfl ho hO)
  clear ho hO HY
  refine hK.out _ _ ⟨HY1.out.boxi 0 rfl, HY1.out.boxi 3 rfl⟩ (fun hSn => ?_)
  clear hK K hSw0
  have hSw0 := hSn
  clear hSn
  refine Kn.takeR 3 ⟨none, _, _, _, _, _⟩ fun K hK => ?_
  refine step_store_own rfl 32 (.tmp 7) (.tmp 29) rfl f7 [.int .i64 0, .int .i64 0, .int .i64 0, .int .i64 0, .int .i64 0] [.int .i64 q.s, .int .i64 q.o, .int .i64 q.l, .int .i64 q.p, .int .i64 q.m] (by kernel_rfl) rfl rfl (HY1.out.boxi 1 rfl) rfl (by intro u hu; simp at hu; rcases hu with rfl | rfl | rfl | rfl | rfl <;> rfl) ?_
  intro wy ho hO
  have HY2 := Lib.hid (HY1.out.call1 1 rfl ho hO)
  clear ho hO HY1
  refine hK.out _ _ ⟨HY2.out.boxi 0 rfl, HY2.out.boxi 3 rfl⟩ (fun hSn => ?_)
  clear hK K hSw0
  have hSw0 := hSn
  clear hSn
  refine Kn.takeS 4 ⟨some 8, _, _, _, _, _⟩ ?_
  refine Kn.takeS 5 ⟨some 9, _, _, _, _, _⟩ ?_
  refine wpAnyH_done (by kernel_rfl) ?_ _
  clear hSw0
  have HFOL := Lib.hid (follow_out (d := d) (c := cf) (p := q) hin)
  have br := HY2.out.boxi 2 rfl
  have bn := HY2.out.boxi 1 rfl
  obtain ⟨r0, r1, r2, r3, r4⟩ := Kn.own5 br
  obtain ⟨n0, n1, n2, n3, n4⟩ := Kn.own5 bn
  clear br bn
  go_wp2
  (try simp only [Exit.inBlock, Exit.then])
  refine bodyPost_ret (v := .tuple #[.agg #[.int .i64 0, .int .i64 0, .int .i64 0, .slice none 0 0, .slice none 0 0], .agg #[.int .i64 q.s, .int .i64 q.o, .int .i64 q.l, .int .i64 q.p, .int .i64 q.m], .bool false, .int .i64 0]) ?_ rfl ?_
  ·simp only [results, HRES.out]
   go_simp
  ·exact FolSays.no HFOL.out HY2.out.only
end Go.Proofs.YtgcfdjcpcclcjaaGreat
namespace Go.Kn
open Go Go.RowKit
theorem follow_next {d : Dk} {c : Cf} {p q : Ps} {r : Rc} {e : Int} (h : follow d c p = (some (r, q), e)) {v : Int} (hv : nextOf r = some v) : 0 ≤ v ∧ v ≤ 31 := by
 unfold follow at h
 split at h
 ·split at h
  ·split at h
   ·cases h
   ·split at h
    ·split at h
     ·cases h
     ·rename_i hd
      split at h
      ·injection h with h1 h2
       injection h1 with h1
       injection h1 with h1 h3
       subst h1
       obtain ⟨he, _, _⟩ := encRc_of_dec hd
       obtain ⟨hm, _⟩ := enc_some he
       obtain ⟨_, hall, _⟩ := rcMay_iff.1 hm
       rw [nextOf_eq] at hv
       obtain ⟨i, hi, rfl⟩ := Option.map_eq_some_iff.1 hv
       have h7 := List.find?_some hi
       have hmm := List.all_eq_true.1 hall i (List.mem_of_find?_eq_some hi)
       unfold is7 at h7
       have h7' : i.k = 7 := by simpa using h7
       unfold It.may at hmm
       simp [h7'] at hmm
       omega
      ·cases h
    ·cases h
  ·cases h
 ·cases h
end Go.Kn
namespace Go.Proofs.YtgcfdjcpcclcjaaGreat
open Go Go.RowKit Go.Kn
theorem _root_.Go.Proofs.YtgcfdjcpcclcjaaGreat.Rsk.fr {w0 w : World} {r : RD} {d : Dk} {c : Fr3} (h : Rsk w0 w r d c) : ∃ L0 G0 F0, Wc w0 w (c.L ++ L0) (c.G ++ G0) (c.F ++ F0) ∧ ∀ w' (c' : Fr3), Wc w0 w' (c'.L ++ L0) (c'.G ++ G0) (c'.F ++ F0) → Rsk w0 w' r d c' := by
 obtain ⟨v, lv, k, ls, sl, hs, hl, hm⟩ := h.mem
 have pl : ∀ L, (r.L v lv sl d L).Perm (L ++ r.L v lv sl d []) := fun L => by
  have := List.perm_append_comm (l₁ := r.L v lv sl d []) (l₂ := L)
  simpa [RD.L] using this
 have pg : ∀ (a b : Gs) G, (a :: b :: G).Perm (G ++ [a, b]) := fun a b G => by
  have := List.perm_append_comm (l₁ := [a, b]) (l₂ := G)
  simpa using this
 refine ⟨r.L v lv sl d [], [⟨175, 2, v, d.held.length, heldR d.held hs⟩, ⟨47, 1, lv, k, ls⟩], [(fun W => Bls W sl d.safe), (fun W => Bls W hs (d.held.map (·.2)))], ?_, fun w' c' h' => ?_⟩
 ·refine (hm.perm (pl _) (pg _ _ _)).subF ?_
  intro f hf
  rcases List.mem_append.1 hf with hf | hf
  ·exact List.mem_cons_of_mem _ (List.mem_cons_of_mem _ hf)
  ·simp only [List.mem_cons, List.not_mem_nil, or_false] at hf ⊢
   rcases hf with hf | hf
   ·exact .inl hf
   ·exact .inr (.inl hf)
 ·refine ⟨h.ok, h.N, h.hs, h.hf, v, lv, k, ls, sl, hs, hl, (h'.perm (pl _).symm (pg _ _ _).symm).subF ?_⟩
  intro f hf
  simp only [List.mem_cons] at hf
  rcases hf with hf | hf | hf
  ·exact List.mem_append.2 (.inr (by simp [hf]))
  ·exact List.mem_append.2 (.inr (by simp [hf]))
  ·exact List.mem_append.2 (.inl hf)
theorem infoRFound : (Tryz.prog.info? 183).map (fun i => (i.zero, i.size, i.bytes)) = some (some (.agg #[.int .i64 0, .int .i64 0, .int .i64 0, .int .i64 0, .int .i64 0, .int .i64 0, .int .i64 0, .int .i64 0, .slice none 0 0, .slice none 0 0]), 10, 112) := by kernel_rfl
def rfnd (x : Fnd) : List Value := [.int .i64 x.p.s, .int .i64 x.p.o, .int .i64 x.p.l, .int .i64 x.p.p, .int .i64 x.p.m] ++ (x.r.cells x.s x.t).toList
def rfndV (xs : List Fnd) : List Value := xs.flatMap rfnd
theorem rfndV_snoc (xs : List Fnd) (x : Fnd) : rfndV (xs ++ [x]) = rfndV xs ++ rfnd x := by simp [rfndV]
theorem rfnd_one (x : Fnd) : ∀ u ∈ rfnd x, u.oneCell' = true := by
 intro u hu
 simp only [rfnd, Rc.cells, slv, List.mem_append, List.mem_cons, List.mem_nil_iff, or_false] at hu
 rcases hu with (rfl | rfl | rfl | rfl | rfl) | (rfl | rfl | rfl | rfl | rfl) <;> rfl
def RScSays (w0 : World) (r : RD) (d : Dk) (c : Fr3) (x : List (Ps × Rc) × Ps × Int) (en : Ending) (w' : World) : Prop :=
 ∃ (xs : List Fnd) (A : Option Addr) (k : Nat) (fs : List (World → Prop)), en = .returned (.tuple #[.slice A xs.length k, .agg #[.int .i64 x.2.1.s, .int .i64 x.2.1.o, .int .i64 x.2.1.l, .int .i64 x.2.1.p, .int .i64 x.2.1.m], .int .i64 x.2.2]) ∧ xs.map Fnd.pr = x.1 ∧ (∀ y ∈ xs, y.fct ∈ fs) ∧
  Rsk w0 w' r d ⟨c.L, ⟨183, 10, .slice A xs.length k, xs.length, rfndV xs⟩ :: c.G, fs ++ c.F⟩
set_option maxRecDepth 100000 in
set_option maxHeartbeats 16000000 in
theorem ref_scan_any (w0 w : World) (r : RD) (d : Dk) (c : Fr3) (cf : Cf) (q : Ps) (h : Rsk w0 w r d c) (hh : d.held.length ≤ 1000000) (hc : cf.Ok) :
  Calls Tryz.prog 36 #[.pointer (some ⟨r.M, 0, none⟩), .agg #[.int .i64 cf.b, .int .i64 cf.s, .int .i64 cf.l], .agg #[.int .i64 q.s, .int .i64 q.o, .int .i64 q.l, .int .i64 q.p, .int .i64 q.m], .int .i64 (-1)] w (RScSays w0 r d c (scanR d cf false q)) := by
 have hres : Tryz.f36.results = #[.tmp 8, .cell 9 32, .tmp 10] := by kernel_rfl
 have HRES := Lib.hid hres
 obtain ⟨i0, hi0, hz0, hz1, hz2⟩ := info_parts infoRFound
 have HC := Lib.hid hc
 have HOK := Lib.hid h.ok
 obtain ⟨hl0, hl1⟩ := hc.2.2
 have hss := hc.2.1
 obtain ⟨L0, G0, F0, hw, hcl⟩ := h.fr
 have HCL : Hid (∀ w', Wc w0 w' (c.L ++ L0) (c.G ++ G0) (c.F ++ F0) → Rsk w0 w' r d c) := Lib.hid (fun w' h => hcl w' c h)
 have HCE : Hid (∀ w' g fs, Wc w0 w' (c.L ++ L0) (g :: (c.G ++ G0)) (fs ++ (c.F ++ F0)) → Rsk w0 w' r d ⟨c.L, g :: c.G, fs ++ c.F⟩) := Lib.hid (fun w' g fs h => hcl w' ⟨c.L, g :: c.G, fs ++ c.F⟩ (by show Wc w0 w' _ _ ((fs ++ c.F) ++ F0); rw [List.append_assoc]; exact h))
 clear hcl h hc hres
 generalize c.L ++ L0 = L at *
 generalize c.G ++ G0 = G at *
 generalize c.F ++ F0 = F at *
 have HW0 := Lib.hid ((((hw.newB #[.int .i64 cf.b, .int .i64 cf.s, .int .i64 cf.l] 25 rfl).newB #[.int .i64 q.s, .int .i64 q.o, .int .i64 q.l, .int .i64 q.p, .int .i64 q.m] 32 rfl).newB #[.int .i64 0, .int .i64 0, .int .i64 0, .int .i64 0, .int .i64 0] 32 rfl).gnew 183 10)
 clear hw
 have hwl := IntWalk.i64_in (cf.l - 1) (by omega)
 have hws := IntWalk.i64_in (cf.s - 1) (by omega)
 go_enter Tryz.func36, Tryz.ntmps36
 go_upto_region 2 with (fail)
 generalize hz1 : ((w.alloc (.cells #[.int .i64 cf.b, .int .i64 cf.s, .int .i64 cf.l] 25)).alloc (.cells #[.int .i64 q.s, .int .i64 q.o, .int .i64 q.l, .int .i64 q.p, .int .i64 q.m] 32)).alloc (.cells #[.int .i64 0, .int .i64 0, .int .i64 0, .int .i64 0, .int .i64 0] 32) = w1 at *
 have hs1 : (w.alloc (.cells #[.int .i64 cf.b, .int .i64 cf.s, .int .i64 cf.l] 25)).heap.size = w.heap.size + 1 := by simp
 have hs2 : ((w.alloc (.cells #[.int .i64 cf.b, .int .i64 cf.s, .int .i64 cf.l] 25)).alloc (.cells #[.int .i64 q.s, .int .i64 q.o, .int .i64 q.l, .int .i64 q.p, .int .i64 q.m] 32)).heap.size = w.heap.size + 1 + 1 := by simp
 rw [hs1, hs2] at HW0
 clear hz1 hs1 hs2
 generalize w.heap.size = f5 at *
 generalize f5 + 1 = f6 at *
 generalize f6 + 1 = f9 at *
 have HW1 : Hid (Wc w0 w1 ((f9, [.int .i64 0, .int .i64 0, .int .i64 0, .int .i64 0, .int .i64 0]) :: (f6, [.int .i64 q.s, .int .i64 q.o, .int .i64 q.l, .int .i64 q.p, .int .i64 q.m]) :: (f5, [.int .i64 cf.b, .int .i64 cf.s, .int .i64 cf.l]) :: L) (⟨183, 10, .slice none 0 0, 0, []⟩ :: G) F) := Lib.hid HW0.out
 clear HW0
 have b6 := HW1.out.boxi 1 rfl
 obtain ⟨q0, q1, q2, q3, q4⟩ := Kn.own5 b6
 have b5 := HW1.out.boxi 2 rfl
 obtain ⟨e0, e1, e2⟩ := Kn.own3 b5
 clear b6 b5
 by_cases hin : 0 ≤ q.s ∧ q.s ≤ cf.s - 1
 ·have hdb : decide (0 ≤ q.s ∧ q.s ≤ cf.s - 1) = true := decide_eq_true hin
  go_wp2_with fail
  refine (within_any _ _ _ _).mono ?_
  rintro en wx ⟨rfl, rfl⟩
  rw [hdb]
  clear hdb
  go_wp2_with fail
  refine (within_any _ _ _ _).mono ?_
  rintro en wx ⟨rfl, rfl⟩
  by_cases hio : 0 ≤ q.o ∧ q.o ≤ cf.l - 1
  ·have hdb : decide (0 ≤ q.o ∧ q.o ≤ cf.l - 1) = true := decide_eq_true hio
   rw [hdb]
   clear hdb
   have HIN := Lib.hid hin
   have HRG : Hid ((0 ≤ q.s ∧ q.s ≤ cf.s - 1) ∧ 0 ≤ q.o ∧ q.o < cf.l) := Lib.hid ⟨hin, hio.1, by omega⟩
   by_cases hz : q.o = 0
   ·have hqz : (q.o == 0) = true := by simp [hz]
    have hat : 0 ≤ cf.at_ q.s ∧ cf.at_ q.s ≤ 100000 := by
     obtain ⟨m1, m2⟩ := Cf.prod cf HC.out q.s hin.1 (by omega)
     have h1 := rln_bounds HC.out
     have h2 := pgs_bounds HC.out
     unfold Cf.at_
     rw [if_pos hin]
     omega
    have HZ0 : Hid (¬ 0 < q.o) := Lib.hid (by omega)
    clear hin hio hz
    go_wp2_with fail
    refine (ref_segat_any cf q.s _ HC.out).mono ?_
    rintro en w2 ⟨rfl, hO⟩
    have HW2 := Lib.hid (HW1.out.keep0 hO)
    obtain ⟨a, ha⟩ : ∃ a, cf.at_ q.s = a := ⟨_, rfl⟩
    have HA := Lib.hid ha
    rw [ha] at hat ⊢
    obtain ⟨ha0, ha1⟩ := hat
    clear hO HW1 q0 q1 q2 q3 q4 e0 e1 e2 ha
    go_wp2_with fail
    refine (rk_read_own w0 _ r d c a (HCL.out _ ((HW2.out.gdrop).sub (L' := L) (.cons _ (.cons _ (.cons _ (List.Sublist.refl _)))) (fun f hf => hf))) hh).mono ?_
    rintro en w3 ⟨v, n, rfl, hown, hO⟩
    have hW := HW2.out.gadd hO hown
    obtain ⟨A, cc, rfl⟩ := hW.gform 0 rfl
    have HW3 := Lib.hid hW
    clear hown hW hO HW2
    have hbo := (Row1.of_owns (HW3.out.gi 0 rfl)).1
    have hnl := hbo.len
    rw [bvs_length] at hnl
    have hn64 : n ≤ 65536 := by rw [← hnl, Dk.read_len HOK.out]; split <;> omega
    have HBO := Lib.hid hbo
    clear hbo hnl
    obtain ⟨z, hz⟩ : ∃ z, d.err a = z := ⟨_, rfl⟩
    rw [hz]
    have HZ := Lib.hid hz
    clear hz
    by_cases hz0 : z = 0
    ·subst hz0
     have b6 := HW3.out.boxi 1 rfl
     obtain ⟨q0, q1, q2, q3, q4⟩ := Kn.own5 b6
     clear b6
     go_wp2_with fail
     refine (ref_head_fits_any A n cc _ q.s q.o q.l q.p q.m _ HBO.out hn64).mono ?_
     rintro en w4 ⟨rfl, hO⟩
     have HW4 := Lib.hid (HW3.out.keep0 hO)
     have HBO4 := Lib.hid (HBO.out.keep0 hO)
     clear hO HW3 HBO q0 q1 q2 q3 q4
     obtain ⟨hf, hhf⟩ : ∃ h, headFits (decHead (d.read a)) q.s q.l q.p q.m = h := ⟨_, rfl⟩
     rw [hhf]
     have HHF := Lib.hid hhf
     clear hhf
     cases hf with
     | false =>
      have HSC : Hid (scanR d cf false q = ([], q, 0)) := Lib.hid (by
       unfold scanR
       cases hd : decHead (d.read a) with
       | none => rw [scanB_none HRG.out (by have := HZ0.out; omega) (by rw [HA.out]; exact HZ.out) (by rw [HA.out]; exact hd)]; rfl
       | some x => rw [scanB_some HRG.out (by have := HZ0.out; omega) (by rw [HA.out]; exact HZ.out) (by rw [HA.out]; exact hd)]; have h := HHF.out; rw [hd] at h; rw [Bool.false_or, h]; rfl)
      go_wp2_with fail
      have HY := Lib.hid HW4.out.drew
      clear HW4
      refine wp_region_held_drew (S := (fun w' => Kn.Own w' f6 [.int .i64 q.s, .int .i64 q.o, .int .i64 q.l, .int .i64 q.p, .int .i64 q.m])) (by kernel_rfl) (HY.out.boxi 1 rfl) (fun hSw0 => ?_)
      generalize w4.drew = wz at *
      refine Kn.takeS 0 ⟨some 57, _, _, _, _, _⟩ (v := (.agg #[.int .i64 q.s, .int .i64 q.o, .int .i64 q.l, .int .i64 q.p, .int .i64 q.m])) (hy := fun w hSw => by
       have q0 := hSw
       obtain ⟨q00, q01, q02, q03, q04⟩ := Kn.own5 q0
       clear q0
       go_simp) ?_
      refine Kn.takeS 1 ⟨some 8, _, _, _, _, _⟩ ?_
      refine Kn.takeR 2 ⟨none, _, _, _, _, _⟩ fun K hK => ?_
      refine step_store_own rfl 32 (.tmp 9) (.tmp 57) rfl f9 [.int .i64 0, .int .i64 0, .int .i64 0, .int .i64 0, .int .i64 0] [.int .i64 q.s, .int .i64 q.o, .int .i64 q.l, .int .i64 q.p, .int .i64 q.m] (by kernel_rfl) rfl rfl (HY.out.boxi 0 rfl) rfl (by intro u hu; simp at hu; rcases hu with rfl | rfl | rfl | rfl | rfl <;> rfl) ?_
      intro wy ho hO
      have HY2 := Lib.hid (HY.out.call1 0 rfl ho hO)
      clear ho hO HY
      refine hK.out _ _ (HY2.out.boxi 1 rfl) (fun hSn => ?_)
      clear hK K hSw0
      have hSw0 := hSn
      clear hSn
      refine Kn.takeS 3 ⟨some 10, _, _, _, _, _⟩ ?_
      refine wpAnyH_done (by kernel_rfl) ?_ _
      clear hSw0
      have bn := HY2.out.boxi 0 rfl
      obtain ⟨n0, n1, n2, n3, n4⟩ := Kn.own5 bn
      clear bn
      go_wp2
      (try simp only [Exit.inBlock, Exit.then])
      refine bodyPost_ret (v := .tuple #[.slice none 0 0, .agg #[.int .i64 q.s, .int .i64 q.o, .int .i64 q.l, .int .i64 q.p, .int .i64 q.m], .int .i64 0]) ?_ rfl ?_
      ·simp only [results, HRES.out]
       go_simp
      ·rw [HSC.out]
       exact ⟨[], none, 0, [], rfl, rfl, by simp, HCE.out _ _ [] (HY2.out.gdrop.sub (L' := L) (.cons _ (.cons _ (.cons _ (List.Sublist.refl _)))) (fun f hf => hf))⟩
     | true =>
      obtain ⟨⟨xk, xb, xc, xv⟩, hd⟩ : ∃ x, decHead (d.read a) = some x := by
       cases hd : decHead (d.read a) with
       | none => have h := HHF.out; rw [hd] at h; cases h
       | some x => exact ⟨x, rfl⟩
      have hh2 := HHF.out
      rw [hd] at hh2
      simp only [headFits, Bool.and_eq_true, beq_iff_eq, decide_eq_true_eq] at hh2
      obtain ⟨⟨⟨hx1, hx2⟩, hx3⟩, hm⟩ := hh2
      have HSC : Hid (scanR d cf false q = (([] : List Fnd).map Fnd.pr ++ (scanG d cf 65 ⟨q.s, 1, q.l, q.p, xb⟩).1, (scanG d cf 65 ⟨q.s, 1, q.l, q.p, xb⟩).2)) := Lib.hid (by
       unfold scanR
       rw [scanB_some HRG.out (by have := HZ0.out; omega) (by rw [HA.out]; exact HZ.out) (by rw [HA.out]; exact hd)]
       have h := HHF.out
       rw [hd] at h
       rw [Bool.false_or, h, ← hx2, ← hx3]
       simp)
      have HX := Lib.hid hd
      clear hx1 hx2 hx3 hm hd
      go_wp2_with fail
      refine (ref_head_dec_any A n cc _ _ HBO4.out hn64).mono ?_
      rw [HX.out]
      simp only [HeadSays, Option.getD_some, Option.isSome_some, It.vals, if_true]
      rintro en w5 ⟨rfl, hO⟩
      have HW5 := Lib.hid (((HW4.out.keep0 hO).gdrop).newB #[.int .i64 xk, .int .i64 xb, .int .i64 xc, .int .i64 xv] 143 rfl)
      clear hO HW4 HBO4
      have b6 := HW5.out.boxi 2 rfl
      obtain ⟨q0, q1, q2, q3, q4⟩ := Kn.own5 b6
      have z1 := b6.frozen 1
      have z4 := b6.frozen 4
      have l6 := b6.lt
      go_upto_region 12 with (fail)
      have HW6 := Lib.hid (HW5.out.put 2 (p := f6) rfl 1 (.int .i64 1))
      simp only [List.set_cons_zero, List.set_cons_succ] at HW6
      generalize hz6 : (w5.alloc (.cells #[.int .i64 xk, .int .i64 xb, .int .i64 xc, .int .i64 xv] 143)).setCell ⟨f6, 1, none⟩ (.int .i64 1) = w6 at *
      generalize w5.heap.size = f14 at *
      clear HW5 hz6 q0 q1 q2 q3 q4 z1 z4 l6 b6
      have b6 := HW6.out.boxi 2 rfl
      obtain ⟨q0, q1, q2, q3, q4⟩ := Kn.own5 b6
      have z4 := b6.frozen 4
      have l6 := b6.lt
      have b14 := HW6.out.boxi 0 rfl
      obtain ⟨h0, h1, h2, h3⟩ := Kn.own4 b14
      go_upto_region 13 with (fail)
      have HW7 := Lib.hid ((HW6.out.put 2 (p := f6) rfl 4 (.int .i64 xb)).ldrop)
      simp only [List.set_cons_zero, List.set_cons_succ] at HW7
      generalize hz7 : w6.setCell ⟨f6, 4, none⟩ (.int .i64 xb) = w7 at *
      have HQR : Hid ((1 ≤ (1 : Int) ∧ (1 : Int) ≤ 64) ∧ 0 ≤ q.s ∧ q.s ≤ cf.s - 1) := Lib.hid ⟨by decide, HIN.out⟩
      clear HW6 hz7 q0 q1 q2 q3 q4 z4 l6 b6 b14 h0 h1 h2 h3
      go_loopg [11] 65 (fun rr t11 wr => ∃ (pre : List Fnd) (A : Option Addr) (cc : Nat) (fs : List (World → Prop)) (qj : Ps), t11 = .slice A pre.length cc ∧ Wc w0 wr ((f9, [.int .i64 0, .int .i64 0, .int .i64 0, .int .i64 0, .int .i64 0]) :: (f6, [.int .i64 qj.s, .int .i64 qj.o, .int .i64 qj.l, .int .i64 qj.p, .int .i64 qj.m]) :: (f5, [.int .i64 cf.b, .int .i64 cf.s, .int .i64 cf.l]) :: L) (⟨183, 10, .slice A pre.length cc, pre.length, rfndV pre⟩ :: G) (fs ++ F) ∧ (∀ y ∈ pre, y.fct ∈ fs) ∧ scanR d cf false q = (pre.map Fnd.pr ++ (scanG d cf rr qj).1, (scanG d cf rr qj).2) ∧ 65 ≤ (rr : Int) + qj.o ∧ (1 ≤ qj.o ∧ qj.o ≤ 64) ∧ 0 ≤ qj.s ∧ qj.s ≤ cf.s - 1)
      case atStart => exact ⟨[], none, 0, [], ⟨q.s, 1, q.l, q.p, xb⟩, rfl, HW7.out, by simp, HSC.out, by first | (have := HQR.out; omega) | (simp only; omega), HQR.out⟩
      clear HW7 HSC HQR
      obtain ⟨pre, A, cc, fs, qj, rfl, hw, hfs, hsc, hk, ⟨ho1, ho2⟩, hs0, hs1⟩ := hrel
      have HW2 := Lib.hid hw
      have HFS := Lib.hid hfs
      have HSC := Lib.hid hsc
      clear hw hfs hsc
      have b6 := HW2.out.boxi 1 rfl
      obtain ⟨q0, q1, q2, q3, q4⟩ := Kn.own5 b6
      have b5 := HW2.out.boxi 2 rfl
      obtain ⟨e0, e1, e2⟩ := Kn.own3 b5
      clear b6 b5
      go_wp2_with fail
      refine (ref_follow_any w0 wr r d c cf qj (HCL.out _ ((HW2.out.gdrop).sub (L' := L) (.cons _ (.cons _ (.cons _ (List.Sublist.refl _)))) (fun f hf => List.mem_append_right _ hf))) hh HC.out ⟨hs0, hs1⟩).mono ?_
      obtain ⟨x, hfo⟩ : ∃ x, Kn.follow d cf qj = x := ⟨_, rfl⟩
      have HFO := Lib.hid hfo
      rw [hfo]
      clear hfo q0 q1 q2 q3 q4 e0 e1 e2
      rcases x with ⟨_ | ⟨x, nx⟩, er⟩
      ·rintro en w3 ⟨hO, rfl⟩
       have HW3 := Lib.hid (HW2.out.keep0 (hO.trans' (((Only.refl [] w3).alloc (.cells #[.int .i64 0, .int .i64 0, .int .i64 0, .slice none 0 0, .slice none 0 0] 56)).alloc (.cells #[.int .i64 qj.s, .int .i64 qj.o, .int .i64 qj.l, .int .i64 qj.p, .int .i64 qj.m] 32))))
       clear hO HW2
       obtain ⟨k, rfl⟩ : ∃ k, gk = k + 1 := ⟨gk - 1, by omega⟩
       have HSE : Hid (scanR d cf false q = (pre.map Fnd.pr, qj, er)) := Lib.hid (by rw [HSC.out, scanG_none HFO.out, List.append_nil])
       go_upto_region 16 with (fail)
       generalize (w3.alloc (.cells #[.int .i64 0, .int .i64 0, .int .i64 0, .slice none 0 0, .slice none 0 0] 56)).alloc (.cells #[.int .i64 qj.s, .int .i64 qj.o, .int .i64 qj.l, .int .i64 qj.p, .int .i64 qj.m] 32) = w4 at *
       go_wp2_with fail
       have HY := Lib.hid HW3.out.drew
       clear HW3
       refine wp_region_held_drew (S := (fun w' => Kn.Own w' f6 [.int .i64 qj.s, .int .i64 qj.o, .int .i64 qj.l, .int .i64 qj.p, .int .i64 qj.m])) (by kernel_rfl) (HY.out.boxi 1 rfl) (fun hSw0 => ?_)
       generalize w4.drew = wz at *
       refine Kn.takeS 0 ⟨some 86, _, _, _, _, _⟩ ?_
       refine Kn.takeS 1 ⟨some 87, _, _, _, _, _⟩ (v := (.agg #[.int .i64 qj.s, .int .i64 qj.o, .int .i64 qj.l, .int .i64 qj.p, .int .i64 qj.m])) (hy := fun w hSw => by
        have q0 := hSw
        obtain ⟨q00, q01, q02, q03, q04⟩ := Kn.own5 q0
        clear q0
        go_simp) ?_
       refine Kn.takeS 2 ⟨some 88, _, _, _, _, _⟩ ?_
       refine Kn.takeS 3 ⟨some 8, _, _, _, _, _⟩ ?_
       refine Kn.takeR 4 ⟨none, _, _, _, _, _⟩ fun K hK => ?_
       refine step_store_own rfl 32 (.tmp 9) (.tmp 87) rfl f9 [.int .i64 0, .int .i64 0, .int .i64 0, .int .i64 0, .int .i64 0] [.int .i64 qj.s, .int .i64 qj.o, .int .i64 qj.l, .int .i64 qj.p, .int .i64 qj.m] (by kernel_rfl) rfl rfl (HY.out.boxi 0 rfl) rfl (by intro u hu; simp at hu; rcases hu with rfl | rfl | rfl | rfl | rfl <;> rfl) ?_
       intro wy ho hO
       have HY2 := Lib.hid (HY.out.call1 0 rfl ho hO)
       clear ho hO HY
       refine hK.out _ _ (HY2.out.boxi 1 rfl) (fun hSn => ?_)
       clear hK K hSw0
       have hSw0 := hSn
       clear hSn
       refine Kn.takeS 5 ⟨some 10, _, _, _, _, _⟩ ?_
       refine wpAnyH_done (by kernel_rfl) ?_ _
       clear hSw0
       have bn := HY2.out.boxi 0 rfl
       obtain ⟨n0, n1, n2, n3, n4⟩ := Kn.own5 bn
       clear bn
       go_wp2
       (try simp only [Exit.inBlock, Exit.then])
       refine bodyPost_ret (v := .tuple #[.slice A pre.length cc, .agg #[.int .i64 qj.s, .int .i64 qj.o, .int .i64 qj.l, .int .i64 qj.p, .int .i64 qj.m], .int .i64 er]) ?_ rfl ?_
       ·simp only [results, HRES.out]
        go_simp
       ·rw [HSE.out]
        exact ⟨pre, A, cc, fs, rfl, rfl, HFS.out, HCE.out _ _ fs (HY2.out.sub (L' := L) (.cons _ (.cons _ (.cons _ (List.Sublist.refl _)))) (fun f hf => hf))⟩
      ·rintro en w3 ⟨hO, ⟨s1, s2, s3⟩, ⟨t1, t2, t3⟩, rfl, hfc⟩
       obtain ⟨hp1, hp2, hp3, rfl⟩ := follow_place HFO.out
       have HP1 := Lib.hid hp1
       clear hp1
       obtain ⟨k, rfl⟩ : ∃ k, gk = k + 1 := ⟨gk - 1, by omega⟩
       have hsl := scanR_len d cf false q
       rw [HSC.out] at hsl
       simp only [List.length_append, List.length_map] at hsl
       obtain ⟨y, hy0⟩ : ∃ y : Fnd, y = ⟨qj, x, (s1, s2, s3), (t1, t2, t3)⟩ := ⟨_, rfl⟩
       have hyo : rfnd y = [.int .i64 qj.s, .int .i64 qj.o, .int .i64 qj.l, .int .i64 qj.p, .int .i64 qj.m, .int .i64 x.m, .int .i64 x.n, .int .i64 x.p, .slice s1 s2 s3, .slice t1 t2 t3] := by rw [hy0]; rfl
       have hyp : y.pr = (qj, x) := by rw [hy0]; rfl
       have hyf : y.fct = (fun W => RcAt W x (s1, s2, s3) (t1, t2, t3)) := by rw [hy0]; rfl
       have HYO := Lib.hid hyo
       have HYP := Lib.hid hyp
       obtain ⟨j, hj⟩ : ∃ j, j = pre.length := ⟨_, rfl⟩
       have hj65 : j ≤ 65 := by omega
       have hl2 : (pre ++ [y]).length = j + 1 := by simp [hj]
       have HL2 := Lib.hid hl2
       rw [← hj] at HW2 ⊢
       have hfs2 : ∀ u ∈ pre ++ [y], u.fct ∈ (fun W => RcAt W x (s1, s2, s3) (t1, t2, t3)) :: fs := by
        intro u hu
        rcases List.mem_append.1 hu with hu | hu
        ·exact List.mem_cons_of_mem _ (HFS.out u hu)
        ·rw [List.mem_singleton] at hu
         subst hu
         rw [hyf]
         exact List.mem_cons_self
       have HFS2 := Lib.hid hfs2
       have hw4 := ((HW2.out.addFc hO hfc).newB #[.int .i64 x.m, .int .i64 x.n, .int .i64 x.p, .slice s1 s2 s3, .slice t1 t2 t3] 56 rfl).newB #[.int .i64 nx.s, .int .i64 nx.o, .int .i64 nx.l, .int .i64 nx.p, .int .i64 nx.m] 32 (b := w3.heap.size + 1) (by simp)
       have HW4 := Lib.hid hw4
       clear hw4 hO hfc HW2 hsl hy0 hyo hyp hyf hj hl2 hfs2
       simp only [Rc.cells, slv]
       go_upto_region 17 with (fail)
       generalize hz4 : (w3.alloc (.cells #[.int .i64 x.m, .int .i64 x.n, .int .i64 x.p, .slice s1 s2 s3, .slice t1 t2 t3] 56)).alloc (.cells #[.int .i64 nx.s, .int .i64 nx.o, .int .i64 nx.l, .int .i64 nx.p, .int .i64 nx.m] 32) = w4 at *
       generalize w3.heap.size = f16 at *
       generalize f16 + 1 = f17 at *
       clear hz4 w3
       have b6 := HW4.out.boxi 3 rfl
       obtain ⟨q0, q1, q2, q3, q4⟩ := Kn.own5 b6
       have b16 := HW4.out.boxi 1 rfl
       obtain ⟨r0, r1, r2, r3, r4⟩ := Kn.own5 b16
       clear b6 b16
       have HD := Lib.hid (HW4.out.alloc (.cells #[.int .i64 qj.s, .int .i64 qj.o, .int .i64 qj.l, .int .i64 qj.p, .int .i64 qj.m, .int .i64 x.m, .int .i64 x.n, .int .i64 x.p, .slice s1 s2 s3, .slice t1 t2 t3] 183))
       have hnw := news_new w4 #[.int .i64 qj.s, .int .i64 qj.o, .int .i64 qj.l, .int .i64 qj.p, .int .i64 qj.m, .int .i64 x.m, .int .i64 x.n, .int .i64 x.p, .slice s1 s2 s3, .slice t1 t2 t3] 183 (by simp [maxLen])
       have HNW := Lib.hid hnw
       have HON := Lib.hid (rfnd_one y)
       have HBS := Lib.hid HD.out.only.size
       rw [HYO.out] at HON
       clear hnw HW4
       go_upto_region 19 with (first
        | (at_builtin; refine wpList_append_own_at _ rfl (.tmp 89) (.tmp 93) 80 rfl w0.heap.size 183 i0 _ 10 112 Tryz.underlying80 hi0 hz0 hz1 hz2 rfl (by decide) (.slice A j cc) j (rfndV pre) rfl (HD.out.gi 0 rfl) ⟨w4.heap.size, 0, none⟩ 1 1 [.int .i64 qj.s, .int .i64 qj.o, .int .i64 qj.l, .int .i64 qj.p, .int .i64 qj.m, .int .i64 x.m, .int .i64 x.n, .int .i64 x.p, .slice s1 s2 s3, .slice t1 t2 t3] rfl rfl HNW.out HON.out (by unfold maxLen; omega) (by omega) HBS.out ?_; intro v5 w5 hown hgrow _ hat2; rw [← HYO.out, ← rfndV_snoc] at hown; have hdd := HD.out.gapp 0 rfl hown hgrow hat2; obtain ⟨A6, k6, rfl⟩ := hdd.gform 0 rfl; simp only [List.set_cons_zero, List.set_cons_succ] at hdd; have HD5 := Lib.hid hdd; clear hdd hown hgrow hat2 HNW HON HBS HD q0 q1 q2 q3 q4 r0 r1 r2 r3 r4; have b6 := HD5.out.boxi 3 rfl; have q0 := b6.cell 0 (by simp); have q1 := b6.cell 1 (by simp); have q2 := b6.cell 2 (by simp); have q3 := b6.cell 3 (by simp); have q4 := b6.cell 4 (by simp); simp only [List.getElem_cons_zero, List.getElem_cons_succ] at q0 q1 q2 q3 q4; have z0 := b6.frozen 0; have z1 := b6.frozen 1; have z2 := b6.frozen 2; have z3 := b6.frozen 3; have z4 := b6.frozen 4; have l6 := b6.lt; have b16 := HD5.out.boxi 1 rfl; have r0 := b16.cell 0 (by simp); have r1 := b16.cell 1 (by simp); have r2 := b16.cell 2 (by simp); have r3 := b16.cell 3 (by simp); have r4 := b16.cell 4 (by simp); simp only [List.getElem_cons_zero, List.getElem_cons_succ] at r0 r1 r2 r3 r4; have b17 := HD5.out.boxi 0 rfl; have n0 := b17.cell 0 (by simp); have n1 := b17.cell 1 (by simp); have n2 := b17.cell 2 (by simp); have n3 := b17.cell 3 (by simp); have n4 := b17.cell 4 (by simp); simp only [List.getElem_cons_zero, List.getElem_cons_succ] at n0 n1 n2 n3 n4; clear b6 b16 b17)
        | fail)
       have HD6 := Lib.hid ((((((HD5.out.put 3 (p := f6) rfl 0 (.int .i64 nx.s)).put 3 (p := f6) rfl 1 (.int .i64 nx.o)).put 3 (p := f6) rfl 2 (.int .i64 nx.l)).put 3 (p := f6) rfl 3 (.int .i64 nx.p)).put 3 (p := f6) rfl 4 (.int .i64 nx.m)))
       simp only [List.set_cons_zero, List.set_cons_succ] at HD6
       generalize (((((w5.setCell ⟨f6, 0, none⟩ (.int .i64 nx.s)).setCell ⟨f6, 1, none⟩ (.int .i64 nx.o)).setCell ⟨f6, 2, none⟩ (.int .i64 nx.l)).setCell ⟨f6, 3, none⟩ (.int .i64 nx.p)).setCell ⟨f6, 4, none⟩ (.int .i64 nx.m)) = w6 at *
       clear HD5 q0 q1 q2 q3 q4 r0 r1 r2 r3 r4 n0 n1 n2 n3 n4 z0 z1 z2 z3 z4 l6
       have b16 := HD6.out.boxi 1 rfl
       obtain ⟨r0, r1, r2, r3, r4⟩ := Kn.own5 b16
       clear b16
       go_wp2_with fail
       refine (ref_next_any x (s1, s2, s3) (t1, t2, t3) _ (HD6.out.fact _ List.mem_cons_self).1).mono ?_
       rintro en w7 ⟨rfl, hO7⟩
       have HW7 := Lib.hid (((HD6.out.keep0 hO7).ldrop).ldrop)
       clear hO7 HD6
       have hsn := scanG_some (k := k) HFO.out
       have HSN := Lib.hid hsn
       clear hsn
       cases hnx : nextOf x with
       | none =>
        have HSE : Hid (scanR d cf false q = ((pre ++ [y]).map Fnd.pr ++ (scanG d cf k nx).1, (scanG d cf k nx).2)) := Lib.hid (by
         rw [HSC.out, HSN.out, hnx, List.map_append, List.map_cons, HYP.out]
         simp)
        clear hnx
        simp only [Option.getD_none]
        go_wp2_with fail
        go_roundg k
        case measure => omega
        case rel => exact ⟨pre ++ [y], A6, k6, _, nx, by rw [HL2.out], by rw [HL2.out]; exact HW7.out, HFS2.out, HSE.out, by omega, ⟨by omega, by omega⟩, by rw [HP1.out]; exact hs0, by rw [HP1.out]; exact hs1⟩
       | some v =>
        obtain ⟨hv0, hv1⟩ := follow_next HFO.out hnx
        have HSE : Hid (scanR d cf false q = ((pre ++ [y]).map Fnd.pr, nx, 0)) := Lib.hid (by
         rw [HSC.out, HSN.out, hnx, List.map_append, List.map_cons, HYP.out]
         simp)
        clear hnx
        simp only [Option.getD_some]
        have hge : (v : Int) ≥ 0 := hv0
        go_wp2_with fail
        have HY := Lib.hid HW7.out.drew
        clear HW7
        refine wp_region_held_drew (S := (fun w' => Kn.Own w' f6 [.int .i64 nx.s, .int .i64 nx.o, .int .i64 nx.l, .int .i64 nx.p, .int .i64 nx.m])) (by kernel_rfl) (HY.out.boxi 1 rfl) (fun hSw0 => ?_)
        generalize w7.drew = wz at *
        refine Kn.takeS 0 ⟨some 99, _, _, _, _, _⟩ ?_
        refine Kn.takeS 1 ⟨some 100, _, _, _, _, _⟩ (v := (.agg #[.int .i64 nx.s, .int .i64 nx.o, .int .i64 nx.l, .int .i64 nx.p, .int .i64 nx.m])) (hy := fun w hSw => by
         have q0 := hSw
         obtain ⟨q00, q01, q02, q03, q04⟩ := Kn.own5 q0
         clear q0
         go_simp) ?_
        refine Kn.takeS 2 ⟨some 8, _, _, _, _, _⟩ ?_
        refine Kn.takeR 3 ⟨none, _, _, _, _, _⟩ fun K hK => ?_
        refine step_store_own rfl 32 (.tmp 9) (.tmp 100) rfl f9 [.int .i64 0, .int .i64 0, .int .i64 0, .int .i64 0, .int .i64 0] [.int .i64 nx.s, .int .i64 nx.o, .int .i64 nx.l, .int .i64 nx.p, .int .i64 nx.m] (by kernel_rfl) rfl rfl (HY.out.boxi 0 rfl) rfl (by intro u hu; simp at hu; rcases hu with rfl | rfl | rfl | rfl | rfl <;> rfl) ?_
        intro wy ho hO
        have HY2 := Lib.hid (HY.out.call1 0 rfl ho hO)
        clear ho hO HY
        refine hK.out _ _ (HY2.out.boxi 1 rfl) (fun hSn => ?_)
        clear hK K hSw0
        have hSw0 := hSn
        clear hSn
        refine Kn.takeS 4 ⟨some 10, _, _, _, _, _⟩ ?_
        refine wpAnyH_done (by kernel_rfl) ?_ _
        clear hSw0
        have bn := HY2.out.boxi 0 rfl
        obtain ⟨n0, n1, n2, n3, n4⟩ := Kn.own5 bn
        clear bn
        go_wp2
        (try simp only [Exit.inBlock, Exit.then])
        refine bodyPost_ret (v := .tuple #[.slice A6 (j + 1) k6, .agg #[.int .i64 nx.s, .int .i64 nx.o, .int .i64 nx.l, .int .i64 nx.p, .int .i64 nx.m], .int .i64 0]) ?_ rfl ?_
        ·simp only [results, HRES.out]
         go_simp
        ·rw [HSE.out, ← HL2.out]
         exact ⟨pre ++ [y], A6, k6, (fun W => RcAt W x (s1, s2, s3) (t1, t2, t3)) :: fs, rfl, rfl, HFS2.out, HCE.out _ _ ((fun W => RcAt W x (s1, s2, s3) (t1, t2, t3)) :: fs) (by rw [HL2.out]; exact (HY2.out.sub (L' := L) (.cons _ (.cons _ (.cons _ (List.Sublist.refl _)))) (fun f hf => hf)))⟩
    ·have hzb : (z != 0) = true := by simpa using hz0
     have HSC : Hid (scanR d cf false q = ([], q, z)) := Lib.hid (by unfold scanR; rw [scanB_err HRG.out (by have := HZ0.out; omega) (by rw [HA.out, HZ.out]; exact hz0), HA.out, HZ.out]; rfl)
     go_wp2_with fail
     have HY := Lib.hid HW3.out.drew
     clear HW3
     refine wp_region_held_drew (S := (fun w' => Kn.Own w' f6 [.int .i64 q.s, .int .i64 q.o, .int .i64 q.l, .int .i64 q.p, .int .i64 q.m])) (by kernel_rfl) (HY.out.boxi 1 rfl) (fun hSw0 => ?_)
     generalize w3.drew = wz at *
     refine Kn.takeS 0 ⟨some 51, _, _, _, _, _⟩ (v := (.agg #[.int .i64 q.s, .int .i64 q.o, .int .i64 q.l, .int .i64 q.p, .int .i64 q.m])) (hy := fun w hSw => by
      have q0 := hSw
      obtain ⟨q00, q01, q02, q03, q04⟩ := Kn.own5 q0
      clear q0
      go_simp) ?_
     refine Kn.takeS 1 ⟨some 52, _, _, _, _, _⟩ ?_
     refine Kn.takeS 2 ⟨some 8, _, _, _, _, _⟩ ?_
     refine Kn.takeR 3 ⟨none, _, _, _, _, _⟩ fun K hK => ?_
     refine step_store_own rfl 32 (.tmp 9) (.tmp 51) rfl f9 [.int .i64 0, .int .i64 0, .int .i64 0, .int .i64 0, .int .i64 0] [.int .i64 q.s, .int .i64 q.o, .int .i64 q.l, .int .i64 q.p, .int .i64 q.m] (by kernel_rfl) rfl rfl (HY.out.boxi 0 rfl) rfl (by intro u hu; simp at hu; rcases hu with rfl | rfl | rfl | rfl | rfl <;> rfl) ?_
     intro wy ho hO
     have HY2 := Lib.hid (HY.out.call1 0 rfl ho hO)
     clear ho hO HY
     refine hK.out _ _ (HY2.out.boxi 1 rfl) (fun hSn => ?_)
     clear hK K hSw0
     have hSw0 := hSn
     clear hSn
     refine Kn.takeS 4 ⟨some 10, _, _, _, _, _⟩ ?_
     refine wpAnyH_done (by kernel_rfl) ?_ _
     clear hSw0
     have bn := HY2.out.boxi 0 rfl
     obtain ⟨n0, n1, n2, n3, n4⟩ := Kn.own5 bn
     clear bn
     go_wp2
     (try simp only [Exit.inBlock, Exit.then])
     refine bodyPost_ret (v := .tuple #[.slice none 0 0, .agg #[.int .i64 q.s, .int .i64 q.o, .int .i64 q.l, .int .i64 q.p, .int .i64 q.m], .int .i64 z]) ?_ rfl ?_
     ·simp only [results, HRES.out]
      go_simp
     ·rw [HSC.out]
      exact ⟨[], none, 0, [], rfl, rfl, by simp, HCE.out _ _ [] (HY2.out.gdrop.sub (L' := L) (.cons _ (.cons _ (.cons _ (List.Sublist.refl _)))) (fun f hf => hf))⟩
   ·have hqz : (q.o == 0) = false := by simpa using hz
    have HSC : Hid (scanR d cf false q = (([] : List Fnd).map Fnd.pr ++ (scanG d cf 65 q).1, (scanG d cf 65 q).2)) := Lib.hid (by unfold scanR; rw [scanB_off HRG.out (by omega)]; simp)
    have hqr : (1 ≤ q.o ∧ q.o ≤ 64) ∧ 0 ≤ q.s ∧ q.s ≤ cf.s - 1 := ⟨⟨by omega, by omega⟩, hin⟩
    have HQR := Lib.hid hqr
    clear hqr hin hio hz
    go_wp2_with fail
    clear q0 q1 q2 q3 q4 e0 e1 e2
    go_loopg [11] 65 (fun rr t11 wr => ∃ (pre : List Fnd) (A : Option Addr) (cc : Nat) (fs : List (World → Prop)) (qj : Ps), t11 = .slice A pre.length cc ∧ Wc w0 wr ((f9, [.int .i64 0, .int .i64 0, .int .i64 0, .int .i64 0, .int .i64 0]) :: (f6, [.int .i64 qj.s, .int .i64 qj.o, .int .i64 qj.l, .int .i64 qj.p, .int .i64 qj.m]) :: (f5, [.int .i64 cf.b, .int .i64 cf.s, .int .i64 cf.l]) :: L) (⟨183, 10, .slice A pre.length cc, pre.length, rfndV pre⟩ :: G) (fs ++ F) ∧ (∀ y ∈ pre, y.fct ∈ fs) ∧ scanR d cf false q = (pre.map Fnd.pr ++ (scanG d cf rr qj).1, (scanG d cf rr qj).2) ∧ 65 ≤ (rr : Int) + qj.o ∧ (1 ≤ qj.o ∧ qj.o ≤ 64) ∧ 0 ≤ qj.s ∧ qj.s ≤ cf.s - 1)
    case atStart => exact ⟨[], none, 0, [], q, rfl, HW1.out, by simp, HSC.out, by first | (have := HQR.out; omega) | (simp only; omega), HQR.out⟩
    clear HW1 HSC HQR
    obtain ⟨pre, A, cc, fs, qj, rfl, hw, hfs, hsc, hk, ⟨ho1, ho2⟩, hs0, hs1⟩ := hrel
    have HW2 := Lib.hid hw
    have HFS := Lib.hid hfs
    have HSC := Lib.hid hsc
    clear hw hfs hsc
    have b6 := HW2.out.boxi 1 rfl
    obtain ⟨q0, q1, q2, q3, q4⟩ := Kn.own5 b6
    have b5 := HW2.out.boxi 2 rfl
    obtain ⟨e0, e1, e2⟩ := Kn.own3 b5
    clear b6 b5
    go_wp2_with fail
    refine (ref_follow_any w0 wr r d c cf qj (HCL.out _ ((HW2.out.gdrop).sub (L' := L) (.cons _ (.cons _ (.cons _ (List.Sublist.refl _)))) (fun f hf => List.mem_append_right _ hf))) hh HC.out ⟨hs0, hs1⟩).mono ?_
    obtain ⟨x, hfo⟩ : ∃ x, Kn.follow d cf qj = x := ⟨_, rfl⟩
    have HFO := Lib.hid hfo
    rw [hfo]
    clear hfo q0 q1 q2 q3 q4 e0 e1 e2
    rcases x with ⟨_ | ⟨x, nx⟩, er⟩
    ·rintro en w3 ⟨hO, rfl⟩
     have HW3 := Lib.hid (HW2.out.keep0 (hO.trans' (((Only.refl [] w3).alloc (.cells #[.int .i64 0, .int .i64 0, .int .i64 0, .slice none 0 0, .slice none 0 0] 56)).alloc (.cells #[.int .i64 qj.s, .int .i64 qj.o, .int .i64 qj.l, .int .i64 qj.p, .int .i64 qj.m] 32))))
     clear hO HW2
     obtain ⟨k, rfl⟩ : ∃ k, gk = k + 1 := ⟨gk - 1, by omega⟩
     have HSE : Hid (scanR d cf false q = (pre.map Fnd.pr, qj, er)) := Lib.hid (by rw [HSC.out, scanG_none HFO.out, List.append_nil])
     go_upto_region 16 with (fail)
     generalize (w3.alloc (.cells #[.int .i64 0, .int .i64 0, .int .i64 0, .slice none 0 0, .slice none 0 0] 56)).alloc (.cells #[.int .i64 qj.s, .int .i64 qj.o, .int .i64 qj.l, .int .i64 qj.p, .int .i64 qj.m] 32) = w4 at *
     go_wp2_with fail
     have HY := Lib.hid HW3.out.drew
     clear HW3
     refine wp_region_held_drew (S := (fun w' => Kn.Own w' f6 [.int .i64 qj.s, .int .i64 qj.o, .int .i64 qj.l, .int .i64 qj.p, .int .i64 qj.m])) (by kernel_rfl) (HY.out.boxi 1 rfl) (fun hSw0 => ?_)
     generalize w4.drew = wz at *
     refine Kn.takeS 0 ⟨some 86, _, _, _, _, _⟩ ?_
     refine Kn.takeS 1 ⟨some 87, _, _, _, _, _⟩ (v := (.agg #[.int .i64 qj.s, .int .i64 qj.o, .int .i64 qj.l, .int .i64 qj.p, .int .i64 qj.m])) (hy := fun w hSw => by
      have q0 := hSw
      obtain ⟨q00, q01, q02, q03, q04⟩ := Kn.own5 q0
      clear q0
      go_simp) ?_
     refine Kn.takeS 2 ⟨some 88, _, _, _, _, _⟩ ?_
     refine Kn.takeS 3 ⟨some 8, _, _, _, _, _⟩ ?_
     refine Kn.takeR 4 ⟨none, _, _, _, _, _⟩ fun K hK => ?_
     refine step_store_own rfl 32 (.tmp 9) (.tmp 87) rfl f9 [.int .i64 0, .int .i64 0, .int .i64 0, .int .i64 0, .int .i64 0] [.int .i64 qj.s, .int .i64 qj.o, .int .i64 qj.l, .int .i64 qj.p, .int .i64 qj.m] (by kernel_rfl) rfl rfl (HY.out.boxi 0 rfl) rfl (by intro u hu; simp at hu; rcases hu with rfl | rfl | rfl | rfl | rfl <;> rfl) ?_
     intro wy ho hO
     have HY2 := Lib.hid (HY.out.call1 0 rfl ho hO)
     clear ho hO HY
     refine hK.out _ _ (HY2.out.boxi 1 rfl) (fun hSn => ?_)
     clear hK K hSw0
     have hSw0 := hSn
     clear hSn
     refine Kn.takeS 5 ⟨some 10, _, _, _, _, _⟩ ?_
     refine wpAnyH_done (by kernel_rfl) ?_ _
     clear hSw0
     have bn := HY2.out.boxi 0 rfl
     obtain ⟨n0, n1, n2, n3, n4⟩ := Kn.own5 bn
     clear bn
     go_wp2
     (try simp only [Exit.inBlock, Exit.then])
     refine bodyPost_ret (v := .tuple #[.slice A pre.length cc, .agg #[.int .i64 qj.s, .int .i64 qj.o, .int .i64 qj.l, .int .i64 qj.p, .int .i64 qj.m], .int .i64 er]) ?_ rfl ?_
     ·simp only [results, HRES.out]
      go_simp
     ·rw [HSE.out]
      exact ⟨pre, A, cc, fs, rfl, rfl, HFS.out, HCE.out _ _ fs (HY2.out.sub (L' := L) (.cons _ (.cons _ (.cons _ (List.Sublist.refl _)))) (fun f hf => hf))⟩
    ·rintro en w3 ⟨hO, ⟨s1, s2, s3⟩, ⟨t1, t2, t3⟩, rfl, hfc⟩
     obtain ⟨hp1, hp2, hp3, rfl⟩ := follow_place HFO.out
     have HP1 := Lib.hid hp1
     clear hp1
     obtain ⟨k, rfl⟩ : ∃ k, gk = k + 1 := ⟨gk - 1, by omega⟩
     have hsl := scanR_len d cf false q
     rw [HSC.out] at hsl
     simp only [List.length_append, List.length_map] at hsl
     obtain ⟨y, hy0⟩ : ∃ y : Fnd, y = ⟨qj, x, (s1, s2, s3), (t1, t2, t3)⟩ := ⟨_, rfl⟩
     have hyo : rfnd y = [.int .i64 qj.s, .int .i64 qj.o, .int .i64 qj.l, .int .i64 qj.p, .int .i64 qj.m, .int .i64 x.m, .int .i64 x.n, .int .i64 x.p, .slice s1 s2 s3, .slice t1 t2 t3] := by rw [hy0]; rfl
     have hyp : y.pr = (qj, x) := by rw [hy0]; rfl
     have hyf : y.fct = (fun W => RcAt W x (s1, s2, s3) (t1, t2, t3)) := by rw [hy0]; rfl
     have HYO := Lib.hid hyo
     have HYP := Lib.hid hyp
     obtain ⟨j, hj⟩ : ∃ j, j = pre.length := ⟨_, rfl⟩
     have hj65 : j ≤ 65 := by omega
     have hl2 : (pre ++ [y]).length = j + 1 := by simp [hj]
     have HL2 := Lib.hid hl2
     rw [← hj] at HW2 ⊢
     have hfs2 : ∀ u ∈ pre ++ [y], u.fct ∈ (fun W => RcAt W x (s1, s2, s3) (t1, t2, t3)) :: fs := by
      intro u hu
      rcases List.mem_append.1 hu with hu | hu
      ·exact List.mem_cons_of_mem _ (HFS.out u hu)
      ·rw [List.mem_singleton] at hu
       subst hu
       rw [hyf]
       exact List.mem_cons_self
     have HFS2 := Lib.hid hfs2
     have hw4 := ((HW2.out.addFc hO hfc).newB #[.int .i64 x.m, .int .i64 x.n, .int .i64 x.p, .slice s1 s2 s3, .slice t1 t2 t3] 56 rfl).newB #[.int .i64 nx.s, .int .i64 nx.o, .int .i64 nx.l, .int .i64 nx.p, .int .i64 nx.m] 32 (b := w3.heap.size + 1) (by simp)
     have HW4 := Lib.hid hw4
     clear hw4 hO hfc HW2 hsl hy0 hyo hyp hyf hj hl2 hfs2
     simp only [Rc.cells, slv]
     go_upto_region 17 with (fail)
     generalize hz4 : (w3.alloc (.cells #[.int .i64 x.m, .int .i64 x.n, .int .i64 x.p, .slice s1 s2 s3, .slice t1 t2 t3] 56)).alloc (.cells #[.int .i64 nx.s, .int .i64 nx.o, .int .i64 nx.l, .int .i64 nx.p, .int .i64 nx.m] 32) = w4 at *
     generalize w3.heap.size = f16 at *
     generalize f16 + 1 = f17 at *
     clear hz4 w3
     have b6 := HW4.out.boxi 3 rfl
     obtain ⟨q0, q1, q2, q3, q4⟩ := Kn.own5 b6
     have b16 := HW4.out.boxi 1 rfl
     obtain ⟨r0, r1, r2, r3, r4⟩ := Kn.own5 b16
     clear b6 b16
     have HD := Lib.hid (HW4.out.alloc (.cells #[.int .i64 qj.s, .int .i64 qj.o, .int .i64 qj.l, .int .i64 qj.p, .int .i64 qj.m, .int .i64 x.m, .int .i64 x.n, .int .i64 x.p, .slice s1 s2 s3, .slice t1 t2 t3] 183))
     have hnw := news_new w4 #[.int .i64 qj.s, .int .i64 qj.o, .int .i64 qj.l, .int .i64 qj.p, .int .i64 qj.m, .int .i64 x.m, .int .i64 x.n, .int .i64 x.p, .slice s1 s2 s3, .slice t1 t2 t3] 183 (by simp [maxLen])
     have HNW := Lib.hid hnw
     have HON := Lib.hid (rfnd_one y)
     have HBS := Lib.hid HD.out.only.size
     rw [HYO.out] at HON
     clear hnw HW4
     go_upto_region 19 with (first
      | (at_builtin; refine wpList_append_own_at _ rfl (.tmp 89) (.tmp 93) 80 rfl w0.heap.size 183 i0 _ 10 112 Tryz.underlying80 hi0 hz0 hz1 hz2 rfl (by decide) (.slice A j cc) j (rfndV pre) rfl (HD.out.gi 0 rfl) ⟨w4.heap.size, 0, none⟩ 1 1 [.int .i64 qj.s, .int .i64 qj.o, .int .i64 qj.l, .int .i64 qj.p, .int .i64 qj.m, .int .i64 x.m, .int .i64 x.n, .int .i64 x.p, .slice s1 s2 s3, .slice t1 t2 t3] rfl rfl HNW.out HON.out (by unfold maxLen; omega) (by omega) HBS.out ?_; intro v5 w5 hown hgrow _ hat2; rw [← HYO.out, ← rfndV_snoc] at hown; have hdd := HD.out.gapp 0 rfl hown hgrow hat2; obtain ⟨A6, k6, rfl⟩ := hdd.gform 0 rfl; simp only [List.set_cons_zero, List.set_cons_succ] at hdd; have HD5 := Lib.hid hdd; clear hdd hown hgrow hat2 HNW HON HBS HD q0 q1 q2 q3 q4 r0 r1 r2 r3 r4; have b6 := HD5.out.boxi 3 rfl; have q0 := b6.cell 0 (by simp); have q1 := b6.cell 1 (by simp); have q2 := b6.cell 2 (by simp); have q3 := b6.cell 3 (by simp); have q4 := b6.cell 4 (by simp); simp only [List.getElem_cons_zero, List.getElem_cons_succ] at q0 q1 q2 q3 q4; have z0 := b6.frozen 0; have z1 := b6.frozen 1; have z2 := b6.frozen 2; have z3 := b6.frozen 3; have z4 := b6.frozen 4; have l6 := b6.lt; have b16 := HD5.out.boxi 1 rfl; have r0 := b16.cell 0 (by simp); have r1 := b16.cell 1 (by simp); have r2 := b16.cell 2 (by simp); have r3 := b16.cell 3 (by simp); have r4 := b16.cell 4 (by simp); simp only [List.getElem_cons_zero, List.getElem_cons_succ] at r0 r1 r2 r3 r4; have b17 := HD5.out.boxi 0 rfl; have n0 := b17.cell 0 (by simp); have n1 := b17.cell 1 (by simp); have n2 := b17.cell 2 (by simp); have n3 := b17.cell 3 (by simp); have n4 := b17.cell 4 (by simp); simp only [List.getElem_cons_zero, List.getElem_cons_succ] at n0 n1 n2 n3 n4; clear b6 b16 b17)
      | fail)
     have HD6 := Lib.hid ((((((HD5.out.put 3 (p := f6) rfl 0 (.int .i64 nx.s)).put 3 (p := f6) rfl 1 (.int .i64 nx.o)).put 3 (p := f6) rfl 2 (.int .i64 nx.l)).put 3 (p := f6) rfl 3 (.int .i64 nx.p)).put 3 (p := f6) rfl 4 (.int .i64 nx.m)))
     simp only [List.set_cons_zero, List.set_cons_succ] at HD6
     generalize (((((w5.setCell ⟨f6, 0, none⟩ (.int .i64 nx.s)).setCell ⟨f6, 1, none⟩ (.int .i64 nx.o)).setCell ⟨f6, 2, none⟩ (.int .i64 nx.l)).setCell ⟨f6, 3, none⟩ (.int .i64 nx.p)).setCell ⟨f6, 4, none⟩ (.int .i64 nx.m)) = w6 at *
     clear HD5 q0 q1 q2 q3 q4 r0 r1 r2 r3 r4 n0 n1 n2 n3 n4 z0 z1 z2 z3 z4 l6
     have b16 := HD6.out.boxi 1 rfl
     obtain ⟨r0, r1, r2, r3, r4⟩ := Kn.own5 b16
     clear b16
     go_wp2_with fail
     refine (ref_next_any x (s1, s2, s3) (t1, t2, t3) _ (HD6.out.fact _ List.mem_cons_self).1).mono ?_
     rintro en w7 ⟨rfl, hO7⟩
     have HW7 := Lib.hid (((HD6.out.keep0 hO7).ldrop).ldrop)
     clear hO7 HD6
     have hsn := scanG_some (k := k) HFO.out
     have HSN := Lib.hid hsn
     clear hsn
     cases hnx : nextOf x with
     | none =>
      have HSE : Hid (scanR d cf false q = ((pre ++ [y]).map Fnd.pr ++ (scanG d cf k nx).1, (scanG d cf k nx).2)) := Lib.hid (by
       rw [HSC.out, HSN.out, hnx, List.map_append, List.map_cons, HYP.out]
       simp)
      clear hnx
      simp only [Option.getD_none]
      go_wp2_with fail
      go_roundg k
      case measure => omega
      case rel => exact ⟨pre ++ [y], A6, k6, _, nx, by rw [HL2.out], by rw [HL2.out]; exact HW7.out, HFS2.out, HSE.out, by omega, ⟨by omega, by omega⟩, by rw [HP1.out]; exact hs0, by rw [HP1.out]; exact hs1⟩
     | some v =>
      obtain ⟨hv0, hv1⟩ := follow_next HFO.out hnx
      have HSE : Hid (scanR d cf false q = ((pre ++ [y]).map Fnd.pr, nx, 0)) := Lib.hid (by
       rw [HSC.out, HSN.out, hnx, List.map_append, List.map_cons, HYP.out]
       simp)
      clear hnx
      simp only [Option.getD_some]
      have hge : (v : Int) ≥ 0 := hv0
      go_wp2_with fail
      have HY := Lib.hid HW7.out.drew
      clear HW7
      refine wp_region_held_drew (S := (fun w' => Kn.Own w' f6 [.int .i64 nx.s, .int .i64 nx.o, .int .i64 nx.l, .int .i64 nx.p, .int .i64 nx.m])) (by kernel_rfl) (HY.out.boxi 1 rfl) (fun hSw0 => ?_)
      generalize w7.drew = wz at *
      refine Kn.takeS 0 ⟨some 99, _, _, _, _, _⟩ ?_
      refine Kn.takeS 1 ⟨some 100, _, _, _, _, _⟩ (v := (.agg #[.int .i64 nx.s, .int .i64 nx.o, .int .i64 nx.l, .int .i64 nx.p, .int .i64 nx.m])) (hy := fun w hSw => by
       have q0 := hSw
       obtain ⟨q00, q01, q02, q03, q04⟩ := Kn.own5 q0
       clear q0
       go_simp) ?_
      refine Kn.takeS 2 ⟨some 8, _, _, _, _, _⟩ ?_
      refine Kn.takeR 3 ⟨none, _, _, _, _, _⟩ fun K hK => ?_
      refine step_store_own rfl 32 (.tmp 9) (.tmp 100) rfl f9 [.int .i64 0, .int .i64 0, .int .i64 0, .int .i64 0, .int .i64 0] [.int .i64 nx.s, .int .i64 nx.o, .int .i64 nx.l, .int .i64 nx.p, .int .i64 nx.m] (by kernel_rfl) rfl rfl (HY.out.boxi 0 rfl) rfl (by intro u hu; simp at hu; rcases hu with rfl | rfl | rfl | rfl | rfl <;> rfl) ?_
      intro wy ho hO
      have HY2 := Lib.hid (HY.out.call1 0 rfl ho hO)
      clear ho hO HY
      refine hK.out _ _ (HY2.out.boxi 1 rfl) (fun hSn => ?_)
      clear hK K hSw0
      have hSw0 := hSn
      clear hSn
      refine Kn.takeS 4 ⟨some 10, _, _, _, _, _⟩ ?_
      refine wpAnyH_done (by kernel_rfl) ?_ _
      clear hSw0
      have bn := HY2.out.boxi 0 rfl
      obtain ⟨n0, n1, n2, n3, n4⟩ := Kn.own5 bn
      clear bn
      go_wp2
      (try simp only [Exit.inBlock, Exit.then])
      refine bodyPost_ret (v := .tuple #[.slice A6 (j + 1) k6, .agg #[.int .i64 nx.s, .int .i64 nx.o, .int .i64 nx.l, .int .i64 nx.p, .int .i64 nx.m], .int .i64 0]) ?_ rfl ?_
      ·simp only [results, HRES.out]
       go_simp
      ·rw [HSE.out, ← HL2.out]
       exact ⟨pre ++ [y], A6, k6, (fun W => RcAt W x (s1, s2, s3) (t1, t2, t3)) :: fs, rfl, rfl, HFS2.out, HCE.out _ _ ((fun W => RcAt W x (s1, s2, s3) (t1, t2, t3)) :: fs) (by rw [HL2.out]; exact (HY2.out.sub (L' := L) (.cons _ (.cons _ (.cons _ (List.Sublist.refl _)))) (fun f hf => hf)))⟩
  ·have hdb : decide (0 ≤ q.o ∧ q.o ≤ cf.l - 1) = false := decide_eq_false hio
   have HSC : Hid (scanR d cf false q = ([], q, 0)) := Lib.hid (by unfold scanR; rw [scanB_no (fun h => hio ⟨h.2.1, by omega⟩)]; rfl)
   rw [hdb]
   clear hdb q0 q1 q2 q3 q4 e0 e1 e2
   go_wp2_with fail
   have HY := Lib.hid HW1.out.drew
   clear HW1
   refine wp_region_held_drew (S := (fun w' => Kn.Own w' f6 [.int .i64 q.s, .int .i64 q.o, .int .i64 q.l, .int .i64 q.p, .int .i64 q.m])) (by kernel_rfl) (HY.out.boxi 1 rfl) (fun hSw0 => ?_)
   generalize w1.drew = wz at *
   refine Kn.takeS 0 ⟨some 36, _, _, _, _, _⟩ (v := (.agg #[.int .i64 q.s, .int .i64 q.o, .int .i64 q.l, .int .i64 q.p, .int .i64 q.m])) (hy := fun w hSw => by
    have q0 := hSw
    obtain ⟨q00, q01, q02, q03, q04⟩ := Kn.own5 q0
    clear q0
    go_simp) ?_
   refine Kn.takeS 1 ⟨some 8, _, _, _, _, _⟩ ?_
   refine Kn.takeR 2 ⟨none, _, _, _, _, _⟩ fun K hK => ?_
   refine step_store_own rfl 32 (.tmp 9) (.tmp 36) rfl f9 [.int .i64 0, .int .i64 0, .int .i64 0, .int .i64 0, .int .i64 0] [.int .i64 q.s, .int .i64 q.o, .int .i64 q.l, .int .i64 q.p, .int .i64 q.m] (by kernel_rfl) rfl rfl (HY.out.boxi 0 rfl) rfl (by intro u hu; simp at hu; rcases hu with rfl | rfl | rfl | rfl | rfl <;> rfl) ?_
   intro wy ho hO
   have HY2 := Lib.hid (HY.out.call1 0 rfl ho hO)
   clear ho hO HY
   refine hK.out _ _ (HY2.out.boxi 1 rfl) (fun hSn => ?_)
   clear hK K hSw0
   have hSw0 := hSn
   clear hSn
   refine Kn.takeS 3 ⟨some 10, _, _, _, _, _⟩ ?_
   refine wpAnyH_done (by kernel_rfl) ?_ _
   clear hSw0
   have bn := HY2.out.boxi 0 rfl
   obtain ⟨n0, n1, n2, n3, n4⟩ := Kn.own5 bn
   clear bn
   go_wp2
   (try simp only [Exit.inBlock, Exit.then])
   refine bodyPost_ret (v := .tuple #[.slice none 0 0, .agg #[.int .i64 q.s, .int .i64 q.o, .int .i64 q.l, .int .i64 q.p, .int .i64 q.m], .int .i64 0]) ?_ rfl ?_
   ·simp only [results, HRES.out]
    go_simp
   ·rw [HSC.out]
    exact ⟨[], none, 0, [], rfl, rfl, by simp, HCE.out _ _ [] (HY2.out.sub (L' := L) (.cons _ (.cons _ (.cons _ (List.Sublist.refl _)))) (fun f hf => hf))⟩
 ·have hdb : decide (0 ≤ q.s ∧ q.s ≤ cf.s - 1) = false := decide_eq_false hin
  have HSC : Hid (scanR d cf false q = ([], q, 0)) := Lib.hid (by unfold scanR; rw [scanB_no (fun h => hin h.1)]; rfl)
  go_wp2_with fail
  refine (within_any _ _ _ _).mono ?_
  rintro en wx ⟨rfl, rfl⟩
  rw [hdb]
  clear hdb q0 q1 q2 q3 q4 e0 e1 e2
  go_wp2_with fail
  have HY := Lib.hid HW1.out.drew
  clear HW1
  refine wp_region_held_drew (S := (fun w' => Kn.Own w' f6 [.int .i64 q.s, .int .i64 q.o, .int .i64 q.l, .int .i64 q.p, .int .i64 q.m])) (by kernel_rfl) (HY.out.boxi 1 rfl) (fun hSw0 => ?_)
  generalize w1.drew = wz at *
  refine Kn.takeS 0 ⟨some 36, _, _, _, _, _⟩ (v := (.agg #[.int .i64 q.s, .int .i64 q.o, .int .i64 q.l, .int .i64 q.p, .int .i64 q.m])) (hy := fun w hSw => by
   have q0 := hSw
   obtain ⟨q00, q01, q02, q03, q04⟩ := Kn.own5 q0
   clear q0
   go_simp) ?_
  refine Kn.takeS 1 ⟨some 8, _, _, _, _, _⟩ ?_
  refine Kn.takeR 2 ⟨none, _, _, _, _, _⟩ fun K hK => ?_
  refine step_store_own rfl 32 (.tmp 9) (.tmp 36) rfl f9 [.int .i64 0, .int .i64 0, .int .i64 0, .int .i64 0, .int .i64 0] [.int .i64 q.s, .int .i64 q.o, .int .i64 q.l, .int .i64 q.p, .int .i64 q.m] (by kernel_rfl) rfl rfl (HY.out.boxi 0 rfl) rfl (by intro u hu; simp at hu; rcases hu with rfl | rfl | rfl | rfl | rfl <;> rfl) ?_
  intro wy ho hO
  have HY2 := Lib.hid (HY.out.call1 0 rfl ho hO)
  clear ho hO HY
  refine hK.out _ _ (HY2.out.boxi 1 rfl) (fun hSn => ?_)
  clear hK K hSw0
  have hSw0 := hSn
  clear hSn
  refine Kn.takeS 3 ⟨some 10, _, _, _, _, _⟩ ?_
  refine wpAnyH_done (by kernel_rfl) ?_ _
  clear hSw0
  have bn := HY2.out.boxi 0 rfl
  obtain ⟨n0, n1, n2, n3, n4⟩ := Kn.own5 bn
  clear bn
  go_wp2
  (try simp only [Exit.inBlock, Exit.then])
  refine bodyPost_ret (v := .tuple #[.slice none 0 0, .agg #[.int .i64 q.s, .int .i64 q.o, .int .i64 q.l, .int .i64 q.p, .int .i64 q.m], .int .i64 0]) ?_ rfl ?_
  ·simp only [results, HRES.out]
   go_simp
  ·rw [HSC.out]
   exact ⟨[], none, 0, [], rfl, rfl, by simp, HCE.out _ _ [] (HY2.out.sub (L' := L) (.cons _ (.cons _ (.cons _ (List.Sublist.refl _)))) (fun f hf => hf))⟩
end Go.Proofs.YtgcfdjcpcclcjaaGreat
namespace Go.Proofs.YtgcfdjcpcclcjaaGreat
open Go Go.RowKit Go.Kn
theorem segR_err {d : Dk} {c : Cf} {k : Int} (hk : 0 ≤ k ∧ k ≤ c.s - 1) (hc : c.Ok) (he : d.err (c.at_ k) ≠ 0) : scanR d c true ⟨k, 0, 0, 0, 0⟩ = ([], ⟨k, 0, 0, 0, 0⟩, d.err (c.at_ k)) := by
 have hl := hc.2.2
 unfold scanR
 rw [scanB_err (p := ⟨k, 0, 0, 0, 0⟩) ⟨hk, by simp only; omega⟩ (by simp) he]
 rfl
theorem segR_none {d : Dk} {c : Cf} {k : Int} (hk : 0 ≤ k ∧ k ≤ c.s - 1) (hc : c.Ok) (he : d.err (c.at_ k) = 0) (hd : decHead (d.read (c.at_ k)) = none) : scanR d c true ⟨k, 0, 0, 0, 0⟩ = ([], ⟨k, 0, 0, 0, 0⟩, 0) := by
 have hl := hc.2.2
 unfold scanR
 rw [scanB_none (p := ⟨k, 0, 0, 0, 0⟩) ⟨hk, by simp only; omega⟩ (by simp) he hd]
 rfl
theorem segR_some {d : Dk} {c : Cf} {k : Int} {x : It} (hk : 0 ≤ k ∧ k ≤ c.s - 1) (hc : c.Ok) (he : d.err (c.at_ k) = 0) (hd : decHead (d.read (c.at_ k)) = some x) : scanR d c true ⟨k, 0, 0, 0, 0⟩ = scanR d c false ⟨k, 1, x.c, x.v, x.b⟩ := by
 have hl := hc.2.2
 unfold scanR
 rw [scanB_some (p := ⟨k, 0, 0, 0, 0⟩) ⟨hk, by simp only; omega⟩ (by simp) he hd, scanB_off (p := ⟨k, 1, x.c, x.v, x.b⟩) ⟨hk, by simp only; omega⟩ (by simp)]
 rfl
set_option maxRecDepth 100000 in
set_option maxHeartbeats 16000000 in
theorem ref_segment_any (w0 w : World) (r : RD) (d : Dk) (c : Fr3) (cf : Cf) (k : Int) (h : Rsk w0 w r d c) (hh : d.held.length ≤ 1000000) (hc : cf.Ok) (hk : 0 ≤ k ∧ k ≤ cf.s - 1) :
  Calls Tryz.prog 38 #[.pointer (some ⟨r.M, 0, none⟩), .agg #[.int .i64 cf.b, .int .i64 cf.s, .int .i64 cf.l], .int .i64 k] w (RScSays w0 r d c (scanR d cf true ⟨k, 0, 0, 0, 0⟩)) := by
 have hres : Tryz.f38.results = #[.tmp 6, .cell 7 32, .tmp 8] := by kernel_rfl
 have HRES := Lib.hid hres
 have HC := Lib.hid hc
 have HKK := Lib.hid hk
 have HOK := Lib.hid h.ok
 obtain ⟨L0, G0, F0, hw, hcl⟩ := h.fr
 have HCL : Hid (∀ w', Wc w0 w' (c.L ++ L0) (c.G ++ G0) (c.F ++ F0) → Rsk w0 w' r d c) := Lib.hid (fun w' h => hcl w' c h)
 have HC1 : Hid (∀ w' x, Wc w0 w' (x :: (c.L ++ L0)) (c.G ++ G0) (c.F ++ F0) → Rsk w0 w' r d ⟨x :: c.L, c.G, c.F⟩) := Lib.hid (fun w' x h => hcl w' ⟨x :: c.L, c.G, c.F⟩ h)
 have HCE : Hid (∀ w' g fs, Wc w0 w' (c.L ++ L0) (g :: (c.G ++ G0)) (fs ++ (c.F ++ F0)) → Rsk w0 w' r d ⟨c.L, g :: c.G, fs ++ c.F⟩) := Lib.hid (fun w' g fs h => hcl w' ⟨c.L, g :: c.G, fs ++ c.F⟩ (by show Wc w0 w' _ _ ((fs ++ c.F) ++ F0); rw [List.append_assoc]; exact h))
 have hat : 0 ≤ cf.at_ k ∧ cf.at_ k ≤ 100000 := by
  obtain ⟨m1, m2⟩ := Cf.prod cf hc k hk.1 (by omega)
  have h1 := rln_bounds hc
  have h2 := pgs_bounds hc
  unfold Cf.at_
  rw [if_pos hk]
  omega
 clear hcl h hc hres
 generalize c.L ++ L0 = L at *
 generalize c.G ++ G0 = G at *
 generalize c.F ++ F0 = F at *
 have HW0 := Lib.hid ((hw.newB #[.int .i64 cf.b, .int .i64 cf.s, .int .i64 cf.l] 25 rfl).newB #[.int .i64 0, .int .i64 0, .int .i64 0, .int .i64 0, .int .i64 0] 32 rfl)
 clear hw
 go_enter Tryz.func38, Tryz.ntmps38
 go_upto_region 1 with (fail)
 generalize hz1 : (w.alloc (.cells #[.int .i64 cf.b, .int .i64 cf.s, .int .i64 cf.l] 25)).alloc (.cells #[.int .i64 0, .int .i64 0, .int .i64 0, .int .i64 0, .int .i64 0] 32) = w1 at *
 have hs1 : (w.alloc (.cells #[.int .i64 cf.b, .int .i64 cf.s, .int .i64 cf.l] 25)).heap.size = w.heap.size + 1 := by simp
 rw [hs1] at HW0
 clear hz1 hs1
 generalize w.heap.size = f4 at *
 generalize f4 + 1 = f7 at *
 have HW1 : Hid (Wc w0 w1 ((f7, [.int .i64 0, .int .i64 0, .int .i64 0, .int .i64 0, .int .i64 0]) :: (f4, [.int .i64 cf.b, .int .i64 cf.s, .int .i64 cf.l]) :: L) G F) := Lib.hid HW0.out
 clear HW0
 have b4 := HW1.out.boxi 1 rfl
 obtain ⟨e0, e1, e2⟩ := Kn.own3 b4
 clear b4
 go_wp2_with fail
 refine (ref_segat_any cf k _ HC.out).mono ?_
 rintro en w2 ⟨rfl, hO⟩
 have HW2 := Lib.hid (HW1.out.keep0 hO)
 obtain ⟨a, ha⟩ : ∃ a, cf.at_ k = a := ⟨_, rfl⟩
 have HA := Lib.hid ha
 rw [ha] at hat ⊢
 obtain ⟨ha0, ha1⟩ := hat
 clear hO HW1 e0 e1 e2 ha
 go_wp2_with fail
 refine (rk_read_own w0 _ r d c a (HCL.out _ (HW2.out.sub (L' := L) (.cons _ (.cons _ (List.Sublist.refl _))) (fun f hf => hf))) hh).mono ?_
 rintro en w3 ⟨v, n, rfl, hown, hO⟩
 have hW := HW2.out.gadd hO hown
 obtain ⟨A, cc, rfl⟩ := hW.gform 0 rfl
 have HW3 := Lib.hid hW
 clear hown hW hO HW2
 have hbo := (Row1.of_owns (HW3.out.gi 0 rfl)).1
 have hnl := hbo.len
 rw [bvs_length] at hnl
 have hn64 : n ≤ 65536 := by rw [← hnl, Dk.read_len HOK.out]; split <;> omega
 have HBO := Lib.hid hbo
 clear hbo hnl
 obtain ⟨z, hz⟩ : ∃ z, d.err a = z := ⟨_, rfl⟩
 rw [hz]
 have HZ := Lib.hid hz
 clear hz hk
 have HW4 := Lib.hid (HW3.out.newB #[.int .i64 k, .int .i64 0, .int .i64 0, .int .i64 0, .int .i64 0] 32 rfl)
 have HB4 := Lib.hid (HBO.out.keep0 ((Only.refl _ _).alloc (.cells #[.int .i64 k, .int .i64 0, .int .i64 0, .int .i64 0, .int .i64 0] 32)))
 clear HW3 HBO
 go_upto_region 3 with (fail)
 generalize hz4 : w3.alloc (.cells #[.int .i64 k, .int .i64 0, .int .i64 0, .int .i64 0, .int .i64 0] 32) = w4 at *
 generalize w3.heap.size = f11 at *
 clear hz4 w3
 by_cases hz0 : z = 0
 ·subst hz0
  go_wp2_with fail
  refine (ref_head_dec_any A n cc _ _ HB4.out hn64).mono ?_
  rintro en w5 ⟨rfl, hO⟩
  have HW5 := Lib.hid ((HW4.out.keep0 hO).gdrop)
  clear hO HW4 HB4
  cases hd : decHead (d.read a) with
  | none =>
   have HSC := Lib.hid (segR_none HKK.out HC.out (by rw [HA.out]; exact HZ.out) (by rw [HA.out]; exact hd))
   have HW6 := Lib.hid (HW5.out.alloc (.cells #[.int .i64 0, .int .i64 0, .int .i64 0, .int .i64 0] 143))
   clear hd HW5
   simp only [Option.getD_none, Option.isSome_none, It.vals]
   go_upto_region 7 with (fail)
   generalize w5.alloc (.cells #[.int .i64 0, .int .i64 0, .int .i64 0, .int .i64 0] 143) = w6 at *
   go_wp2_with fail
   have HY := Lib.hid HW6.out.drew
   clear HW6
   refine wp_region_held_drew (S := (fun w' => Kn.Own w' f11 [.int .i64 k, .int .i64 0, .int .i64 0, .int .i64 0, .int .i64 0])) (by kernel_rfl) (HY.out.boxi 0 rfl) (fun hSw0 => ?_)
   generalize w6.drew = wz at *
   refine Kn.takeS 0 ⟨some 35, _, _, _, _, _⟩ (v := (.agg #[.int .i64 k, .int .i64 0, .int .i64 0, .int .i64 0, .int .i64 0])) (hy := fun w hSw => by
    have q0 := hSw
    obtain ⟨q00, q01, q02, q03, q04⟩ := Kn.own5 q0
    clear q0
    go_simp) ?_
   refine Kn.takeS 1 ⟨some 6, _, _, _, _, _⟩ ?_
   refine Kn.takeR 2 ⟨none, _, _, _, _, _⟩ fun K hK => ?_
   refine step_store_own rfl 32 (.tmp 7) (.tmp 35) rfl f7 [.int .i64 0, .int .i64 0, .int .i64 0, .int .i64 0, .int .i64 0] [.int .i64 k, .int .i64 0, .int .i64 0, .int .i64 0, .int .i64 0] (by kernel_rfl) rfl rfl (HY.out.boxi 1 rfl) rfl (by intro u hu; simp at hu; rcases hu with rfl | rfl <;> rfl) ?_
   intro wy ho hO
   have HY2 := Lib.hid (HY.out.call1 1 rfl ho hO)
   clear ho hO HY
   refine hK.out _ _ (HY2.out.boxi 0 rfl) (fun hSn => ?_)
   clear hK K hSw0
   have hSw0 := hSn
   clear hSn
   refine Kn.takeS 3 ⟨some 8, _, _, _, _, _⟩ ?_
   refine wpAnyH_done (by kernel_rfl) ?_ _
   clear hSw0
   have bn := HY2.out.boxi 1 rfl
   obtain ⟨n0, n1, n2, n3, n4⟩ := Kn.own5 bn
   clear bn
   go_wp2
   (try simp only [Exit.inBlock, Exit.then])
   refine bodyPost_ret (v := .tuple #[.slice none 0 0, .agg #[.int .i64 k, .int .i64 0, .int .i64 0, .int .i64 0, .int .i64 0], .int .i64 0]) ?_ rfl ?_
   ·simp only [results, HRES.out]
    go_simp
   ·rw [HSC.out]
    exact ⟨[], none, 0, [], rfl, rfl, by simp, HCE.out _ _ [] ((HY2.out.gnew 183 10).sub (L' := L) (.cons _ (.cons _ (.cons _ (List.Sublist.refl _)))) (fun f hf => hf))⟩
  | some x =>
   obtain ⟨xk, xb, xc, xv⟩ := x
   have HSC := Lib.hid (segR_some HKK.out HC.out (by rw [HA.out]; exact HZ.out) (by rw [HA.out]; exact hd))
   simp only at HSC
   have HW6 := Lib.hid (HW5.out.newB #[.int .i64 xk, .int .i64 xb, .int .i64 xc, .int .i64 xv] 143 rfl)
   clear hd HW5
   simp only [Option.getD_some, Option.isSome_some, It.vals, if_true]
   go_upto_region 8 with (fail)
   generalize hz6 : w5.alloc (.cells #[.int .i64 xk, .int .i64 xb, .int .i64 xc, .int .i64 xv] 143) = w6 at *
   generalize w5.heap.size = f12 at *
   clear hz6
   have b12 := HW6.out.boxi 0 rfl
   obtain ⟨h0, h1, h2, h3⟩ := Kn.own4 b12
   have b4 := HW6.out.boxi 3 rfl
   obtain ⟨e0, e1, e2⟩ := Kn.own3 b4
   clear b12 b4
   go_wp2_with fail
   refine (ref_scan_any w0 w6 r d ⟨(f7, [.int .i64 0, .int .i64 0, .int .i64 0, .int .i64 0, .int .i64 0]) :: c.L, c.G, c.F⟩ cf ⟨k, 1, xc, xv, xb⟩ (HC1.out _ _ (HW6.out.sub (L' := (f7, [.int .i64 0, .int .i64 0, .int .i64 0, .int .i64 0, .int .i64 0]) :: L) (.cons _ (.cons _ (.cons_cons _ (.cons _ (List.Sublist.refl _))))) (fun f hf => hf))) hh HC.out).mono ?_
   obtain ⟨x, hx⟩ : ∃ x, scanR d cf false ⟨k, 1, xc, xv, xb⟩ = x := ⟨_, rfl⟩
   rw [hx]
   have HX := Lib.hid hx
   clear hx
   rintro en w7 ⟨xs, A, kk, fs, rfl, hxs, hfs, hR⟩
   obtain ⟨L1, G1, F1, hw7, hcl7⟩ := hR.fr
   have HW7 := Lib.hid hw7
   have HC7 := Lib.hid hcl7
   clear hcl7 hR HW6 h0 h1 h2 h3 e0 e1 e2
   obtain ⟨x1, x2, x3⟩ := x
   simp only
   have b7 := HW7.out.boxi 0 rfl
   obtain ⟨y0, y1, y2, y3, y4⟩ := Kn.own5 b7
   have z0 := b7.frozen 0
   have z1 := b7.frozen 1
   have z2 := b7.frozen 2
   have z3 := b7.frozen 3
   have z4 := b7.frozen 4
   have l7 := b7.lt
   clear b7 hw7
   go_wp2
   (try simp only [Exit.inBlock, Exit.then])
   refine bodyPost_ret (v := .tuple #[.slice A xs.length kk, .agg #[.int .i64 x2.s, .int .i64 x2.o, .int .i64 x2.l, .int .i64 x2.p, .int .i64 x2.m], .int .i64 x3]) ?_ rfl ?_
   ·simp only [results, HRES.out]
    go_simp
   ·rw [HSC.out, HX.out]
    exact ⟨xs, A, kk, fs, rfl, hxs, hfs, HC7.out _ ⟨c.L, _ :: c.G, fs ++ c.F⟩ ((((((HW7.out.put 0 (p := f7) rfl 0 (.int .i64 x2.s)).put 0 (p := f7) rfl 1 (.int .i64 x2.o)).put 0 (p := f7) rfl 2 (.int .i64 x2.l)).put 0 (p := f7) rfl 3 (.int .i64 x2.p)).put 0 (p := f7) rfl 4 (.int .i64 x2.m))).ldrop⟩
 ·have hzb : (z != 0) = true := by simpa using hz0
  have HSC := Lib.hid (segR_err HKK.out HC.out (by rw [HA.out, HZ.out]; exact hz0))
  go_wp2_with fail
  have HY := Lib.hid HW4.out.drew
  clear HW4
  refine wp_region_held_drew (S := (fun w' => Kn.Own w' f11 [.int .i64 k, .int .i64 0, .int .i64 0, .int .i64 0, .int .i64 0])) (by kernel_rfl) (HY.out.boxi 0 rfl) (fun hSw0 => ?_)
  generalize w4.drew = wz at *
  refine Kn.takeS 0 ⟨some 26, _, _, _, _, _⟩ (v := (.agg #[.int .i64 k, .int .i64 0, .int .i64 0, .int .i64 0, .int .i64 0])) (hy := fun w hSw => by
   have q0 := hSw
   obtain ⟨q00, q01, q02, q03, q04⟩ := Kn.own5 q0
   clear q0
   go_simp) ?_
  refine Kn.takeS 1 ⟨some 27, _, _, _, _, _⟩ ?_
  refine Kn.takeS 2 ⟨some 6, _, _, _, _, _⟩ ?_
  refine Kn.takeR 3 ⟨none, _, _, _, _, _⟩ fun K hK => ?_
  refine step_store_own rfl 32 (.tmp 7) (.tmp 26) rfl f7 [.int .i64 0, .int .i64 0, .int .i64 0, .int .i64 0, .int .i64 0] [.int .i64 k, .int .i64 0, .int .i64 0, .int .i64 0, .int .i64 0] (by kernel_rfl) rfl rfl (HY.out.boxi 1 rfl) rfl (by intro u hu; simp at hu; rcases hu with rfl | rfl <;> rfl) ?_
  intro wy ho hO
  have HY2 := Lib.hid (HY.out.call1 1 rfl ho hO)
  clear ho hO HY
  refine hK.out _ _ (HY2.out.boxi 0 rfl) (fun hSn => ?_)
  clear hK K hSw0
  have hSw0 := hSn
  clear hSn
  refine Kn.takeS 4 ⟨some 8, _, _, _, _, _⟩ ?_
  refine wpAnyH_done (by kernel_rfl) ?_ _
  clear hSw0
  have bn := HY2.out.boxi 1 rfl
  obtain ⟨n0, n1, n2, n3, n4⟩ := Kn.own5 bn
  clear bn
  go_wp2
  (try simp only [Exit.inBlock, Exit.then])
  refine bodyPost_ret (v := .tuple #[.slice none 0 0, .agg #[.int .i64 k, .int .i64 0, .int .i64 0, .int .i64 0, .int .i64 0], .int .i64 z]) ?_ rfl ?_
  ·simp only [results, HRES.out]
   go_simp
  ·rw [HSC.out]
   rw [HA.out, HZ.out]
   exact ⟨[], none, 0, [], rfl, rfl, by simp, HCE.out _ _ [] ((HY2.out.gdrop.gnew 183 10).sub (L' := L) (.cons _ (.cons _ (.cons _ (List.Sublist.refl _)))) (fun f hf => hf))⟩
end Go.Proofs.YtgcfdjcpcclcjaaGreat
namespace Go.Kn
open Go Go.RowKit
theorem GeoAt.keep {S : List Nat} {w w' : World} {p : Nat} {b s l : Int} (h : GeoAt w p b s l) (hO : Only S w w') (hp : p ∉ S) : GeoAt w' p b s l := ⟨hO.cell h.c0 hp, hO.cell h.c1 hp, hO.cell h.c2 hp⟩
end Go.Kn
namespace Go.Proofs.YtgcfdjcpcclcjaaGreat
open Go Go.RowKit Go.Kn
set_option maxRecDepth 100000 in
set_option maxHeartbeats 4000000 in
theorem geom_new_any (b s l : Int) (w : World) (hb : CfOk b s l) :
  Calls Tryz.prog 75 #[.agg #[.int .i64 b, .int .i64 s, .int .i64 l]] w fun e w' => ∃ p, e = .returned (.tuple #[.pointer (some ⟨p, 0, none⟩), .int .i64 0]) ∧ w.heap.size ≤ p ∧ GeoAt w' p b s l ∧ Only [] w w' := by
 obtain ⟨h1, h2, h3⟩ := hb
 have H1 : Hid (decide (1 ≤ b ∧ b ≤ 64) = true) := Lib.hid (decide_eq_true h1)
 have H2 : Hid (decide (8 ≤ s ∧ s ≤ 32) = true) := Lib.hid (decide_eq_true h2)
 have H3 : Hid (decide (24 ≤ l ∧ l ≤ 64) = true) := Lib.hid (decide_eq_true h3)
 clear h1 h2 h3
 go_enter Tryz.func75, Tryz.ntmps75
 go_wp2_with (go_at_call 140; refine (geom_within_any _ _ _ _).mono ?_; rintro e w' ⟨rfl, rfl⟩; first | rw [H1.out] | rw [H2.out] | rw [H3.out])
 go_ret2
 have hs : (w.alloc (.cells #[.int .i64 b, .int .i64 s, .int .i64 l] 25)).heap.size = w.heap.size + 1 := by simp
 have hO := Own.new (w.alloc (.cells #[.int .i64 b, .int .i64 s, .int .i64 l] 25)) #[.int .i64 b, .int .i64 s, .int .i64 l] 149
 rw [hs] at hO
 exact ⟨w.heap.size + 1, rfl, by omega, ⟨hO.cell 0 (by simp), hO.cell 1 (by simp), hO.cell 2 (by simp)⟩, ((Only.refl _ _).alloc _).alloc _⟩
end Go.Proofs.YtgcfdjcpcclcjaaGreat
