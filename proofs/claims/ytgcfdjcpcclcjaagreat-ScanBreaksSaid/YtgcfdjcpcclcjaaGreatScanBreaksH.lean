/- ScnH, ScnI, RecH, ScnK, ScnL, GeoC, ScnN, LogP, LogQ, ScnO, ScnQ, LogR, Awake13, Frame, FrameI, FrameK, StpP, BrkP, TurnW, BrkQ, MntP, TakeP: joined by pack.py, without what the claim does not use. -/
import Derived.Test.YtgcfdjcpcclcjaaGreatScanBreaksG
set_option linter.unusedVariables false
set_option linter.unusedSimpArgs false
namespace Go.Kn
open Go Go.RowKit
theorem run_equalIn_func_nil {P : Program} (w : World) (d : Nat) (t : TypeId) {a b : Array TypeId} {v : Bool} (h : P.underlying t = some (.func a b v)) (f : Fn) (x y : Array Value) : (Op.equalIn (d + 1) t (.func f x y) .nilFunc).run P w = .ok false w := by
  simp [Op.equalIn, run_underlying h]
theorem run_eql_func_nil {P : Program} (w : World) (t : TypeId) {a b : Array TypeId} {v : Bool} (h : P.underlying t = some (.func a b v)) (f : Fn) (x y : Array Value) : (binOp .eql t (.func f x y) .nilFunc).run P w = .ok (.bool false) w := by
  simp only [binOp]
  simp [Op.equal, Op.maxDepth, run_equalIn_func_nil w 9999 t h]
def Fnd.one (x : Fnd) : List Value := .int .i64 x.p.o :: (x.r.cells x.s x.t).toList
theorem Wk.gnew {w0 w1 w : World} {L : List (Nat × List Value)} {G : List Gs} {F : List (World → Prop)} (h : Wk w0 w1 w L G F) (e sz : Nat) : Wk w0 w1 w L (⟨e, sz, .slice none 0 0, 0, []⟩ :: G) F := h.same (h.toWc.gnew e sz)
theorem kf_of_kb {B : Nat} {X Y : World} (h : Kb X.heap.size X Y) : KeepsFrom B X Y := ⟨h.size, fun k o _ ho hc => h.keep k o (lt_of_obj ho) ho hc⟩
theorem At3.new1 {w0 w : World} {φ c : Fr3} (h : At3 w0 w φ c) (u : Array Value) (s : TypeId) : At3 w0 (w.alloc (.cells u s)) φ ⟨(w.heap.size, u.toList) :: c.L, c.G, c.F⟩ :=
  ((Wc.newB h u s rfl).perm (List.perm_middle).symm (List.Perm.refl _) : Wc _ _ _ _ _)
theorem At3.flip {w0 w : World} {a b : Fr3} (h : At3 w0 w a b) : Wc w0 w (b.L ++ a.L) (b.G ++ a.G) (a.F ++ b.F) := Wc.perm h List.perm_append_comm List.perm_append_comm
theorem At3.unflip {w0 w : World} {a b : Fr3} (h : Wc w0 w (b.L ++ a.L) (b.G ++ a.G) (a.F ++ b.F)) : At3 w0 w a b := Wc.perm h List.perm_append_comm List.perm_append_comm
theorem perm_w {α : Type} (a b c d : α) (L : List α) : (a :: b :: c :: d :: L).Perm (d :: b :: (L ++ [a, c])) :=
  (List.perm_middle (l₁ := [a, b, c]) (a := d) (l₂ := L)).trans (((List.Perm.swap b a (c :: L)).trans ((List.perm_append_comm (l₁ := [a, c]) (l₂ := L)).cons b)).cons d)
end Go.Kn
namespace Go.Proofs.YtgcfdjcpcclcjaaGreat
open Go Go.RowKit Go.Kn Go.Shelf
attribute [local go_sem] Oper.semAt_some
def fndV (xs : List Fnd) : List Value := xs.flatMap Kn.Fnd.one
theorem fndV_snoc (xs : List Fnd) (x : Fnd) : fndV (xs ++ [x]) = fndV xs ++ x.one := by simp [fndV]
theorem fnd_one_one (x : Fnd) : ∀ u ∈ x.one, u.oneCell' = true := by
  intro u hu
  simp only [Fnd.one, Rc.cells, slv, List.mem_cons, List.mem_nil_iff, or_false] at hu
  rcases hu with rfl | rfl | rfl | rfl | rfl | rfl <;> rfl
theorem infoFound : (Tryz.prog.info? 58).map (fun i => (i.zero, i.size, i.bytes)) = some (some (.agg #[.int .i64 0, .int .i64 0, .int .i64 0, .int .i64 0, .slice none 0 0, .slice none 0 0]), 6, 80) := by kernel_rfl
def WalkSays (w0 wb : World) (S D gb : Nat) (p : Ps) (own : Bool) (L : List (Nat × List Value)) (G : List Gs) (F : List (World → Prop)) (x : List (Ps × Rc) × Ps × Int) (en : Ending) (w' : World) : Prop :=
  ∃ (xs : List Fnd) (A : Option Addr) (c : Nat) (fs : List (World → Prop)), en = .returned (.slice A xs.length c) ∧ xs.map Fnd.pr = x.1 ∧ (∀ y ∈ xs, y.fct ∈ fs) ∧
    Wk w0 wb w' ((S, SB D gb p own x.2.1 x.2.2) :: L) (⟨58, 6, .slice A xs.length c, xs.length, fndV xs⟩ :: G) (fs ++ F)
def WaC (b3 b6 most : Nat) (A : Option Addr) (c : Nat) (pre : List Fnd) : Fr3 := ⟨[(b6, [.slice A pre.length c]), (b3, [.int .i64 (most : Int)])], [⟨58, 6, .slice A pre.length c, pre.length, fndV pre⟩], []⟩
def WaJ (wb : World) (b3 b6 most : Nat) : Option Code → List Fnd → Fr3 → World → Prop
  | none, pre, c, W => ∃ (A : Option Addr) (k : Nat), c = WaC b3 b6 most A k pre ∧ Kb wb.heap.size wb W
  | some _, _, _, _ => False
def WaM (wb : World) (S b3 b6 bS most : Nat) (pre : List Fnd) (x : Fnd) (a : Act) (c : Fr3) (W : World) : Prop :=
  ∃ (A : Option Addr) (k bR : Nat), c = ⟨(bR, (x.r.cells x.s x.t).toList) :: (WaC b3 b6 most A k pre).L, (WaC b3 b6 most A k pre).G, []⟩ ∧
    a = { tmps := #[.pointer (some ⟨S, 0, none⟩), .int .i64 (most : Int), undef, .pointer (some ⟨b3, 0, none⟩), .slice none 0 0, .func (.func 97) #[] #[.pointer (some ⟨bS, 0, none⟩)], .pointer (some ⟨b6, 0, none⟩), .int .i64 x.p.o, .pointer (some ⟨bR, 0, none⟩), .pointer (some ⟨S, 0, none⟩), .func (.func 97) #[] #[.pointer (some ⟨bS, 0, none⟩)], .func (.func 97) #[] #[.pointer (some ⟨bS, 0, none⟩)], .bool false, .func (.func 97) #[] #[.pointer (some ⟨bS, 0, none⟩)], .int .i64 x.p.o, .agg (x.r.cells x.s x.t), undef, undef, undef, undef, undef, undef, undef, undef, undef, undef, undef], defers := [] } ∧ Kb wb.heap.size wb W
set_option maxRecDepth 100000 in
set_option maxHeartbeats 8000000 in
theorem walk13_any {wb : World} (w0 w : World) (S gb : Nat) (pd : PD) (d : Dk) (cf : Cf) (p : Ps) (own : Bool) (e : Ps) (er : Int) (L : List (Nat × List Value)) (G : List Gs) (F : List (World → Prop)) (most : Nat)
    (hw : Wk w0 wb w ((S, SB pd.D gb p own e er) :: L) G F) (hd : DkIn pd d L) (hg : (fun W => GeoAt W gb cf.b cf.s cf.l) ∈ F) (hc : cf.Ok) (hm : (scanR d cf own p).1.length ≤ most) (hmm : most ≤ 1000) :
    Calls Tryz.prog 19 #[.pointer (some ⟨S, 0, none⟩), .int .i64 (most : Int)] w (WalkSays w0 wb S pd.D gb p own L G F (scanR d cf own p)) := by
  have HA := Lib.hid hw
  have HDK := Lib.hid hd
  obtain ⟨i0, hi0, hz0, hz1, hz2⟩ := info_parts infoFound
  have HG := Lib.hid hg
  have HM := Lib.hid hm
  clear hw hd hg hm
  have hfn := fun (w : World) (x y : Array Value) => run_eql_func_nil (P := Tryz.prog) w 68 Tryz.underlying68 (.func 97) x y
  refine (callsIn_wide (n := 6)).1 (callsIn_of_wp_marks Tryz.func19 rfl trivial ?_ rfl)
  simp only [Tryz.ntmps19, List.size_toArray, List.length_cons, List.length_nil, Nat.reduceAdd, Nat.reduceSub, Array.replicate_succ, Array.replicate_zero, List.push_toArray, List.append_toArray, List.nil_append, List.cons_append]
  refine wpIn_wide.2 ?_
  go_wp2_with fail
  refine (records_any _ _).mono ?_
  rintro en w1 ⟨rfl, rfl⟩
  go_wp2_with fail
  obtain ⟨b3, h3⟩ : ∃ k, k = w.heap.size := ⟨_, rfl⟩
  have hs1 : (w.alloc (.cells #[.int .i64 (most : Int)] 3)).heap.size = w.heap.size + 1 := by simp
  have hs2 : ((w.alloc (.cells #[.int .i64 (most : Int)] 3)).alloc (.cells #[.pointer (some ⟨S, 0, none⟩)] 40)).heap.size = w.heap.size + 1 + 1 := by simp
  have hw2 := ((((HA.out.newB #[.int .i64 (most : Int)] 3 rfl).newB #[.pointer (some ⟨S, 0, none⟩)] 40 hs1).newB #[.slice none 0 0] 42 hs2).gnew 58 6)
  generalize hz : ((w.alloc (.cells #[.int .i64 (most : Int)] 3)).alloc (.cells #[.pointer (some ⟨S, 0, none⟩)] 40)).alloc (.cells #[.slice none 0 0] 42) = w2 at *
  rw [← h3] at hw2 ⊢
  have HW2 := Lib.hid hw2
  obtain ⟨bS, hbS⟩ : ∃ k, k = b3 + 1 := ⟨_, rfl⟩
  rw [← hbS] at HW2 ⊢
  obtain ⟨b6, hb6⟩ : ∃ k, k = bS + 1 := ⟨_, rfl⟩
  rw [← hb6] at HW2 ⊢
  have hbw : wb.heap.size ≤ w2.heap.size := HW2.out.hs
  clear hw2 hz h3 hbS hb6 hs1 hs2 HA
  refine (wpIn_wide (n := 6)).1 ?_
  refine wpIn_rangeFunc_W (F := Fence.wide) (n := 6) rfl (by decide) (gf := 97) (lb := #[.pointer (some ⟨bS, 0, none⟩)]) rfl trivial (enters_of Tryz.func97 (by kernel_rfl) rfl)
    (c0 := WaC b3 b6 most none 0 []) (fun W1 _ => records1_seq w0 W1 S bS gb pd d cf p own e er ((bS, [.pointer (some ⟨S, 0, none⟩)]) :: L) G F (6 - 1) (by decide) (HDK.out.mono (fun x hx => List.mem_cons_of_mem _ hx)) List.mem_cons_self HG.out hc) (fun _ => rfl)
    (WaJ wb b3 b6 most) (WaM wb S b3 b6 bS most) ?hJ ?hJm ⟨none, 0, rfl, HW2.out.kb⟩ ?h0 ?assign ?body ?done ?stop
  case h0 =>
    show Wc w0 w2 _ _ (F ++ [])
    rw [List.append_nil]
    exact (HW2.out.perm (perm_w _ _ _ _ _) (List.perm_append_comm (l₁ := [_]))).toWc
  case hJ =>
    rintro (_ | cd) xs c X Y h hb
    · obtain ⟨A, k, hc, hk⟩ := h
      exact ⟨A, k, hc, hk.trans (hb.mono hbw)⟩
    · exact h.elim
  case hJm =>
    rintro pre x a c X Y ⟨A, k, bR, hc, ha, hk⟩ hb
    exact ⟨A, k, bR, hc, ha, hk.trans (hb.mono hbw)⟩
  case assign =>
    rintro lr pre x φ c W1 K hpre ⟨A, k, rfl, hk⟩ hat hsz hlen hK
    obtain ⟨xp, r, ⟨s1, s2, s3⟩, ⟨t1, t2, t3⟩⟩ := x
    simp only [Fnd.enc2, Rc.cells, slv]
    have HAT := Lib.hid hat
    have HPRE := Lib.hid hpre
    clear hat hpre
    gi_wp2
    refine hK _ ⟨(W1.heap.size, (r.cells (s1, s2, s3) (t1, t2, t3)).toList) :: (WaC b3 b6 most A k pre).L, (WaC b3 b6 most A k pre).G, []⟩ _ (kf_of_only (S := []) ((Only.refl _ _).alloc _) (by simp)) (HAT.out.new1 _ _) ⟨A, k, _, rfl, rfl, hk.trans (Kb.of_only (S := []) ((Only.refl _ _).alloc _) (by simp))⟩
  case body =>
    rintro lr pre x φ c a' W1 ⟨hfs, hpx⟩ ⟨A, k, bR, rfl, rfl, hk⟩ hat hsz hlen
    obtain ⟨y, hy0⟩ : ∃ y, y = x := ⟨_, rfl⟩
    have HY0 := Lib.hid hy0
    have hpl := hpx.length_le
    have hml := HM.out
    simp only [List.length_map, List.length_append, List.length_cons, List.length_nil] at hpl
    obtain ⟨xp, r, ⟨s1, s2, s3⟩, ⟨t1, t2, t3⟩⟩ := x
    simp only [Rc.cells, slv]
    have HF := Lib.hid (Wk.start hat.flip)
    have hyo : y.one = [.int .i64 xp.o, .int .i64 r.m, .int .i64 r.n, .int .i64 r.p, .slice s1 s2 s3, .slice t1 t2 t3] := by rw [hy0]; rfl
    have HYO := Lib.hid hyo
    obtain ⟨j, hj⟩ : ∃ j, j = pre.length := ⟨_, rfl⟩
    have HJ := Lib.hid hj
    have hjm : (j : Int) < (most : Int) := by omega
    have hj9 : j < 1000 := by omega
    have hwa : (WaC b3 b6 most A k pre) = ⟨[(b6, [.slice A j k]), (b3, [.int .i64 (most : Int)])], [⟨58, 6, .slice A j k, j, fndV pre⟩], []⟩ := by rw [hj]; rfl
    rw [hwa] at HF
    have yR := HF.out.boxi 0 rfl
    simp only [Rc.cells, slv] at yR
    have r0 := yR.cell 0 (by simp)
    have r1 := yR.cell 1 (by simp)
    have r2 := yR.cell 2 (by simp)
    have r3 := yR.cell 3 (by simp)
    have r4 := yR.cell 4 (by simp)
    simp only [List.getElem_cons_zero, List.getElem_cons_succ] at r0 r1 r2 r3 r4
    have y6 := HF.out.boxi 1 rfl
    have c6 := y6.cell 0 (by simp)
    have f6 := y6.frozen 0
    have l6 := y6.lt
    have c3 := (HF.out.boxi 2 rfl).cell 0 (by simp)
    simp only [List.getElem_cons_zero] at c6 c3
    have HD := Lib.hid (HF.out.alloc (.cells #[.int .i64 xp.o, .int .i64 r.m, .int .i64 r.n, .int .i64 r.p, .slice s1 s2 s3, .slice t1 t2 t3] 58))
    have hnw := news_new W1 #[.int .i64 xp.o, .int .i64 r.m, .int .i64 r.n, .int .i64 r.p, .slice s1 s2 s3, .slice t1 t2 t3] 58 (by simp [maxLen])
    have HNW := Lib.hid hnw
    have HON := Lib.hid (fnd_one_one y)
    have HBS := Lib.hid HD.out.only.size
    rw [HYO.out] at HON
    clear hnw hyo hy0 hj hwa yR y6 hat hfs hpx hpl hml
    refine wpIn_block ?_
    gi_wp2_with (first
      | (gi_at_builtin; refine wpListIn_append_own_at _ rfl (.tmp 20) (.tmp 24) 42 rfl w0.heap.size 58 i0 _ 6 80 Tryz.underlying42 hi0 hz0 hz1 hz2 rfl (by decide) (.slice A j k) j (fndV pre) rfl (HD.out.gi 0 rfl) ⟨W1.heap.size, 0, none⟩ 1 1 [.int .i64 xp.o, .int .i64 r.m, .int .i64 r.n, .int .i64 r.p, .slice s1 s2 s3, .slice t1 t2 t3] rfl rfl HNW.out HON.out (by unfold maxLen; omega) (by omega) HBS.out ?_; intro v5 w5 hown hgrow _ hat2; rw [← HYO.out, ← fndV_snoc] at hown; have hdd := HD.out.gapp 0 rfl hown hgrow hat2; obtain ⟨A6, k6, rfl⟩ := hdd.gform 0 rfl; simp only [List.set_cons_zero, List.set_cons_succ] at hdd; have HD5 := Lib.hid hdd; have HGR := Lib.hid hgrow; clear hdd hown hgrow hat2 HNW HON HBS c6 f6 l6; have y6 := HD5.out.boxi 1 rfl; have c6 := y6.cell 0 (by simp); have f6 := y6.frozen 0; have l6 := y6.lt; simp only [List.getElem_cons_zero] at c6; clear y6)
      | fail)
    have hl2 : (pre ++ [y]).length = j + 1 := by simp [HJ.out]
    have hwa2 : WaC b3 b6 most A6 k6 (pre ++ [y]) = ⟨[(b6, [.slice A6 (j + 1) k6]), (b3, [.int .i64 (most : Int)])], [⟨58, 6, .slice A6 (j + 1) k6, j + 1, fndV (pre ++ [y])⟩], []⟩ := by unfold WaC; rw [hl2]
    have hw6 := (HD5.out.put 1 (p := b6) rfl 0 (.slice A6 (j + 1) k6)).ldrop
    rw [← HY0.out]
    refine ⟨kf_of_kb hw6.kb, WaC b3 b6 most A6 k6 (pre ++ [y]), ?_, ⟨A6, k6, rfl, hk.trans (hw6.kb.mono (Nat.le_trans hbw hsz))⟩⟩
    rw [hwa2]
    exact At3.unflip hw6.toWc
  case done =>
    rintro D xs φ c W1 hD ⟨fs, rfl, hfs, hxs⟩ ⟨A, k, rfl, hkb⟩ hat hK hsz
    have HF := Lib.hid (Wk.start hat.flip)
    obtain ⟨j, hj⟩ : ∃ j, j = xs.length := ⟨_, rfl⟩
    have HJ := Lib.hid hj
    have hwa : (WaC b3 b6 most A k xs) = ⟨[(b6, [.slice A j k]), (b3, [.int .i64 (most : Int)])], [⟨58, 6, .slice A j k, j, fndV xs⟩], []⟩ := by rw [hj]; rfl
    rw [hwa] at HF
    have c6 := (HF.out.boxi 0 rfl).cell 0 (by simp)
    simp only [List.getElem_cons_zero] at c6
    clear hj hwa hat
    go_wp2_with fail
    refine marks_ret1 (v := .slice A j k) (D := D) hK (by kernel_rfl) rfl ?_
    have hw := HF.out.toWc.putObj (.deferred none) hK rfl (Nat.le_trans HW2.out.only.size hD)
    simp only [List.append_nil] at hw
    have hw2 := hw.sub (L' := (S, SB pd.D gb p own (scanR d cf own p).2.1 (scanR d cf own p).2.2) :: L) (.cons _ (.cons _ (.cons_cons _ (.cons _ (List.Sublist.refl _))))) (fun f hf => hf)
    rw [HJ.out] at hw2 ⊢
    exact ⟨xs, A, k, fs, rfl, hxs, hfs, hw2, hkb.trans (kb_putObj _ _ (Nat.le_trans hbw hD))⟩
  case stop =>
    rintro D cd pre φ c W1 hD hfix hj
    exact hj.elim
end Go.Proofs.YtgcfdjcpcclcjaaGreat
namespace Go.Proofs.YtgcfdjcpcclcjaaGreat
open Go Go.RowKit Go.Kn Go.Shelf
attribute [local go_sem] Oper.semAt_some
set_option maxRecDepth 100000 in
set_option maxHeartbeats 4000000 in
theorem places1_nil (w0 W : World) (b1 : Nat) (L : List (Nat × List Value)) (G : List Gs) (F : List (World → Prop)) (n : Nat) (hn : 1 ≤ n) (hb1 : (b1, [.pointer none]) ∈ L) :
    SeqW Fence.wide n Tryz.prog 151 #[.pointer (some ⟨b1, 0, none⟩)] Fnd.enc (fun _ _ _ => False) (fun xs φ => xs = [] ∧ φ = ⟨L, G, F⟩) (fun _ _ => False) 65 w0 W ⟨L, G, F⟩ := by
  intro l J c0 hJc hY hJ0 hA
  have hA' : Wc w0 W (L ++ c0.L) (G ++ c0.G) (F ++ c0.F) := hA
  have c1 := (hA'.own _ (List.mem_append_left _ hb1)).cell 0 (by simp)
  simp only [List.getElem_cons_zero] at c1
  refine callsIn_of_wp Tryz.func151 rfl trivial ?_ rfl
  simp only [Tryz.ntmps151, List.size_toArray, List.length_cons, List.length_nil, Nat.reduceAdd, Nat.reduceSub, Array.replicate_succ, Array.replicate_zero, List.push_toArray, List.append_toArray, List.nil_append, List.cons_append]
  gi_wp2_with fail
  refine bodyPost_ret (results_none rfl _ _ _) rfl ⟨⟨_, rfl⟩, Nat.le_refl _, _, c0, hA, [], ⟨rfl, rfl⟩, hJ0⟩
set_option maxRecDepth 100000 in
set_option maxHeartbeats 4000000 in
theorem records1_nil (w0 W : World) (b1 : Nat) (L : List (Nat × List Value)) (G : List Gs) (F : List (World → Prop)) (n : Nat) (hn : 4 ≤ n) (hb1 : (b1, [.pointer none]) ∈ L) :
    SeqW Fence.wide n Tryz.prog 97 #[.pointer (some ⟨b1, 0, none⟩)] Fnd.enc2 (fun _ _ _ => False) (fun xs φ => xs = [] ∧ φ = ⟨L, G, F⟩) (fun _ _ => False) 65 w0 W ⟨L, G, F⟩ := by
  intro l J c0 hJc hY hJ0 hA
  have h1 : 1 ≤ n := by omega
  have hA' : Wc w0 W (L ++ c0.L) (G ++ c0.G) (F ++ c0.F) := hA
  have c1 := (hA'.own _ (List.mem_append_left _ hb1)).cell 0 (by simp)
  simp only [List.getElem_cons_zero] at c1
  have lb := (hA'.own _ (List.mem_append_left _ hb1)).lt
  have HA := Lib.hid hA'
  clear hA hA' hb1
  refine callsIn_of_wp_marks Tryz.func97 rfl trivial ?_ rfl
  simp only [Tryz.ntmps97, List.size_toArray, List.length_cons, List.length_nil, Nat.reduceAdd, Nat.reduceSub, Array.replicate_succ, Array.replicate_zero, List.push_toArray, List.append_toArray, List.nil_append, List.cons_append]
  gi_wp2_with fail
  refine ⟨trivial, callsIn_wide.2 ((places_any _ _).mono ?_)⟩
  rintro en w1 ⟨rfl, rfl⟩
  have hsb : (W.alloc (.cells #[.func (.yield l) #[] #[]] 170)).heap.size = W.heap.size + 1 := by simp
  have hw2 := (HA.out.newB #[.func (.yield l) #[] #[]] 170 (b := W.heap.size) rfl).newB #[.pointer none] 40 (b := W.heap.size + 1) hsb
  rw [hsb]
  have hJ2 : J none [] c0 ((W.alloc (.cells #[.func (.yield l) #[] #[]] 170)).alloc (.cells #[.pointer none] 40)) := hJc _ _ _ _ _ hJ0 (Kb.of_only (S := []) (((Only.refl _ _).alloc _).alloc _) (by simp))
  have HW2 := Lib.hid hw2
  have hsw : W.heap.size ≤ ((W.alloc (.cells #[.func (.yield l) #[] #[]] 170)).alloc (.cells #[.pointer none] 40)).heap.size := by simp; omega
  clear hw2 hsb c1 lb HA
  generalize hg2 : (W.alloc (.cells #[.func (.yield l) #[] #[]] 170)).alloc (.cells #[.pointer none] 40) = w2 at *
  obtain ⟨bx, hbx⟩ : ∃ k, k = W.heap.size := ⟨_, rfl⟩
  have hwx : W.heap.size ≤ bx := by omega
  rw [← hbx] at HW2 ⊢
  clear hg2 hbx
  gi_wp2_with fail
  refine wpIn_rangeFunc_W rfl h1 (gf := 151) (lb := #[.pointer (some ⟨bx + 1, 0, none⟩)]) rfl trivial (enters_of Tryz.func151 (by kernel_rfl) rfl)
    (φ0 := ⟨(bx + 1, [.pointer none]) :: L, G, F⟩) (c0 := ⟨ReB bx l :: c0.L, c0.G, c0.F⟩) (fun W1 _ => places1_nil w0 W1 (bx + 1) ((bx + 1, [.pointer none]) :: L) G F (n - 1) (by omega) List.mem_cons_self) (fun _ => rfl)
    (fun pe xs c W => pe = none ∧ xs = [] ∧ c = ⟨ReB bx l :: c0.L, c0.G, c0.F⟩ ∧ J none [] c0 W) (fun _ _ _ _ _ => False) ?hJ (fun _ _ _ _ _ _ h => h.elim) ⟨rfl, rfl, rfl, hJ2⟩ (HW2.out.perm ((List.perm_middle (l₁ := (bx + 1, [.pointer none]) :: L) (a := ReB bx l) (l₂ := c0.L)).trans (List.Perm.swap _ _ _)).symm (List.Perm.refl _)) ?assign ?body ?done ?stop
  case hJ =>
    rintro pe xs c X Y ⟨h1, h2, h3, h4⟩ hb
    exact ⟨h1, h2, h3, hJc _ _ _ _ _ h4 (hb.mono hsw)⟩
  case assign =>
    intro lr pre x φ c W1 K hpre
    exact hpre.elim
  case body =>
    intro lr pre x φ c a' W1 hpre
    exact hpre.elim
  case done =>
    rintro D xs φ c W1 hD ⟨rfl, rfl⟩ ⟨-, -, rfl, hj⟩ hat hK hsz
    gi_wp2
    have hat' : Wc w0 W1 ((bx + 1, [.pointer none]) :: (L ++ ReB bx l :: c0.L)) (G ++ c0.G) (F ++ c0.F) := hat
    have hw := hat'.putObj (.deferred none) hK rfl (Nat.le_trans HW2.out.only.size hD)
    have hkb : Kb W.heap.size W1 (W1.putObj D (.deferred none)) := kb_putObj _ _ (Nat.le_trans hsw hD)
    refine ⟨by simp, .inl ⟨D, _, rfl, run_takeDeferred hK, _, results_none rfl _ _ _, ⟨_, rfl⟩, by simp; omega, ⟨L, G, F⟩, c0, hw.sub (L' := L ++ c0.L) (.cons _ ((List.Sublist.refl _).append (.cons _ (List.Sublist.refl _)))) (fun f hf => hf), .inl ⟨[], ⟨rfl, rfl⟩, hJc _ _ _ _ _ hj hkb⟩⟩⟩
  case stop =>
    rintro D cd pre φ c W1 hD hfix
    exact hfix.elim
set_option maxRecDepth 100000 in
set_option maxHeartbeats 4000000 in
theorem walk13_nil {wb : World} (w0 w : World) (L : List (Nat × List Value)) (G : List Gs) (F : List (World → Prop)) (most : Nat)
    (hw : Wk w0 wb w L G F) (hmm : most ≤ 1000) :
    Calls Tryz.prog 19 #[.pointer none, .int .i64 (most : Int)] w fun e w' => e = .returned (.slice none 0 0) ∧ Wk w0 wb w' L G F := by
  have HA := Lib.hid hw
  clear hw
  have hfn := fun (w : World) (x y : Array Value) => run_eql_func_nil (P := Tryz.prog) w 68 Tryz.underlying68 (.func 97) x y
  refine (callsIn_wide (n := 6)).1 (callsIn_of_wp_marks Tryz.func19 rfl trivial ?_ rfl)
  simp only [Tryz.ntmps19, List.size_toArray, List.length_cons, List.length_nil, Nat.reduceAdd, Nat.reduceSub, Array.replicate_succ, Array.replicate_zero, List.push_toArray, List.append_toArray, List.nil_append, List.cons_append]
  refine wpIn_wide.2 ?_
  go_wp2_with fail
  refine (records_any _ _).mono ?_
  rintro en w1 ⟨rfl, rfl⟩
  go_wp2_with fail
  obtain ⟨b3, h3⟩ : ∃ k, k = w.heap.size := ⟨_, rfl⟩
  have hs1 : (w.alloc (.cells #[.int .i64 (most : Int)] 3)).heap.size = w.heap.size + 1 := by simp
  have hs2 : ((w.alloc (.cells #[.int .i64 (most : Int)] 3)).alloc (.cells #[.pointer none] 40)).heap.size = w.heap.size + 1 + 1 := by simp
  have hw2 := ((HA.out.newB #[.int .i64 (most : Int)] 3 rfl).newB #[.pointer none] 40 hs1).newB #[.slice none 0 0] 42 hs2
  generalize hz : ((w.alloc (.cells #[.int .i64 (most : Int)] 3)).alloc (.cells #[.pointer none] 40)).alloc (.cells #[.slice none 0 0] 42) = w2 at *
  rw [← h3] at hw2 ⊢
  have HW2 := Lib.hid hw2
  obtain ⟨bS, hbS⟩ : ∃ k, k = b3 + 1 := ⟨_, rfl⟩
  rw [← hbS] at HW2 ⊢
  obtain ⟨b6, hb6⟩ : ∃ k, k = bS + 1 := ⟨_, rfl⟩
  rw [← hb6] at HW2 ⊢
  have hbw : wb.heap.size ≤ w2.heap.size := HW2.out.hs
  clear hw2 hz h3 hbS hb6 hs1 hs2 HA
  refine (wpIn_wide (n := 6)).1 ?_
  refine wpIn_rangeFunc_W (F := Fence.wide) (n := 6) rfl (by decide) (gf := 97) (lb := #[.pointer (some ⟨bS, 0, none⟩)]) rfl trivial (enters_of Tryz.func97 (by kernel_rfl) rfl)
    (φ0 := ⟨(bS, [.pointer none]) :: L, G, F⟩) (c0 := ⟨[(b6, [.slice none 0 0])], [], []⟩) (fun W1 _ => records1_nil w0 W1 bS ((bS, [.pointer none]) :: L) G F (6 - 1) (by decide) List.mem_cons_self) (fun _ => rfl)
    (fun pe xs c W => pe = none ∧ c = ⟨[(b6, [.slice none 0 0])], [], []⟩ ∧ Kb wb.heap.size wb W) (fun _ _ _ _ _ => False) ?hJ (fun _ _ _ _ _ _ h => h.elim) ⟨rfl, rfl, HW2.out.kb⟩ ?h0 ?assign ?body ?done ?stop
  case h0 =>
    show Wc w0 w2 ((bS, [.pointer none]) :: (L ++ [(b6, [.slice none 0 0])])) (G ++ []) (F ++ [])
    rw [List.append_nil, List.append_nil]
    exact ((HW2.out.sub (L' := (b6, [.slice none 0 0]) :: (bS, [.pointer none]) :: L) (.cons_cons _ (.cons_cons _ (.cons _ (List.Sublist.refl _)))) (fun f hf => hf)).perm ((List.Perm.swap _ _ _).trans ((List.perm_append_comm (l₁ := [(b6, [.slice none 0 0])]) (l₂ := L)).cons _)) (List.Perm.refl _)).toWc
  case hJ =>
    rintro pe xs c X Y ⟨h1, h2, h3⟩ hb
    exact ⟨h1, h2, h3.trans (hb.mono hbw)⟩
  case assign =>
    intro lr pre x φ c W1 K hpre
    exact hpre.elim
  case body =>
    intro lr pre x φ c a' W1 hpre
    exact hpre.elim
  case stop =>
    rintro D cd pre φ c W1 hD hfix
    exact hfix.elim
  case done =>
    rintro D xs φ c W1 hD ⟨rfl, rfl⟩ ⟨-, rfl, hkb⟩ hat hK hsz
    have HF := Lib.hid (Wk.start hat.flip)
    have c6 := (HF.out.boxi 0 rfl).cell 0 (by simp)
    simp only [List.getElem_cons_zero] at c6
    clear hat
    go_wp2_with fail
    refine marks_ret1 (v := .slice none 0 0) (D := D) hK (by kernel_rfl) rfl ?_
    have hw := HF.out.toWc.putObj (.deferred none) hK rfl (Nat.le_trans HW2.out.only.size hD)
    simp only [List.append_nil, List.nil_append] at hw
    exact ⟨rfl, hw.sub (L' := L) (.cons _ (.cons _ (List.Sublist.refl _))) (fun f hf => hf), hkb.trans (kb_putObj _ _ (Nat.le_trans hbw hD))⟩
end Go.Proofs.YtgcfdjcpcclcjaaGreat
namespace Go.Kn
open Go Go.RowKit
/-- two boxes and a row that is read -/
structure Dr2 (w0 w : World) (p g k f fr : Nat) (bs : List UInt8) (vs us : List Value) : Prop where
  d : Decs w0 w p g k f bs vs
  r : Kn.Own w fr us
  rp : fr ≠ p
  rf : fr ≠ f
  hr : w0.heap.size ≤ fr
section
variable {w0 w w' : World} {p g k k' f fr : Nat} {bs : List UInt8} {vs us : List Value}
theorem Dr2.keep (h : Dr2 w0 w p g k f fr bs vs us) (hO : Only [] w w') : Dr2 w0 w' p g k f fr bs vs us := ⟨h.d.keep hO, h.r.keep0 hO, h.rp, h.rf, h.hr⟩
theorem Dr2.got (h : Dr2 w0 w p g k f fr bs vs us) (hr : RowAt w' p g bs k') (hO : Only [p] w w') : Dr2 w0 w' p g k' f fr bs vs us := ⟨h.d.got hr hO, h.r.keep hO (by simpa using h.rp), h.rp, h.rf, h.hr⟩
theorem Dr2.place (h : Dr2 w0 w p g k f fr bs vs us) (hk : k' ≤ bs.length) : Dr2 w0 (w.setCell ⟨p, 1, none⟩ (.int .i64 (k' : Int))) p g k' f fr bs vs us := ⟨h.d.place hk, h.r.far (Ne.symm h.rp) _, h.rp, h.rf, h.hr⟩
theorem Dr2.put (h : Dr2 w0 w p g k f fr bs vs us) (i : Nat) (u : Value) : Dr2 w0 (w.setCell ⟨f, i, none⟩ u) p g k f fr bs (vs.set i u) us := ⟨h.d.put i u, h.r.far (Ne.symm h.rf) _, h.rp, h.rf, h.hr⟩
end
end Go.Kn
namespace Go.Proofs.YtgcfdjcpcclcjaaGreat
open Go Go.RowKit Go.Kn
def FolSays (w : World) (q : Ps) (x : Option (Rc × Ps) × Int) (en : Ending) (w' : World) : Prop := Only [] w w' ∧
  match x with
  | (none, er) => en = .returned (.tuple #[.agg #[.int .i64 0, .int .i64 0, .int .i64 0, .slice none 0 0, .slice none 0 0], .agg #[.int .i64 q.s, .int .i64 q.o, .int .i64 q.l, .int .i64 q.p, .int .i64 q.m], .bool false, .int .i64 er])
  | (some (r, nx), _) => ∃ s t, en = .returned (.tuple #[.agg (r.cells s t), .agg #[.int .i64 nx.s, .int .i64 nx.o, .int .i64 nx.l, .int .i64 nx.p, .int .i64 nx.m], .bool true, .int .i64 0]) ∧ Fc w' (fun k => k < w.heap.size) (fun W => RcAt W r s t)
theorem FolSays.no {w w' : World} {q : Ps} {x : Option (Rc × Ps) × Int} {er : Int} (hx : x = (none, er)) (hw : Only [] w w') : FolSays w q x (.returned (.tuple #[.agg #[.int .i64 0, .int .i64 0, .int .i64 0, .slice none 0 0, .slice none 0 0], .agg #[.int .i64 q.s, .int .i64 q.o, .int .i64 q.l, .int .i64 q.p, .int .i64 q.m], .bool false, .int .i64 er])) w' := by
  subst hx
  exact ⟨hw, rfl⟩
end Go.Proofs.YtgcfdjcpcclcjaaGreat
namespace Go.Proofs.YtgcfdjcpcclcjaaGreat
open Go Go.RowKit Go.Kn
theorem _root_.Go.Proofs.YtgcfdjcpcclcjaaGreat.Rsk.fr {w0 w : World} {r : RD} {d : Dk} {c : Fr3} (h : Rsk w0 w r d c) : ∃ L0 G0 F0, Wc w0 w (c.L ++ L0) (c.G ++ G0) (c.F ++ F0) ∧ ∀ w' (c' : Fr3), Wc w0 w' (c'.L ++ L0) (c'.G ++ G0) (c'.F ++ F0) → Rsk w0 w' r d c' := by
  obtain ⟨v, lv, k, ls, sl, hs, hl, hm⟩ := h.mem
  have pl : ∀ L, (r.L v lv sl d L).Perm (L ++ r.L v lv sl d []) := fun L => by
    have := List.perm_append_comm (l₁ := r.L v lv sl d []) (l₂ := L)
    simpa [RD.L] using this
  have pg : ∀ (a b : Gs) G, (a :: b :: G).Perm (G ++ [a, b]) := fun a b G => by
    have := List.perm_append_comm (l₁ := [a, b]) (l₂ := G)
    simpa using this
  refine ⟨r.L v lv sl d [], [⟨175, 2, v, d.held.length, heldR d.held hs⟩, ⟨47, 1, lv, k, ls⟩], [(fun W => Bls W sl d.safe), (fun W => Bls W hs (d.held.map (·.2)))], ?_, fun w' c' h' => ?_⟩
  · refine (hm.perm (pl _) (pg _ _ _)).subF ?_
    intro f hf
    rcases List.mem_append.1 hf with hf | hf
    · exact List.mem_cons_of_mem _ (List.mem_cons_of_mem _ hf)
    · simp only [List.mem_cons, List.not_mem_nil, or_false] at hf ⊢
      rcases hf with hf | hf
      · exact .inl hf
      · exact .inr (.inl hf)
  · refine ⟨h.ok, h.N, h.hs, h.hf, v, lv, k, ls, sl, hs, hl, (h'.perm (pl _).symm (pg _ _ _).symm).subF ?_⟩
    intro f hf
    simp only [List.mem_cons] at hf
    rcases hf with hf | hf | hf
    · exact List.mem_append.2 (.inr (by simp [hf]))
    · exact List.mem_append.2 (.inr (by simp [hf]))
    · exact List.mem_append.2 (.inl hf)
def rfnd (x : Fnd) : List Value := [.int .i64 x.p.s, .int .i64 x.p.o, .int .i64 x.p.l, .int .i64 x.p.p, .int .i64 x.p.m] ++ (x.r.cells x.s x.t).toList
def rfndV (xs : List Fnd) : List Value := xs.flatMap rfnd
end Go.Proofs.YtgcfdjcpcclcjaaGreat
namespace Go.Kn
open Go Go.RowKit
theorem GeoAt.keep {S : List Nat} {w w' : World} {p : Nat} {b s l : Int} (h : GeoAt w p b s l) (hO : Only S w w') (hp : p ∉ S) : GeoAt w' p b s l := ⟨hO.cell h.c0 hp, hO.cell h.c1 hp, hO.cell h.c2 hp⟩
end Go.Kn
namespace Go.Proofs.YtgcfdjcpcclcjaaGreat
open Go Go.RowKit Go.Kn
set_option maxRecDepth 100000 in
set_option maxHeartbeats 4000000 in
theorem geom_new_any (b s l : Int) (w : World) (hb : CfOk b s l) :
    Calls Tryz.prog 75 #[.agg #[.int .i64 b, .int .i64 s, .int .i64 l]] w fun e w' => ∃ p, e = .returned (.tuple #[.pointer (some ⟨p, 0, none⟩), .int .i64 0]) ∧ w.heap.size ≤ p ∧ GeoAt w' p b s l ∧ Only [] w w' := by
  obtain ⟨h1, h2, h3⟩ := hb
  have H1 : Hid (decide (1 ≤ b ∧ b ≤ 64) = true) := Lib.hid (decide_eq_true h1)
  have H2 : Hid (decide (8 ≤ s ∧ s ≤ 32) = true) := Lib.hid (decide_eq_true h2)
  have H3 : Hid (decide (24 ≤ l ∧ l ≤ 64) = true) := Lib.hid (decide_eq_true h3)
  clear h1 h2 h3
  go_enter Tryz.func75, Tryz.ntmps75
  go_wp2_with (go_at_call 140; refine (geom_within_any _ _ _ _).mono ?_; rintro e w' ⟨rfl, rfl⟩; first | rw [H1.out] | rw [H2.out] | rw [H3.out])
  go_ret2
  have hs : (w.alloc (.cells #[.int .i64 b, .int .i64 s, .int .i64 l] 25)).heap.size = w.heap.size + 1 := by simp
  have hO := Own.new (w.alloc (.cells #[.int .i64 b, .int .i64 s, .int .i64 l] 25)) #[.int .i64 b, .int .i64 s, .int .i64 l] 149
  rw [hs] at hO
  exact ⟨w.heap.size + 1, rfl, by omega, ⟨hO.cell 0 (by simp), hO.cell 1 (by simp), hO.cell 2 (by simp)⟩, ((Only.refl _ _).alloc _).alloc _⟩
end Go.Proofs.YtgcfdjcpcclcjaaGreat
namespace Go.Kn
open Go Go.RowKit
theorem flatMap_get {α β : Type} (f : α → List β) (m : Nat) (hf : ∀ x, (f x).length = m) : ∀ (xs : List α) (i k : Nat) (hi : i < xs.length), k < m → (xs.flatMap f)[i * m + k]? = (f xs[i])[k]?
  | [], i, k, hi, _ => by simp at hi
  | x :: xs, 0, k, hi, hk => by
    rw [List.flatMap_cons, List.getElem?_append_left (by rw [hf]; omega)]
    simp
  | x :: xs, i + 1, k, hi, hk => by
    rw [List.flatMap_cons, List.getElem?_append_right (by rw [hf, Nat.add_mul]; omega), hf, show (i + 1) * m + k - m = i * m + k from by rw [Nat.add_mul]; omega]
    rw [flatMap_get f m hf xs i k (by simpa using hi) hk]
    simp
/-- a slice of what walk told -/
structure FdP (w : World) (A : Option Addr) (n c : Nat) (xs : List Fnd) : Prop where
  len : xs.length = n
  le : n ≤ c
  cm : c ≤ maxLen
  at_ : 0 < n → ∃ g o, A = some ⟨g, o, none⟩ ∧ ∀ i (h : i < xs.length), w.cell? ⟨g, o + i * 6, none⟩ = some (.int .i64 xs[i].p.o) ∧ w.cell? ⟨g, o + i * 6 + 1, none⟩ = some (.int .i64 xs[i].r.m) ∧ w.cell? ⟨g, o + i * 6 + 2, none⟩ = some (.int .i64 xs[i].r.n) ∧ w.cell? ⟨g, o + i * 6 + 3, none⟩ = some (.int .i64 xs[i].r.p) ∧ w.cell? ⟨g, o + i * 6 + 4, none⟩ = some (slv xs[i].s) ∧ w.cell? ⟨g, o + i * 6 + 5, none⟩ = some (slv xs[i].t)
  rc : ∀ y ∈ xs, y.fct w
structure FdR (w : World) (A : Option Addr) (n c : Nat) (xs : List Fnd) : Prop where
  len : xs.length = n
  le : n ≤ c
  cm : c ≤ maxLen
  at_ : 0 < n → ∃ g o, A = some ⟨g, o, none⟩ ∧ ∀ i (h : i < xs.length), w.cell? ⟨g, o + i * 10 + 0, none⟩ = some (.int .i64 xs[i].p.s) ∧ w.cell? ⟨g, o + i * 10 + 1, none⟩ = some (.int .i64 xs[i].p.o) ∧ w.cell? ⟨g, o + i * 10 + 5, none⟩ = some (.int .i64 xs[i].r.m) ∧ w.cell? ⟨g, o + i * 10 + 6, none⟩ = some (.int .i64 xs[i].r.n) ∧ w.cell? ⟨g, o + i * 10 + 7, none⟩ = some (.int .i64 xs[i].r.p) ∧ w.cell? ⟨g, o + i * 10 + 8, none⟩ = some (slv xs[i].s) ∧ w.cell? ⟨g, o + i * 10 + 9, none⟩ = some (slv xs[i].t)
  rc : ∀ y ∈ xs, y.fct w
theorem cells_owns {w : World} {b e sz n : Nat} {A : Option Addr} {c : Nat} {xs : List Value} (h : w.ownsRow b e sz (.slice A n c) n xs) : n ≤ c ∧ c ≤ maxLen ∧ (0 < n → ∃ g, A = some ⟨g, 0, none⟩ ∧ ∀ j u, xs[j]? = some u → w.cell? ⟨g, j, none⟩ = some u) := by
  obtain ⟨h1, h2⟩ := h
  rcases h2 with ⟨h2, h3⟩ | ⟨g, cap, cur, hv, _, hg, h5, h6, h7, h8⟩
  · injection h2 with _ e2 e3
    exact ⟨by omega, by omega, fun hn => by omega⟩
  · injection hv with e1 e2 e3
    subst e1 e3
    refine ⟨h5, h6, fun hn => ⟨g, rfl, fun j u hj => ?_⟩⟩
    rw [← h8, List.getElem?_take] at hj
    split at hj
    · unfold World.cell?
      simp only [hg]
      simpa using hj
    · cases hj
end Go.Kn
namespace Go.Proofs.YtgcfdjcpcclcjaaGreat
open Go Go.RowKit Go.Kn
theorem FdP.of_owns {w : World} {b e : Nat} {A : Option Addr} {c : Nat} {xs : List Fnd} (h : w.ownsRow b e 6 (.slice A xs.length c) xs.length (fndV xs)) (hr : ∀ y ∈ xs, y.fct w) : FdP w A xs.length c xs := by
  obtain ⟨h1, h2, h3⟩ := cells_owns h
  refine ⟨rfl, h1, h2, fun hn => ?_, hr⟩
  obtain ⟨g, rfl, hc⟩ := h3 hn
  refine ⟨g, 0, rfl, fun i hi => ?_⟩
  have hk : ∀ k, k < 6 → (fndV xs)[i * 6 + k]? = (Kn.Fnd.one xs[i])[k]? := fun k hk => flatMap_get Kn.Fnd.one 6 (fun x => rfl) xs i k hi hk
  simp only [Nat.zero_add]
  exact ⟨hc _ _ ((hk 0 (by decide)).trans rfl), hc _ _ ((hk 1 (by decide)).trans rfl), hc _ _ ((hk 2 (by decide)).trans rfl), hc _ _ ((hk 3 (by decide)).trans rfl), hc _ _ ((hk 4 (by decide)).trans rfl), hc _ _ ((hk 5 (by decide)).trans rfl)⟩
theorem FdR.of_owns {w : World} {b e : Nat} {A : Option Addr} {c : Nat} {xs : List Fnd} (h : w.ownsRow b e 10 (.slice A xs.length c) xs.length (rfndV xs)) (hr : ∀ y ∈ xs, y.fct w) : FdR w A xs.length c xs := by
  obtain ⟨h1, h2, h3⟩ := cells_owns h
  refine ⟨rfl, h1, h2, fun hn => ?_, hr⟩
  obtain ⟨g, rfl, hc⟩ := h3 hn
  refine ⟨g, 0, rfl, fun i hi => ?_⟩
  have hk : ∀ k, k < 10 → (rfndV xs)[i * 10 + k]? = (rfnd xs[i])[k]? := fun k hk => flatMap_get rfnd 10 (fun x => rfl) xs i k hi hk
  simp only [Nat.zero_add]
  exact ⟨hc _ _ ((hk 0 (by decide)).trans rfl), hc _ _ ((hk 1 (by decide)).trans rfl), hc _ _ ((hk 5 (by decide)).trans rfl), hc _ _ ((hk 6 (by decide)).trans rfl), hc _ _ ((hk 7 (by decide)).trans rfl), hc _ _ ((hk 8 (by decide)).trans rfl), hc _ _ ((hk 9 (by decide)).trans rfl)⟩
end Go.Proofs.YtgcfdjcpcclcjaaGreat
namespace Go.Kn
open Go Go.RowKit
/-- sectors with rows of 64 bytes laid over them from one on -/
def setSecs (s : List (List UInt8)) (a : Nat) (b : List UInt8) : Nat → List (List UInt8)
  | 0 => s
  | i + 1 => (setSecs s a b i).set (a + i) ((b.drop (64 * i)).take 64)
@[simp] theorem setSecs_length (s : List (List UInt8)) (a : Nat) (b : List UInt8) : ∀ n, (setSecs s a b n).length = s.length
  | 0 => rfl
  | n + 1 => by rw [setSecs, List.length_set, setSecs_length s a b n]
theorem setSecs_other (s : List (List UInt8)) (a : Nat) (b : List UInt8) (k : Nat) : ∀ n, k < a ∨ a + n ≤ k → (setSecs s a b n)[k]? = s[k]?
  | 0, _ => rfl
  | n + 1, h => by rw [setSecs, List.getElem?_set_ne (by omega), setSecs_other s a b k n (by omega)]
theorem setSecs_at (s : List (List UInt8)) (a : Nat) (b : List UInt8) (i : Nat) : ∀ n, i < n → a + i < s.length → (setSecs s a b n)[a + i]? = some ((b.drop (64 * i)).take 64)
  | 0, h, _ => absurd h (by omega)
  | n + 1, h, hl => by
    rw [setSecs]
    by_cases e : i = n
    · subst e
      rw [List.getElem?_set_self (by rw [setSecs_length]; exact hl)]
    · rw [List.getElem?_set_ne (by omega), setSecs_at s a b i n (by omega) hl]
/-- a disk with power and no faults -/
structure Rdy (d : Dk) : Prop where
  ok : d.Ok
  live : d.Live
  bad : ∀ x, d.bad x = false
section
variable {d d' : Dk} {a : Int} {b : List UInt8} {n : Nat}
theorem Rdy.new {n : Nat} (h1 : 1 ≤ n) (h2 : n ≤ 4096) : Rdy (Dk.new n) := ⟨Dk.new_ok h1 h2, ⟨rfl, rfl⟩, fun x => by
  unfold Dk.bad Dk.new
  simp only
  rw [List.getD_eq_getElem?_getD, List.getElem?_replicate]
  split <;> rfl⟩
theorem Rdy.err (h : Rdy d) (x : Int) : d.err x = if d.has x = true then 0 else 1 := by
  unfold Dk.err
  rw [h.live.off, h.bad x]
  rfl
theorem Rdy.err0 (h : Rdy d) {x : Int} (hx : d.has x = true) : d.err x = 0 := by rw [h.err, if_pos hx]
theorem has_of {x : Int} (h0 : 0 ≤ x) (h1 : x < d.safe.length) : d.has x = true := by
  unfold Dk.has
  exact decide_eq_true ⟨h0, h1⟩
theorem Dk.write_go (hl : d.Live) (hh : d.has a = true) (hb : b.length = 64) : d.write a b = (d.wrote a b, 0) := by
  unfold Dk.write
  rw [hh, hb, hl.gone]
  rfl
theorem Rdy.write (h : Rdy d) (hh : d.has a = true) (hb : b.length = 64) : Rdy (d.write a b).1 ∧ (d.write a b).1.now = d.now.set a.toNat b ∧ (d.write a b).1.safe.length = d.safe.length := by
  have e := Dk.write_go h.live hh hb
  have hl := h.live.write a b
  rw [e] at hl ⊢
  exact ⟨⟨h.ok.wrote hh hb, hl, h.bad⟩, Dk.now_wrote d a b, rfl⟩
theorem Rdy.wrs (h : Rdy d) (ha : 0 ≤ a) (hb : 64 * n ≤ b.length) (hr : a + n ≤ d.safe.length) : ∀ i, i ≤ n → Rdy (d.wrs a b i) ∧ (d.wrs a b i).now = setSecs d.now a.toNat b i ∧ (d.wrs a b i).safe.length = d.safe.length
  | 0, _ => ⟨h, rfl, rfl⟩
  | i + 1, hi => by
    obtain ⟨h1, h2, h3⟩ := Rdy.wrs h ha hb hr i (by omega)
    have hw := h1.write (a := a + (i : Nat)) (b := (b.drop (64 * i)).take 64) (has_of (by omega) (by rw [h3]; omega)) (by rw [List.length_take, List.length_drop]; omega)
    refine ⟨hw.1, ?_, hw.2.2.trans h3⟩
    show ((d.wrs a b i).write (a + (i : Nat)) ((b.drop (64 * i)).take 64)).1.now = _
    rw [hw.2.1, h2, setSecs, show (a + (i : Nat)).toNat = a.toNat + i from by omega]
/-- what is put is on the disk -/
theorem Rdy.puts (h : Rdy d) (ha : 0 ≤ a) (hb : b.length = 64 * n) (hr : a + n ≤ d.safe.length) : Rdy (d.puts a b) ∧ (d.puts a b).now = setSecs d.now a.toNat b n ∧ (d.puts a b).safe.length = d.safe.length := by
  have hn : b.length / 64 = n := by omega
  obtain ⟨h1, h2, h3⟩ := h.wrs (b := b) ha (by omega) hr n (Nat.le_refl _)
  have hp : d.puts a b = (d.wrs a b n).flushed := by
    unfold Dk.puts
    rw [hn, h1.live.flush.1]
  have hnow : (d.wrs a b n).flushed.now = (d.wrs a b n).now := rfl
  have hsl : (d.wrs a b n).flushed.safe.length = (d.wrs a b n).safe.length := by show (d.wrs a b n).now.length = _; rw [Dk.now_length]
  rw [hp]
  exact ⟨⟨h1.ok.flushed, h1.live.flush.2.1, h1.bad⟩, hnow.trans h2, hsl.trans h3⟩
/-- some sectors are on both disks as they are -/
def Agr (d d' : Dk) (lo hi : Int) : Prop := ∀ x, lo ≤ x → x < hi → d'.err x = d.err x ∧ d'.read x = d.read x
theorem Agr.sub {lo hi lo' hi' : Int} (h : Agr d d' lo hi) (h1 : lo ≤ lo') (h2 : hi' ≤ hi) : Agr d d' lo' hi' := fun x hx hy => h x (by omega) (by omega)
theorem Agr.trans {d'' : Dk} {lo hi : Int} (h : Agr d d' lo hi) (k : Agr d' d'' lo hi) : Agr d d'' lo hi := fun x hx hy => ⟨(k x hx hy).1.trans (h x hx hy).1, (k x hx hy).2.trans (h x hx hy).2⟩
theorem read_now (h : Rdy d) (h' : Rdy d') (hs : d'.safe.length = d.safe.length) {x : Int} (hx : d'.now[x.toNat]? = d.now[x.toNat]?) : d'.err x = d.err x ∧ d'.read x = d.read x := by
  have hh : d'.has x = d.has x := by unfold Dk.has; rw [hs]
  have he : d'.err x = d.err x := by rw [h'.err, h.err, hh]
  refine ⟨he, ?_⟩
  unfold Dk.read
  rw [he]
  have : d'.sector x = d.sector x := by
    unfold Dk.sector
    rw [List.getD_eq_getElem?_getD, List.getD_eq_getElem?_getD, hx]
  rw [this]
theorem Rdy.puts_agr (h : Rdy d) (ha : 0 ≤ a) (hb : b.length = 64 * n) (hr : a + n ≤ d.safe.length) {lo hi : Int} (hlo : 0 ≤ lo) (hx : hi ≤ a ∨ a + n ≤ lo) : Agr d (d.puts a b) lo hi := by
  obtain ⟨h1, h2, h3⟩ := h.puts ha hb hr
  intro x hx1 hx2
  refine read_now h h1 h3 ?_
  rw [h2]
  exact setSecs_other _ _ _ _ _ (by omega)
theorem Rdy.write_agr (h : Rdy d) (hh : d.has a = true) (hb : b.length = 64) {lo hi : Int} (hlo : 0 ≤ lo) (hx : hi ≤ a ∨ a + 1 ≤ lo) : Agr d (d.write a b).1 lo hi := by
  obtain ⟨h1, h2, h3⟩ := h.write hh hb
  unfold Dk.has at hh
  simp only [decide_eq_true_eq] at hh
  intro x hx1 hx2
  refine read_now h h1 h3 ?_
  rw [h2, List.getElem?_set_ne (by omega)]
theorem Rdy.read_sec (h : Rdy d) {x : Int} (hx : d.has x = true) {s : List UInt8} (hs : d.now[x.toNat]? = some s) : d.read x = s := by
  unfold Dk.read
  rw [if_pos (h.err0 hx)]
  unfold Dk.sector
  rw [List.getD_eq_getElem?_getD, hs, Option.getD_some]
theorem rdy_gerr (h : Rdy d) (ha : 0 ≤ a) : ∀ n : Nat, a + n ≤ d.safe.length → gerr d a n = 0
  | 0, _ => rfl
  | n + 1, hr => by
    have h1 := rdy_gerr h ha n (by omega)
    rw [gerr_succ, if_pos h1]
    exact h.err0 (has_of (by omega) (by omega))
theorem chunks (b : List UInt8) : ∀ n : Nat, 64 * n ≤ b.length → (List.range n).flatMap (fun i => (b.drop (64 * i)).take 64) = b.take (64 * n)
  | 0, _ => by simp
  | n + 1, h => by
    rw [List.range_succ, List.flatMap_append, chunks b n (by omega), List.flatMap_cons, List.flatMap_nil, List.append_nil, Nat.mul_succ, List.take_add]
theorem Rdy.puts_gat (h : Rdy d) (ha : 0 ≤ a) (hb : b.length = 64 * n) (hr : a + n ≤ d.safe.length) : gat (d.puts a b) a n = b ∧ gerr (d.puts a b) a n = 0 := by
  obtain ⟨h1, h2, h3⟩ := h.puts ha hb hr
  refine ⟨?_, rdy_gerr h1 ha n (by rw [h3]; exact hr)⟩
  have : ∀ m : Nat, m ≤ n → gat (d.puts a b) a m = (List.range m).flatMap (fun i => (b.drop (64 * i)).take 64) := by
    intro m
    induction m with
    | zero => intro _; rfl
    | succ m ih =>
      intro hm
      rw [gat_succ, ih (by omega), List.range_succ, List.flatMap_append, List.flatMap_cons, List.flatMap_nil, List.append_nil]
      congr 1
      refine h1.read_sec (has_of (by omega) (by rw [h3]; omega)) ?_
      rw [h2, show (a + (m : Nat)).toNat = a.toNat + m from by omega]
      exact setSecs_at _ _ _ _ _ (by omega) (by rw [Dk.now_length]; omega)
  replace this := this n (Nat.le_refl _)
  rw [this, chunks b n (by omega), List.take_of_length_le (by omega)]
theorem gat_agr {lo hi : Int} (h : Agr d d' lo hi) (hlo : lo ≤ a) : ∀ n : Nat, a + n ≤ hi → gat d' a n = gat d a n ∧ gerr d' a n = gerr d a n
  | 0, _ => ⟨rfl, rfl⟩
  | n + 1, hr => by
    obtain ⟨h1, h2⟩ := gat_agr h hlo n (by omega)
    obtain ⟨h3, h4⟩ := h (a + (n : Nat)) (by omega) (by omega)
    exact ⟨by rw [gat_succ, gat_succ, h1, h4], by rw [gerr_succ, gerr_succ, h2, h3]⟩
/-- .. even if behind the record they are others -/
theorem follow_agr2 {c : Cf} {q q' : Ps} {r : Rc} {e : Int} {lo hi : Int} (h : Agr d d' lo hi) (hlo : lo ≤ c.at_ q.s + q.o) (hf : follow d c q = (some (r, q'), e)) (hhi : c.at_ q.s + q'.o ≤ hi) : follow d' c q = (some (r, q'), e) := by
  have hf0 := hf
  obtain ⟨_, hp, _, _⟩ := follow_place hf0
  have hn : q'.o = q.o + (sizeRc (d.read (c.at_ q.s + q.o)) : Nat) := by
    unfold follow at hf
    split at hf
    · split at hf
      · split at hf
        · cases hf
        · split at hf
          · split at hf
            · cases hf
            · split at hf
              · injection hf with h1 h2
                injection h1 with h1
                injection h1 with h1 h3
                rw [← h3]
              · cases hf
          · cases hf
      · cases hf
    · cases hf
  obtain ⟨h1, h2⟩ := h (c.at_ q.s + q.o) hlo (by omega)
  obtain ⟨h3, h4⟩ := gat_agr h hlo (sizeRc (d.read (c.at_ q.s + q.o))) (by omega)
  rw [← hf0]
  unfold follow
  rw [h1, h2, h3, h4]
end
theorem rcHd_take (b : List UInt8) : rcHd (b.take 64) = rcHd b ∧ rcK (b.take 64) = rcK b := by
  have h1 : (b.take 64).take 2 = b.take 2 := by rw [List.take_take]; rfl
  have h2 : ((b.take 64).drop 14).take 1 = (b.drop 14).take 1 := by rw [List.drop_take, List.take_take]; rfl
  have h3 : ((b.take 64).drop 15).take 1 = (b.drop 15).take 1 := by rw [List.drop_take, List.take_take]; rfl
  unfold rcHd rcN rcK
  rw [h1, h2, h3]
  exact ⟨rfl, rfl⟩
theorem sizeRc_laid {r : Rc} (h : rcMay r = true) : sizeRc ((rcBytes r).take 64) = 1 + r.bl.length := by
  obtain ⟨h1, h2⟩ := rcOf_bytes h
  have hl := rcBytes_length h
  obtain ⟨⟨hm, hn, hp, h3, h6⟩, hi, hb, hf⟩ := rcMay_iff.1 h
  have hk : r.bl.length ≤ 6 := by have := loads_le r.its; omega
  obtain ⟨t1, t2⟩ := rcHd_take (rcBytes r)
  unfold rcFit at h2
  simp only [Bool.and_eq_true, decide_eq_true_eq] at h2
  unfold sizeRc
  rw [t1, t2, if_pos ⟨by rw [List.length_take]; omega, h2.1⟩, rcK_bytes hk]
/-- the record that was laid at a place follows it -/
theorem follow_laid {d : Dk} {c : Cf} {q : Ps} {r : Rc} (hr : rcMay r = true) (hg : gat d (c.at_ q.s + q.o) (1 + r.bl.length) = rcBytes r) (hge : gerr d (c.at_ q.s + q.o) (1 + r.bl.length) = 0) (hd : d.Ok)
    (h1 : 1 ≤ q.o) (h2 : q.o + (1 + r.bl.length : Nat) ≤ c.l) (hn : r.n = q.l) (hp : r.p = q.p) (hm : q.m ≤ r.m) : follow d c q = (some (r, ⟨q.s, q.o + (1 + r.bl.length : Nat), q.l + 1, (rcSum r : Nat), r.m⟩), 0) := by
  have he0 : d.err (c.at_ q.s + q.o) = 0 := by rw [← gerr_one]; exact gerr_le hge (by omega)
  have hs1 : d.read (c.at_ q.s + q.o) = (rcBytes r).take 64 := by
    have h64 := Dk.read_64 hd he0
    have : gat d (c.at_ q.s + q.o) (1 + r.bl.length) = d.read (c.at_ q.s + q.o) ++ gat d (c.at_ q.s + q.o + 1) r.bl.length := by
      unfold gat
      rw [Nat.add_comm 1, List.range_succ_eq_map, List.flatMap_cons, List.flatMap_map]
      congr 1
      · simp
      · congr 1
        funext i
        congr 1
        simp only [Nat.succ_eq_add_one]
        omega
    rw [← hg, this, List.take_left' h64]
  have hsz : sizeRc (d.read (c.at_ q.s + q.o)) = 1 + r.bl.length := by rw [hs1]; exact sizeRc_laid hr
  rw [follow_rec ⟨h1, by omega⟩ rfl he0 hsz (by omega) hge (by rw [hg]; exact dec_rc hr), if_pos ⟨hn, hp, hm⟩]
theorem sizeRc_zero : sizeRc (List.replicate 64 0) = 0 := by
  have : rcHd (List.replicate 64 0) = false := by decide
  unfold sizeRc
  rw [this]
  simp
theorem follow_zero {d : Dk} {c : Cf} {q : Ps} (he : d.err (c.at_ q.s + q.o) = 0) (hz : d.read (c.at_ q.s + q.o) = List.replicate 64 0) : follow d c q = (none, 0) := by
  by_cases h : 1 ≤ q.o ∧ q.o ≤ c.l - 1
  · exact follow_size h rfl he (by rw [hz]; exact sizeRc_zero) (.inl rfl)
  · exact follow_out h
/-- records that follow one another from a place on, none of which tells another segment -/
inductive Laid (d : Dk) (c : Cf) : Ps → List (Ps × Rc) → Ps → Prop
  | nil (q : Ps) : Laid d c q [] q
  | cons {q q1 q' : Ps} {r : Rc} {l : List (Ps × Rc)} : follow d c q = (some (r, q1), 0) → nextOf r = none → Laid d c q1 l q' → Laid d c q ((q, r) :: l) q'
theorem Laid.snoc {d : Dk} {c : Cf} {q q1 q2 : Ps} {r : Rc} {l : List (Ps × Rc)} (h : Laid d c q l q1) (hf : follow d c q1 = (some (r, q2), 0)) (hn : nextOf r = none) : Laid d c q (l ++ [(q1, r)]) q2 := by
  induction h with
  | nil q => exact .cons hf hn (.nil _)
  | cons h1 h2 _ ih => exact .cons h1 h2 (ih hf)
theorem Laid.place {d : Dk} {c : Cf} {q q' : Ps} {l : List (Ps × Rc)} (h : Laid d c q l q') : q'.s = q.s ∧ q.o + l.length ≤ q'.o := by
  induction h with
  | nil q => simp
  | cons h1 h2 _ ih =>
    obtain ⟨e1, e2, _, _⟩ := follow_place h1
    rw [List.length_cons]
    exact ⟨ih.1.trans e1, by omega⟩
theorem Laid.scan {d : Dk} {c : Cf} {q q' : Ps} {l : List (Ps × Rc)} (h : Laid d c q l q') : ∀ k, scanG d c (k + l.length) q = (l ++ (scanG d c k q').1, (scanG d c k q').2) := by
  induction h with
  | nil q => intro k; rfl
  | cons h1 h2 _ ih =>
    intro k
    rw [List.length_cons, ← Nat.add_assoc, scanG_some h1, h2]
    simp only [Option.isSome_none, Bool.false_eq_true, if_false]
    rw [ih k]
    rfl
theorem Laid.agr {d d' : Dk} {c : Cf} {q q' : Ps} {l : List (Ps × Rc)} {lo hi : Int} (h : Laid d c q l q') (ha : Agr d d' lo hi) (hlo : lo ≤ c.at_ q.s + q.o) (hhi : c.at_ q.s + q'.o ≤ hi) : Laid d' c q l q' := by
  induction h with
  | nil q => exact .nil q
  | cons h1 h2 h3 ih =>
    obtain ⟨e1, e2, _, _⟩ := follow_place h1
    obtain ⟨e3, e4⟩ := h3.place
    refine .cons (follow_agr2 ha hlo h1 (by omega)) h2 (ih (by rw [e1]; omega) (by rw [e1]; omega))
/-- gone through to its end -/
theorem Laid.told {d : Dk} {c : Cf} {q q' : Ps} {l : List (Ps × Rc)} {e : Int} (h : Laid d c q l q') (hq : 1 ≤ q.o) (hq' : q'.o ≤ 64) (hf : follow d c q' = (none, e)) : scanG d c 65 q = (l, q', e) := by
  obtain ⟨_, h2⟩ := h.place
  obtain ⟨k, hk⟩ : ∃ k, 65 = k + 1 + l.length := ⟨64 - l.length, by omega⟩
  rw [hk, h.scan (k + 1), scanG_none hf, List.append_nil]
end Go.Kn
namespace Go.Kn
open Go Go.RowKit
theorem may_k (k b c v : Int) : (It.mk k b c v).may = true ↔ ((k = 1 ∨ k = 5) ∧ (0 ≤ b ∧ b ≤ 63) ∧ c = 0 ∧ v = 0) ∨ ((k = 2 ∨ k = 6) ∧ (0 ≤ b ∧ b ≤ 63) ∧ (1 ≤ c ∧ c ≤ 64 - b) ∧ v = 0) ∨ (k = 3 ∧ b = 0 ∧ c = 0 ∧ (1 ≤ v ∧ v ≤ 2147483647)) ∨ (k = 4 ∧ (0 ≤ b ∧ b ≤ 63) ∧ c = 0 ∧ (1 ≤ v ∧ v ≤ 4095)) ∨ (k = 7 ∧ b = 0 ∧ c = 0 ∧ (0 ≤ v ∧ v ≤ 31)) := by
  unfold It.may
  simp only
  split
  · simp only [Bool.and_eq_true, decide_eq_true_eq, beq_iff_eq]; omega
  · split
    · simp only [Bool.and_eq_true, decide_eq_true_eq, beq_iff_eq]; omega
    · split
      · simp only [Bool.and_eq_true, decide_eq_true_eq, beq_iff_eq]; omega
      · split
        · simp only [Bool.and_eq_true, decide_eq_true_eq, beq_iff_eq]; omega
        · split
          · simp only [Bool.and_eq_true, decide_eq_true_eq, beq_iff_eq]; omega
          · simp; omega
theorem loads_one (i : It) (h : i.may = true) : loads [i] = if i.k = 1 ∨ i.k = 4 ∨ i.k = 5 then 1 else 0 := by
  unfold loads It.loaded
  rw [List.filter_cons, h]
  by_cases h1 : i.k = 1
  · simp [h1]
  · by_cases h4 : i.k = 4
    · simp [h4]
    · by_cases h5 : i.k = 5
      · simp [h5]
      · simp [h1, h4, h5]
theorem kIt_may (z f : Int) (i : Nat) (hi : i < 6) : (kIt z f i).may = true ∧ (kIt z f i).k ≠ 7 ∧ loads [kIt z f i] = (kBl z f i).length ∧ full64 (kBl z f i) = true := by
  have hf := Int.emod_nonneg f (b := 1000) (by decide)
  have hf2 := Int.emod_lt_of_pos f (b := 1000) (by decide)
  have hfull : full64 (kBl z f i) = true := by
    unfold kBl
    split
    · simp [full64, kBlk]
    · rfl
  have h : (kIt z f i).may = true ∧ (kIt z f i).k ≠ 7 ∧ (((kIt z f i).k = 1 ∨ (kIt z f i).k = 4 ∨ (kIt z f i).k = 5) ↔ (z % 6 = 0 ∨ z % 6 = 3 ∨ z % 6 = 4)) := by
    unfold kIt
    split
    · rename_i h
      refine ⟨(may_k _ _ _ _).2 (.inr (.inl ⟨by omega, by omega, by omega, rfl⟩)), ?_, ⟨fun hh => ?_, fun hh => ?_⟩⟩ <;> (try simp only at hh) <;> (try simp only) <;> first | omega | simp
    · split
      · refine ⟨(may_k _ _ _ _).2 (.inr (.inr (.inl ⟨rfl, rfl, rfl, by omega⟩))), ?_, ⟨fun hh => ?_, fun hh => ?_⟩⟩ <;> (try simp only at hh) <;> (try simp only) <;> first | omega | simp
      · split
        · refine ⟨(may_k _ _ _ _).2 (.inr (.inr (.inr (.inl ⟨rfl, by omega, rfl, by omega⟩)))), ?_, ⟨fun hh => ?_, fun hh => ?_⟩⟩ <;> (try simp only at hh) <;> (try simp only) <;> first | omega | simp
        · rename_i h1 h2 h3
          refine ⟨(may_k _ _ _ _).2 (.inl ⟨by omega, by omega, rfl, rfl⟩), ?_, ⟨fun hh => ?_, fun hh => ?_⟩⟩ <;> (try simp only at hh) <;> (try simp only) <;> first | omega | simp
  refine ⟨h.1, h.2.1, ?_, hfull⟩
  rw [loads_one _ h.1]
  unfold kBl
  by_cases hz : z % 6 = 0 ∨ z % 6 = 3 ∨ z % 6 = 4
  · rw [if_pos (h.2.2.2 hz), if_pos hz]; rfl
  · rw [if_neg (fun hh => hz (h.2.2.1 hh)), if_neg hz]; rfl
theorem kIts_may (zs : List Int) (f : Int) : ∀ n, n ≤ 6 → (kIts zs f n).all It.may = true ∧ (∀ i ∈ kIts zs f n, i.k ≠ 7) ∧ loads (kIts zs f n) = (kBls zs f n).length ∧ full64 (kBls zs f n) = true
  | 0, _ => ⟨rfl, by simp [kIts], rfl, rfl⟩
  | n + 1, h => by
    obtain ⟨h1, h2, h3, h4⟩ := kIts_may zs f n (by omega)
    obtain ⟨g1, g2, g3, g4⟩ := kIt_may (zs.getD n 0) f n (by omega)
    refine ⟨?_, ?_, ?_, ?_⟩
    · rw [kIts, List.all_append, h1, List.all_cons, g1]; rfl
    · intro i hi
      rw [kIts, List.mem_append] at hi
      rcases hi with hi | hi
      · exact h2 i hi
      · rw [List.mem_singleton] at hi
        subst hi
        exact g2
    · rw [kIts, kBls, List.length_append, loads_snoc, h3]
      have : loads [kIt (zs.getD n 0) f n] = if (kIt (zs.getD n 0) f n).loaded then 1 else 0 := by
        have := loads_snoc [] (kIt (zs.getD n 0) f n)
        simpa [loads] using this
      omega
    · rw [kBls]
      unfold full64 at h4 g4 ⊢
      rw [List.all_append, h4, g4]
      rfl
/-- what a record of the kit is, behind a place -/
theorem kMade_ok (q : Ps) (zs : List Int) (f : Int) (hz : zs.length ≤ 6) (hm : 1 ≤ q.m ∧ q.m ≤ 2147483647) (hl : 1 ≤ q.l ∧ q.l ≤ 2147483647) (hp : 0 ≤ q.p ∧ q.p ≤ 4294967295) :
    rcMay (kMade q ⟨zs, f, 0, 0, 0⟩) = true ∧ (kMade q ⟨zs, f, 0, 0, 0⟩).n = q.l ∧ (kMade q ⟨zs, f, 0, 0, 0⟩).p = q.p ∧ (kMade q ⟨zs, f, 0, 0, 0⟩).m = q.m ∧ nextOf (kMade q ⟨zs, f, 0, 0, 0⟩) = none ∧ (kMade q ⟨zs, f, 0, 0, 0⟩).bl.length ≤ 6 := by
  have e1 : kMount q ⟨zs, f, 0, 0, 0⟩ = q.m := by unfold kMount; simp only; omega
  have e2 : kLsn q ⟨zs, f, 0, 0, 0⟩ = q.l := by unfold kLsn; simp only; omega
  have e3 : kPrev q ⟨zs, f, 0, 0, 0⟩ = q.p := by unfold kPrev; simp only; omega
  have hmin : min zs.length 6 = zs.length := by omega
  obtain ⟨h1, h2, h3, h4⟩ := kIts_may zs f zs.length hz
  have hit : (kItems zs f).all It.may = true ∧ (∀ i ∈ kItems zs f, i.k ≠ 7) ∧ loads (kItems zs f) = (kBlocks zs f).length ∧ (1 ≤ (kItems zs f).length ∧ (kItems zs f).length ≤ 6) := by
    unfold kItems kBlocks
    rw [hmin]
    split
    · rename_i h0
      rw [h0]
      exact ⟨by decide, by simp, rfl, by simp⟩
    · rename_i h0
      exact ⟨h1, h2, h3, by rw [kIts_length]; omega⟩
  have hfu : full64 (kBlocks zs f) = true := by unfold kBlocks; rw [hmin]; exact h4
  refine ⟨?_, e2, e3, e1, ?_, ?_⟩
  · rw [rcMay_iff]
    refine ⟨⟨?_, ?_, ?_, ?_⟩, ?_, ?_, ?_⟩
    · show 1 ≤ kMount q _ ∧ kMount q _ ≤ _; rw [e1]; exact hm
    · show 1 ≤ kLsn q _ ∧ kLsn q _ ≤ _; rw [e2]; exact hl
    · show 0 ≤ kPrev q _ ∧ kPrev q _ ≤ _; rw [e3]; exact hp
    · exact hit.2.2.2
    · exact hit.1
    · exact hit.2.2.1.symm
    · exact hfu
  · rw [nextOf_eq]
    have : (kItems zs f).find? is7 = none := by
      rw [List.find?_eq_none]
      intro i hi
      have := hit.2.1 i hi
      unfold is7
      simpa using this
    show ((kItems zs f).find? is7).map _ = none
    rw [this]
    rfl
  · show (kBlocks zs f).length ≤ 6
    rw [← hit.2.2.1]
    have := loads_le (kItems zs f)
    omega
/-- a segment in which records stand from one place on, noughts behind them -/
structure Lg (d : Dk) (c : Cf) (q0 : Ps) (l : List (Ps × Rc)) (q : Ps) : Prop where
  rdy : Rdy d
  len : (d.safe.length : Int) = c.sectors
  laid : Laid d c q0 l q
  zs : ∀ x, c.at_ q.s + q.o ≤ x → x < c.at_ q.s + c.l → d.read x = List.replicate 64 0
  o0 : 1 ≤ q0.o
  o1 : q.o ≤ c.l - 1
  s0 : 0 ≤ q0.s ∧ q0.s ≤ c.s - 1
theorem Cf.sec (c : Cf) (h : c.Ok) (k : Int) (h0 : 0 ≤ k) (h1 : k ≤ c.s - 1) : 2 ≤ c.at_ k ∧ c.at_ k + c.l ≤ c.sectors ∧ c.sectors ≤ 4096 := by
  obtain ⟨m1, m2⟩ := Cf.prod c h k h0 (by omega)
  obtain ⟨m3, m4⟩ := Cf.prod c h c.s (by have := h.2.1; omega) (by omega)
  have h3 := rln_bounds h
  have h4 := pgs_bounds h
  have h5 : (c.s - k) * c.l ≥ 1 * c.l := Int.mul_le_mul_of_nonneg_right (by omega) (by have := h.2.2; omega)
  rw [Int.sub_mul] at h5
  unfold Cf.at_ Cf.sectors
  rw [if_pos ⟨h0, h1⟩]
  omega
theorem Lg.none_ {d : Dk} {c : Cf} {q0 q : Ps} {l : List (Ps × Rc)} (h : Lg d c q0 l q) (hc : c.Ok) : follow d c q = (none, 0) := by
  obtain ⟨h1, h2⟩ := h.laid.place
  obtain ⟨g1, g2, g3⟩ := Cf.sec c hc q.s (by rw [h1]; exact h.s0.1) (by rw [h1]; exact h.s0.2)
  have hl := h.len
  have ho0 := h.o0
  have ho := h.o1
  exact follow_zero (h.rdy.err0 (has_of (by omega) (by omega))) (h.zs _ (Int.le_refl _) (by omega))
theorem Lg.scan {d : Dk} {c : Cf} {q0 q : Ps} {l : List (Ps × Rc)} (h : Lg d c q0 l q) (hc : c.Ok) : scanG d c 65 q0 = (l, q, 0) :=
  h.laid.told h.o0 (by have := h.o1; have := hc.2.2; omega) (h.none_ hc)
/-- one record more -/
theorem Lg.add {d : Dk} {c : Cf} {q0 q : Ps} {l : List (Ps × Rc)} (h : Lg d c q0 l q) (hc : c.Ok) {r : Rc} (hr : rcMay r = true) (hn : r.n = q.l) (hp : r.p = q.p) (hm : q.m ≤ r.m) (hx : nextOf r = none) (hf : q.o + (1 + r.bl.length : Nat) ≤ c.l - 1) :
    Lg (d.puts (c.at_ q.s + q.o) (rcBytes r)) c q0 (l ++ [(q, r)]) ⟨q.s, q.o + (1 + r.bl.length : Nat), q.l + 1, (rcSum r : Nat), r.m⟩ := by
  obtain ⟨h1, h2⟩ := h.laid.place
  obtain ⟨g1, g2, g3⟩ := Cf.sec c hc q.s (by rw [h1]; exact h.s0.1) (by rw [h1]; exact h.s0.2)
  have hl := h.len
  have ho := h.o0
  have hb := rcBytes_length hr
  have hpt := h.rdy.puts (a := c.at_ q.s + q.o) (by omega) hb (by omega)
  have hg := h.rdy.puts_gat (a := c.at_ q.s + q.o) (by omega) hb (by omega)
  refine ⟨hpt.1, by rw [hpt.2.2]; exact hl, ?_, ?_, h.o0, by simp only; omega, h.s0⟩
  · refine (h.laid.agr (lo := c.at_ q0.s) (h.rdy.puts_agr (lo := c.at_ q0.s) (hi := c.at_ q.s + q.o) (by omega) hb (by omega) (by rw [← h1]; omega) (.inl (Int.le_refl _))) (by omega) (by rw [h1]; exact Int.le_refl _)).snoc ?_ hx
    exact follow_laid hr hg.1 hg.2 hpt.1.ok (by omega) (by omega) hn hp hm
  · intro x hx1 hx2
    simp only at hx1 hx2
    have := h.rdy.puts_agr (a := c.at_ q.s + q.o) (lo := x) (hi := x + 1) (by omega) hb (by omega) (by omega) (.inr (by omega)) x (Int.le_refl _) (by omega)
    rw [this.2]
    exact h.zs x (by omega) (by omega)
theorem read_new (n : Nat) (x : Int) (hn : 1 ≤ n ∧ n ≤ 4096) (h0 : 0 ≤ x) (h1 : x < n) : (Dk.new n).read x = List.replicate 64 0 := by
  refine (Rdy.new hn.1 hn.2).read_sec (has_of h0 (by simp [Dk.new]; omega)) ?_
  show (List.replicate n (List.replicate 64 (0 : UInt8)))[x.toNat]? = _
  rw [List.getElem?_replicate, if_pos (by omega)]
/-- a new disk with a segment's head -/
theorem Lg.start (c : Cf) (hc : c.Ok) (p q : Ps) (hq : q.s = p.s) (hs : 0 ≤ p.s ∧ p.s ≤ c.s - 1) (ho : 1 ≤ q.o ∧ q.o ≤ c.l - 1) : Lg ((Dk.new c.sectors.toNat).puts (c.at_ p.s) (headB p)) c q [] q := by
  obtain ⟨g1, g2, g3⟩ := Cf.sec c hc p.s hs.1 hs.2
  have hl := hc.2.2
  have hr : Rdy (Dk.new c.sectors.toNat) := Rdy.new (by omega) (by omega)
  have hlen : (Dk.new c.sectors.toNat).safe.length = c.sectors.toNat := by simp [Dk.new]
  have hpt := hr.puts (a := c.at_ p.s) (b := headB p) (n := 1) (by omega) (headB_length p) (by omega)
  refine ⟨hpt.1, by rw [hpt.2.2, hlen]; omega, .nil q, ?_, ho.1, ho.2, by rw [hq]; exact hs⟩
  intro x hx1 hx2
  rw [hq] at hx1 hx2
  have := hr.puts_agr (a := c.at_ p.s) (b := headB p) (n := 1) (lo := x) (hi := x + 1) (by omega) (headB_length p) (by omega) (by omega) (.inr (by omega)) x (Int.le_refl _) (by omega)
  rw [this.2]
  exact read_new _ x (by omega) (by omega) (by omega)
/-- one record of the kit more -/
theorem logRun_one {d : Dk} {c : Cf} {q0 q : Ps} {l : List (Ps × Rc)} (h : Lg d c q0 l q) (hc : c.Ok) (zs : List Int) (f : Int) (hz : zs.length ≤ 6) (hm : 1 ≤ q.m ∧ q.m ≤ 2147483647) (hl : 1 ≤ q.l ∧ q.l ≤ 2147483647) (hp : 0 ≤ q.p ∧ q.p ≤ 4294967295) (hf : q.o + 7 ≤ c.l - 1) :
    ∃ (r : Rc) (q' : Ps) (d' : Dk), logRun c [⟨zs, f, 0, 0, 0⟩] q d = (q', d') ∧ r = kMade q ⟨zs, f, 0, 0, 0⟩ ∧ rcMay r = true ∧ Lg d' c q0 (l ++ [(q, r)]) q' ∧ q' = ⟨q.s, q.o + (1 + r.bl.length : Nat), q.l + 1, (rcSum r : Nat), q.m⟩ ∧ r.bl.length ≤ 6 ∧ d' = d.puts (c.at_ q.s + q.o) (rcBytes r) := by
  obtain ⟨h1, h2, h3, h4, h5, h6⟩ := kMade_ok q zs f hz hm hl hp
  have hb := rcBytes_length h1
  have he := enc_rc h1
  have hdiv : (rcBytes (kMade q ⟨zs, f, 0, 0, 0⟩)).length / 64 = 1 + (kMade q ⟨zs, f, 0, 0, 0⟩).bl.length := by omega
  have ha := h.add hc h1 h2 h3 (by omega) h5 (by omega)
  refine ⟨_, _, _, Go.Proofs.YtgcfdjcpcclcjaaGreat.logRun_go he (by rw [hdiv]; omega), rfl, h1, ?_, ?_, h6, rfl⟩
  · show Lg _ c q0 _ ⟨q.s, q.o + (((rcBytes (kMade q ⟨zs, f, 0, 0, 0⟩)).length / 64 : Nat) : Int), (kMade q ⟨zs, f, 0, 0, 0⟩).n + 1, _, _⟩
    rw [hdiv, h2]
    exact ha
  · show (⟨q.s, q.o + (((rcBytes (kMade q ⟨zs, f, 0, 0, 0⟩)).length / 64 : Nat) : Int), (kMade q ⟨zs, f, 0, 0, 0⟩).n + 1, _, _⟩ : Ps) = _
    rw [hdiv, h2, h4]
end Go.Kn
namespace Go.Proofs.YtgcfdjcpcclcjaaGreat
open Go Go.RowKit Go.Kn
theorem _root_.Go.Kn.fc_geo {w : World} {M : Nat → Prop} {p : Nat} {b s l : Int} (h : GeoAt w p b s l) (hp : ¬ M p) : Fc w M (fun W => GeoAt W p b s l) := fun W hW => ⟨fc_cell h.c0 hp W hW, fc_cell h.c1 hp W hW, fc_cell h.c2 hp W hW⟩
def DeskSays (w0 : World) (cf : Cf) (c : Fr3) (en : Ending) (w' : World) : Prop :=
  ∃ (p : PD) (r : RD) (gb : Nat), en = .returned (.tuple #[.pointer (some ⟨p.D, 0, none⟩), .pointer (some ⟨r.M, 0, none⟩), .pointer (some ⟨gb, 0, none⟩), .bool true]) ∧ Duo w0 w' p r (Dk.new cf.sectors.toNat) (Dk.new cf.sectors.toNat) ⟨c.L, c.G, (fun W => GeoAt W gb cf.b cf.s cf.l) :: c.F⟩
set_option maxRecDepth 100000 in
set_option maxHeartbeats 4000000 in
theorem desk13_any (w0 w : World) (cf : Cf) (c : Fr3) (h : Wc w0 w c.L c.G c.F) (hc : cf.Ok) : Calls Tryz.prog 15 #[.agg #[.int .i64 cf.b, .int .i64 cf.s, .int .i64 cf.l]] w (DeskSays w0 cf c) := by
  have H := Lib.hid (h.newB #[.int .i64 cf.b, .int .i64 cf.s, .int .i64 cf.l] 25 rfl)
  obtain ⟨g1, g2, g3⟩ := Cf.sec cf hc 0 (by decide) (by have := hc.2.1; omega)
  have hl := hc.2.2
  have HC := Lib.hid hc
  obtain ⟨n, hn⟩ : ∃ n : Nat, cf.sectors.toNat = n := ⟨_, rfl⟩
  have hsn : cf.sectors = (n : Int) := by omega
  have HN := Lib.hid hn
  have HSN := Lib.hid hsn
  have hn1 : 1 ≤ n ∧ n ≤ 4096 := by omega
  obtain ⟨hn1, hn2⟩ := hn1
  clear h hc hn hsn g1 g2 g3
  go_enter Tryz.func15, Tryz.ntmps15
  go_wp2_with fail
  refine (geom_new_any cf.b cf.s cf.l _ HC.out).mono ?_
  rintro en w1 ⟨gb, rfl, hgb, hgeo, hO⟩
  have hfc : Fc w1 (fun k => k < (w.alloc (.cells #[.int .i64 cf.b, .int .i64 cf.s, .int .i64 cf.l] 25)).heap.size) (fun W => GeoAt W gb cf.b cf.s cf.l) := fc_geo hgeo (by omega)
  have HW := Lib.hid (H.out.addFc hO hfc)
  clear hgb hgeo hO hfc H
  generalize w.heap.size = f1 at *
  have b1 := HW.out.boxi 0 rfl
  have e0 := b1.cell 0 (by simp)
  have e1 := b1.cell 1 (by simp)
  have e2 := b1.cell 2 (by simp)
  simp only [List.getElem_cons_zero, List.getElem_cons_succ] at e0 e1 e2
  clear b1
  go_wp2_with fail
  refine (ref_sectors_any cf _ HC.out).mono ?_
  rintro en w2 ⟨rfl, hO⟩
  rw [HSN.out]
  have HW2 := Lib.hid (HW.out.keep0 hO)
  clear hO HW e0 e1 e2
  go_wp2_with fail
  refine (kit_two_any w0 w2 n ⟨(f1, [.int .i64 cf.b, .int .i64 cf.s, .int .i64 cf.l]) :: c.L, c.G, (fun W => GeoAt W gb cf.b cf.s cf.l) :: c.F⟩ HW2.out hn1 hn2).mono ?_
  rintro en w3 ⟨p, r, rfl, hpn, hrn, hd⟩
  have HD := Lib.hid hd.ldrop
  have HPN := Lib.hid hpn
  clear hd HW2 hpn hrn
  go_wp2_with fail
  refine bodyPost_ret (v := .tuple #[.pointer (some ⟨p.D, 0, none⟩), .pointer (some ⟨r.M, 0, none⟩), .pointer (some ⟨gb, 0, none⟩), .bool true]) (by kernel_rfl) rfl ⟨p, r, gb, rfl, ?_⟩
  rw [HN.out]
  exact HD.out
end Go.Proofs.YtgcfdjcpcclcjaaGreat
namespace Go.Proofs.YtgcfdjcpcclcjaaGreat
open Go Go.RowKit Go.Kn
theorem Duo.dk {w0 w : World} {p : PD} {r : RD} {d e : Dk} {c : Fr3} (h : Duo w0 w p r d e c) : ∃ L0 G0 F0, Wc w0 w (c.L ++ L0) (c.G ++ G0) (c.F ++ F0) ∧ DkIn p d L0 ∧ ∀ w' (c' : Fr3), Wc w0 w' (c'.L ++ L0) (c'.G ++ G0) (c'.F ++ F0) → Duo w0 w' p r d e c' := by
  obtain ⟨v, v', lv, k, ls, sl, hs, hl, hm⟩ := h.mem
  have pl : ∀ L, (p.L v d (r.L v' lv sl e L)).Perm (L ++ p.L v d (r.L v' lv sl e [])) := fun L => by
    have := List.perm_append_comm (l₁ := p.L v d (r.L v' lv sl e [])) (l₂ := L)
    simpa [PD.L, RD.L] using this
  have pg : ∀ (a b x : Gs) G, (a :: b :: x :: G).Perm (G ++ [a, b, x]) := fun a b x G => by
    have := List.perm_append_comm (l₁ := [a, b, x]) (l₂ := G)
    simpa using this
  refine ⟨p.L v d (r.L v' lv sl e []), [⟨158, 65, v, d.held.length, heldV d.held⟩, ⟨175, 2, v', e.held.length, heldR e.held hs⟩, ⟨47, 1, lv, k, ls⟩], [(fun W => Bls W sl e.safe), (fun W => Bls W hs (e.held.map (·.2)))], ?_, ?_, fun w' c' h' => ?_⟩
  · refine (hm.perm (pl _) (pg _ _ _ _)).subF ?_
    intro f hf
    rcases List.mem_append.1 hf with hf | hf
    · exact List.mem_cons_of_mem _ (List.mem_cons_of_mem _ hf)
    · simp only [List.mem_cons, List.not_mem_nil, or_false] at hf ⊢
      rcases hf with hf | hf
      · exact .inl hf
      · exact .inr (.inl hf)
  · exact ⟨h.ok, h.N, ⟨v, by simp [PD.L]⟩, by simp [PD.L], by simp [PD.L]⟩
  · refine ⟨h.ok, h.N, h.hs, h.hn, h.hf, h.ok', h.N', h.hs', h.hf', v, v', lv, k, ls, sl, hs, hl, (h'.perm (pl _).symm (pg _ _ _ _).symm).subF ?_⟩
    intro f hf
    simp only [List.mem_cons] at hf
    rcases hf with hf | hf | hf
    · exact List.mem_append.2 (.inr (by simp [hf]))
    · exact List.mem_append.2 (.inr (by simp [hf]))
    · exact List.mem_append.2 (.inl hf)
theorem duo_new {w0 w : World} {p : PD} {r : RD} {d e : Dk} {L : List (Nat × List Value)} {G : List Gs} {F : List (World → Prop)} (h : Duo w0 w p r d e ⟨L, G, F⟩) (gb : Nat) (q : Ps) :
    Calls Tryz.prog 28 #[.pointer (some ⟨p.D, 0, none⟩), .pointer (some ⟨gb, 0, none⟩), .agg #[.int .i64 q.s, .int .i64 q.o, .int .i64 q.l, .int .i64 q.p, .int .i64 q.m]] w fun en w' => ∃ S, en = .returned (.pointer (some ⟨S, 0, none⟩)) ∧ Duo w0 w' p r d e ⟨(S, SB p.D gb q false q 0) :: L, G, F⟩ := by
  obtain ⟨L0, G0, F0, hw, -, back⟩ := h.dk
  refine (scan_new_any w0 w p.D gb q _ _ _ (Wk.start hw)).mono ?_
  rintro en w1 ⟨S, rfl, hw1⟩
  exact ⟨S, rfl, back w1 ⟨(S, SB p.D gb q false q 0) :: L, G, F⟩ hw1.toWc⟩
theorem duo_seg {w0 w : World} {p : PD} {r : RD} {d e : Dk} {L : List (Nat × List Value)} {G : List Gs} {F : List (World → Prop)} (h : Duo w0 w p r d e ⟨L, G, F⟩) {gb : Nat} {cf : Cf} (k : Int) (hg : (fun W => GeoAt W gb cf.b cf.s cf.l) ∈ F) (hc : cf.Ok) (hk : 0 ≤ k ∧ k ≤ cf.s - 1) :
    Calls Tryz.prog 18 #[.pointer (some ⟨p.D, 0, none⟩), .pointer (some ⟨gb, 0, none⟩), .int .i64 k] w fun en w' => ∃ S, en = .returned (.pointer (some ⟨S, 0, none⟩)) ∧ Duo w0 w' p r d e ⟨(S, SB p.D gb ⟨k, 0, 0, 0, 0⟩ true ⟨k, 0, 0, 0, 0⟩ 0) :: L, G, F⟩ := by
  obtain ⟨L0, G0, F0, hw, -, back⟩ := h.dk
  refine (scan_segment_any w0 w p.D gb cf k _ _ _ (Wk.start hw) (List.mem_append_left _ hg) hc hk).mono ?_
  rintro en w1 ⟨S, rfl, hw1⟩
  exact ⟨S, rfl, back w1 ⟨_ :: L, G, F⟩ hw1.toWc⟩
theorem duo_seg_none {w0 w : World} {p : PD} {r : RD} {d e : Dk} {L : List (Nat × List Value)} {G : List Gs} {F : List (World → Prop)} (h : Duo w0 w p r d e ⟨L, G, F⟩) {gb : Nat} {cf : Cf} (k : Int) (hg : (fun W => GeoAt W gb cf.b cf.s cf.l) ∈ F) (hc : cf.Ok) (hk : ¬ (0 ≤ k ∧ k ≤ cf.s - 1)) :
    Calls Tryz.prog 18 #[.pointer (some ⟨p.D, 0, none⟩), .pointer (some ⟨gb, 0, none⟩), .int .i64 k] w fun en w' => en = .returned (.pointer none) ∧ Duo w0 w' p r d e ⟨L, G, F⟩ := by
  obtain ⟨L0, G0, F0, hw, -, back⟩ := h.dk
  refine (scan_segment_none w0 w p.D gb cf k _ _ _ (Wk.start hw) (List.mem_append_left _ hg) hc hk).mono ?_
  rintro en w1 ⟨rfl, hw1⟩
  exact ⟨rfl, back w1 ⟨L, G, F⟩ hw1.toWc⟩
theorem duo_end {w0 w : World} {p : PD} {r : RD} {d e : Dk} {L : List (Nat × List Value)} {G : List Gs} {F : List (World → Prop)} {S gb : Nat} {q : Ps} {own : Bool} {en : Ps} {er : Int} (h : Duo w0 w p r d e ⟨L, G, F⟩) (hS : (S, SB p.D gb q own en er) ∈ L) :
    Calls Tryz.prog 20 #[.pointer (some ⟨S, 0, none⟩)] w fun e' w' => e' = .returned (.agg #[.int .i64 en.s, .int .i64 en.o, .int .i64 en.l, .int .i64 en.p, .int .i64 en.m]) ∧ Only [] w w' := by
  obtain ⟨L0, G0, F0, hw, -, -⟩ := h.dk
  obtain ⟨A, B, hAB⟩ := List.append_of_mem (List.mem_append_left L0 hS)
  have hw2 := hw.perm (L' := (S, SB p.D gb q own en er) :: (A ++ B)) (by show (L ++ L0).Perm _; rw [hAB]; exact List.perm_middle) (List.Perm.refl _)
  exact scan_end_any w0 w S gb p.D q own en er _ _ _ (Wk.start hw2)
theorem duo_err {w0 w : World} {p : PD} {r : RD} {d e : Dk} {L : List (Nat × List Value)} {G : List Gs} {F : List (World → Prop)} {S gb : Nat} {q : Ps} {own : Bool} {en : Ps} {er : Int} (h : Duo w0 w p r d e ⟨L, G, F⟩) (hS : (S, SB p.D gb q own en er) ∈ L) :
    Calls Tryz.prog 25 #[.pointer (some ⟨S, 0, none⟩)] w fun e' w' => e' = .returned (.int .i64 er) ∧ w = w' := by
  obtain ⟨L0, G0, F0, hw, -, -⟩ := h.dk
  obtain ⟨A, B, hAB⟩ := List.append_of_mem (List.mem_append_left L0 hS)
  have hw2 := hw.perm (L' := (S, SB p.D gb q own en er) :: (A ++ B)) (by show (L ++ L0).Perm _; rw [hAB]; exact List.perm_middle) (List.Perm.refl _)
  exact scan_err_any w0 w S gb p.D q own en er _ _ _ (Wk.start hw2)
def DWalk (w0 : World) (p : PD) (r : RD) (d e : Dk) (S gb : Nat) (q : Ps) (own : Bool) (L : List (Nat × List Value)) (G : List Gs) (F : List (World → Prop)) (x : List (Ps × Rc) × Ps × Int) (en : Ending) (w' : World) : Prop :=
  ∃ (xs : List Fnd) (A : Option Addr) (c : Nat) (fs : List (World → Prop)), en = .returned (.slice A xs.length c) ∧ xs.map Fnd.pr = x.1 ∧ (∀ y ∈ xs, y.fct ∈ fs) ∧
    Duo w0 w' p r d e ⟨(S, SB p.D gb q own x.2.1 x.2.2) :: L, ⟨58, 6, .slice A xs.length c, xs.length, fndV xs⟩ :: G, fs ++ F⟩
theorem duo_walk13 {w0 w : World} {p : PD} {r : RD} {d e : Dk} {L : List (Nat × List Value)} {G : List Gs} {F : List (World → Prop)} {S gb : Nat} {q : Ps} {own : Bool} {en : Ps} {er : Int} {cf : Cf} (h : Duo w0 w p r d e ⟨(S, SB p.D gb q own en er) :: L, G, F⟩) (hg : (fun W => GeoAt W gb cf.b cf.s cf.l) ∈ F) (hc : cf.Ok) (most : Nat) (hm : (scanR d cf own q).1.length ≤ most) (hmm : most ≤ 1000) :
    Calls Tryz.prog 19 #[.pointer (some ⟨S, 0, none⟩), .int .i64 (most : Int)] w (DWalk w0 p r d e S gb q own L G F (scanR d cf own q)) := by
  obtain ⟨L0, G0, F0, hw, hd, back⟩ := h.dk
  refine (walk13_any w0 w S gb p d cf q own en er (L ++ L0) (G ++ G0) (F ++ F0) most (Wk.start hw) (hd.mono (fun x hx => List.mem_append_right _ hx)) (List.mem_append_left _ hg) hc hm hmm).mono ?_
  rintro en w1 ⟨xs, A, c, fs, rfl, hxs, hfs, hw1⟩
  exact ⟨xs, A, c, fs, rfl, hxs, hfs, back w1 ⟨_ :: L, _ :: G, fs ++ F⟩ (by have := hw1.toWc; rw [← List.append_assoc] at this; exact this)⟩
theorem Duo.put {w0 w : World} {p : PD} {r : RD} {d e : Dk} {L : List (Nat × List Value)} {G : List Gs} {F : List (World → Prop)} (h : Duo w0 w p r d e ⟨L, G, F⟩) (i : Nat) {b : Nat} {cs : List Value} (hi : L[i]? = some (b, cs)) (j : Nat) (u : Value) : Duo w0 (w.setCell ⟨b, j, none⟩ u) p r d e ⟨L.set i (b, cs.set j u), G, F⟩ := by
  obtain ⟨L0, G0, F0, hw, back⟩ := h.fr
  have hlt : i < L.length := (List.getElem?_eq_some_iff.1 hi).1
  have hw2 := hw.put i (p := b) (cs := cs) (by show (L ++ L0)[i]? = _; rw [List.getElem?_append_left hlt]; exact hi) j u
  refine back _ ⟨L.set i (b, cs.set j u), G, F⟩ ?_
  have e1 : (L ++ L0).set i (b, cs.set j u) = L.set i (b, cs.set j u) ++ L0 := by rw [List.set_append_left _ _ hlt]
  rw [← e1]
  exact hw2
theorem Duo.alloc {w0 w : World} {p : PD} {r : RD} {d e : Dk} {c : Fr3} (h : Duo w0 w p r d e c) (o : Obj) : Duo w0 (w.alloc o) p r d e c := h.keep0 ((Only.refl _ _).alloc _)
theorem Duo.drew {w0 w : World} {p : PD} {r : RD} {d e : Dk} {c : Fr3} (h : Duo w0 w p r d e c) : Duo w0 w.drew p r d e c := h.keep0 (Only.refl _ _).drew
theorem Duo.row {w0 w : World} {p : PD} {r : RD} {d e : Dk} {c : Fr3} (h : Duo w0 w p r d e c) {g : Gs} (hg : g ∈ c.G) : w.ownsRow w0.heap.size g.e g.sz g.v g.n g.xs := by
  obtain ⟨L0, G0, F0, hw, -⟩ := h.fr
  exact hw.g1 g (List.mem_append_left _ hg)
end Go.Proofs.YtgcfdjcpcclcjaaGreat
namespace Go.Kn
open Go Go.RowKit
theorem headB_dec {p : Ps} (h : headMay p.head = true) : decHead (headB p) = some p.head := by
  obtain ⟨b, h1, _, _, h2⟩ := head_back h
  rw [headB_enc h] at h1
  injection h1 with h1
  rw [h1]
  exact h2
/-- a segment's head stands there -/
structure Hd (d : Dk) (c : Cf) (p : Ps) : Prop where
  e : d.err (c.at_ p.s) = 0
  r : d.read (c.at_ p.s) = headB p
  may : headMay p.head = true
theorem Hd.agr {d d' : Dk} {c : Cf} {p : Ps} {lo hi : Int} (h : Hd d c p) (ha : Agr d d' lo hi) (h1 : lo ≤ c.at_ p.s) (h2 : c.at_ p.s < hi) : Hd d' c p := by
  obtain ⟨e1, e2⟩ := ha _ h1 h2
  exact ⟨e1.trans h.e, e2.trans h.r, h.may⟩
theorem Hd.start (c : Cf) (hc : c.Ok) (p : Ps) (hs : 0 ≤ p.s ∧ p.s ≤ c.s - 1) (hm : headMay p.head = true) : Hd ((Dk.new c.sectors.toNat).puts (c.at_ p.s) (headB p)) c p := by
  obtain ⟨g1, g2, g3⟩ := Cf.sec c hc p.s hs.1 hs.2
  have hl := hc.2.2
  have hr : Rdy (Dk.new c.sectors.toNat) := Rdy.new (by omega) (by omega)
  have hlen : (Dk.new c.sectors.toNat).safe.length = c.sectors.toNat := by simp [Dk.new]
  obtain ⟨h1, h2⟩ := hr.puts_gat (a := c.at_ p.s) (b := headB p) (n := 1) (by omega) (headB_length p) (by omega)
  rw [gat_one] at h1
  rw [gerr_one] at h2
  exact ⟨h2, h1, hm⟩
theorem Hd.scanB {d : Dk} {c : Cf} {p : Ps} (h : Hd d c p) (hc : c.Ok) (hs : 0 ≤ p.s ∧ p.s ≤ c.s - 1) : Kn.scanB d c false ⟨p.s, 0, p.l, p.p, p.m⟩ = (⟨p.s, 1, p.l, p.p, p.m⟩, true, 0) ∧ Kn.scanB d c true ⟨p.s, 0, 0, 0, 0⟩ = (⟨p.s, 1, p.l, p.p, p.m⟩, true, 0) := by
  have hl := hc.2.2
  have hd : decHead (d.read (c.at_ p.s)) = some p.head := by rw [h.r]; exact headB_dec h.may
  constructor
  · rw [scanB_some (p := ⟨p.s, 0, p.l, p.p, p.m⟩) ⟨hs, by simp only; omega⟩ (by simp) h.e hd]
    simp [headFits, Ps.head]
  · rw [scanB_some (p := ⟨p.s, 0, 0, 0, 0⟩) ⟨hs, by simp only; omega⟩ (by simp) h.e hd]
    simp [Ps.head]
theorem Hd.scan {d : Dk} {c : Cf} {p : Ps} (h : Hd d c p) (hc : c.Ok) (hs : 0 ≤ p.s ∧ p.s ≤ c.s - 1) : scanR d c false ⟨p.s, 0, p.l, p.p, p.m⟩ = scanG d c 65 ⟨p.s, 1, p.l, p.p, p.m⟩ ∧ scanR d c true ⟨p.s, 0, 0, 0, 0⟩ = scanG d c 65 ⟨p.s, 1, p.l, p.p, p.m⟩ := by
  obtain ⟨h1, h2⟩ := h.scanB hc hs
  unfold scanR
  rw [h1, h2]
  exact ⟨rfl, rfl⟩
theorem Krs.one {w : World} {g : Nat} {s : Option Addr × Nat × Nat} {zs : List Int} {f : Int} (ho : Own w g [slv s, .int .i64 f, .int .i64 0, .int .i64 0, .int .i64 0]) (hi : Ins w s.1 s.2.1 s.2.2 zs) : Krs w (some ⟨g, 0, none⟩) 1 1 [⟨zs, f, 0, 0, 0⟩] [s] := by
  refine ⟨rfl, rfl, Nat.le_refl _, by decide, fun _ => ⟨g, 0, rfl, fun i h h2 => ?_⟩, fun i h h2 => ?_⟩
  · obtain rfl : i = 0 := by simp at h; omega
    exact ⟨ho.cell 0 (by simp), ho.cell 1 (by simp), ho.cell 2 (by simp), ho.cell 3 (by simp), ho.cell 4 (by simp)⟩
  · obtain rfl : i = 0 := by simp at h; omega
    exact hi
theorem Krs.one_fc {w : World} {M : Nat → Prop} {g : Nat} {s : Option Addr × Nat × Nat} {zs : List Int} {f : Int} (ho : Fc w M (fun W => Own W g [slv s, .int .i64 f, .int .i64 0, .int .i64 0, .int .i64 0])) (hi : Fc w M (fun W => Ins W s.1 s.2.1 s.2.2 zs)) : Fc w M (fun W => Krs W (some ⟨g, 0, none⟩) 1 1 [⟨zs, f, 0, 0, 0⟩] [s]) := fun W hW => Krs.one (ho W hW) (hi W hW)
end Go.Kn
namespace Go.Proofs.YtgcfdjcpcclcjaaGreat
open Go Go.RowKit Go.Kn
theorem Duo.permL {w0 w : World} {p : PD} {r : RD} {d e : Dk} {L L' : List (Nat × List Value)} {G : List Gs} {F : List (World → Prop)} (h : Duo w0 w p r d e ⟨L, G, F⟩) (hL : L.Perm L') : Duo w0 w p r d e ⟨L', G, F⟩ := by
  obtain ⟨L0, G0, F0, hw, back⟩ := h.fr
  exact back w ⟨L', G, F⟩ (hw.perm (hL.append_right L0) (List.Perm.refl _))
theorem duo_walk13_nil {w0 w : World} {p : PD} {r : RD} {d e : Dk} {c : Fr3} (h : Duo w0 w p r d e c) (most : Nat) (hmm : most ≤ 1000) : Calls Tryz.prog 19 #[.pointer none, .int .i64 (most : Int)] w fun en w' => en = .returned (.slice none 0 0) ∧ Duo w0 w' p r d e c := by
  obtain ⟨L0, G0, F0, hw, back⟩ := h.fr
  refine (walk13_nil w0 w _ _ _ most (Wk.start hw) hmm).mono ?_
  rintro en w1 ⟨rfl, h1⟩
  exact ⟨rfl, back w1 c h1.toWc⟩
theorem fnd_cell {w : World} {b e g c : Nat} {x : Fnd} (h : w.ownsRow b e 6 (.slice (some ⟨g, 0, none⟩) 1 c) 1 (fndV [x])) : w.cell? ⟨g, 0, none⟩ = some (.int .i64 x.p.o) := by
  obtain ⟨g', hg, hc⟩ := (cells_owns h).2.2 (by decide)
  injection hg with hg
  injection hg with hg
  subst hg
  exact hc 0 _ rfl
theorem c13ok : CfOk 2 8 24 := ⟨by decide, by decide, by decide⟩
set_option maxRecDepth 100000 in
set_option maxHeartbeats 16000000 in
theorem awake13_any (w : World) : Calls Tryz.prog 14 #[] w fun e w' => e = .returned (.bool true) ∧ Only [] w w' := by
  have hc : Cf.Ok (⟨2, 8, 24⟩ : Cf) := c13ok
  have hsq : 0 ≤ (⟨2, 0, 5, 9, 1⟩ : Ps).s ∧ (⟨2, 0, 5, 9, 1⟩ : Ps).s ≤ (⟨2, 8, 24⟩ : Cf).s - 1 := by decide
  have hmay : headMay (⟨2, 0, 5, 9, 1⟩ : Ps).head = true := by decide
  obtain ⟨d1, hd1⟩ : ∃ d, d = (Dk.new (⟨2, 8, 24⟩ : Cf).sectors.toNat).puts ((⟨2, 8, 24⟩ : Cf).at_ (⟨2, 0, 5, 9, 1⟩ : Ps).s) (headB (⟨2, 0, 5, 9, 1⟩ : Ps)) := ⟨_, rfl⟩
  have hlg : Lg d1 (⟨2, 8, 24⟩ : Cf) (⟨2, 1, 5, 9, 1⟩ : Ps) [] (⟨2, 1, 5, 9, 1⟩ : Ps) := by rw [hd1]; exact Lg.start (⟨2, 8, 24⟩ : Cf) hc (⟨2, 0, 5, 9, 1⟩ : Ps) (⟨2, 1, 5, 9, 1⟩ : Ps) rfl hsq (by decide)
  have hhd : Hd d1 (⟨2, 8, 24⟩ : Cf) (⟨2, 0, 5, 9, 1⟩ : Ps) := by rw [hd1]; exact Hd.start (⟨2, 8, 24⟩ : Cf) hc (⟨2, 0, 5, 9, 1⟩ : Ps) hsq hmay
  have hlive : d1.Live ∧ d1.held = [] := by rw [hd1]; exact Dk.Live.puts ⟨rfl, rfl⟩ _ _
  have hsc1 : scanR d1 (⟨2, 8, 24⟩ : Cf) false (⟨2, 0, 5, 9, 1⟩ : Ps) = ([], (⟨2, 1, 5, 9, 1⟩ : Ps), 0) := (hhd.scan hc hsq).1.trans (hlg.scan hc)
  obtain ⟨r, q2, d2, hrun, hr0, hmy, hlg2, hq2, hbl, hd2⟩ := logRun_one hlg hc [0, 2] 0 (by decide) (by decide) (by decide) (by decide) (by decide)
  have hhd2 : Hd d2 (⟨2, 8, 24⟩ : Cf) (⟨2, 0, 5, 9, 1⟩ : Ps) := by
    obtain ⟨g1, g2, g3⟩ := Cf.sec (⟨2, 8, 24⟩ : Cf) hc 2 (by decide) (by decide)
    have hll := hlg.len
    rw [hd2]
    exact hhd.agr (hlg.rdy.puts_agr (a := (⟨2, 8, 24⟩ : Cf).at_ (⟨2, 1, 5, 9, 1⟩ : Ps).s + (⟨2, 1, 5, 9, 1⟩ : Ps).o) (lo := (⟨2, 8, 24⟩ : Cf).at_ 2) (hi := (⟨2, 8, 24⟩ : Cf).at_ 2 + 1) (by show 0 ≤ (⟨2, 8, 24⟩ : Cf).at_ 2 + 1; omega) (rcBytes_length hmy) (by show (⟨2, 8, 24⟩ : Cf).at_ 2 + 1 + _ ≤ _; simp only at g2 hll; omega) (by omega) (.inl (Int.le_refl _))) (Int.le_refl _) (by show (⟨2, 8, 24⟩ : Cf).at_ 2 < _; omega)
  have hsc2 : scanR d2 (⟨2, 8, 24⟩ : Cf) false (⟨2, 0, 5, 9, 1⟩ : Ps) = ([((⟨2, 1, 5, 9, 1⟩ : Ps), r)], q2, 0) := (hhd2.scan hc hsq).1.trans (hlg2.scan hc)
  obtain ⟨xo, hxo⟩ : ∃ x : Int, x = 1 + (1 + r.bl.length : Nat) := ⟨_, rfl⟩
  obtain ⟨xs, hxs⟩ : ∃ x : Int, x = (rcSum r : Nat) := ⟨_, rfl⟩
  have hq2' : q2 = ⟨2, xo, 6, xs, 1⟩ := by rw [hq2, hxo, hxs]; rfl
  subst hq2'
  have HC := Lib.hid hc
  have HD1 := Lib.hid hd1
  have HLV := Lib.hid hlive.1
  have HHE := Lib.hid hlive.2
  have HSC1 := Lib.hid hsc1
  have HSC2 := Lib.hid hsc2
  have HRUN := Lib.hid hrun
  have HMAY := Lib.hid hmay
  clear hc hsq hmay hd1 hlg hhd hlive hsc1 hrun hr0 hmy hlg2 hq2 hbl hd2 hhd2 hsc2 hxo hxs
  have H1 := Lib.hid ((Wc.start w).newB #[.int .i64 2, .int .i64 8, .int .i64 24] 25 rfl)
  go_enter Tryz.func14, Tryz.ntmps14
  go_upto_region 2 with (fail)
  generalize hz : w.alloc (.cells #[.int .i64 2, .int .i64 8, .int .i64 24] 25) = w1 at *
  obtain ⟨f1, hf1⟩ : ∃ k, k = w.heap.size := ⟨_, rfl⟩
  rw [← hf1] at H1 ⊢
  clear hz hf1
  have b1 := H1.out.boxi 0 rfl
  have e0 := b1.cell 0 (by simp)
  have e1 := b1.cell 1 (by simp)
  have e2 := b1.cell 2 (by simp)
  simp only [List.getElem_cons_zero, List.getElem_cons_succ] at e0 e1 e2
  clear b1
  go_wp2_with fail
  refine (desk13_any w w1 (⟨2, 8, 24⟩ : Cf) ⟨[(f1, [.int .i64 2, .int .i64 8, .int .i64 24])], [], []⟩ H1.out HC.out).mono ?_
  rintro en w2 ⟨p, rr, gb, rfl, hd⟩
  have HD := Lib.hid (Duo.newB hd #[.int .i64 2, .int .i64 0, .int .i64 5, .int .i64 9, .int .i64 1] 32 rfl)
  clear hd H1 e0 e1 e2
  go_upto_region 4 with (fail)
  generalize hz : w2.alloc (.cells #[.int .i64 2, .int .i64 0, .int .i64 5, .int .i64 9, .int .i64 1] 32) = w3 at *
  generalize w2.heap.size = f6 at *
  clear hz w2 w1
  have b6 := HD.out.box (x := (f6, [.int .i64 2, .int .i64 0, .int .i64 5, .int .i64 9, .int .i64 1])) (by simp)
  have q0 := b6.cell 0 (by simp)
  have q1 := b6.cell 1 (by simp)
  have q2 := b6.cell 2 (by simp)
  have q3 := b6.cell 3 (by simp)
  have q4 := b6.cell 4 (by simp)
  simp only [List.getElem_cons_zero, List.getElem_cons_succ] at q0 q1 q2 q3 q4
  have b1 := HD.out.box (x := (f1, [.int .i64 2, .int .i64 8, .int .i64 24])) (by simp)
  have e0 := b1.cell 0 (by simp)
  have e1 := b1.cell 1 (by simp)
  have e2 := b1.cell 2 (by simp)
  simp only [List.getElem_cons_zero, List.getElem_cons_succ] at e0 e1 e2
  clear b6 b1
  go_wp2_with fail
  refine (kit_head_any w w3 p rr _ _ (⟨2, 8, 24⟩ : Cf) (⟨2, 0, 5, 9, 1⟩ : Ps) HD.out HC.out HMAY.out (by decide) (by simp [Dk.new])).mono ?_
  rintro en w4 ⟨rfl, hd⟩
  rw [← HD1.out] at hd
  have HD2 := Lib.hid hd
  clear hd HD q0 q1 q2 q3 q4 e0 e1 e2
  have b6 := HD2.out.box (x := (f6, [.int .i64 2, .int .i64 0, .int .i64 5, .int .i64 9, .int .i64 1])) (by simp)
  have q0 := b6.cell 0 (by simp)
  have q1 := b6.cell 1 (by simp)
  have q2 := b6.cell 2 (by simp)
  have q3 := b6.cell 3 (by simp)
  have q4 := b6.cell 4 (by simp)
  simp only [List.getElem_cons_zero, List.getElem_cons_succ] at q0 q1 q2 q3 q4
  clear b6
  go_wp2_with fail
  refine (duo_new HD2.out gb (⟨2, 0, 5, 9, 1⟩ : Ps)).mono ?_
  rintro en w5 ⟨S, rfl, hd⟩
  have HD3 := Lib.hid hd
  clear hd HD2 q0 q1 q2 q3 q4
  have b6 := HD3.out.box (x := (f6, [.int .i64 2, .int .i64 0, .int .i64 5, .int .i64 9, .int .i64 1])) (by simp)
  have q0 := b6.cell 0 (by simp)
  have q1 := b6.cell 1 (by simp)
  have q2 := b6.cell 2 (by simp)
  have q3 := b6.cell 3 (by simp)
  have q4 := b6.cell 4 (by simp)
  simp only [List.getElem_cons_zero, List.getElem_cons_succ] at q0 q1 q2 q3 q4
  clear b6
  go_wp2_with fail
  refine (scan_new_none w5 gb (⟨2, 0, 5, 9, 1⟩ : Ps)).mono ?_
  rintro en w6 ⟨rfl, hO⟩
  have HD4 := Lib.hid (HD3.out.keep0 hO)
  clear hO HD3 q0 q1 q2 q3 q4
  go_wp2_with fail
  refine (duo_seg_none HD4.out (cf := (⟨2, 8, 24⟩ : Cf)) 8 List.mem_cons_self HC.out (by decide)).mono ?_
  rintro en w7 ⟨rfl, hd⟩
  have HD5 := Lib.hid hd
  clear hd HD4
  go_wp2_with fail
  refine (duo_end HD5.out List.mem_cons_self).mono ?_
  rintro en w8 ⟨rfl, hO⟩
  have HD6 := Lib.hid ((HD5.out.keep0 hO).newB #[.int .i64 2, .int .i64 0, .int .i64 5, .int .i64 9, .int .i64 1] 32 rfl)
  clear hO HD5
  go_upto_region 10 with (fail)
  generalize hz : w8.alloc (.cells #[.int .i64 2, .int .i64 0, .int .i64 5, .int .i64 9, .int .i64 1] 32) = w9 at *
  generalize w8.heap.size = f8 at *
  clear hz w8
  go_wp2_with fail
  have HD7 := Lib.hid (HD6.out.lswap)
  clear HD6
  refine (duo_walk13 (cf := (⟨2, 8, 24⟩ : Cf)) HD7.out List.mem_cons_self HC.out 9 (by rw [HSC1.out]; decide) (by decide)).mono ?_
  rw [HSC1.out]
  rintro en w10 ⟨xs1, A1, k1, fs1, rfl, hx1, hf1, hd⟩
  obtain rfl : xs1 = [] := by simpa using hx1
  have b6 := hd.box (x := (f6, [.int .i64 2, .int .i64 0, .int .i64 5, .int .i64 9, .int .i64 1])) (by simp)
  have q0 := b6.cell 0 (by simp)
  have q1 := b6.cell 1 (by simp)
  have q2 := b6.cell 2 (by simp)
  have q3 := b6.cell 3 (by simp)
  have q4 := b6.cell 4 (by simp)
  simp only [List.getElem_cons_zero, List.getElem_cons_succ] at q0 q1 q2 q3 q4
  clear b6
  have HD8 := Lib.hid (Duo.newB hd #[.int .i64 2, .int .i64 0, .int .i64 5, .int .i64 9, .int .i64 1] 32 rfl)
  clear hd HD7 hx1 hf1
  go_upto_region 12 with (fail)
  generalize hz : w10.alloc (.cells #[.int .i64 2, .int .i64 0, .int .i64 5, .int .i64 9, .int .i64 1] 32) = w11 at *
  generalize w10.heap.size = f10 at *
  clear hz q0 q1 q2 q3 q4 w10
  have HD9 : Hid (Duo w w11 p rr d1 d1 ⟨(f10, [.int .i64 2, .int .i64 0, .int .i64 5, .int .i64 9, .int .i64 1]) :: (S, SB p.D gb (⟨2, 0, 5, 9, 1⟩ : Ps) false (⟨2, 1, 5, 9, 1⟩ : Ps) 0) :: (f8, [.int .i64 2, .int .i64 0, .int .i64 5, .int .i64 9, .int .i64 1]) :: (f6, [.int .i64 2, .int .i64 0, .int .i64 5, .int .i64 9, .int .i64 1]) :: (f1, [.int .i64 2, .int .i64 8, .int .i64 24]) :: [], ⟨58, 6, .slice A1 0 k1, 0, fndV []⟩ :: [], fs1 ++ (fun W => GeoAt W gb 2 8 24) :: []⟩) := Lib.hid HD8.out
  clear HD8
  have b10 := HD9.out.box (x := (f10, [.int .i64 2, .int .i64 0, .int .i64 5, .int .i64 9, .int .i64 1])) (by simp)
  have q0 := b10.cell 0 (by simp)
  have q1 := b10.cell 1 (by simp)
  have q2 := b10.cell 2 (by simp)
  have q3 := b10.cell 3 (by simp)
  have q4 := b10.cell 4 (by simp)
  simp only [List.getElem_cons_zero, List.getElem_cons_succ] at q0 q1 q2 q3 q4
  have z1 := b10.frozen 1
  have l10 := b10.lt
  go_upto_region 13 with (fail)
  have HD10 := Lib.hid (HD9.out.put 0 (b := f10) rfl 1 (.int .i64 1))
  simp only [List.set_cons_zero, List.set_cons_succ] at HD10
  generalize hz : w11.setCell ⟨f10, 1, none⟩ (.int .i64 1) = w12 at *
  clear hz HD9 q0 q1 q2 q3 q4 z1 l10 b10
  have b10 := HD10.out.box (x := (f10, [.int .i64 2, .int .i64 1, .int .i64 5, .int .i64 9, .int .i64 1])) (by simp)
  have q0 := b10.cell 0 (by simp)
  have q1 := b10.cell 1 (by simp)
  have q2 := b10.cell 2 (by simp)
  have q3 := b10.cell 3 (by simp)
  have q4 := b10.cell 4 (by simp)
  simp only [List.getElem_cons_zero, List.getElem_cons_succ] at q0 q1 q2 q3 q4
  have b1 := HD10.out.box (x := (f1, [.int .i64 2, .int .i64 8, .int .i64 24])) (by simp)
  have e0 := b1.cell 0 (by simp)
  have e1 := b1.cell 1 (by simp)
  have e2 := b1.cell 2 (by simp)
  simp only [List.getElem_cons_zero, List.getElem_cons_succ] at e0 e1 e2
  clear b10 b1
  have hO2 : Only [] w12 ((w12.alloc (.cells #[.int .i64 0, .int .i64 2] 3)).alloc (.cells #[.slice (some ⟨w12.heap.size, 0, none⟩) 2 2, .int .i64 0, .int .i64 0, .int .i64 0, .int .i64 0] 38)) := ((Only.refl _ _).alloc _).alloc _
  have hins := (ins_built w12 [0, 2] 3 2 rfl (by decide)).keep0 ((Only.refl [] (w12.alloc (.cells #[.int .i64 0, .int .i64 2] 3))).alloc (.cells #[.slice (some ⟨w12.heap.size, 0, none⟩) 2 2, .int .i64 0, .int .i64 0, .int .i64 0, .int .i64 0] 38))
  have hown := Own.new (w12.alloc (.cells #[.int .i64 0, .int .i64 2] 3)) #[.slice (some ⟨w12.heap.size, 0, none⟩) 2 2, .int .i64 0, .int .i64 0, .int .i64 0, .int .i64 0] 38
  have hsz : (w12.alloc (.cells #[.int .i64 0, .int .i64 2] 3)).heap.size = w12.heap.size + 1 := by simp
  rw [hsz] at hown
  have hkf := Krs.one_fc (s := (some ⟨w12.heap.size, 0, none⟩, 2, 2)) (zs := [0, 2]) (f := 0) (M := fun k => k < w12.heap.size) (Own.fc hown (by omega)) (Row1.fc hins (fun _ a ha => by injection ha with ha; subst ha; simp))
  have HD11 := Lib.hid (HD10.out.addFc hO2 hkf)
  clear hins hown hkf hO2 hsz HD10
  go_wp2_with fail
  refine (kit_log_any w _ p rr d1 _ (⟨2, 8, 24⟩ : Cf) (⟨2, 1, 5, 9, 1⟩ : Ps) _ 1 1 [⟨[0, 2], 0, 0, 0, 0⟩] [(some ⟨w12.heap.size, 0, none⟩, 2, 2)] HD11.out List.mem_cons_self ?wf HC.out ⟨⟨by decide, by decide, by decide⟩, by decide, by decide⟩ HLV.out HHE.out).mono ?_
  case wf =>
    intro x hx
    rw [List.mem_singleton] at hx
    subst hx
    exact ⟨by decide, by decide, by decide, by decide, by decide⟩
  rw [HRUN.out]
  rintro en w13 ⟨rfl, hd⟩
  have HD12 := Lib.hid (Duo.newB hd #[.int .i64 2, .int .i64 xo, .int .i64 6, .int .i64 xs, .int .i64 1] 32 rfl)
  clear hd HD11 q0 q1 q2 q3 q4 e0 e1 e2
  go_upto_region 14 with (fail)
  generalize hz : w13.alloc (.cells #[.int .i64 2, .int .i64 xo, .int .i64 6, .int .i64 xs, .int .i64 1] 32) = w14 at *
  generalize w13.heap.size = f11 at *
  clear hz w13
  have HD13 : Hid (Duo w w14 p rr d2 d2 ⟨(S, SB p.D gb (⟨2, 0, 5, 9, 1⟩ : Ps) false (⟨2, 1, 5, 9, 1⟩ : Ps) 0) :: (f11, [.int .i64 2, .int .i64 xo, .int .i64 6, .int .i64 xs, .int .i64 1]) :: (f10, [.int .i64 2, .int .i64 1, .int .i64 5, .int .i64 9, .int .i64 1]) :: (f8, [.int .i64 2, .int .i64 0, .int .i64 5, .int .i64 9, .int .i64 1]) :: (f6, [.int .i64 2, .int .i64 0, .int .i64 5, .int .i64 9, .int .i64 1]) :: (f1, [.int .i64 2, .int .i64 8, .int .i64 24]) :: [], ⟨58, 6, .slice A1 0 k1, 0, fndV []⟩ :: [], (fun W => Krs W (some ⟨w12.heap.size + 1, 0, none⟩) 1 1 [⟨[0, 2], 0, 0, 0, 0⟩] [(some ⟨w12.heap.size, 0, none⟩, 2, 2)]) :: (fs1 ++ (fun W => GeoAt W gb 2 8 24) :: [])⟩) := Lib.hid (HD12.out.permL (List.perm_middle (l₁ := [_, _])))
  clear HD12
  go_wp2_with fail
  refine (duo_walk13 (cf := (⟨2, 8, 24⟩ : Cf)) HD13.out (by simp) HC.out 9 (by rw [HSC2.out]; exact (by decide : 1 ≤ 9)) (by decide)).mono ?_
  rw [HSC2.out]
  rintro en w15 ⟨xs2, A2, k2, fs2, rfl, hx2, hf2, hd⟩
  obtain ⟨x, rfl, hxp⟩ := List.map_eq_singleton_iff.1 hx2
  have hxo : x.p.o = 1 := by have := congrArg (fun y => y.1.o) hxp; exact this
  have hrow := hd.row List.mem_cons_self
  obtain ⟨g, rfl, hcell⟩ := (cells_owns hrow).2.2 (by simp)
  have HD14 := Lib.hid hd
  have HXO := Lib.hid hxo
  simp only [List.length_cons, List.length_nil, Nat.zero_add] at HD14 ⊢
  clear hd HD13 hx2 hf2 hrow hcell hxp hxo
  go_upto_region 16 with (fail)
  have HP : Hid (∀ W : World, Duo w W p rr d2 d2 ⟨(S, SB p.D gb (⟨2, 0, 5, 9, 1⟩ : Ps) false ⟨2, xo, 6, xs, 1⟩ 0) :: (f11, [.int .i64 2, .int .i64 xo, .int .i64 6, .int .i64 xs, .int .i64 1]) :: (f10, [.int .i64 2, .int .i64 1, .int .i64 5, .int .i64 9, .int .i64 1]) :: (f8, [.int .i64 2, .int .i64 0, .int .i64 5, .int .i64 9, .int .i64 1]) :: (f6, [.int .i64 2, .int .i64 0, .int .i64 5, .int .i64 9, .int .i64 1]) :: (f1, [.int .i64 2, .int .i64 8, .int .i64 24]) :: [], ⟨58, 6, .slice (some ⟨g, 0, none⟩) 1 k2, 1, fndV [x]⟩ :: ⟨58, 6, .slice A1 0 k1, 0, fndV []⟩ :: [], fs2 ++ (fun W => Krs W (some ⟨w12.heap.size + 1, 0, none⟩) 1 1 [⟨[0, 2], 0, 0, 0, 0⟩] [(some ⟨w12.heap.size, 0, none⟩, 2, 2)]) :: (fs1 ++ (fun W => GeoAt W gb 2 8 24) :: [])⟩ → (fun w' => Kn.Own w' f8 [.int .i64 2, .int .i64 0, .int .i64 5, .int .i64 9, .int .i64 1] ∧ Kn.Own w' f6 [.int .i64 2, .int .i64 0, .int .i64 5, .int .i64 9, .int .i64 1] ∧ w'.cell? ⟨g, 0, none⟩ = some (.int .i64 1) ∧ Kn.Own w' f11 [.int .i64 2, .int .i64 xo, .int .i64 6, .int .i64 xs, .int .i64 1]) W) := Lib.hid (fun W h => ⟨h.box (x := (f8, [.int .i64 2, .int .i64 0, .int .i64 5, .int .i64 9, .int .i64 1])) (by simp), h.box (x := (f6, [.int .i64 2, .int .i64 0, .int .i64 5, .int .i64 9, .int .i64 1])) (by simp), by rw [← HXO.out]; exact fnd_cell (h.row List.mem_cons_self), h.box (x := (f11, [.int .i64 2, .int .i64 xo, .int .i64 6, .int .i64 xs, .int .i64 1])) (by simp)⟩)
  have HY := Lib.hid HD14.out.drew
  clear HD14
  refine wp_region_held_drew (S := (fun w' => Kn.Own w' f8 [.int .i64 2, .int .i64 0, .int .i64 5, .int .i64 9, .int .i64 1] ∧ Kn.Own w' f6 [.int .i64 2, .int .i64 0, .int .i64 5, .int .i64 9, .int .i64 1] ∧ w'.cell? ⟨g, 0, none⟩ = some (.int .i64 1) ∧ Kn.Own w' f11 [.int .i64 2, .int .i64 xo, .int .i64 6, .int .i64 xs, .int .i64 1])) (by kernel_rfl) (HP.out _ HY.out) (fun hSw0 => ?_)
  generalize w15.drew = wz at *
  refine wpAnyH_take (i := 0) (oi := ⟨some 71, _, _, _, _, _⟩) (v := (.agg #[.int .i64 2, .int .i64 0, .int .i64 5, .int .i64 9, .int .i64 1])) rfl (by kernel_rfl) (by kernel_rfl) (by kernel_rfl) (fun _ _ _ h => h) (Or.inl ⟨by rfl, ?_⟩) (by assumption) ?_
  · intro w hSw
    have q0 := hSw.1
    have q00 := q0.cell 0 (by simp)
    have q01 := q0.cell 1 (by simp)
    have q02 := q0.cell 2 (by simp)
    have q03 := q0.cell 3 (by simp)
    have q04 := q0.cell 4 (by simp)
    simp only [List.getElem_cons_zero, List.getElem_cons_succ] at q00 q01 q02 q03 q04
    clear q0
    go_simp
  (try simp only [Act.put, List.setIfInBounds_toArray, List.set_cons_zero, List.set_cons_succ])
  refine wpAnyH_take (i := 1) (oi := ⟨some 72, _, _, _, _, _⟩) (v := (.agg #[.int .i64 2, .int .i64 0, .int .i64 5, .int .i64 9, .int .i64 1])) rfl (by kernel_rfl) (by kernel_rfl) (by kernel_rfl) (fun _ _ _ h => h) (Or.inl ⟨by rfl, ?_⟩) (by assumption) ?_
  · intro w hSw
    have q0 := hSw.2.1
    have q00 := q0.cell 0 (by simp)
    have q01 := q0.cell 1 (by simp)
    have q02 := q0.cell 2 (by simp)
    have q03 := q0.cell 3 (by simp)
    have q04 := q0.cell 4 (by simp)
    simp only [List.getElem_cons_zero, List.getElem_cons_succ] at q00 q01 q02 q03 q04
    clear q0
    go_simp
  (try simp only [Act.put, List.setIfInBounds_toArray, List.set_cons_zero, List.set_cons_succ])
  refine wpAnyH_take (i := 2) (oi := ⟨some 73, _, _, _, _, _⟩) (v := ?_) rfl (by kernel_rfl) (by kernel_rfl) (by kernel_rfl) (fun _ _ _ h => h) (Or.inl ⟨by rfl, ?_⟩) (by assumption) ?_
  rotate_left
  · intro w hSw
    (try dsimp only at hSw)
    go_simp
    all_goals (try with_reducible rfl)
  (try simp only [Act.put, List.setIfInBounds_toArray, List.set_cons_zero, List.set_cons_succ])
  refine wpAnyH_take (i := 3) (oi := ⟨some 74, _, _, _, _, _⟩) (v := ?_) rfl (by kernel_rfl) (by kernel_rfl) (by kernel_rfl) (fun _ _ _ h => h) (Or.inl ⟨by rfl, ?_⟩) (by assumption) ?_
  rotate_left
  · intro w hSw
    (try dsimp only at hSw)
    go_simp
    all_goals (try with_reducible rfl)
  (try simp only [Act.put, List.setIfInBounds_toArray, List.set_cons_zero, List.set_cons_succ])
  refine wpAnyH_take (i := 4) (oi := ⟨some 75, _, _, _, _, _⟩) (v := ?_) rfl (by kernel_rfl) (by kernel_rfl) (by kernel_rfl) (fun _ _ _ h => h) (Or.inl ⟨by rfl, ?_⟩) (by assumption) ?_
  rotate_left
  · intro w hSw
    (try dsimp only at hSw)
    go_simp
    all_goals (try with_reducible rfl)
  (try simp only [Act.put, List.setIfInBounds_toArray, List.set_cons_zero, List.set_cons_succ])
  refine wpAnyH_take (i := 5) (oi := ⟨some 76, _, _, _, _, _⟩) (v := ?_) rfl (by kernel_rfl) (by kernel_rfl) (by kernel_rfl) (fun _ _ _ h => h) (Or.inl ⟨by rfl, ?_⟩) (by assumption) ?_
  rotate_left
  · intro w hSw
    (try dsimp only at hSw)
    go_simp
    all_goals (try with_reducible rfl)
  (try simp only [Act.put, List.setIfInBounds_toArray, List.set_cons_zero, List.set_cons_succ])
  refine wpAnyH_take (i := 6) (oi := ⟨some 77, _, _, _, _, _⟩) (v := ?_) rfl (by kernel_rfl) (by kernel_rfl) (by kernel_rfl) (fun _ _ _ h => h) (Or.inl ⟨by rfl, ?_⟩) (by assumption) ?_
  rotate_left
  · intro w hSw
    (try dsimp only at hSw)
    go_simp
    all_goals (try with_reducible rfl)
  (try simp only [Act.put, List.setIfInBounds_toArray, List.set_cons_zero, List.set_cons_succ])
  refine wpAnyH_take (i := 7) (oi := ⟨some 78, _, _, _, _, _⟩) (v := ?_) rfl (by kernel_rfl) (by kernel_rfl) (by kernel_rfl) (fun _ _ _ h => h) (Or.inl ⟨by rfl, ?_⟩) (by assumption) ?_
  rotate_left
  · intro w hSw
    (try dsimp only at hSw)
    go_simp
    all_goals (try with_reducible rfl)
  (try simp only [Act.put, List.setIfInBounds_toArray, List.set_cons_zero, List.set_cons_succ])
  refine wpAnyH_take (i := 8) (oi := ⟨some 79, _, _, _, _, _⟩) (v := ?_) rfl (by kernel_rfl) (by kernel_rfl) (by kernel_rfl) (fun _ _ _ h => h) (Or.inl ⟨by rfl, ?_⟩) (by assumption) ?_
  rotate_left
  · intro w hSw
    (try dsimp only at hSw)
    go_simp
    all_goals (try with_reducible rfl)
  (try simp only [Act.put, List.setIfInBounds_toArray, List.set_cons_zero, List.set_cons_succ])
  refine wpAnyH_take (i := 9) (oi := ⟨some 80, _, _, _, _, _⟩) (v := ?_) rfl (by kernel_rfl) (by kernel_rfl) (by kernel_rfl) (fun _ _ _ h => h) (Or.inl ⟨by rfl, ?_⟩) (by assumption) ?_
  rotate_left
  · intro w hSw
    (try dsimp only at hSw)
    go_simp
    all_goals (try with_reducible rfl)
  (try simp only [Act.put, List.setIfInBounds_toArray, List.set_cons_zero, List.set_cons_succ])
  refine wpAnyH_take (i := 10) (oi := ⟨some 81, _, _, _, _, _⟩) (v := ?_) rfl (by kernel_rfl) (by kernel_rfl) (by kernel_rfl) (fun _ _ _ h => h) (Or.inl ⟨by rfl, ?_⟩) (by assumption) ?_
  rotate_left
  · intro w hSw
    (try dsimp only at hSw)
    go_simp
    all_goals (try with_reducible rfl)
  (try simp only [Act.put, List.setIfInBounds_toArray, List.set_cons_zero, List.set_cons_succ])
  refine wpAnyH_take (i := 11) (oi := ⟨some 82, _, _, _, _, _⟩) (v := ?_) rfl (by kernel_rfl) (by kernel_rfl) (by kernel_rfl) (fun _ _ _ h => h) (Or.inl ⟨by rfl, ?_⟩) (by assumption) ?_
  rotate_left
  · intro w hSw
    (try dsimp only at hSw)
    go_simp
    all_goals (try with_reducible rfl)
  (try simp only [Act.put, List.setIfInBounds_toArray, List.set_cons_zero, List.set_cons_succ])
  refine wpAnyH_take (i := 12) (oi := ⟨some 83, _, _, _, _, _⟩) (v := ?_) rfl (by kernel_rfl) (by kernel_rfl) (by kernel_rfl) (fun _ _ _ h => h) (Or.inl ⟨by rfl, ?_⟩) (by assumption) ?_
  rotate_left
  · intro w hSw
    (try dsimp only at hSw)
    go_simp
    all_goals (try with_reducible rfl)
  (try simp only [Act.put, List.setIfInBounds_toArray, List.set_cons_zero, List.set_cons_succ])
  refine wpAnyH_take (i := 13) (oi := ⟨some 84, _, _, _, _, _⟩) (v := ?_) rfl (by kernel_rfl) (by kernel_rfl) (by kernel_rfl) (fun _ _ _ h => h) (Or.inl ⟨by rfl, ?_⟩) (by assumption) ?_
  rotate_left
  · intro w hSw
    (try dsimp only at hSw)
    go_simp
    all_goals (try with_reducible rfl)
  (try simp only [Act.put, List.setIfInBounds_toArray, List.set_cons_zero, List.set_cons_succ])
  refine wpAnyH_take (i := 14) (oi := ⟨some 85, _, _, _, _, _⟩) (v := ?_) rfl (by kernel_rfl) (by kernel_rfl) (by kernel_rfl) (fun _ _ _ h => h) (Or.inl ⟨by rfl, ?_⟩) (by assumption) ?_
  rotate_left
  · intro w hSw
    (try dsimp only at hSw)
    go_simp
    all_goals (try with_reducible rfl)
  (try simp only [Act.put, List.setIfInBounds_toArray, List.set_cons_zero, List.set_cons_succ])
  refine wpAnyH_take (i := 15) (oi := ⟨some 86, _, _, _, _, _⟩) (v := ?_) rfl (by kernel_rfl) (by kernel_rfl) (by kernel_rfl) (fun _ _ _ h => h) (Or.inl ⟨by rfl, ?_⟩) (by assumption) ?_
  rotate_left
  · intro w hSw
    (try dsimp only at hSw)
    go_simp
    all_goals (try with_reducible rfl)
  (try simp only [Act.put, List.setIfInBounds_toArray, List.set_cons_zero, List.set_cons_succ])
  refine wpAnyH_take (i := 16) (oi := ⟨some 87, _, _, _, _, _⟩) (v := ?_) rfl (by kernel_rfl) (by kernel_rfl) (by kernel_rfl) (fun _ _ _ h => h) (Or.inl ⟨by rfl, ?_⟩) (by assumption) ?_
  rotate_left
  · intro w hSw
    (try dsimp only at hSw)
    go_simp
    all_goals (try with_reducible rfl)
  (try simp only [Act.put, List.setIfInBounds_toArray, List.set_cons_zero, List.set_cons_succ])
  refine wpAnyH_take (i := 17) (oi := ⟨some 88, _, _, _, _, _⟩) (v := ?_) rfl (by kernel_rfl) (by kernel_rfl) (by kernel_rfl) (fun _ _ _ h => h) (Or.inl ⟨by rfl, ?_⟩) (by assumption) ?_
  rotate_left
  · intro w hSw
    (try dsimp only at hSw)
    go_simp
    all_goals (try with_reducible rfl)
  (try simp only [Act.put, List.setIfInBounds_toArray, List.set_cons_zero, List.set_cons_succ])
  refine wpAnyH_take (i := 18) (oi := ⟨some 89, _, _, _, _, _⟩) (v := ?_) rfl (by kernel_rfl) (by kernel_rfl) (by kernel_rfl) (fun _ _ _ h => h) (Or.inl ⟨by rfl, ?_⟩) (by assumption) ?_
  rotate_left
  · intro w hSw
    (try dsimp only at hSw)
    go_simp
    all_goals (try with_reducible rfl)
  (try simp only [Act.put, List.setIfInBounds_toArray, List.set_cons_zero, List.set_cons_succ])
  refine wpAnyH_take (i := 19) (oi := ⟨some 90, _, _, _, _, _⟩) (v := ?_) rfl (by kernel_rfl) (by kernel_rfl) (by kernel_rfl) (fun _ _ _ h => h) (Or.inl ⟨by rfl, ?_⟩) (by assumption) ?_
  rotate_left
  · intro w hSw
    (try dsimp only at hSw)
    go_simp
    all_goals (try with_reducible rfl)
  (try simp only [Act.put, List.setIfInBounds_toArray, List.set_cons_zero, List.set_cons_succ])
  refine wpAnyH_take (i := 20) (oi := ⟨some 91, _, _, _, _, _⟩) (v := (.int .i64 1)) rfl (by kernel_rfl) (by kernel_rfl) (by kernel_rfl) (fun _ _ _ h => h) (Or.inl ⟨by rfl, ?_⟩) (by assumption) ?_
  · intro w hSw
    have q0 := hSw.2.2.1
    go_simp
  (try simp only [Act.put, List.setIfInBounds_toArray, List.set_cons_zero, List.set_cons_succ])
  refine wpAnyH_take (i := 21) (oi := ⟨some 92, _, _, _, _, _⟩) (v := ?_) rfl (by kernel_rfl) (by kernel_rfl) (by kernel_rfl) (fun _ _ _ h => h) (Or.inl ⟨by rfl, ?_⟩) (by assumption) ?_
  rotate_left
  · intro w hSw
    (try dsimp only at hSw)
    go_simp
    all_goals (try with_reducible rfl)
  (try simp only [Act.put, List.setIfInBounds_toArray, List.set_cons_zero, List.set_cons_succ])
  refine wpAnyH_take (i := 22) (oi := ⟨some 93, _, _, _, _, _⟩) (v := ?_) rfl (by kernel_rfl) (by kernel_rfl) (by kernel_rfl) (fun _ _ _ h => h) (Or.inl ⟨by rfl, ?_⟩) (by assumption) ?_
  rotate_left
  · intro w hSw
    (try dsimp only at hSw)
    go_simp
    all_goals (try with_reducible rfl)
  (try simp only [Act.put, List.setIfInBounds_toArray, List.set_cons_zero, List.set_cons_succ])
  refine wpAnyH_take (i := 23) (oi := ⟨some 94, _, _, _, _, _⟩) (v := ?_) rfl (by kernel_rfl) (by kernel_rfl) (by kernel_rfl) (fun _ _ _ h => h) (Or.inl ⟨by rfl, ?_⟩) (by assumption) ?_
  rotate_left
  · intro w hSw
    (try dsimp only at hSw)
    go_simp
    all_goals (try with_reducible rfl)
  (try simp only [Act.put, List.setIfInBounds_toArray, List.set_cons_zero, List.set_cons_succ])
  refine wpAnyH_take (i := 24) (oi := ⟨some 95, _, _, _, _, _⟩) (v := ?_) rfl (by kernel_rfl) (by kernel_rfl) (by kernel_rfl) (fun _ _ _ h => h) (Or.inl ⟨by rfl, ?_⟩) (by assumption) ?_
  rotate_left
  · intro w hSw
    (try dsimp only at hSw)
    go_simp
    all_goals (try with_reducible rfl)
  (try simp only [Act.put, List.setIfInBounds_toArray, List.set_cons_zero, List.set_cons_succ])
  refine wpAnyH_take (i := 26) (oi := ⟨some 97, _, _, _, _, _⟩) (v := (.agg #[.int .i64 2, .int .i64 xo, .int .i64 6, .int .i64 xs, .int .i64 1])) rfl (by kernel_rfl) (by kernel_rfl) (by kernel_rfl) (fun _ _ _ h => h) (Or.inl ⟨by rfl, ?_⟩) (by assumption) ?_
  · intro w hSw
    have q0 := hSw.2.2.2
    have q00 := q0.cell 0 (by simp)
    have q01 := q0.cell 1 (by simp)
    have q02 := q0.cell 2 (by simp)
    have q03 := q0.cell 3 (by simp)
    have q04 := q0.cell 4 (by simp)
    simp only [List.getElem_cons_zero, List.getElem_cons_succ] at q00 q01 q02 q03 q04
    clear q0
    go_simp
  (try simp only [Act.put, List.setIfInBounds_toArray, List.set_cons_zero, List.set_cons_succ])
  refine wpAnyH_ready (rs := [25]) (by kernel_rfl) (by simp) ?_
  refine AllReadyH.cons (o := ⟨some 96, _, _, _, _, _⟩) rfl (fun K hK => ?_) AllReadyH.nil
  go_simp
  refine (duo_end HY.out List.mem_cons_self).mono ?_
  rintro en wa ⟨rfl, hO⟩
  have HY1 := Lib.hid (HY.out.keep0 hO)
  clear hO HY
  refine hK.out _ _ (HP.out _ HY1.out) (fun hSn => ?_)
  clear hK K hSw0
  have hSw0 := hSn
  clear hSn
  (try simp only [Act.put, List.setIfInBounds_toArray, List.set_cons_zero, List.set_cons_succ])
  refine wpAnyH_take (i := 27) (oi := ⟨some 98, _, _, _, _, _⟩) (v := ?_) rfl (by kernel_rfl) (by kernel_rfl) (by kernel_rfl) (fun _ _ _ h => h) (Or.inl ⟨by rfl, ?_⟩) (by assumption) ?_
  rotate_left
  · intro w hSw
    (try dsimp only at hSw)
    go_simp
    all_goals (try with_reducible rfl)
  (try simp only [Act.put, List.setIfInBounds_toArray, List.set_cons_zero, List.set_cons_succ])
  refine wpAnyH_take (i := 28) (oi := ⟨some 99, _, _, _, _, _⟩) (v := ?_) rfl (by kernel_rfl) (by kernel_rfl) (by kernel_rfl) (fun _ _ _ h => h) (Or.inl ⟨by rfl, ?_⟩) (by assumption) ?_
  rotate_left
  · intro w hSw
    (try dsimp only at hSw)
    go_simp
    all_goals (try with_reducible rfl)
  (try simp only [Act.put, List.setIfInBounds_toArray, List.set_cons_zero, List.set_cons_succ])
  refine wpAnyH_take (i := 29) (oi := ⟨some 100, _, _, _, _, _⟩) (v := ?_) rfl (by kernel_rfl) (by kernel_rfl) (by kernel_rfl) (fun _ _ _ h => h) (Or.inl ⟨by rfl, ?_⟩) (by assumption) ?_
  rotate_left
  · intro w hSw
    (try dsimp only at hSw)
    go_simp
    all_goals (try with_reducible rfl)
  (try simp only [Act.put, List.setIfInBounds_toArray, List.set_cons_zero, List.set_cons_succ])
  refine wpAnyH_take (i := 30) (oi := ⟨some 101, _, _, _, _, _⟩) (v := ?_) rfl (by kernel_rfl) (by kernel_rfl) (by kernel_rfl) (fun _ _ _ h => h) (Or.inl ⟨by rfl, ?_⟩) (by assumption) ?_
  rotate_left
  · intro w hSw
    (try dsimp only at hSw)
    go_simp
    all_goals (try with_reducible rfl)
  (try simp only [Act.put, List.setIfInBounds_toArray, List.set_cons_zero, List.set_cons_succ])
  refine wpAnyH_ready (rs := [31]) (by kernel_rfl) (by simp) ?_
  refine AllReadyH.cons (o := ⟨some 102, _, _, _, _, _⟩) rfl (fun K hK => ?_) AllReadyH.nil
  go_simp
  refine (duo_err HY1.out List.mem_cons_self).mono ?_
  rintro en wb ⟨rfl, rfl⟩
  refine hK.out _ _ (HP.out _ HY1.out) (fun hSn => ?_)
  clear hK K hSw0
  have hSw0 := hSn
  clear hSn
  (try simp only [Act.put, List.setIfInBounds_toArray, List.set_cons_zero, List.set_cons_succ])
  refine wpAnyH_take (i := 32) (oi := ⟨some 103, _, _, _, _, _⟩) (v := ?_) rfl (by kernel_rfl) (by kernel_rfl) (by kernel_rfl) (fun _ _ _ h => h) (Or.inl ⟨by rfl, ?_⟩) (by assumption) ?_
  rotate_left
  · intro w hSw
    (try dsimp only at hSw)
    go_simp
    all_goals (try with_reducible rfl)
  (try simp only [Act.put, List.setIfInBounds_toArray, List.set_cons_zero, List.set_cons_succ])
  refine wpAnyH_take (i := 33) (oi := ⟨some 104, _, _, _, _, _⟩) (v := ?_) rfl (by kernel_rfl) (by kernel_rfl) (by kernel_rfl) (fun _ _ _ h => h) (Or.inl ⟨by rfl, ?_⟩) (by assumption) ?_
  rotate_left
  · intro w hSw
    (try dsimp only at hSw)
    go_simp
    all_goals (try with_reducible rfl)
  (try simp only [Act.put, List.setIfInBounds_toArray, List.set_cons_zero, List.set_cons_succ])
  refine wpAnyH_take (i := 34) (oi := ⟨some 105, _, _, _, _, _⟩) (v := ?_) rfl (by kernel_rfl) (by kernel_rfl) (by kernel_rfl) (fun _ _ _ h => h) (Or.inl ⟨by rfl, ?_⟩) (by assumption) ?_
  rotate_left
  · intro w hSw
    (try dsimp only at hSw)
    go_simp
    all_goals (try with_reducible rfl)
  (try simp only [Act.put, List.setIfInBounds_toArray, List.set_cons_zero, List.set_cons_succ])
  refine wpAnyH_take (i := 35) (oi := ⟨some 106, _, _, _, _, _⟩) (v := ?_) rfl (by kernel_rfl) (by kernel_rfl) (by kernel_rfl) (fun _ _ _ h => h) (Or.inl ⟨by rfl, ?_⟩) (by assumption) ?_
  rotate_left
  · intro w hSw
    (try dsimp only at hSw)
    go_simp
    all_goals (try with_reducible rfl)
  (try simp only [Act.put, List.setIfInBounds_toArray, List.set_cons_zero, List.set_cons_succ])
  refine wpAnyH_ready (rs := [36]) (by kernel_rfl) (by simp) ?_
  refine AllReadyH.cons (o := ⟨some 107, _, _, _, _, _⟩) rfl (fun K hK => ?_) AllReadyH.nil
  go_simp
  refine (scan_err_nil _).mono ?_
  rintro en wc ⟨rfl, rfl⟩
  refine hK.out _ _ (HP.out _ HY1.out) (fun hSn => ?_)
  clear hK K hSw0
  have hSw0 := hSn
  clear hSn
  (try simp only [Act.put, List.setIfInBounds_toArray, List.set_cons_zero, List.set_cons_succ])
  refine wpAnyH_take (i := 37) (oi := ⟨some 108, _, _, _, _, _⟩) (v := ?_) rfl (by kernel_rfl) (by kernel_rfl) (by kernel_rfl) (fun _ _ _ h => h) (Or.inl ⟨by rfl, ?_⟩) (by assumption) ?_
  rotate_left
  · intro w hSw
    (try dsimp only at hSw)
    go_simp
    all_goals (try with_reducible rfl)
  (try simp only [Act.put, List.setIfInBounds_toArray, List.set_cons_zero, List.set_cons_succ])
  refine wpAnyH_take (i := 38) (oi := ⟨some 109, _, _, _, _, _⟩) (v := ?_) rfl (by kernel_rfl) (by kernel_rfl) (by kernel_rfl) (fun _ _ _ h => h) (Or.inl ⟨by rfl, ?_⟩) (by assumption) ?_
  rotate_left
  · intro w hSw
    (try dsimp only at hSw)
    go_simp
    all_goals (try with_reducible rfl)
  (try simp only [Act.put, List.setIfInBounds_toArray, List.set_cons_zero, List.set_cons_succ])
  refine wpAnyH_take (i := 39) (oi := ⟨some 110, _, _, _, _, _⟩) (v := ?_) rfl (by kernel_rfl) (by kernel_rfl) (by kernel_rfl) (fun _ _ _ h => h) (Or.inl ⟨by rfl, ?_⟩) (by assumption) ?_
  rotate_left
  · intro w hSw
    (try dsimp only at hSw)
    go_simp
    all_goals (try with_reducible rfl)
  (try simp only [Act.put, List.setIfInBounds_toArray, List.set_cons_zero, List.set_cons_succ])
  refine wpAnyH_take (i := 40) (oi := ⟨some 111, _, _, _, _, _⟩) (v := ?_) rfl (by kernel_rfl) (by kernel_rfl) (by kernel_rfl) (fun _ _ _ h => h) (Or.inl ⟨by rfl, ?_⟩) (by assumption) ?_
  rotate_left
  · intro w hSw
    (try dsimp only at hSw)
    go_simp
    all_goals (try with_reducible rfl)
  (try simp only [Act.put, List.setIfInBounds_toArray, List.set_cons_zero, List.set_cons_succ])
  refine wpAnyH_ready (rs := [41]) (by kernel_rfl) (by simp) ?_
  refine AllReadyH.cons (o := ⟨some 112, _, _, _, _, _⟩) rfl (fun K hK => ?_) AllReadyH.nil
  go_simp
  refine (duo_walk13_nil HY1.out 2 (by decide)).mono ?_
  rintro en wd ⟨rfl, hd⟩
  have HY2 := Lib.hid hd
  clear hd HY1
  refine hK.out _ _ (HP.out _ HY2.out) (fun hSn => ?_)
  clear hK K hSw0
  have hSw0 := hSn
  clear hSn
  (try simp only [Act.put, List.setIfInBounds_toArray, List.set_cons_zero, List.set_cons_succ])
  refine wpAnyH_take (i := 42) (oi := ⟨some 113, _, _, _, _, _⟩) (v := ?_) rfl (by kernel_rfl) (by kernel_rfl) (by kernel_rfl) (fun _ _ _ h => h) (Or.inl ⟨by rfl, ?_⟩) (by assumption) ?_
  rotate_left
  · intro w hSw
    (try dsimp only at hSw)
    go_simp
    all_goals (try with_reducible rfl)
  (try simp only [Act.put, List.setIfInBounds_toArray, List.set_cons_zero, List.set_cons_succ])
  refine wpAnyH_take (i := 43) (oi := ⟨some 114, _, _, _, _, _⟩) (v := ?_) rfl (by kernel_rfl) (by kernel_rfl) (by kernel_rfl) (fun _ _ _ h => h) (Or.inl ⟨by rfl, ?_⟩) (by assumption) ?_
  rotate_left
  · intro w hSw
    (try dsimp only at hSw)
    go_simp
    all_goals (try with_reducible rfl)
  (try simp only [Act.put, List.setIfInBounds_toArray, List.set_cons_zero, List.set_cons_succ])
  refine wpAnyH_take (i := 44) (oi := ⟨some 115, _, _, _, _, _⟩) (v := ?_) rfl (by kernel_rfl) (by kernel_rfl) (by kernel_rfl) (fun _ _ _ h => h) (Or.inl ⟨by rfl, ?_⟩) (by assumption) ?_
  rotate_left
  · intro w hSw
    (try dsimp only at hSw)
    go_simp
    all_goals (try with_reducible rfl)
  (try simp only [Act.put, List.setIfInBounds_toArray, List.set_cons_zero, List.set_cons_succ])
  refine wpAnyH_take (i := 45) (oi := ⟨some 0, _, _, _, _, _⟩) (v := ?_) rfl (by kernel_rfl) (by kernel_rfl) (by kernel_rfl) (fun _ _ _ h => h) (Or.inl ⟨by rfl, ?_⟩) (by assumption) ?_
  rotate_left
  · intro w hSw
    (try dsimp only at hSw)
    go_simp
    all_goals (try with_reducible rfl)
  (try simp only [Act.put, List.setIfInBounds_toArray, List.set_cons_zero, List.set_cons_succ])
  refine wpAnyH_done (by kernel_rfl) ?_ _
  clear hSw0
  go_wp2
  (try simp only [Exit.inBlock, Exit.then])
  refine bodyPost_ret (v := .bool true) (by kernel_rfl) rfl ⟨rfl, HY2.out.only⟩
end Go.Proofs.YtgcfdjcpcclcjaaGreat
namespace Go.Proofs.YtgcfdjcpcclcjaaGreat
open Go.ChangeShapes Go.WideShapes Go.ChangeAt Go.RowKit Go.Kn
theorem own : ownKnob Tryz.prog.godebug = none := by kernel_rfl
theorem laidOut : laidOutB Tryz.prog = true := by kernel_rfl
/-- a slice of integers that came in: nil, or a row of cap cells. -/
def IsRow (k : IntKind) (w : World) (a : Option Addr) (len cap : Nat) (zs : List Int) : Prop :=
  (a = none ∧ len = 0 ∧ cap = 0 ∧ zs = []) ∨
  ∃ x, a = some x ∧ len ≤ cap ∧ cap ≤ maxLen ∧ zs.length = cap ∧ (∀ i, i < zs.length → w.cell? (x.add i) = some (.int k (zs.getD i 0))) ∧ ∀ n ∈ zs, (Lit.int k n).wf = true
theorem add_none {w : World} {x : Addr} {i : Nat} {v : Value} (h : w.cell? (x.add i) = some v) (h0 : ∃ u, w.cell? (x.add 0) = some u) : x.add i = ⟨x.block, x.off + i, none⟩ := by
  obtain ⟨u, hu⟩ := h0
  have hs : x.spot = none := by
    have := World.cell?_spot hu
    simpa [Addr.add] using this
  obtain ⟨b, o, s⟩ := x
  simp only at hs
  subst hs
  unfold Addr.add
  split <;> simp_all
theorem IsRow.row1 {k : IntKind} {w : World} {a : Option Addr} {len cap : Nat} {zs : List Int} (h : IsRow k w a len cap zs) : Row1 w a len cap ((zs.take len).map (Value.int k)) := by
  rcases h with ⟨rfl, rfl, rfl, rfl⟩ | ⟨x, rfl, hl, hm, hz, hcell, hwz⟩
  · exact Row1.nil w
  · refine ⟨by simp; omega, hl, hm, fun hn => ⟨x.block, x.off, ?_, fun i hi => ?_⟩⟩
    · have h0 := hcell 0 (by omega)
      have := add_none h0 ⟨_, h0⟩
      unfold Addr.add at this
      simp at this
      rw [this]
    · have hi' : i < len := by simp at hi; omega
      have h0 := hcell 0 (by omega)
      have h1 := hcell i (by omega)
      rw [add_none h1 ⟨_, h0⟩] at h1
      rw [h1]
      simp [List.getElem_take, show i < zs.length by omega]
theorem IsRow.ins {w : World} {a : Option Addr} {len cap : Nat} {zs : List Int} (h : IsRow .i64 w a len cap zs) : Ins w a len cap (zs.take len) := h.row1
theorem IsRow.wf {k : IntKind} {w : World} {a : Option Addr} {len cap : Nat} {zs : List Int} (h : IsRow k w a len cap zs) : ∀ z ∈ zs.take len, (Lit.int k z).wf = true := by
  intro z hz
  rcases h with ⟨rfl, rfl, rfl, rfl⟩ | ⟨x, rfl, hl, hm, hz', hcell, hwz⟩
  · simp at hz
  · exact hwz z (List.mem_of_mem_take hz)
section
open Go.Deep
variable {H : Type} {enc : TypeId × Value → H} {P : Program} {w : World} {base : Nat} {spare : Nat → Bool} {held : Bool}
theorem open_row {t e : TypeId} {k : IntKind} {fuel : Nat} {v : Value} {y : DataW H × List MemPlace} (ht : P.underlying t = some (.slice e)) (he : P.underlying e = some (.int k)) (hC : P.cellsOf e = 1) (h : DataW.trod enc P w base (fun _ => true) held fuel t [v] = some y) :
    ∃ a len cap zs, v = .slice a len cap ∧ IsRow k w a len cap zs := by
  rcases open_ints ht he hC h with ⟨hcs, _⟩ | ⟨x, l, c, zs, hcs, _, hl, hm, hz, _, hcell, hwz⟩
  · simp at hcs
    exact ⟨none, 0, 0, [], hcs, .inl ⟨rfl, rfl, rfl, rfl⟩⟩
  · simp at hcs
    exact ⟨some x, l, c, zs, hcs, .inr ⟨_, rfl, hl, hm, by simpa using hz, hcell, hwz⟩⟩
end
end Go.Proofs.YtgcfdjcpcclcjaaGreat
namespace Go.Proofs.YtgcfdjcpcclcjaaGreat
open Go.ChangeShapes Go.WideShapes Go.ChangeAt Go.RowKit Go.Kn Go.Deep
variable {H : Type} {enc : TypeId × Value → H}
theorem list_of {α : Type} {n : Nat} {p : Nat → α → Prop} (h : ∀ i, i < n → ∃ x, p i x) : ∃ l : List α, l.length = n ∧ ∀ i (hi : i < l.length), p i l[i] := by
  induction n with
  | zero => exact ⟨[], rfl, fun i hi => by simp at hi⟩
  | succ n ih =>
    obtain ⟨l, hl, hp⟩ := ih fun i hi => h i (by omega)
    obtain ⟨x, hx⟩ := h n (by omega)
    refine ⟨l ++ [x], by simp [hl], fun i hi => ?_⟩
    by_cases h1 : i < l.length
    · rw [List.getElem_append_left h1]; exact hp i h1
    · have : i = l.length := by simp at hi; omega
      subst this
      simpa [hl] using hx
end Go.Proofs.YtgcfdjcpcclcjaaGreat
namespace Go.Kn
open Go Go.RowKit
/-- a slice of slices of numbers -/
def Inss (w : World) (A : Option Addr) (n c : Nat) (l : List (List Int)) : Prop := ∃ sl : List (Option Addr × Nat × Nat), Row1 w A n c (sl.map slv) ∧ sl.length = l.length ∧ ∀ i (h1 : i < sl.length) (h2 : i < l.length), Ins w sl[i].1 sl[i].2.1 sl[i].2.2 l[i]
theorem Inss.nil (w : World) : Inss w none 0 0 [] := ⟨[], Row1.nil w, rfl, fun i h1 => by simp at h1⟩
theorem Inss.len {w : World} {A : Option Addr} {n c : Nat} {l : List (List Int)} (h : Inss w A n c l) : l.length = n := by
  obtain ⟨sl, h1, h2, _⟩ := h
  have := h1.len
  simp at this
  omega
theorem Krs.nil (w : World) : Krs w none 0 0 [] [] := ⟨rfl, rfl, Nat.le_refl _, Nat.zero_le _, fun h => absurd h (by omega), fun i h => by simp at h⟩
end Go.Kn
namespace Go.Proofs.YtgcfdjcpcclcjaaGreat
open Go.ChangeShapes Go.WideShapes Go.ChangeAt Go.RowKit Go.Kn Go.Deep
variable {H : Type} {enc : TypeId × Value → H}
theorem open_inss {w : World} {base : Nat} {held : Bool} {fuel : Nat} {a : Option Addr} {len cap : Nat} {x : DataW H × List MemPlace}
    (h : DataW.trod enc Tryz.prog w base (fun _ => true) held fuel 22 [.slice a len cap] = some x) : ∃ l, Inss w a len cap l ∧ ∀ zs ∈ l, ∀ z ∈ zs, (Lit.int .i64 z).wf = true := by
  rcases open_slice Tryz.underlying22 h with ⟨hcs, _⟩ | ⟨b, len, cap, m, n, D, Pl, hcs, hb, hl, hm, hmm, hx, hi⟩
  · simp at hcs
    obtain ⟨rfl, rfl, rfl⟩ := hcs
    exact ⟨[], Inss.nil _, by simp⟩
  · simp at hcs
    obtain ⟨rfl, rfl, rfl⟩ := hcs
    rw [show Tryz.prog.cellsOf 34 = 1 from by kernel_rfl] at hi
    have hml : len ≤ m := by rw [hmm]; split <;> omega
    have hg : ∀ i, i < len → ∃ p : (Option Addr × Nat × Nat) × List Int, w.cell? (b.add i) = some (slv p.1) ∧ Ins w p.1.1 p.1.2.1 p.1.2.2 p.2 ∧ ∀ z ∈ p.2, (Lit.int .i64 z).wf = true := by
      intro i hi'
      obtain ⟨cs', hc, ht⟩ := hi i (by omega)
      obtain ⟨_, hcl, hat⟩ := World.cells?_some hc
      obtain ⟨v0, rfl⟩ : ∃ v0, cs' = [v0] := by
        match cs', hcl with
        | [v0], _ => exact ⟨v0, rfl⟩
      have h0 := hat 0 (by decide)
      obtain ⟨B, k, d, zs, rfl, w4⟩ := open_row Tryz.underlying34 Tryz.underlying3 (by kernel_rfl) ht
      rw [Nat.mul_one, Go.Deep.add_add, Nat.add_zero] at h0
      exact ⟨⟨(B, k, d), zs.take k⟩, h0, w4.ins, w4.wf⟩
    obtain ⟨L, hL, hp⟩ := list_of hg
    refine ⟨L.map (·.2), ⟨L.map (·.1), ⟨by simpa using hL, hl, hm, fun hn => ?_⟩, by simp, fun i h1 h2 => ?_⟩, ?_⟩
    · have h00 := (hp 0 (by omega)).1
      have hz : ∃ u, w.cell? (b.add 0) = some u := ⟨_, h00⟩
      have hb := add_none (i := 0) h00 hz
      have hb' : b = ⟨b.block, b.off, none⟩ := by
        have := hb
        unfold Addr.add at this
        simpa using this
      refine ⟨b.block, b.off, by rw [← hb'], fun i hi' => ?_⟩
      have p0 := (hp i (by simpa using hi')).1
      rw [add_none p0 hz] at p0
      simpa using p0
    · simpa using (hp i (by simpa using h1)).2.1
    · intro zs hz z hzz
      obtain ⟨p, hpm, rfl⟩ := List.mem_map.1 hz
      obtain ⟨i, hi, rfl⟩ := List.getElem_of_mem hpm
      exact (hp i hi).2.2 z hzz
end Go.Proofs.YtgcfdjcpcclcjaaGreat
namespace Go.Kn
open Go Go.RowKit
def InRows (sl : List (Option Addr × Nat × Nat)) (l : List (List Int)) (W : World) : Prop := ∀ (i : Nat) (s : Option Addr × Nat × Nat) (z : List Int), sl[i]? = some s → l[i]? = some z → Ins W s.1 s.2.1 s.2.2 z
/-- a slice of slices, as two facts -/
theorem Inss.old {w : World} {A : Option Addr} {n c : Nat} {l : List (List Int)} (h : Inss w A n c l) : ∃ sl, sl.length = l.length ∧ Wc w w [] [] [InRows sl l, fun W => Row1 W A n c (sl.map slv)] := by
  obtain ⟨sl, hr, hl, hi⟩ := h
  have h1 := (Wc.start w).old (f := fun W => Row1 W A n c (sl.map slv)) (Row1.fc hr (by simp))
  refine ⟨sl, hl, h1.old (f := InRows sl l) (fun W hW i s z hs hz => ?_)⟩
  obtain ⟨hi1, rfl⟩ := List.getElem?_eq_some_iff.1 hs
  obtain ⟨hi2, rfl⟩ := List.getElem?_eq_some_iff.1 hz
  exact Row1.fc (hi i hi1 hi2) (M := fun _ => False) (by simp) W hW
theorem Row1.cel {w : World} {g o n c j : Nat} {xs : List Value} {u : Value} (h : Row1 w (some ⟨g, o, none⟩) n c xs) (hj : xs[j]? = some u) : w.cell? ⟨g, o + j, none⟩ = some u := by
  obtain ⟨hl, e⟩ := List.getElem?_eq_some_iff.1 hj
  obtain ⟨g', o', e', hc⟩ := h.at_ (by have := h.len; omega)
  injection e' with e'
  injection e' with e1 e2
  subst e1 e2
  rw [hc j hl, e]
theorem Kb.hd {w w' : World} {D : Nat} {x : Option (List Deferred)} (hk : Kb w.heap.size w w') (h : w.heap[D]? = some (.deferred x)) : w'.heap[D]? = some (.deferred x) := hk.keep D _ (lt_of_obj h) h rfl
theorem Laid.cut {d : Dk} {c : Cf} {q' : Ps} {l2 : List (Ps × Rc)} : ∀ {l1 : List (Ps × Rc)} {q : Ps}, Laid d c q (l1 ++ l2) q' → ∃ qm, Laid d c q l1 qm ∧ Laid d c qm l2 q'
  | [], q, h => ⟨q, .nil _, h⟩
  | x :: l1, q, h => by
    cases h with
    | cons h1 h2 h3 =>
      obtain ⟨qm, g1, g2⟩ := Laid.cut h3
      exact ⟨qm, .cons h1 h2 g1, g2⟩
theorem Laid.last {d : Dk} {c : Cf} {q' x : Ps} {r : Rc} : ∀ {l : List (Ps × Rc)} {q : Ps}, Laid d c q (l ++ [(x, r)]) q' → follow d c x = (some (r, q'), 0)
  | [], q, h => by
    cases h with
    | cons h1 h2 h3 =>
      cases h3
      exact h1
  | y :: l, q, h => by
    cases h with
    | cons h1 h2 h3 => exact Laid.last h3
/-- stopped behind some records it goes on there -/
theorem Lg.stop {d : Dk} {c : Cf} {q0 q e x : Ps} {r : Rc} {l pre : List (Ps × Rc)} (h : Lg d c q0 l q) (hc : c.Ok) (hp : pre ++ [(x, r)] <+: l) (hf : follow d c x = (some (r, e), 0)) :
    (e.s = q0.s ∧ 1 ≤ e.o ∧ e.o ≤ c.l - 1) ∧ scanG d c 65 e = (l.drop (pre.length + 1), q, 0) := by
  obtain ⟨l2, rfl⟩ := hp
  obtain ⟨qm, g1, g2⟩ := h.laid.cut
  have g3 := g1.last
  rw [hf] at g3
  injection g3 with g3 _
  injection g3 with g3
  injection g3 with _ g3
  subst g3
  have p1 := g1.place
  have p2 := g2.place
  have ho := h.o0
  have ho1 := h.o1
  have hl := hc.2.2
  refine ⟨⟨p1.1, by omega, by omega⟩, ?_⟩
  have hd : (pre ++ [(x, r)] ++ l2).drop (pre.length + 1) = l2 := List.drop_left' (by simp)
  rw [hd]
  exact g2.told (by omega) (by omega) (h.none_ hc)
end Go.Kn
namespace Go.Proofs.YtgcfdjcpcclcjaaGreat
open Go Go.RowKit Go.Kn
theorem kr_wf {zs : List Int} {f : Int} (hz : ∀ z ∈ zs, (Lit.int .i64 z).wf = true) (hf : (Lit.int .i64 f).wf = true) : KR.Wf ⟨zs, f, 0, 0, 0⟩ := ⟨hz, hf, (by decide : (Lit.int .i64 0).wf = true), by simp, by simp⟩
theorem Duo.impF {w0 w : World} {p : PD} {r : RD} {d e : Dk} {L : List (Nat × List Value)} {G : List Gs} {F : List (World → Prop)} (h : Duo w0 w p r d e ⟨L, G, F⟩) {F' : List (World → Prop)} (hF : ∀ f ∈ F', ∀ W, (∀ g ∈ F, g W) → f W) : Duo w0 w p r d e ⟨L, G, F'⟩ := by
  obtain ⟨L0, G0, F0, hw, back⟩ := h.fr
  refine back w ⟨L, G, F'⟩ ⟨hw.only, hw.own, hw.lo, hw.nd, hw.g1, hw.g2, hw.g3, fun f hf w' h' => ?_⟩
  rcases List.mem_append.1 hf with hf | hf
  · exact hF f hf w' (fun g hg => hw.fx g (List.mem_append_left _ hg) w' h')
  · exact hw.fx f (List.mem_append_right _ hf) w' h'
theorem Duo.krs1 {w0 w : World} {p : PD} {r : RD} {d e : Dk} {L : List (Nat × List Value)} {G : List Gs} {F : List (World → Prop)} (h : Duo w0 w p r d e ⟨L, G, F⟩) {sl : List (Option Addr × Nat × Nat)} {l : List (List Int)} (hR : InRows sl l ∈ F) {i : Nat} {s1 : Option Addr} {s2 s3 : Nat} {z : List Int} (hs : sl[i]? = some (s1, s2, s3)) (hz : l[i]? = some z) (f : Int) (t : TypeId) :
    Duo w0 (w.alloc (.cells #[.slice s1 s2 s3, .int .i64 f, .int .i64 0, .int .i64 0, .int .i64 0] t)) p r d e ⟨L, G, (fun W => Krs W (some ⟨w.heap.size, 0, none⟩) 1 1 [⟨z, f, 0, 0, 0⟩] [(s1, s2, s3)]) :: F⟩ := by
  have ho := Kn.Own.new w #[.slice s1 s2 s3, .int .i64 f, .int .i64 0, .int .i64 0, .int .i64 0] t
  have h1 := h.addFc ((Only.refl _ _).alloc _) (Kn.Own.fc ho (by omega))
  refine h1.impF fun g hg W hW => ?_
  rcases List.mem_cons.1 hg with rfl | hg
  · exact Krs.one (hW _ List.mem_cons_self) (hW (InRows sl l) (List.mem_cons_of_mem _ hR) i _ z hs hz)
  · exact hW g (List.mem_cons_of_mem _ hg)
end Go.Proofs.YtgcfdjcpcclcjaaGreat
namespace Go.Kn
open Go Go.RowKit
theorem u8_bits {u v : UInt8} (h : ∀ j, j < 8 → u.toNat.testBit j = v.toNat.testBit j) : u = v := by
  refine UInt8.toNat_inj.1 (Nat.eq_of_testBit_eq fun j => ?_)
  by_cases hj : j < 8
  · exact h j hj
  · have hp : 2 ^ 8 ≤ 2 ^ j := Nat.pow_le_pow_right (by decide) (by omega)
    have h1 := u.toNat_lt
    have h2 := v.toNat_lt
    rw [Nat.testBit_lt_two_pow (by omega), Nat.testBit_lt_two_pow (by omega)]
theorem csum_set_ne {x : List UInt8} {i : Nat} (hi : i < x.length) {v : UInt8} (hv : v ≠ x[i]) : csum (x.set i v) ≠ csum x := by
  intro h
  unfold csum at h
  have h1 := cadd_lt (x := 4294967295) (by decide) x
  have h2 := cadd_lt (x := 4294967295) (by decide) (x.set i v)
  have h3 : cadd 4294967295 (x.set i v) = cadd 4294967295 x := by omega
  rw [cadd_brun, cadd_brun, List.length_set] at h3
  refine burst _ _ (8 * i) 8 (8 * x.length) _ (by decide) (by decide) (by omega) (fun j hj ho => ?_) ?_ h3
  · unfold bitAt
    rw [List.getD_eq_getElem?_getD, List.getD_eq_getElem?_getD, List.getElem?_set_ne (by omega)]
  · refine Classical.byContradiction fun hn => hv (u8_bits fun j hj => ?_)
    have e1 : bitAt (x.set i v) (8 * i + j) = v.toNat.testBit j := by
      unfold bitAt
      rw [show (8 * i + j) / 8 = i from by omega, show (8 * i + j) % 8 = j from by omega, List.getD_eq_getElem?_getD, List.getElem?_set_self hi]
      rfl
    have e2 : bitAt x (8 * i + j) = x[i].toNat.testBit j := by
      unfold bitAt
      rw [show (8 * i + j) / 8 = i from by omega, show (8 * i + j) % 8 = j from by omega, List.getD_eq_getElem?_getD, List.getElem?_eq_getElem hi]
      rfl
    by_cases e : v.toNat.testBit j = x[i].toNat.testBit j
    · exact e
    · exact absurd ⟨j, hj, by rw [e1, e2]; exact e⟩ hn
theorem not_closed_set {b : List UInt8} (hl : 64 ≤ b.length) (hc : RcClosed b) {i : Nat} (hi : i < b.length) {v : UInt8} (hv : v ≠ b[i]) : ¬ RcClosed (b.set i v) := by
  unfold RcClosed at hc ⊢
  intro he
  by_cases h1 : i < 60
  · rw [List.drop_set, if_pos h1, List.drop_set, if_pos (by omega), List.take_set, hc] at he
    have hs : (b.take 60).set i v ++ b.drop 64 = (b.take 60 ++ b.drop 64).set i v := by rw [List.set_append_left _ _ (by rw [List.length_take]; omega)]
    rw [hs] at he
    refine csum_set_ne (x := b.take 60 ++ b.drop 64) (i := i) (by rw [List.length_append, List.length_take]; omega) ?_ (le4_inj (csum_lt _) (csum_lt _) he).symm
    rw [List.getElem_append_left (by rw [List.length_take]; omega), List.getElem_take]
    exact hv
  · have ht : (b.set i v).take 60 = b.take 60 := by rw [List.take_set, List.set_eq_of_length_le (by rw [List.length_take]; omega)]
    by_cases h2 : i < 64
    · rw [ht, List.drop_set, if_neg h1, List.drop_set, if_pos h2, ← hc, List.take_set] at he
      have h3 := congrArg (fun l => l[i - 60]?) he
      have hlt : i - 60 < ((b.drop 60).take 4).length := by rw [List.length_take, List.length_drop]; omega
      simp only [List.getElem?_set_self hlt, List.getElem?_eq_getElem hlt] at h3
      injection h3 with h3
      apply hv
      rw [h3, List.getElem_take, List.getElem_drop]
      congr 1
      omega
    · have hd : ((b.set i v).drop 60).take 4 = (b.drop 60).take 4 := by
        rw [List.drop_set, if_neg h1, List.take_set, List.set_eq_of_length_le (by rw [List.length_take, List.length_drop]; omega)]
      rw [hd, ht, List.drop_set, if_neg h2, hc] at he
      have hs : b.take 60 ++ (b.drop 64).set (i - 64) v = (b.take 60 ++ b.drop 64).set (60 + (i - 64)) v := by
        rw [List.set_append_right _ _ (by rw [List.length_take]; omega)]
        congr 2
        rw [List.length_take]
        omega
      rw [hs] at he
      refine csum_set_ne (x := b.take 60 ++ b.drop 64) (i := 60 + (i - 64)) (by rw [List.length_append, List.length_take, List.length_drop]; omega) ?_ (le4_inj (csum_lt _) (csum_lt _) he).symm
      rw [List.getElem_append_right (by rw [List.length_take]; omega), List.getElem_drop]
      have e : 64 + (60 + (i - 64) - (b.take 60).length) = i := by rw [List.length_take]; omega
      simp only [e]
      exact hv
theorem dec_set {b : List UInt8} (hl : 64 ≤ b.length) (hc : RcClosed b) {i : Nat} (hi : i < b.length) {v : UInt8} (hv : v ≠ b[i]) : decRc (b.set i v) = none := by
  cases hd : decRc (b.set i v) with
  | none => rfl
  | some x => exact absurd (closed_of_dec hd) (not_closed_set hl hc hi hv)
/-- of a record whose number of blocks was spoilt nothing is told, whatever stands behind it -/
theorem dec_other_k {r : Rc} (hr : rcMay r = true) {i : Nat} {v : UInt8} {y : List UInt8} (hy : y.take 64 = ((rcBytes r).set i v).take 64) (hk : rcK y ≠ r.bl.length) : decRc y = none := by
  have hb := rcBytes_length hr
  obtain ⟨⟨_, _, _, h3, h6⟩, hi', hbl, hf⟩ := rcMay_iff.1 hr
  have hk6 : r.bl.length ≤ 6 := by have := loads_le r.its; omega
  have hkb := rcK_bytes hk6
  have e15 : i = 15 := by
    refine Classical.byContradiction fun hn => hk ?_
    rw [← (rcHd_take y).2, hy, (rcHd_take _).2, ← hkb]
    unfold rcK
    congr 1
    rw [List.drop_set]
    split
    · rfl
    · rw [List.take_set, List.set_eq_of_length_le (by rw [List.length_take]; omega)]
  subst e15
  cases hd : decRc y with
  | none => rfl
  | some x =>
    exfalso
    obtain ⟨r', s⟩ := x
    obtain ⟨he, hro, hfit⟩ := encRc_of_dec hd
    obtain ⟨hm', -, -⟩ := of_enc he
    obtain ⟨⟨_, _, _, g3, g6⟩, _, gbl, _⟩ := rcMay_iff.1 hm'
    have hn : rcN y = rcN (rcBytes r) := by
      have t : ∀ z : List UInt8, (z.drop 14).take 1 = ((z.take 64).drop 14).take 1 := fun z => by rw [List.drop_take, List.take_take]; rfl
      unfold rcN
      rw [t y, hy, ← t, List.drop_set, if_neg (by decide), List.take_set]
      rfl
    have hnr := rcN_bytes h6
    have hits : r'.its = r.its := by
      have h1 : r'.its = parse ((y.drop 16).take (7 * rcN y)) (rcN y) := by rw [hro]; rfl
      have h2 : (rcOf (rcBytes r)).its = parse (((rcBytes r).drop 16).take (7 * rcN (rcBytes r))) (rcN (rcBytes r)) := rfl
      rw [(rcOf_bytes hr).1] at h2
      have t : ∀ z : List UInt8, (z.drop 16).take (7 * rcN (rcBytes r)) = ((z.take 64).drop 16).take (7 * rcN (rcBytes r)) := fun z => by
        rw [List.drop_take, List.take_take, Nat.min_eq_left (by omega)]
      rw [h1, h2, hn, t y, hy, ← t, List.drop_set, if_pos (by decide)]
    have hk' : r'.bl.length = rcK y := by rw [hro]; exact rcBl_length _ _
    apply hk
    rw [← hk', gbl, hits, ← hbl]
theorem follow_bytes {d : Dk} {c : Cf} {q q1 : Ps} {r : Rc} {e : Int} (hd : d.Ok) (h : follow d c q = (some (r, q1), e)) : (1 ≤ q.o ∧ q.o ≤ c.l - 1) ∧ rcMay r = true ∧ gat d (c.at_ q.s + q.o) (1 + r.bl.length) = rcBytes r ∧ gerr d (c.at_ q.s + q.o) (1 + r.bl.length) = 0 ∧ q1.o = q.o + (1 + r.bl.length : Nat) := by
  unfold follow at h
  split at h
  · rename_i hq
    split at h
    · split at h
      · cases h
      · split at h
        · rename_i hg
          split at h
          · cases h
          · rename_i r' s hdec
            split at h
            · injection h with h1 h2
              injection h1 with h1
              injection h1 with h1 h3
              subst h1
              obtain ⟨he, -, -⟩ := encRc_of_dec hdec
              obtain ⟨hm, hb, -⟩ := of_enc he
              have hl := gat_len hd _ hg
              rw [hb, rcBytes_length hm] at hl
              have hn : sizeRc (d.read (c.at_ q.s + q.o)) = 1 + r'.bl.length := by omega
              rw [hn] at hb hg h3
              exact ⟨hq, hm, hb, hg, by rw [← h3]⟩
            · cases h
        · cases h
    · cases h
  · cases h
theorem gat_head {d : Dk} {a : Int} (hd : d.Ok) (he : d.err a = 0) : ∀ n, 1 ≤ n → (gat d a n).take 64 = d.read a
  | 1, _ => by rw [gat_one, List.take_of_length_le (by rw [Dk.read_64 hd he]; exact Nat.le_refl _)]
  | n + 2, _ => by
    have ih := gat_head hd he (n + 1) (by omega)
    have hlen : 64 ≤ (gat d a (n + 1)).length := by
      have := congrArg List.length ih
      rw [List.length_take, Dk.read_64 hd he] at this
      omega
    rw [gat_succ, List.take_append_of_le_length hlen, ih]
/-- a record of which a byte was spoilt does not follow -/
theorem follow_set {d d' : Dk} {c : Cf} {q q1 : Ps} {r : Rc} {e : Int} (hd : d.Ok) (h : follow d c q = (some (r, q1), e)) (hr : Rdy d') (h0 : 0 ≤ c.at_ q.s + q.o) (hs : c.at_ q.s + c.l ≤ d'.safe.length) {i : Nat} {v : UInt8} (hi : i < (rcBytes r).length) (hv : v ≠ (rcBytes r)[i])
    (hg : gat d' (c.at_ q.s + q.o) (1 + r.bl.length) = (rcBytes r).set i v) : follow d' c q = (none, 0) := by
  obtain ⟨hq, hm, hb, -, ho⟩ := follow_bytes hd h
  have hlen := rcBytes_length hm
  obtain ⟨_, _, ho2, _⟩ := follow_place h
  have he0 : d'.err (c.at_ q.s + q.o) = 0 := hr.err0 (has_of h0 (by omega))
  obtain ⟨n, hn⟩ : ∃ n, sizeRc (d'.read (c.at_ q.s + q.o)) = n := ⟨_, rfl⟩
  by_cases hz : n = 0 ∨ c.l < q.o + (n : Int)
  · exact follow_size hq rfl he0 hn hz
  · have hge : gerr d' (c.at_ q.s + q.o) n = 0 := rdy_gerr hr h0 n (by omega)
    have hh : ∀ m, 1 ≤ m → (gat d' (c.at_ q.s + q.o) m).take 64 = d'.read (c.at_ q.s + q.o) := gat_head hr.ok he0
    refine follow_dec hq rfl he0 hn hz hge ?_
    by_cases hk : n = 1 + r.bl.length
    · rw [hk, hg]
      exact dec_set (by omega) (closed_of_enc (enc_rc hm)) hi hv
    · refine dec_other_k hm (i := i) (v := v) (by rw [hh n (by omega), ← hh _ (by omega : 1 ≤ 1 + r.bl.length), hg]) ?_
      have hkn : rcK (gat d' (c.at_ q.s + q.o) n) + 1 = n := by
        rw [← (rcHd_take _).2, hh n (by omega)]
        have hn' := hn
        unfold sizeRc at hn'
        split at hn' <;> omega
      omega
theorem gat_write {d : Dk} {a : Int} {n j : Nat} (hr : Rdy d) (h0 : 0 ≤ a) (hs : a + n ≤ d.safe.length) (hj : j < n) {t : Nat} (ht : t < 64) {v : UInt8} : ∀ m : Nat, m ≤ n → gat (d.write (a + (j : Nat)) ((d.read (a + (j : Nat))).set t v)).1 a m = (gat d a m).set (64 * j + t) v
  | 0, _ => rfl
  | m + 1, hm => by
    have ih := gat_write hr h0 hs hj ht (v := v) m (by omega)
    have hge := rdy_gerr hr h0 m (by omega)
    have hl := gat_len hr.ok m hge
    have hhas : d.has (a + (j : Nat)) = true := has_of (by omega) (by omega)
    have h64 : (d.read (a + (j : Nat))).length = 64 := Dk.read_64 hr.ok (hr.err0 hhas)
    have h64' : ((d.read (a + (j : Nat))).set t v).length = 64 := by rw [List.length_set]; exact h64
    have hw := hr.write hhas h64'
    rw [gat_succ, gat_succ, ih]
    by_cases hmj : m = j
    · subst hmj
      rw [List.set_eq_of_length_le (by omega), List.set_append_right _ _ (by omega), hl, Nat.add_sub_cancel_left]
      congr 1
      refine hw.1.read_sec (has_of (by omega) (by rw [hw.2.2]; omega)) ?_
      rw [hw.2.1, List.getElem?_set_self (by rw [Dk.now_length]; omega)]
    · have hrd : (d.write (a + (j : Nat)) ((d.read (a + (j : Nat))).set t v)).1.read (a + (m : Nat)) = d.read (a + (m : Nat)) := by
        have := hr.write_agr hhas h64' (lo := a + (m : Nat)) (hi := a + (m : Nat) + 1) (by omega) (by omega) (a + (m : Nat)) (Int.le_refl _) (by omega)
        exact this.2
      rw [hrd]
      have h64m : (d.read (a + (m : Nat))).length = 64 := Dk.read_64 hr.ok (hr.err0 (has_of (by omega) (by omega)))
      by_cases hlt : m < j
      · rw [List.set_eq_of_length_le (by omega), List.set_eq_of_length_le (by rw [List.length_append]; omega)]
      · rw [List.set_append_left _ _ (by omega)]
/-- a bit of one record turned: those ahead of it are told -/
theorem Lg.broken {d : Dk} {c : Cf} {q0 q x : Ps} {r : Rc} {l1 l2 : List (Ps × Rc)} (h : Lg d c q0 (l1 ++ (x, r) :: l2) q) (hc : c.Ok) {j t : Nat} (hj : j < 1 + r.bl.length) (ht : t < 64) {v : UInt8} (hv : ∀ u, (d.read (c.at_ x.s + x.o + (j : Nat)))[t]? = some u → v ≠ u) :
    scanG (d.write (c.at_ x.s + x.o + (j : Nat)) ((d.read (c.at_ x.s + x.o + (j : Nat))).set t v)).1 c 65 q0 = (l1, x, 0) := by
  obtain ⟨qm, g1, g2⟩ := h.laid.cut
  cases g2 with
  | cons f1 f2 f3 =>
    obtain ⟨p1, p2⟩ := g1.place
    obtain ⟨p3, p4, p5, _⟩ := follow_place f1
    obtain ⟨p6, p7⟩ := f3.place
    obtain ⟨s1, s2, s3⟩ := Cf.sec c hc x.s (by rw [p1]; exact h.s0.1) (by rw [p1]; exact h.s0.2)
    obtain ⟨hq, hm, hb, hge, ho⟩ := follow_bytes h.rdy.ok f1
    have hl := h.len
    have hlen := rcBytes_length hm
    have ho0 := h.o0
    have ho1 := h.o1
    have hll := hc.2.2
    have hhas : d.has (c.at_ x.s + x.o + (j : Nat)) = true := has_of (by omega) (by omega)
    have h64 : (d.read (c.at_ x.s + x.o + (j : Nat))).length = 64 := Dk.read_64 h.rdy.ok (h.rdy.err0 hhas)
    have h64' : ((d.read (c.at_ x.s + x.o + (j : Nat))).set t v).length = 64 := by rw [List.length_set]; exact h64
    have hw := h.rdy.write hhas h64'
    have hgw := gat_write h.rdy (a := c.at_ x.s + x.o) (n := 1 + r.bl.length) (by omega) (by omega) hj ht (v := v) _ (Nat.le_refl _)
    rw [hb] at hgw
    have hi : 64 * j + t < (rcBytes r).length := by omega
    have hbt : ∀ m, m ≤ 1 + r.bl.length → j < m → (gat d (c.at_ x.s + x.o) m)[64 * j + t]? = (d.read (c.at_ x.s + x.o + (j : Nat)))[t]? := by
      intro m
      induction m with
      | zero => intro _ h; omega
      | succ m ih =>
        intro hm1 hm2
        have hlm := gat_len h.rdy.ok (a := c.at_ x.s + x.o) m (gerr_le hge (by omega))
        rw [gat_succ]
        by_cases e : j = m
        · subst e
          rw [List.getElem?_append_right (by omega), hlm, Nat.add_sub_cancel_left]
        · rw [List.getElem?_append_left (by omega), ih (by omega) (by omega)]
    have hv' : v ≠ (rcBytes r)[64 * j + t] := by
      refine hv _ ?_
      rw [← hbt _ (Nat.le_refl _) hj, hb, List.getElem?_eq_getElem hi]
    have hf := follow_set h.rdy.ok f1 hw.1 (by omega) (by rw [hw.2.2]; omega) hi hv' hgw
    have hla := g1.agr (h.rdy.write_agr hhas h64' (lo := c.at_ q0.s) (hi := c.at_ x.s + x.o) (by rw [← p1]; omega) (.inl (by omega))) (by omega) (by rw [p1]; exact Int.le_refl _)
    exact hla.told ho0 (by omega) hf
end Go.Kn
namespace Go.Kn
open Go Go.RowKit
theorem bits_xor_u8_nat (a b : Nat) (ha : a < 256) (hb : b < 256) : bits .xor .u8 (a : Int) (b : Int) = ((a ^^^ b : Nat) : Int) := by
  have hx : a ^^^ b < 2 ^ 8 := Nat.xor_lt_two_pow (by omega) (by omega)
  have h1 : (BitVec.ofInt 8 (a : Int)).toNat = a := by
    rw [BitVec.ofInt_natCast, BitVec.toNat_ofNat]; exact Nat.mod_eq_of_lt (by omega)
  have h2 : (BitVec.ofInt 8 (b : Int)).toNat = b := by
    rw [BitVec.ofInt_natCast, BitVec.toNat_ofNat]; exact Nat.mod_eq_of_lt (by omega)
  show IntKind.u8.wrap ((BitVec.ofInt 8 (a : Int) ^^^ BitVec.ofInt 8 (b : Int)).toNat : Int) = _
  rw [BitVec.toNat_xor, h1, h2]
  simp [IntKind.wrap, IntKind.signed, IntKind.bits]
  omega
theorem shl_u8 (k : Nat) (hk : k < 8) : IntKind.u8.wrap (2 ^ k) = ((2 ^ k : Nat) : Int) := by
  have h : ∀ k : Fin 8, IntKind.u8.wrap (2 ^ k.val) = ((2 ^ k.val : Nat) : Int) := by decide
  exact h ⟨k, hk⟩
theorem flip_byte (c : UInt8) (k : Nat) (hk : k < 8) : bits .xor .u8 (c.toNat : Int) (2 ^ k) = ((UInt8.ofNat (c.toNat ^^^ 2 ^ k)).toNat : Int) := by
  have h := bits_xor_u8_nat c.toNat (2 ^ k) c.toNat_lt (Nat.pow_lt_pow_right (by omega) hk)
  rw [UInt8.toNat_ofNat', Nat.mod_eq_of_lt (xor_pow_lt c k hk), ← h]
  simp
end Go.Kn
namespace Go.Kn
open Go Go.RowKit
/-- a gathered slice that is written no more: a fact -/
theorem Wc.gout {w0 w : World} {L : List (Nat × List Value)} {G : List Gs} {F : List (World → Prop)} {e n c : Nat} {A : Option Addr} {xs : List Value} (h : Wc w0 w L (⟨e, 1, .slice A n c, n, xs⟩ :: G) F) : Wc w0 w L G ((fun W => Row1 W A n c xs) :: F) := by
  have hr := (Row1.of_owns (h.gi 0 rfl)).1
  refine h.gdrop.addF _ (Row1.fc hr fun hn a ha hm => ?_)
  subst ha
  have hob : (Value.slice (some a) n c).ownBlock = some a.block := rfl
  rcases hm with hm | ⟨y, hy, hk⟩
  · obtain ⟨x, hx, e1⟩ := List.mem_map.1 hm
    exact h.g3 x hx _ List.mem_cons_self (by rw [hob, e1])
  · exact (List.pairwise_cons.1 h.g2).1 y hy _ hob hk
theorem ownsRow_zero {w : World} {b e sz n c g o : Nat} {p : Option Nat} {xs : List Value} (h : w.ownsRow b e sz (.slice (some ⟨g, o, p⟩) n c) n xs) : o = 0 ∧ p = none := by
  rcases h.2 with ⟨hv, _⟩ | ⟨g', cap, cur, hv, _⟩
  · cases hv
  · injection hv with e1
    injection e1 with e1
    injection e1 with e1 e2 e3
    exact ⟨e2, e3⟩
/-- where the records of a log stand -/
theorem Laid.first {d : Dk} {c : Cf} {q q' : Ps} {l : List (Ps × Rc)} (h : Laid d c q l q') : (l.map (·.1.o) ++ [q'.o])[0]? = some q.o := by
  cases h with
  | nil _ => rfl
  | cons h1 h2 h3 => rfl
theorem Lg.offs {d : Dk} {c : Cf} {q0 q x : Ps} {r : Rc} {l1 l2 : List (Ps × Rc)} (h : Lg d c q0 (l1 ++ (x, r) :: l2) q) (hc : c.Ok) :
    ((l1 ++ (x, r) :: l2).map (·.1.o) ++ [q.o])[l1.length]? = some x.o ∧ ((l1 ++ (x, r) :: l2).map (·.1.o) ++ [q.o])[l1.length + 1]? = some (x.o + (1 + r.bl.length : Nat)) ∧ x.s = q0.s ∧ 1 ≤ x.o ∧ x.o + (1 + r.bl.length : Nat) ≤ c.l - 1 ∧ r.bl.length ≤ 6 := by
  obtain ⟨qm, g1, g2⟩ := h.laid.cut
  cases g2 with
  | cons f1 f2 f3 =>
    obtain ⟨p1, p2⟩ := g1.place
    obtain ⟨p6, p7⟩ := f3.place
    obtain ⟨hq, hm, hb, hge, ho⟩ := follow_bytes h.rdy.ok f1
    obtain ⟨⟨_, _, _, _, h6⟩, _, hbl, _⟩ := rcMay_iff.1 hm
    have hf := f3.first
    have ho0 := h.o0
    have ho1 := h.o1
    rw [ho] at hf
    refine ⟨?_, ?_, p1, by omega, by omega, by have := loads_le r.its; omega⟩
    · rw [List.map_append, List.append_assoc, List.getElem?_append_right (by simp)]
      simp
    · rw [List.map_append, List.append_assoc, List.getElem?_append_right (by simp)]
      simp only [List.length_map, Nat.add_sub_cancel_left, List.map_cons, List.cons_append, List.getElem?_cons_succ]
      exact hf
theorem flip_ne (x : UInt8) (m : Nat) (hm : m < 8) : UInt8.ofNat (x.toNat ^^^ 2 ^ m) ≠ x := by
  intro h
  have h1 := congrArg UInt8.toNat h
  rw [UInt8.toNat_ofNat', Nat.mod_eq_of_lt (xor_pow_lt x m hm)] at h1
  have h2 := congrArg (fun z => z.testBit m) h1
  simp only [Nat.testBit_xor, Nat.testBit_two_pow_self] at h2
  cases hb : x.toNat.testBit m <;> rw [hb] at h2 <;> simp at h2
end Go.Kn
namespace Go.Proofs.YtgcfdjcpcclcjaaGreat
open Go Go.RowKit Go.Kn
theorem fnd_celli {w : World} {b e n c : Nat} {A : Option Addr} {xs : List Fnd} (h : w.ownsRow b e 6 (.slice A n c) n (fndV xs)) {i : Nat} (hi : i < xs.length) (hn : xs.length = n) : ∃ g, A = some ⟨g, 0, none⟩ ∧ w.cell? ⟨g, i * 6, none⟩ = some (.int .i64 xs[i].p.o) := by
  obtain ⟨h1, h2, h3⟩ := cells_owns h
  obtain ⟨g, rfl, hc⟩ := h3 (by omega)
  refine ⟨g, rfl, hc _ _ ?_⟩
  have := flatMap_get Fnd.one 6 (fun _ => rfl) xs i 0 hi (by decide)
  rw [Nat.add_zero] at this
  unfold fndV
  rw [this]
  rfl
section
variable {w0 w w' : World} {p : PD} {r : RD} {d e : Dk} {L : List (Nat × List Value)} {G : List Gs} {F : List (World → Prop)}
theorem Duo.gnew (h : Duo w0 w p r d e ⟨L, G, F⟩) (t sz : Nat) : Duo w0 w p r d e ⟨L, ⟨t, sz, .slice none 0 0, 0, []⟩ :: G, F⟩ := by
  obtain ⟨L0, G0, F0, hw, back⟩ := h.fr
  exact back w ⟨L, _ :: G, F⟩ (hw.gnew t sz)
theorem Duo.gapp (h : Duo w0 w p r d e ⟨L, G, F⟩) (i : Nat) {x : Gs} (hi : G[i]? = some x) {v' : Value} {n' : Nat} {ys : List Value} (ho : w'.ownsRow w0.heap.size x.e x.sz v' n' ys) (hg : w.grownBy w' x.v.ownBlock) (hat : v'.ownBlock = x.v.ownBlock ∨ v'.ownBlock = some w.heap.size) : Duo w0 w' p r d e ⟨L, G.set i ⟨x.e, x.sz, v', n', ys⟩, F⟩ := by
  obtain ⟨L0, G0, F0, hw, back⟩ := h.fr
  have hlt : i < G.length := (List.getElem?_eq_some_iff.1 hi).1
  have hw2 := hw.gapp i (x := x) (by show (G ++ G0)[i]? = _; rw [List.getElem?_append_left hlt]; exact hi) ho hg hat
  refine back _ ⟨L, G.set i ⟨x.e, x.sz, v', n', ys⟩, F⟩ ?_
  show Wc w0 w' (L ++ L0) (G.set i ⟨x.e, x.sz, v', n', ys⟩ ++ G0) (F ++ F0)
  rw [← List.set_append_left _ _ hlt]
  exact hw2
theorem Duo.gset (h : Duo w0 w p r d e ⟨L, G, F⟩) (i : Nat) {x : Gs} (hi : G[i]? = some x) {g : Nat} (hg : x.v.ownBlock = some g) (o : Nat) (u : Value) : Duo w0 (w.setCell ⟨g, o, none⟩ u) p r d e ⟨L, G.set i ⟨x.e, x.sz, x.v, x.n, x.xs.set o u⟩, F⟩ := by
  obtain ⟨L0, G0, F0, hw, back⟩ := h.fr
  have hlt : i < G.length := (List.getElem?_eq_some_iff.1 hi).1
  have hw2 := hw.gset i (x := x) (by show (G ++ G0)[i]? = _; rw [List.getElem?_append_left hlt]; exact hi) hg o u
  refine back _ ⟨L, G.set i ⟨x.e, x.sz, x.v, x.n, x.xs.set o u⟩, F⟩ ?_
  show Wc w0 _ (L ++ L0) (G.set i ⟨x.e, x.sz, x.v, x.n, x.xs.set o u⟩ ++ G0) (F ++ F0)
  rw [← List.set_append_left _ _ hlt]
  exact hw2
theorem Duo.gadd (h : Duo w0 w p r d e ⟨L, G, F⟩) (hO : Only [] w w') {t sz n : Nat} {v : Value} {xs : List Value} (ho : w'.ownsRow w.heap.size t sz v n xs) : Duo w0 w' p r d e ⟨L, ⟨t, sz, v, n, xs⟩ :: G, F⟩ := by
  obtain ⟨L0, G0, F0, hw, back⟩ := h.fr
  exact back w' ⟨L, _ :: G, F⟩ (hw.gadd hO ho)
theorem Duo.gdrop {x : Gs} (h : Duo w0 w p r d e ⟨L, x :: G, F⟩) : Duo w0 w p r d e ⟨L, G, F⟩ := by
  obtain ⟨L0, G0, F0, hw, back⟩ := h.fr
  exact back w ⟨L, G, F⟩ hw.gdrop
theorem Duo.gout {t n c : Nat} {A : Option Addr} {xs : List Value} (h : Duo w0 w p r d e ⟨L, ⟨t, 1, .slice A n c, n, xs⟩ :: G, F⟩) : Duo w0 w p r d e ⟨L, G, (fun W => Row1 W A n c xs) :: F⟩ := by
  obtain ⟨L0, G0, F0, hw, back⟩ := h.fr
  exact back w ⟨L, G, _ :: F⟩ hw.gout
theorem Duo.gown {t sz n g c : Nat} {xs : List Value} (h : Duo w0 w p r d e ⟨L, ⟨t, sz, .slice (some ⟨g, 0, none⟩) n c, n, xs⟩ :: G, F⟩) : Kn.Own w g xs := by
  obtain ⟨L0, G0, F0, hw, back⟩ := h.fr
  exact (Wc.gbox hw).boxi 0 rfl
theorem Duo.gform (h : Duo w0 w p r d e ⟨L, G, F⟩) (i : Nat) {t sz n : Nat} {v : Value} {xs : List Value} (hi : G[i]? = some ⟨t, sz, v, n, xs⟩) : ∃ A c, v = .slice A n c := by
  obtain ⟨L0, G0, F0, hw, back⟩ := h.fr
  have hlt : i < G.length := (List.getElem?_eq_some_iff.1 hi).1
  exact hw.gform i (by show (G ++ G0)[i]? = _; rw [List.getElem?_append_left hlt]; exact hi)
theorem Duo.gi (h : Duo w0 w p r d e ⟨L, G, F⟩) (i : Nat) {x : Gs} (hi : G[i]? = some x) : w.ownsRow w0.heap.size x.e x.sz x.v x.n x.xs := h.row (List.mem_of_getElem? hi)
/-- the cells of a gathered row of single cells -/
theorem Duo.grow (h : Duo w0 w p r d e ⟨L, G, F⟩) (i : Nat) {t n c : Nat} {A : Option Addr} {xs : List Value} (hi : G[i]? = some ⟨t, 1, .slice A n c, n, xs⟩) : Row1 w A n c xs := (Row1.of_owns (h.gi i hi)).1
theorem duo_read_own (h : Duo w0 w p r d e ⟨L, G, F⟩) (a : Int) :
    Calls Tryz.prog 23 #[.pointer (some ⟨p.D, 0, none⟩), .int .i64 a] w fun en w' => ∃ A n c, en = .returned (.tuple #[.slice A n c, .int .i64 (d.err a)]) ∧ Duo w0 w' p r d e ⟨L, ⟨5, 1, .slice A n c, n, bvs (d.read a)⟩ :: G, F⟩ ∧ Only [] w w' := by
  obtain ⟨L0, G0, F0, hw, hd, back⟩ := h.dk
  refine (dk_read_own w p d a (hd.rd (fun x hx => hw.own x (List.mem_append_right _ hx)) (fun x hx => hx))).mono ?_
  rintro en w1 ⟨v, n, rfl, ho, hO⟩
  have hw2 := hw.gadd hO ho
  obtain ⟨A, c, rfl⟩ := hw2.gform 0 rfl
  exact ⟨A, n, c, rfl, back w1 ⟨L, _ :: G, F⟩ hw2, hO⟩
theorem duo_write {c : Fr3} (h : Duo w0 w p r d e c) (a : Int) (A : Option Addr) (n cc : Nat) (b : List UInt8) (hb : (fun W => Bys W A n cc b) ∈ c.F) (hh : d.held.length ≤ 1000000) :
    Calls Tryz.prog 24 #[.pointer (some ⟨p.D, 0, none⟩), .int .i64 a, .slice A n cc] w fun en w' => en = .returned (.int .i64 (d.write a b).2) ∧ Duo w0 w' p r (d.write a b).1 e c := by
  obtain ⟨c1, hF, hP, back⟩ := h.ofP
  refine (dk_write_any w0 w p d c1 a A n cc b hP (hF _ hb) hh).mono ?_
  rintro en w1 ⟨rfl, h1⟩
  exact ⟨rfl, back _ _ h1⟩
end
end Go.Proofs.YtgcfdjcpcclcjaaGreat
namespace Go.Kn
open Go Go.RowKit
/-- a record of a lower Mount stands at a place -/
def Low (d : Dk) (c : Cf) (q : Ps) : Prop := ∃ r : Rc, rcMay r = true ∧ r.bl = [] ∧ gat d (c.at_ q.s + q.o) 1 = rcBytes r ∧ gerr d (c.at_ q.s + q.o) 1 = 0 ∧ r.m < q.m
theorem Low.none_ {d : Dk} {c : Cf} {q : Ps} (h : Low d c q) : follow d c q = (none, 0) := by
  obtain ⟨r, hm, hb, hg, he, hl⟩ := h
  by_cases hin : 1 ≤ q.o ∧ q.o ≤ c.l - 1
  · have hlen := rcBytes_length hm
    rw [hb] at hlen
    have hs := sizeRc_laid hm
    rw [hb, List.take_of_length_le (by rw [hlen]; decide)] at hs
    rw [gat_one] at hg
    have he2 := he
    rw [gerr_one] at he2
    have hsz : sizeRc (d.read (c.at_ q.s + q.o)) = 1 := by rw [hg]; exact hs
    rw [follow_rec hin rfl he2 hsz (by omega) he (by rw [gat_one, hg]; exact dec_rc hm), if_neg (by intro h; omega)]
  · exact follow_out hin
theorem Low.agr {d d' : Dk} {c : Cf} {q : Ps} {lo hi : Int} (h : Low d c q) (ha : Agr d d' lo hi) (h1 : lo ≤ c.at_ q.s + q.o) (h2 : c.at_ q.s + q.o + 1 ≤ hi) : Low d' c q := by
  obtain ⟨r, hm, hb, hg, he, hl⟩ := h
  obtain ⟨e1, e2⟩ := gat_agr ha h1 1 (by omega)
  exact ⟨r, hm, hb, e1.trans hg, e2.trans he, hl⟩
structure Mt (d : Dk) (c : Cf) (q0 q : Ps) (want : Nat) (down : Bool) : Prop where
  rdy : Rdy d
  len : (d.safe.length : Int) = c.sectors
  zs : ∀ x, c.at_ q.s + q.o ≤ x → x < c.at_ q.s + c.l → d.read x = List.replicate 64 0
  s : q.s = q0.s
  o0 : 1 ≤ q0.o ∧ q0.o + want ≤ q.o
  o1 : q.o ≤ c.l - 1
  s0 : 0 ≤ q0.s ∧ q0.s ≤ c.s - 1
  st : (down = false ∧ ∃ l : List (Ps × Rc), l.length = want ∧ Laid d c q0 l q ∧ q.o = q0.o + want) ∨ (down = true ∧ ∃ (l : List (Ps × Rc)) (qf : Ps), l.length = want ∧ Laid d c q0 l qf ∧ qf.o = q0.o + want ∧ Low d c qf ∧ qf.o + 1 ≤ q.o)
theorem Mt.start {d : Dk} {c : Cf} {q0 q : Ps} (h : Lg d c q0 [] q) (hq : q = q0) : Mt d c q0 q 0 false := by
  subst hq
  exact ⟨h.rdy, h.len, h.zs, rfl, ⟨h.o0, by simp⟩, h.o1, h.s0, .inl ⟨rfl, [], rfl, h.laid, by simp⟩⟩
theorem Mt.scan {d : Dk} {c : Cf} {q0 q : Ps} {want : Nat} {down : Bool} (h : Mt d c q0 q want down) (hc : c.Ok) : ∃ (l : List (Ps × Rc)) (qf : Ps), scanG d c 65 q0 = (l, qf, 0) ∧ l.length = want ∧ qf.o = q0.o + want := by
  have hll := hc.2.2
  have ho1 := h.o1
  obtain ⟨ho0, ho2⟩ := h.o0
  rcases h.st with ⟨rfl, l, h1, h2, h3⟩ | ⟨rfl, l, qf, h1, h2, h3, h4, h5⟩
  · refine ⟨l, q, h2.told ho0 (by omega) ?_, h1, h3⟩
    obtain ⟨g1, g2, g3⟩ := Cf.sec c hc q.s (by rw [h.s]; exact h.s0.1) (by rw [h.s]; exact h.s0.2)
    have hl := h.len
    exact follow_zero (h.rdy.err0 (has_of (by omega) (by omega))) (h.zs _ (Int.le_refl _) (by omega))
  · exact ⟨l, qf, h2.told ho0 (by omega) h4.none_, h1, h3⟩
theorem rcSum_lt {r : Rc} (h : rcMay r = true) : rcSum r < 4294967296 := (enc_some (enc_rc h)).2.2.2.2.2.2.2
end Go.Kn
namespace Go.Kn
open Go Go.RowKit
section
variable {P : Program} {ops : Array Oper} {Q : Exit → Act → World → Prop} {S : World → Prop} {fuel : Nat} {listed : Array Bool} {a : Act} {w : World}
/-- an operation that only reads -/
theorem takeS (i : Nat) (oi : Oper) {v : Value} {a' : Act} (h : wpAnyH P .any ops Q S fuel (listed.setIfInBounds i true) a' w)
    (hi : ops[i]? = some oi := by rfl) (hw : Region.wanted oi (yielded ops a.tmps) = true := by rfl)
    (hy : ∀ w, S w → (execOp a.eval oi).run P w = .ok (.value v) w := by (intro w hSw; (try dsimp only at hSw); go_simp; all_goals (try with_reducible rfl)))
    (hs : Region.noSelect ops = true := by kernel_rfl) (hf : Region.free .any ops listed i = true := by kernel_rfl) (hr : (Region.ready .any ops listed).contains i = true := by kernel_rfl)
    (hQ : ∀ c a w, Q (.panic c) (a.put oi.dst v) w → Q (.panic c) a w := by exact fun _ _ _ h => h) (hS : S w := by assumption)
    (ha : a.put oi.dst v = a' := by (simp only [Act.put, List.setIfInBounds_toArray, List.set_cons_zero, List.set_cons_succ]; try rfl)) : wpAnyH P .any ops Q S (fuel + 1) listed a w := by
  subst ha
  exact wpAnyH_take hi hs hf hr hQ (.inl ⟨hw, hy⟩) hS h
/-- one that must come next -/
theorem takeR (i : Nat) (o : Oper) (h : ∀ K' : Act → World → Prop, Shut (∀ a w, S w → (S w → wpAnyH P .any ops Q S fuel (listed.setIfInBounds i true) a w) → K' a w) → if Region.wanted o (yielded ops a.tmps) = true then Oper.wp P o a w K' Q else K' (a.put o.dst undef) w)
    (ho : ops[i]? = some o := by rfl) (hr : Region.ready .any ops listed = [i] := by kernel_rfl) : wpAnyH P .any ops Q S (fuel + 1) listed a w :=
  wpAnyH_ready hr (by simp) (AllReadyH.cons ho h AllReadyH.nil)
end
end Go.Kn
