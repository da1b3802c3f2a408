/- ScnF, ScnG, ScnH, RecH, ScnK, ScnL, GeoC, ScnN, LogP, LogQ, ScnO, ScnQ, LogR, Awake13, Frame, FrameK, StpP, BrkQ, MntP, ScpP, TbP, ChnP, RingP, WrP, UsA, WrA, KitF, WrB, ChnA: joined by pack.py, without what the claim does not use. -/
import Derived.Test.YtgcfdjcpcclcjaaGreatWriterBackD
set_option linter.unusedVariables false
set_option linter.unusedSimpArgs false
namespace Go.Kn
open Go Go.RowKit
/-- a record that was told, and where it stands -/
structure Fnd where
 p : Ps
 r : Rc
 s : Option Addr × Nat × Nat
 t : Option Addr × Nat × Nat
def Fnd.enc (x : Fnd) : Array Value := #[.agg #[.int .i64 x.p.s, .int .i64 x.p.o, .int .i64 x.p.l, .int .i64 x.p.p, .int .i64 x.p.m], .agg (x.r.cells x.s x.t)]
def Fnd.fct (x : Fnd) : World → Prop := fun W => RcAt W x.r x.s x.t
def Fnd.pr (x : Fnd) : Ps × Rc := (x.p, x.r)
theorem scanG_some {d : Dk} {c : Cf} {k : Nat} {p q : Ps} {r : Rc} {e : Int} (h : follow d c p = (some (r, q), e)) : scanG d c (k + 1) p = if (nextOf r).isSome then ([(p, r)], q, 0) else ((p, r) :: (scanG d c k q).1, (scanG d c k q).2) := by
 rw [scanG, h]
theorem scanG_none {d : Dk} {c : Cf} {k : Nat} {p : Ps} {e : Int} (h : follow d c p = (none, e)) : scanG d c (k + 1) p = ([], p, e) := by
 rw [scanG, h]
theorem follow_place {d : Dk} {c : Cf} {p q : Ps} {r : Rc} {e : Int} (h : follow d c p = (some (r, q), e)) : q.s = p.s ∧ p.o < q.o ∧ q.o ≤ c.l ∧ e = 0 := by
 unfold follow at h
 split at h
 ·split at h
  ·split at h
   ·cases h
   ·rename_i hs
    split at h
    ·split at h
     ·cases h
     ·split at h
      ·injection h with h1 h2
       injection h1 with h1
       injection h1 with h1 h3
       subst h3
       simp only
       refine ⟨trivial, ?_, ?_, h2.symm⟩ <;> omega
      ·cases h
    ·cases h
  ·cases h
 ·cases h
theorem scanG_len (d : Dk) (c : Cf) : ∀ (k : Nat) (p : Ps), (scanG d c k p).1.length ≤ k
 | 0, _ => Nat.zero_le _
 | k + 1, p => by
  have ih := scanG_len d c k
  rcases h : follow d c p with ⟨_ | ⟨r, q⟩, e⟩
  ·rw [scanG_none h]; simp
  ·rw [scanG_some h]
   split
   ·simp
   ·simpa using ih q
theorem scanR_len (d : Dk) (c : Cf) (own : Bool) (p : Ps) : (scanR d c own p).1.length ≤ 65 := by
 unfold scanR
 split
 ·exact scanG_len _ _ _ _
 ·simp
/-- where a scan may begin -/
theorem scanB_place {d : Dk} {c : Cf} {own : Bool} {p : Ps} (hc : c.Ok) (h : (scanB d c own p).2.1 = true) : (0 ≤ (scanB d c own p).1.s ∧ (scanB d c own p).1.s ≤ c.s - 1) ∧ 1 ≤ (scanB d c own p).1.o ∧ (scanB d c own p).1.o ≤ 64 ∧ (scanB d c own p).2.2 = 0 := by
 have hl := hc.2.2
 unfold scanB at h ⊢
 split
 ·rename_i hp
  split
  ·refine ⟨hp.1, ?_, ?_, rfl⟩ <;> simp only <;> omega
  ·split
   ·split
    ·rename_i h1 h2 h3 h4
     rw [if_pos hp, if_neg h1, if_pos h2, h4] at h
     cases h
    ·rename_i h1 h2 h3 hd h4
     split
     ·exact ⟨hp.1, by simp, by simp, rfl⟩
     ·rename_i h5
      rw [if_pos hp, if_neg h1, if_pos h2, h4] at h
      simp only at h
      rw [if_neg h5] at h
      cases h
   ·rename_i h1 h2
    rw [if_pos hp, if_neg h1, if_neg h2] at h
    cases h
 ·rename_i hp
  rw [if_neg hp] at h
  cases h
theorem at3_mk {w0 w : World} {L L' : List (Nat × List Value)} {G G' : List Gs} {fs F F' : List (World → Prop)} (h : Wc w0 w (L ++ L') (G ++ G') (fs ++ (F ++ F'))) : At3 w0 w ⟨L, G, fs ++ F⟩ ⟨L', G', F'⟩ := by
 show Wc w0 w _ _ ((fs ++ F) ++ F')
 rw [List.append_assoc]
 exact h
theorem at3_get {w0 w : World} {L : List (Nat × List Value)} {G : List Gs} {fs F : List (World → Prop)} {c : Fr3} (h : At3 w0 w ⟨L, G, fs ++ F⟩ c) : Wc w0 w (L ++ c.L) (G ++ c.G) (fs ++ (F ++ c.F)) := by
 have h2 : Wc w0 w (L ++ c.L) (G ++ c.G) ((fs ++ F) ++ c.F) := h
 rwa [List.append_assoc] at h2
def offAt (w : World) (b : Nat) : Nat := match w.cell? ⟨b, 1, none⟩ with | some (.int _ o) => o.toNat | _ => 0
theorem offAt_eq {w : World} {b : Nat} {k : IntKind} {o : Int} (h : w.cell? ⟨b, 1, none⟩ = some (.int k o)) : offAt w b = o.toNat := by
 unfold offAt
 rw [h]
end Go.Kn
namespace Go.Proofs.YtgcfdjcpcclcjaaGreat
open Go Go.RowKit Go.Kn
attribute [local go_sem] Oper.semAt_some
section
variable (S D gb : Nat) (d : Dk) (cf : Cf) (p : Ps) (own : Bool) (L : List (Nat × List Value)) (G : List Gs) (F : List (World → Prop))
def PlPre (pre : List Fnd) (x : Fnd) (φ : Fr3) : Prop := ∃ (b3 : Nat) (q : Ps) (fs : List (World → Prop)), φ = ⟨(S, SB D gb p own q 0) :: (b3, [.int .i64 x.p.s, .int .i64 x.p.o, .int .i64 x.p.l, .int .i64 x.p.p, .int .i64 x.p.m]) :: L, G, fs ++ F⟩ ∧ (∀ y ∈ pre ++ [x], y.fct ∈ fs) ∧ (pre ++ [x]).map Fnd.pr <+: (scanR d cf own p).1 ∧ Kn.follow d cf x.p = (some (x.r, q), 0)
def PlFin (xs : List Fnd) (φ : Fr3) : Prop := ∃ fs : List (World → Prop), φ = ⟨(S, SB D gb p own (scanR d cf own p).2.1 (scanR d cf own p).2.2) :: L, G, fs ++ F⟩ ∧ (∀ y ∈ xs, y.fct ∈ fs) ∧ xs.map Fnd.pr = (scanR d cf own p).1
def PlFix (pre : List Fnd) (φ : Fr3) : Prop := ∃ (e : Ps) (fs : List (World → Prop)), φ = ⟨(S, SB D gb p own e 0) :: L, G, fs ++ F⟩ ∧ (∀ y ∈ pre, y.fct ∈ fs) ∧ pre.map Fnd.pr <+: (scanR d cf own p).1 ∧ ∃ pre' x, pre = pre' ++ [x] ∧ Kn.follow d cf x.p = (some (x.r, e), 0)
end
set_option maxRecDepth 100000 in
set_option maxHeartbeats 8000000 in
theorem places1_seq (w0 W : World) (S b1 gb : Nat) (pd : PD) (d : Dk) (cf : Cf) (p : Ps) (own : Bool) (e : Ps) (er : Int) (L : List (Nat × List Value)) (G : List Gs) (F : List (World → Prop)) (n : Nat) (hn : 1 ≤ n)
  (hd : DkIn pd d L) (hb1 : (b1, [.pointer (some ⟨S, 0, none⟩)]) ∈ L) (hg : (fun W => GeoAt W gb cf.b cf.s cf.l) ∈ F) (hc : cf.Ok) :
  SeqW Fence.wide n Tryz.prog 151 #[.pointer (some ⟨b1, 0, none⟩)] Fnd.enc (PlPre S pd.D gb d cf p own L G F) (PlFin S pd.D gb d cf p own L G F) (PlFix S pd.D gb d cf p own L G F) 65 w0 W ⟨(S, SB pd.D gb p own e er) :: L, G, F⟩ := by
 intro l J c0 hJc hY hJ0 hA
 have hA' : Wc w0 W ((S, SB pd.D gb p own e er) :: (L ++ c0.L)) (G ++ c0.G) (F ++ c0.F) := hA
 have c1 : W.cell? ⟨b1, 0, none⟩ = some (.pointer (some ⟨S, 0, none⟩)) := (hA'.own _ (List.mem_cons_of_mem _ (List.mem_append_left _ hb1))).cell 0 (by simp)
 have HA := Lib.hid hA'
 have HB1 := Lib.hid hb1
 have HDK := Lib.hid hd
 have HG := Lib.hid hg
 have HC := Lib.hid hc
 clear hA hA' hd hg hb1
 refine callsIn_of_wp Tryz.func151 rfl trivial ?_ rfl
 simp only [Tryz.ntmps151, List.size_toArray, List.length_cons, List.length_nil, Nat.reduceAdd, Nat.reduceSub, Array.replicate_succ, Array.replicate_zero, List.push_toArray, List.append_toArray, List.nil_append, List.cons_append]
 gi_wp2_with fail
 refine ⟨trivial, callsIn_wide.2 ((scan_begin_any w0 W S gb pd d cf p own e er (L ++ c0.L) (G ++ c0.G) (F ++ c0.F) (Wk.start HA.out) (HDK.out.mono (fun x hx => List.mem_append_left _ hx)) (List.mem_append_left _ HG.out) HC.out).mono ?_)⟩
 rintro en w1 ⟨rfl, hw1⟩
 obtain ⟨⟨pj, ok, er2⟩, hbg⟩ : ∃ x, scanB d cf own p = x := ⟨_, rfl⟩
 rw [hbg] at hw1 ⊢
 simp only at hw1 ⊢
 have HW1 := Lib.hid hw1
 clear hw1 c1 HA
 have bS := HW1.out.boxi 0 (p := S) rfl
 have s8 := bS.cell 8 (by simp [SB])
 have s9 := bS.cell 9 (by simp [SB])
 have s10 := bS.cell 10 (by simp [SB])
 have s11 := bS.cell 11 (by simp [SB])
 have s12 := bS.cell 12 (by simp [SB])
 simp only [SB, List.getElem_cons_zero, List.getElem_cons_succ] at s8 s9 s10 s11 s12
 have z8 := bS.frozen 8
 have z9 := bS.frozen 9
 have z10 := bS.frozen 10
 have z11 := bS.frozen 11
 have z12 := bS.frozen 12
 have lS := bS.lt
 have bB := HW1.out.own _ (List.mem_cons_of_mem _ (List.mem_append_left _ HB1.out))
 have c1 := bB.cell 0 (by simp)
 have lB := bB.lt
 simp only [List.getElem_cons_zero] at c1
 gi_wp2_with fail
 have hw2 : Wk w0 W ((((((w1.setCell ⟨S, 8, none⟩ (.int .i64 pj.s)).setCell ⟨S, 9, none⟩ (.int .i64 pj.o)).setCell ⟨S, 10, none⟩ (.int .i64 pj.l)).setCell ⟨S, 11, none⟩ (.int .i64 pj.p)).setCell ⟨S, 12, none⟩ (.int .i64 pj.m)).alloc (.cells #[.int .i64 pj.s, .int .i64 pj.o, .int .i64 pj.l, .int .i64 pj.p, .int .i64 pj.m] 32)) ((S, SB pd.D gb p own pj er2) :: (w1.heap.size, [.int .i64 pj.s, .int .i64 pj.o, .int .i64 pj.l, .int .i64 pj.p, .int .i64 pj.m]) :: (L ++ c0.L)) (G ++ c0.G) (F ++ c0.F) :=
  ((((((HW1.out.put 0 (p := S) rfl 8 (.int .i64 pj.s)).put 0 (p := S) rfl 9 (.int .i64 pj.o)).put 0 (p := S) rfl 10 (.int .i64 pj.l)).put 0 (p := S) rfl 11 (.int .i64 pj.p)).put 0 (p := S) rfl 12 (.int .i64 pj.m)).newB #[.int .i64 pj.s, .int .i64 pj.o, .int .i64 pj.l, .int .i64 pj.p, .int .i64 pj.m] 32 (by simp)).perm (List.Perm.swap _ _ _) (List.Perm.refl _)
 have HW2 := Lib.hid hw2
 clear hw2 bS bB c1 lB lS s8 s9 s10 s11 s12 z8 z9 z10 z11 z12 HW1
 generalize (((((w1.setCell ⟨S, 8, none⟩ (.int .i64 pj.s)).setCell ⟨S, 9, none⟩ (.int .i64 pj.o)).setCell ⟨S, 10, none⟩ (.int .i64 pj.l)).setCell ⟨S, 11, none⟩ (.int .i64 pj.p)).setCell ⟨S, 12, none⟩ (.int .i64 pj.m)).alloc (.cells #[.int .i64 pj.s, .int .i64 pj.o, .int .i64 pj.l, .int .i64 pj.p, .int .i64 pj.m] 32) = w2 at *
 generalize w1.heap.size = b3 at *
 have hs2 : W.heap.size ≤ w2.heap.size := HW2.out.hs
 have hJ2 : J none [] c0 w2 := hJc _ _ _ _ _ hJ0 HW2.out.kb
 gi_loopw [4] (fun t4 wr => ∃ (pre : List Fnd) (c : Fr3) (fs : List (World → Prop)) (pj : Ps) (ok : Bool) (er : Int) (k : Nat), t4 = .bool ok ∧ Wc w0 wr ((S, SB pd.D gb p own pj er) :: (b3, [.int .i64 pj.s, .int .i64 pj.o, .int .i64 pj.l, .int .i64 pj.p, .int .i64 pj.m]) :: (L ++ c.L)) (G ++ c.G) (fs ++ (F ++ c.F)) ∧ (∀ y ∈ pre, y.fct ∈ fs) ∧ J none pre c wr ∧ W.heap.size ≤ wr.heap.size ∧
  ((ok = true ∧ er = 0 ∧ scanR d cf own p = (pre.map Fnd.pr ++ (scanG d cf k pj).1, (scanG d cf k pj).2) ∧ 65 ≤ (k : Int) + pj.o ∧ 1 ≤ pj.o ∧ pj.o ≤ 64 ∧ 0 ≤ pj.s ∧ pj.s ≤ cf.s - 1) ∨ (ok = false ∧ scanR d cf own p = (pre.map Fnd.pr, pj, er)))) (fun _ wr => 65 - offAt wr b3)
 case atStart =>
  refine ⟨[], c0, [], pj, ok, er2, 65, rfl, HW2.out.toWc, by simp, hJ2, hs2, ?_⟩
  cases ok with
  | true =>
   have hpl := scanB_place (d := d) (own := own) (p := p) HC.out (by rw [hbg])
   rw [hbg] at hpl
   obtain ⟨⟨h1, h2⟩, h3, h4, h5⟩ := hpl
   simp only at h1 h2 h3 h4 h5
   refine .inl ⟨rfl, h5, ?_, by omega, h3, h4, h1, h2⟩
   unfold scanR
   rw [hbg]
   simp
  | false =>
   refine .inr ⟨rfl, ?_⟩
   unfold scanR
   rw [hbg]
   simp
 case round =>
  clear HW2 hs2 hJ2
  obtain ⟨pre, c, fs, pj, ok, er, k, rfl, hw, hfs, hJp, hsz, hst⟩ := hrel
  rcases hst with ⟨rfl, rfl, hsc, hk65, ho1, ho64, hs0, hs1⟩ | ⟨rfl, hsc⟩
  ·have HW := Lib.hid (Wk.start hw)
   have HS := Lib.hid hsc
   have HFS := Lib.hid hfs
   have HOF2 : Hid (offAt wr b3 = pj.o.toNat) := Lib.hid (offAt_eq (k := .i64) (by simpa using (HW.out.boxi 1 rfl).cell 1 (by simp)))
   have bS := HW.out.boxi 1 rfl
   obtain ⟨p0, p1, p2, p3, p4⟩ := Kn.own5 bS
   have c1 := Kn.own1 (HW.out.own _ (List.mem_cons_of_mem _ (List.mem_cons_of_mem _ (List.mem_append_left _ HB1.out))))
   clear hw bS hsc hfs
   gi_wp2_with fail
   refine ⟨trivial, callsIn_wide.2 ((scan_one_any w0 wr S gb pd d cf p own pj pj (_ :: (L ++ c.L)) (G ++ c.G) (fs ++ (F ++ c.F)) HW.out (HDK.out.mono (fun x hx => List.mem_cons_of_mem _ (List.mem_append_left _ hx))) (List.mem_append_right _ (List.mem_append_left _ HG.out)) HC.out ⟨ho1, ho64⟩ ⟨hs0, hs1⟩).mono ?_)⟩
   obtain ⟨x, hfo⟩ : ∃ x, Kn.follow d cf pj = x := ⟨_, rfl⟩
   have HFO := Lib.hid hfo
   rw [hfo]
   clear hfo HW p0 p1 p2 p3 p4 c1
   rcases x with ⟨_ | ⟨r, q⟩, e1⟩
   ·rintro en w3 ⟨rfl, hw3⟩
    have HW3 := Lib.hid hw3
    clear hw3
    gi_wp2_with fail
    obtain ⟨k, rfl⟩ : ∃ k', k = k' + 1 := ⟨k - 1, by omega⟩
    have he : scanR d cf own p = (pre.map Fnd.pr, pj, e1) := by rw [HS.out, scanG_none HFO.out, List.append_nil]
    have hO4 : Only [] w3 ((w3.alloc (.cells #[.int .i64 0, .int .i64 0, .int .i64 0, .slice none 0 0, .slice none 0 0] 56)).alloc (.cells #[.int .i64 0, .int .i64 0, .int .i64 0, .int .i64 0, .int .i64 0] 32)) := ((Only.refl _ _).alloc _).alloc _
    have hw4 := HW3.out.keep0 hO4
    refine bodyPost_ret (results_none rfl _ _ _) rfl ⟨⟨_, rfl⟩, Nat.le_trans hsz hw4.hs, ⟨(S, SB pd.D gb p own pj e1) :: L, G, fs ++ F⟩, c, ?_, .inl ⟨pre, ⟨fs, by rw [he], HFS.out, by rw [he]⟩, hJc _ _ _ _ _ hJp (hw4.kb.mono hsz)⟩⟩
    exact at3_mk (hw4.sub (L' := (S, SB pd.D gb p own pj e1) :: (L ++ c.L)) (F' := fs ++ (F ++ c.F)) (.cons_cons _ (.cons _ (List.Sublist.refl _))) (fun f hf => hf)).toWc
   ·rintro en w3 ⟨⟨s1, s2, s3⟩, ⟨t1, t2, t3⟩, rfl, hw3⟩
    have HW3 := Lib.hid hw3
    clear hw3
    have bS := HW3.out.boxi 0 (p := S) rfl
    have s8 := bS.cell 8 (by simp [SB])
    have s9 := bS.cell 9 (by simp [SB])
    have s10 := bS.cell 10 (by simp [SB])
    have s11 := bS.cell 11 (by simp [SB])
    have s12 := bS.cell 12 (by simp [SB])
    simp only [SB, List.getElem_cons_zero, List.getElem_cons_succ] at s8 s9 s10 s11 s12
    have z8 := bS.frozen 8
    have z9 := bS.frozen 9
    have z10 := bS.frozen 10
    have z11 := bS.frozen 11
    have z12 := bS.frozen 12
    have lS := bS.lt
    have bB := HW3.out.own _ (List.mem_cons_of_mem _ (List.mem_cons_of_mem _ (List.mem_append_left _ HB1.out)))
    have c1 := bB.cell 0 (by simp)
    have lB := bB.lt
    simp only [List.getElem_cons_zero] at c1
    simp only [Rc.cells, slv]
    gi_wp2_with fail
    have hw4 : Wk w0 wr (((((((w3.setCell ⟨S, 8, none⟩ (.int .i64 q.s)).setCell ⟨S, 9, none⟩ (.int .i64 q.o)).setCell ⟨S, 10, none⟩ (.int .i64 q.l)).setCell ⟨S, 11, none⟩ (.int .i64 q.p)).setCell ⟨S, 12, none⟩ (.int .i64 q.m)).alloc (.cells #[.int .i64 r.m, .int .i64 r.n, .int .i64 r.p, .slice s1 s2 s3, .slice t1 t2 t3] 56)).alloc (.cells #[.int .i64 q.s, .int .i64 q.o, .int .i64 q.l, .int .i64 q.p, .int .i64 q.m] 32)) ((w3.heap.size + 1, [.int .i64 q.s, .int .i64 q.o, .int .i64 q.l, .int .i64 q.p, .int .i64 q.m]) :: (w3.heap.size, [.int .i64 r.m, .int .i64 r.n, .int .i64 r.p, .slice s1 s2 s3, .slice t1 t2 t3]) :: (S, SB pd.D gb p own q 0) :: (b3, [.int .i64 pj.s, .int .i64 pj.o, .int .i64 pj.l, .int .i64 pj.p, .int .i64 pj.m]) :: (L ++ c.L)) (G ++ c.G) ((fun W => RcAt W r (s1, s2, s3) (t1, t2, t3)) :: (fs ++ (F ++ c.F))) :=
     ((((((HW3.out.put 0 (p := S) rfl 8 (.int .i64 q.s)).put 0 (p := S) rfl 9 (.int .i64 q.o)).put 0 (p := S) rfl 10 (.int .i64 q.l)).put 0 (p := S) rfl 11 (.int .i64 q.p)).put 0 (p := S) rfl 12 (.int .i64 q.m)).newB #[.int .i64 r.m, .int .i64 r.n, .int .i64 r.p, .slice s1 s2 s3, .slice t1 t2 t3] 56 (b := w3.heap.size) (by simp [World.setCell])).newB #[.int .i64 q.s, .int .i64 q.o, .int .i64 q.l, .int .i64 q.p, .int .i64 q.m] 32 (by simp [World.setCell])
    have HW4 := Lib.hid hw4
    clear hw4 HW3 bS bB c1 lB lS s8 s9 s10 s11 s12 z8 z9 z10 z11 z12
    generalize hg4 : (((((((w3.setCell ⟨S, 8, none⟩ (.int .i64 q.s)).setCell ⟨S, 9, none⟩ (.int .i64 q.o)).setCell ⟨S, 10, none⟩ (.int .i64 q.l)).setCell ⟨S, 11, none⟩ (.int .i64 q.p)).setCell ⟨S, 12, none⟩ (.int .i64 q.m)).alloc (.cells #[.int .i64 r.m, .int .i64 r.n, .int .i64 r.p, .slice s1 s2 s3, .slice t1 t2 t3] 56)).alloc (.cells #[.int .i64 q.s, .int .i64 q.o, .int .i64 q.l, .int .i64 q.p, .int .i64 q.m] 32)) = w4 at *
    generalize w3.heap.size = b5 at *
    clear hg4 w3
    refine ⟨trivial, callsIn_wide.2 ((rec_next_any r (s1, s2, s3) (t1, t2, t3) _ (HW4.out.fact _ List.mem_cons_self).1).mono ?_)⟩
    rintro en w5 ⟨rfl, hO5⟩
    have HW5 := Lib.hid (HW4.out.keep0 hO5)
    clear hO5 HW4
    obtain ⟨hp1, hp2, hp3, rfl⟩ := follow_place HFO.out
    have HP1 := Lib.hid hp1
    clear hp1
    have hcl := HC.out.2.2
    obtain ⟨k, rfl⟩ : ∃ k', k = k' + 1 := ⟨k - 1, by omega⟩
    have hsc2 := HS.out
    rw [scanG_some HFO.out] at hsc2
    obtain ⟨x, hx⟩ : ∃ x : Fnd, x = ⟨pj, r, (s1, s2, s3), (t1, t2, t3)⟩ := ⟨_, rfl⟩
    have hxp : x.pr = (pj, r) := by rw [hx]; rfl
    have hxf : x.fct = (fun W => RcAt W r (s1, s2, s3) (t1, t2, t3)) := by rw [hx]; rfl
    have hfs2 : ∀ y ∈ pre ++ [x], y.fct ∈ (fun W => RcAt W r (s1, s2, s3) (t1, t2, t3)) :: fs := by
     intro y hy
     rcases List.mem_append.1 hy with hy | hy
     ·exact List.mem_cons_of_mem _ (HFS.out y hy)
     ·rw [List.mem_singleton] at hy
      subst hy
      rw [hxf]
      exact List.mem_cons_self
    have hpre : (pre ++ [x]).map Fnd.pr <+: (scanR d cf own p).1 := by
     rw [hsc2, List.map_append, List.map_cons, hxp]
     refine (List.prefix_append_right_inj _).2 ?_
     split
     ·exact List.prefix_refl _
     ·exact ⟨_, rfl⟩
    have hlen : pre.length < 65 := by
     have h1 := hpre.length_le
     have h2 := scanR_len d cf own p
     simp at h1
     omega
    have hat : At3 w0 w5 ⟨(S, SB pd.D gb p own q 0) :: (b3, [.int .i64 pj.s, .int .i64 pj.o, .int .i64 pj.l, .int .i64 pj.p, .int .i64 pj.m]) :: L, G, ((fun W => RcAt W r (s1, s2, s3) (t1, t2, t3)) :: fs) ++ F⟩ c := by
     exact at3_mk (fs := _ :: fs) (HW5.out.ldrop.ldrop).toWc
    have hj5 : J none pre c w5 := hJc _ _ _ _ _ hJp (HW5.out.kb.mono hsz)
    have hs5 : W.heap.size ≤ w5.heap.size := Nat.le_trans hsz HW5.out.hs
    obtain ⟨fn, tmps, assign, body, hy, hR⟩ := hY pre x _ c w5 ⟨b3, q, _, by rw [hx], hfs2, hpre, by rw [hx]; exact HFO.out⟩ hj5 hat hs5 hlen
    rw [hx] at hy
    simp only [Fnd.enc, Rc.cells, slv] at hy
    have HS2 := Lib.hid hsc2
    have HF2 := Lib.hid hfs2
    have HP2 := Lib.hid hpre
    have HXP := Lib.hid hxp
    have HXF : Hid (Kn.follow d cf x.p = (some (x.r, q), 0)) := Lib.hid (by rw [hx]; exact HFO.out)
    have b5o := HW5.out.boxi 1 rfl
    obtain ⟨r0, r1, r2, r3, r4⟩ := Kn.own5 b5o
    have b3o := HW5.out.boxi 3 rfl
    obtain ⟨p0, p1, p2, p3, p4⟩ := Kn.own5 b3o
    clear hsc2 hfs2 hpre hxp hxf hx hlen hat hj5 b5o b3o HFS HS
    cases hla : (nextOf r).isSome with
    | true =>
     gi_wp2_with fail
     refine hR.mono ?_
     rintro e2 W' ⟨c', hA', hkf, ⟨rfl, hj'⟩ | ⟨rfl, cd, hj'⟩⟩
     ·have hW' := Wk.start (at3_get (fs := (fun W => RcAt W r (s1, s2, s3) (t1, t2, t3)) :: fs) hA')
      have HW' := Lib.hid hW'
      have hs' : W.heap.size ≤ W'.heap.size := Nat.le_trans hs5 hkf.size
      have bS := HW'.out.boxi 0 (p := S) rfl
      have s8 := bS.cell 8 (by simp [SB])
      have s9 := bS.cell 9 (by simp [SB])
      have s10 := bS.cell 10 (by simp [SB])
      have s11 := bS.cell 11 (by simp [SB])
      have s12 := bS.cell 12 (by simp [SB])
      simp only [SB, List.getElem_cons_zero, List.getElem_cons_succ] at s8 s9 s10 s11 s12
      have bB := HW'.out.own _ (List.mem_cons_of_mem _ (List.mem_cons_of_mem _ (List.mem_append_left _ HB1.out)))
      have c1 := Kn.own1 bB
      have b3o := HW'.out.boxi 1 rfl
      obtain ⟨p0, p1, p2, p3, p4⟩ := Kn.own5 b3o
      have z0 := b3o.frozen 0
      have z1 := b3o.frozen 1
      have z2 := b3o.frozen 2
      have z3 := b3o.frozen 3
      have z4 := b3o.frozen 4
      have l3 := b3o.lt
      have hof := offAt_eq p1
      have HOF := Lib.hid hof
      clear hA' hW' bS bB hof
      gi_wp2_with fail
      go_roundw
      case rel =>
       refine ⟨pre ++ [x], c', (fun W => RcAt W r (s1, s2, s3) (t1, t2, t3)) :: fs, q, false, 0, k, rfl, ((((((HW'.out.put 1 (p := b3) rfl 0 (.int .i64 q.s)).put 1 (p := b3) rfl 1 (.int .i64 q.o)).put 1 (p := b3) rfl 2 (.int .i64 q.l)).put 1 (p := b3) rfl 3 (.int .i64 q.p)).put 1 (p := b3) rfl 4 (.int .i64 q.m))).toWc, HF2.out, hJc _ _ _ _ _ hj' ?_, ?_, ?_⟩
       ·exact (((((((HW'.out.put 1 (p := b3) rfl 0 (.int .i64 q.s)).put 1 (p := b3) rfl 1 (.int .i64 q.o)).put 1 (p := b3) rfl 2 (.int .i64 q.l)).put 1 (p := b3) rfl 3 (.int .i64 q.p)).put 1 (p := b3) rfl 4 (.int .i64 q.m))).kb).mono hs'
       ·simpa [World.setCell] using hs'
       ·have h := HS2.out
        rw [hla] at h
        refine .inr ⟨rfl, h.trans ?_⟩
        rw [List.map_append, List.map_cons, HXP.out]
        simp
      case measure =>
       have h1 : offAt ((((((W'.setCell ⟨b3, 0, none⟩ (.int .i64 q.s)).setCell ⟨b3, 1, none⟩ (.int .i64 q.o)).setCell ⟨b3, 2, none⟩ (.int .i64 q.l)).setCell ⟨b3, 3, none⟩ (.int .i64 q.p)).setCell ⟨b3, 4, none⟩ (.int .i64 q.m))) b3 = q.o.toNat := offAt_eq (k := .i64) (by simpa using ((((((((HW'.out.put 1 (p := b3) rfl 0 (.int .i64 q.s)).put 1 (p := b3) rfl 1 (.int .i64 q.o)).put 1 (p := b3) rfl 2 (.int .i64 q.l)).put 1 (p := b3) rfl 3 (.int .i64 q.p)).put 1 (p := b3) rfl 4 (.int .i64 q.m))).boxi 1 rfl).cell 1 (by simp)))
       rw [HOF2.out, h1]
       omega
     ·gi_wp2_with fail
      refine bodyPost_ret (results_none rfl _ _ _) rfl ⟨⟨_, rfl⟩, Nat.le_trans hs5 hkf.size, ⟨(S, SB pd.D gb p own q 0) :: L, G, ((fun W => RcAt W r (s1, s2, s3) (t1, t2, t3)) :: fs) ++ F⟩, c', ?_, .inr ⟨pre ++ [x], cd, ⟨q, _, rfl, HF2.out, HP2.out, pre, x, rfl, HXF.out⟩, hj'⟩⟩
      exact at3_mk (fs := _ :: fs) ((at3_get (fs := (fun W => RcAt W r (s1, s2, s3) (t1, t2, t3)) :: fs) hA').sub (L' := (S, SB pd.D gb p own q 0) :: (L ++ c'.L)) (.cons_cons _ (.cons _ (List.Sublist.refl _))) (fun f hf => hf))
    | false =>
     gi_wp2_with fail
     refine hR.mono ?_
     rintro e2 W' ⟨c', hA', hkf, ⟨rfl, hj'⟩ | ⟨rfl, cd, hj'⟩⟩
     ·have hW' := Wk.start (at3_get (fs := (fun W => RcAt W r (s1, s2, s3) (t1, t2, t3)) :: fs) hA')
      have HW' := Lib.hid hW'
      have hs' : W.heap.size ≤ W'.heap.size := Nat.le_trans hs5 hkf.size
      have bS := HW'.out.boxi 0 (p := S) rfl
      have s8 := bS.cell 8 (by simp [SB])
      have s9 := bS.cell 9 (by simp [SB])
      have s10 := bS.cell 10 (by simp [SB])
      have s11 := bS.cell 11 (by simp [SB])
      have s12 := bS.cell 12 (by simp [SB])
      simp only [SB, List.getElem_cons_zero, List.getElem_cons_succ] at s8 s9 s10 s11 s12
      have bB := HW'.out.own _ (List.mem_cons_of_mem _ (List.mem_cons_of_mem _ (List.mem_append_left _ HB1.out)))
      have c1 := Kn.own1 bB
      have b3o := HW'.out.boxi 1 rfl
      obtain ⟨p0, p1, p2, p3, p4⟩ := Kn.own5 b3o
      have z0 := b3o.frozen 0
      have z1 := b3o.frozen 1
      have z2 := b3o.frozen 2
      have z3 := b3o.frozen 3
      have z4 := b3o.frozen 4
      have l3 := b3o.lt
      have hof := offAt_eq p1
      have HOF := Lib.hid hof
      clear hA' hW' bS bB hof
      gi_wp2_with fail
      go_roundw
      case rel =>
       refine ⟨pre ++ [x], c', (fun W => RcAt W r (s1, s2, s3) (t1, t2, t3)) :: fs, q, true, 0, k, rfl, ((((((HW'.out.put 1 (p := b3) rfl 0 (.int .i64 q.s)).put 1 (p := b3) rfl 1 (.int .i64 q.o)).put 1 (p := b3) rfl 2 (.int .i64 q.l)).put 1 (p := b3) rfl 3 (.int .i64 q.p)).put 1 (p := b3) rfl 4 (.int .i64 q.m))).toWc, HF2.out, hJc _ _ _ _ _ hj' ?_, ?_, ?_⟩
       ·exact (((((((HW'.out.put 1 (p := b3) rfl 0 (.int .i64 q.s)).put 1 (p := b3) rfl 1 (.int .i64 q.o)).put 1 (p := b3) rfl 2 (.int .i64 q.l)).put 1 (p := b3) rfl 3 (.int .i64 q.p)).put 1 (p := b3) rfl 4 (.int .i64 q.m))).kb).mono hs'
       ·simpa [World.setCell] using hs'
       ·have h := HS2.out
        rw [hla] at h
        refine .inl ⟨rfl, rfl, h.trans ?_, by omega, by omega, by omega, by rw [HP1.out]; exact hs0, by rw [HP1.out]; exact hs1⟩
        rw [List.map_append, List.map_cons, HXP.out]
        simp
      case measure =>
       have h1 : offAt ((((((W'.setCell ⟨b3, 0, none⟩ (.int .i64 q.s)).setCell ⟨b3, 1, none⟩ (.int .i64 q.o)).setCell ⟨b3, 2, none⟩ (.int .i64 q.l)).setCell ⟨b3, 3, none⟩ (.int .i64 q.p)).setCell ⟨b3, 4, none⟩ (.int .i64 q.m))) b3 = q.o.toNat := offAt_eq (k := .i64) (by simpa using ((((((((HW'.out.put 1 (p := b3) rfl 0 (.int .i64 q.s)).put 1 (p := b3) rfl 1 (.int .i64 q.o)).put 1 (p := b3) rfl 2 (.int .i64 q.l)).put 1 (p := b3) rfl 3 (.int .i64 q.p)).put 1 (p := b3) rfl 4 (.int .i64 q.m))).boxi 1 rfl).cell 1 (by simp)))
       rw [HOF2.out, h1]
       omega
     ·gi_wp2_with fail
      refine bodyPost_ret (results_none rfl _ _ _) rfl ⟨⟨_, rfl⟩, Nat.le_trans hs5 hkf.size, ⟨(S, SB pd.D gb p own q 0) :: L, G, ((fun W => RcAt W r (s1, s2, s3) (t1, t2, t3)) :: fs) ++ F⟩, c', ?_, .inr ⟨pre ++ [x], cd, ⟨q, _, rfl, HF2.out, HP2.out, pre, x, rfl, HXF.out⟩, hj'⟩⟩
      exact at3_mk (fs := _ :: fs) ((at3_get (fs := (fun W => RcAt W r (s1, s2, s3) (t1, t2, t3)) :: fs) hA').sub (L' := (S, SB pd.D gb p own q 0) :: (L ++ c'.L)) (.cons_cons _ (.cons _ (List.Sublist.refl _))) (fun f hf => hf))
  ·have HE := Lib.hid hsc
   have HW := Lib.hid hw
   clear hsc hw
   gi_wp2_with fail
   go_end0
   refine ⟨⟨_, rfl⟩, hsz, ⟨(S, SB pd.D gb p own pj er) :: L, G, fs ++ F⟩, c, ?_, .inl ⟨pre, ⟨fs, by rw [HE.out], hfs, by rw [HE.out]⟩, hJp⟩⟩
   exact at3_mk <| HW.out.sub (L' := (S, SB pd.D gb p own pj er) :: (L ++ c.L)) (F' := fs ++ (F ++ c.F)) (.cons_cons _ (.cons _ (List.Sublist.refl _))) (fun f hf => hf)
end Go.Proofs.YtgcfdjcpcclcjaaGreat
namespace Go.Kn
open Go Go.RowKit
theorem round_wide {m : Nat} {P : Program} {l : Nat} {f : FuncId} {tmps : Array Value} {assign body : Code} {w : World} {R : Ending → World → Prop} (lr m' : Nat) (h : RoundIn Fence.wide m P l f tmps assign body w R) : RoundIn (Fence.wide.inRound lr) m' P l f tmps assign body w R :=
 ⟨h.1, fun c cs _ => h.2 c cs (room_wide _)⟩
theorem perm_mid2 {α : Type} (a b : α) (X C : List α) : (a :: b :: (X ++ C)).Perm (X ++ a :: b :: C) :=
 ((List.perm_middle (l₁ := X) (a := a) (l₂ := b :: C)).trans ((List.perm_middle (l₁ := X) (a := b) (l₂ := C)).cons _)).symm
theorem At3.new2 {w0 w : World} {φ c : Fr3} (h : At3 w0 w φ c) (u v : Array Value) (s t : TypeId) : At3 w0 ((w.alloc (.cells u s)).alloc (.cells v t)) φ ⟨(w.heap.size + 1, v.toList) :: (w.heap.size, u.toList) :: c.L, c.G, c.F⟩ :=
 ((Wc.newB (Wc.newB h u s rfl) v t (by simp)).perm (perm_mid2 _ _ _ _) (List.Perm.refl _) : Wc _ _ _ _ _)
end Go.Kn
namespace Go.Proofs.YtgcfdjcpcclcjaaGreat
open Go Go.RowKit Go.Kn Go.Shelf
attribute [local go_sem] Oper.semAt_some
theorem places_any (p : Option Addr) (w : World) : Calls Tryz.prog 98 #[.pointer p] w fun e w' => e = .returned (.func (.func 151) #[] #[.pointer (some ⟨w.heap.size, 0, none⟩)]) ∧ w' = w.alloc (.cells #[.pointer p] 40) := by
 go_enter Tryz.func98, Tryz.ntmps98
 go_wp2
 go_ret
 exact ⟨rfl, rfl⟩
end Go.Proofs.YtgcfdjcpcclcjaaGreat
namespace Go.Kn
open Go Go.RowKit
theorem run_equalIn_func_nil {P : Program} (w : World) (d : Nat) (t : TypeId) {a b : Array TypeId} {v : Bool} (h : P.underlying t = some (.func a b v)) (f : Fn) (x y : Array Value) : (Op.equalIn (d + 1) t (.func f x y) .nilFunc).run P w = .ok false w := by
 simp [Op.equalIn, run_underlying h]
theorem run_eql_func_nil {P : Program} (w : World) (t : TypeId) {a b : Array TypeId} {v : Bool} (h : P.underlying t = some (.func a b v)) (f : Fn) (x y : Array Value) : (binOp .eql t (.func f x y) .nilFunc).run P w = .ok (.bool false) w := by
 simp only [binOp]
 simp [Op.equal, Op.maxDepth, run_equalIn_func_nil w 9999 t h]
def Fnd.one (x : Fnd) : List Value := .int .i64 x.p.o :: (x.r.cells x.s x.t).toList
theorem Wk.gnew {w0 w1 w : World} {L : List (Nat × List Value)} {G : List Gs} {F : List (World → Prop)} (h : Wk w0 w1 w L G F) (e sz : Nat) : Wk w0 w1 w L (⟨e, sz, .slice none 0 0, 0, []⟩ :: G) F := h.same (h.toWc.gnew e sz)
theorem kf_of_kb {B : Nat} {X Y : World} (h : Kb X.heap.size X Y) : KeepsFrom B X Y := ⟨h.size, fun k o _ ho hc => h.keep k o (lt_of_obj ho) ho hc⟩
theorem At3.new1 {w0 w : World} {φ c : Fr3} (h : At3 w0 w φ c) (u : Array Value) (s : TypeId) : At3 w0 (w.alloc (.cells u s)) φ ⟨(w.heap.size, u.toList) :: c.L, c.G, c.F⟩ :=
 ((Wc.newB h u s rfl).perm (List.perm_middle).symm (List.Perm.refl _) : Wc _ _ _ _ _)
theorem At3.flip {w0 w : World} {a b : Fr3} (h : At3 w0 w a b) : Wc w0 w (b.L ++ a.L) (b.G ++ a.G) (a.F ++ b.F) := Wc.perm h List.perm_append_comm List.perm_append_comm
theorem At3.unflip {w0 w : World} {a b : Fr3} (h : Wc w0 w (b.L ++ a.L) (b.G ++ a.G) (a.F ++ b.F)) : At3 w0 w a b := Wc.perm h List.perm_append_comm List.perm_append_comm
end Go.Kn
namespace Go.Proofs.YtgcfdjcpcclcjaaGreat
open Go Go.RowKit Go.Kn Go.Shelf
attribute [local go_sem] Oper.semAt_some
def fndV (xs : List Fnd) : List Value := xs.flatMap Kn.Fnd.one
end Go.Proofs.YtgcfdjcpcclcjaaGreat
namespace Go.Kn
open Go Go.RowKit
/-- two boxes and a row that is read -/
structure Dr2 (w0 w : World) (p g k f fr : Nat) (bs : List UInt8) (vs us : List Value) : Prop where
 d : Decs w0 w p g k f bs vs
 r : Kn.Own w fr us
 rp : fr ≠ p
 rf : fr ≠ f
 hr : w0.heap.size ≤ fr
section
variable {w0 w w' : World} {p g k k' f fr : Nat} {bs : List UInt8} {vs us : List Value}
theorem Dr2.keep (h : Dr2 w0 w p g k f fr bs vs us) (hO : Only [] w w') : Dr2 w0 w' p g k f fr bs vs us := ⟨h.d.keep hO, h.r.keep0 hO, h.rp, h.rf, h.hr⟩
theorem Dr2.got (h : Dr2 w0 w p g k f fr bs vs us) (hr : RowAt w' p g bs k') (hO : Only [p] w w') : Dr2 w0 w' p g k' f fr bs vs us := ⟨h.d.got hr hO, h.r.keep hO (by simpa using h.rp), h.rp, h.rf, h.hr⟩
theorem Dr2.place (h : Dr2 w0 w p g k f fr bs vs us) (hk : k' ≤ bs.length) : Dr2 w0 (w.setCell ⟨p, 1, none⟩ (.int .i64 (k' : Int))) p g k' f fr bs vs us := ⟨h.d.place hk, h.r.far (Ne.symm h.rp) _, h.rp, h.rf, h.hr⟩
theorem Dr2.put (h : Dr2 w0 w p g k f fr bs vs us) (i : Nat) (u : Value) : Dr2 w0 (w.setCell ⟨f, i, none⟩ u) p g k f fr bs (vs.set i u) us := ⟨h.d.put i u, h.r.far (Ne.symm h.rf) _, h.rp, h.rf, h.hr⟩
end
end Go.Kn
namespace Go.Proofs.YtgcfdjcpcclcjaaGreat
open Go Go.RowKit Go.Kn
def FolSays (w : World) (q : Ps) (x : Option (Rc × Ps) × Int) (en : Ending) (w' : World) : Prop := Only [] w w' ∧
 match x with
 | (none, er) => en = .returned (.tuple #[.agg #[.int .i64 0, .int .i64 0, .int .i64 0, .slice none 0 0, .slice none 0 0], .agg #[.int .i64 q.s, .int .i64 q.o, .int .i64 q.l, .int .i64 q.p, .int .i64 q.m], .bool false, .int .i64 er])
 | (some (r, nx), _) => ∃ s t, en = .returned (.tuple #[.agg (r.cells s t), .agg #[.int .i64 nx.s, .int .i64 nx.o, .int .i64 nx.l, .int .i64 nx.p, .int .i64 nx.m], .bool true, .int .i64 0]) ∧ Fc w' (fun k => k < w.heap.size) (fun W => RcAt W r s t)
theorem FolSays.no {w w' : World} {q : Ps} {x : Option (Rc × Ps) × Int} {er : Int} (hx : x = (none, er)) (hw : Only [] w w') : FolSays w q x (.returned (.tuple #[.agg #[.int .i64 0, .int .i64 0, .int .i64 0, .slice none 0 0, .slice none 0 0], .agg #[.int .i64 q.s, .int .i64 q.o, .int .i64 q.l, .int .i64 q.p, .int .i64 q.m], .bool false, .int .i64 er])) w' := by
 subst hx
 exact ⟨hw, rfl⟩
end Go.Proofs.YtgcfdjcpcclcjaaGreat
namespace Go.Kn
open Go Go.RowKit
theorem follow_next {d : Dk} {c : Cf} {p q : Ps} {r : Rc} {e : Int} (h : follow d c p = (some (r, q), e)) {v : Int} (hv : nextOf r = some v) : 0 ≤ v ∧ v ≤ 31 := by
 unfold follow at h
 split at h
 ·split at h
  ·split at h
   ·cases h
   ·split at h
    ·split at h
     ·cases h
     ·rename_i hd
      split at h
      ·injection h with h1 h2
       injection h1 with h1
       injection h1 with h1 h3
       subst h1
       obtain ⟨he, _, _⟩ := encRc_of_dec hd
       obtain ⟨hm, _⟩ := enc_some he
       obtain ⟨_, hall, _⟩ := rcMay_iff.1 hm
       rw [nextOf_eq] at hv
       obtain ⟨i, hi, rfl⟩ := Option.map_eq_some_iff.1 hv
       have h7 := List.find?_some hi
       have hmm := List.all_eq_true.1 hall i (List.mem_of_find?_eq_some hi)
       unfold is7 at h7
       have h7' : i.k = 7 := by simpa using h7
       unfold It.may at hmm
       simp [h7'] at hmm
       omega
      ·cases h
    ·cases h
  ·cases h
 ·cases h
end Go.Kn
namespace Go.Proofs.YtgcfdjcpcclcjaaGreat
open Go Go.RowKit Go.Kn
theorem _root_.Go.Proofs.YtgcfdjcpcclcjaaGreat.Rsk.fr {w0 w : World} {r : RD} {d : Dk} {c : Fr3} (h : Rsk w0 w r d c) : ∃ L0 G0 F0, Wc w0 w (c.L ++ L0) (c.G ++ G0) (c.F ++ F0) ∧ ∀ w' (c' : Fr3), Wc w0 w' (c'.L ++ L0) (c'.G ++ G0) (c'.F ++ F0) → Rsk w0 w' r d c' := by
 obtain ⟨v, lv, k, ls, sl, hs, hl, hm⟩ := h.mem
 have pl : ∀ L, (r.L v lv sl d L).Perm (L ++ r.L v lv sl d []) := fun L => by
  have := List.perm_append_comm (l₁ := r.L v lv sl d []) (l₂ := L)
  simpa [RD.L] using this
 have pg : ∀ (a b : Gs) G, (a :: b :: G).Perm (G ++ [a, b]) := fun a b G => by
  have := List.perm_append_comm (l₁ := [a, b]) (l₂ := G)
  simpa using this
 refine ⟨r.L v lv sl d [], [⟨175, 2, v, d.held.length, heldR d.held hs⟩, ⟨47, 1, lv, k, ls⟩], [(fun W => Bls W sl d.safe), (fun W => Bls W hs (d.held.map (·.2)))], ?_, fun w' c' h' => ?_⟩
 ·refine (hm.perm (pl _) (pg _ _ _)).subF ?_
  intro f hf
  rcases List.mem_append.1 hf with hf | hf
  ·exact List.mem_cons_of_mem _ (List.mem_cons_of_mem _ hf)
  ·simp only [List.mem_cons, List.not_mem_nil, or_false] at hf ⊢
   rcases hf with hf | hf
   ·exact .inl hf
   ·exact .inr (.inl hf)
 ·refine ⟨h.ok, h.N, h.hs, h.hf, v, lv, k, ls, sl, hs, hl, (h'.perm (pl _).symm (pg _ _ _).symm).subF ?_⟩
  intro f hf
  simp only [List.mem_cons] at hf
  rcases hf with hf | hf | hf
  ·exact List.mem_append.2 (.inr (by simp [hf]))
  ·exact List.mem_append.2 (.inr (by simp [hf]))
  ·exact List.mem_append.2 (.inl hf)
def rfnd (x : Fnd) : List Value := [.int .i64 x.p.s, .int .i64 x.p.o, .int .i64 x.p.l, .int .i64 x.p.p, .int .i64 x.p.m] ++ (x.r.cells x.s x.t).toList
def rfndV (xs : List Fnd) : List Value := xs.flatMap rfnd
end Go.Proofs.YtgcfdjcpcclcjaaGreat
namespace Go.Kn
open Go Go.RowKit
theorem GeoAt.keep {S : List Nat} {w w' : World} {p : Nat} {b s l : Int} (h : GeoAt w p b s l) (hO : Only S w w') (hp : p ∉ S) : GeoAt w' p b s l := ⟨hO.cell h.c0 hp, hO.cell h.c1 hp, hO.cell h.c2 hp⟩
end Go.Kn
namespace Go.Proofs.YtgcfdjcpcclcjaaGreat
open Go Go.RowKit Go.Kn
set_option maxRecDepth 100000 in
set_option maxHeartbeats 4000000 in
theorem geom_new_any (b s l : Int) (w : World) (hb : CfOk b s l) :
  Calls Tryz.prog 75 #[.agg #[.int .i64 b, .int .i64 s, .int .i64 l]] w fun e w' => ∃ p, e = .returned (.tuple #[.pointer (some ⟨p, 0, none⟩), .int .i64 0]) ∧ w.heap.size ≤ p ∧ GeoAt w' p b s l ∧ Only [] w w' := by
 obtain ⟨h1, h2, h3⟩ := hb
 have H1 : Hid (decide (1 ≤ b ∧ b ≤ 64) = true) := Lib.hid (decide_eq_true h1)
 have H2 : Hid (decide (8 ≤ s ∧ s ≤ 32) = true) := Lib.hid (decide_eq_true h2)
 have H3 : Hid (decide (24 ≤ l ∧ l ≤ 64) = true) := Lib.hid (decide_eq_true h3)
 clear h1 h2 h3
 go_enter Tryz.func75, Tryz.ntmps75
 go_wp2_with (go_at_call 140; refine (geom_within_any _ _ _ _).mono ?_; rintro e w' ⟨rfl, rfl⟩; first | rw [H1.out] | rw [H2.out] | rw [H3.out])
 go_ret2
 have hs : (w.alloc (.cells #[.int .i64 b, .int .i64 s, .int .i64 l] 25)).heap.size = w.heap.size + 1 := by simp
 have hO := Own.new (w.alloc (.cells #[.int .i64 b, .int .i64 s, .int .i64 l] 25)) #[.int .i64 b, .int .i64 s, .int .i64 l] 149
 rw [hs] at hO
 exact ⟨w.heap.size + 1, rfl, by omega, ⟨hO.cell 0 (by simp), hO.cell 1 (by simp), hO.cell 2 (by simp)⟩, ((Only.refl _ _).alloc _).alloc _⟩
end Go.Proofs.YtgcfdjcpcclcjaaGreat
namespace Go.Kn
open Go Go.RowKit
theorem flatMap_get {α β : Type} (f : α → List β) (m : Nat) (hf : ∀ x, (f x).length = m) : ∀ (xs : List α) (i k : Nat) (hi : i < xs.length), k < m → (xs.flatMap f)[i * m + k]? = (f xs[i])[k]?
 | [], i, k, hi, _ => by simp at hi
 | x :: xs, 0, k, hi, hk => by
  rw [List.flatMap_cons, List.getElem?_append_left (by rw [hf]; omega)]
  simp
 | x :: xs, i + 1, k, hi, hk => by
  rw [List.flatMap_cons, List.getElem?_append_right (by rw [hf, Nat.add_mul]; omega), hf, show (i + 1) * m + k - m = i * m + k from by rw [Nat.add_mul]; omega]
  rw [flatMap_get f m hf xs i k (by simpa using hi) hk]
  simp
/-- a slice of what walk told -/
structure FdP (w : World) (A : Option Addr) (n c : Nat) (xs : List Fnd) : Prop where
 len : xs.length = n
 le : n ≤ c
 cm : c ≤ maxLen
 at_ : 0 < n → ∃ g o, A = some ⟨g, o, none⟩ ∧ ∀ i (h : i < xs.length), w.cell? ⟨g, o + i * 6, none⟩ = some (.int .i64 xs[i].p.o) ∧ w.cell? ⟨g, o + i * 6 + 1, none⟩ = some (.int .i64 xs[i].r.m) ∧ w.cell? ⟨g, o + i * 6 + 2, none⟩ = some (.int .i64 xs[i].r.n) ∧ w.cell? ⟨g, o + i * 6 + 3, none⟩ = some (.int .i64 xs[i].r.p) ∧ w.cell? ⟨g, o + i * 6 + 4, none⟩ = some (slv xs[i].s) ∧ w.cell? ⟨g, o + i * 6 + 5, none⟩ = some (slv xs[i].t)
 rc : ∀ y ∈ xs, y.fct w
structure FdR (w : World) (A : Option Addr) (n c : Nat) (xs : List Fnd) : Prop where
 len : xs.length = n
 le : n ≤ c
 cm : c ≤ maxLen
 at_ : 0 < n → ∃ g o, A = some ⟨g, o, none⟩ ∧ ∀ i (h : i < xs.length), w.cell? ⟨g, o + i * 10 + 0, none⟩ = some (.int .i64 xs[i].p.s) ∧ w.cell? ⟨g, o + i * 10 + 1, none⟩ = some (.int .i64 xs[i].p.o) ∧ w.cell? ⟨g, o + i * 10 + 5, none⟩ = some (.int .i64 xs[i].r.m) ∧ w.cell? ⟨g, o + i * 10 + 6, none⟩ = some (.int .i64 xs[i].r.n) ∧ w.cell? ⟨g, o + i * 10 + 7, none⟩ = some (.int .i64 xs[i].r.p) ∧ w.cell? ⟨g, o + i * 10 + 8, none⟩ = some (slv xs[i].s) ∧ w.cell? ⟨g, o + i * 10 + 9, none⟩ = some (slv xs[i].t)
 rc : ∀ y ∈ xs, y.fct w
theorem cells_owns {w : World} {b e sz n : Nat} {A : Option Addr} {c : Nat} {xs : List Value} (h : w.ownsRow b e sz (.slice A n c) n xs) : n ≤ c ∧ c ≤ maxLen ∧ (0 < n → ∃ g, A = some ⟨g, 0, none⟩ ∧ ∀ j u, xs[j]? = some u → w.cell? ⟨g, j, none⟩ = some u) := by
 obtain ⟨h1, h2⟩ := h
 rcases h2 with ⟨h2, h3⟩ | ⟨g, cap, cur, hv, _, hg, h5, h6, h7, h8⟩
 ·injection h2 with _ e2 e3
  exact ⟨by omega, by omega, fun hn => by omega⟩
 ·injection hv with e1 e2 e3
  subst e1 e3
  refine ⟨h5, h6, fun hn => ⟨g, rfl, fun j u hj => ?_⟩⟩
  rw [← h8, List.getElem?_take] at hj
  split at hj
  ·unfold World.cell?
   simp only [hg]
   simpa using hj
  ·cases hj
end Go.Kn
namespace Go.Proofs.YtgcfdjcpcclcjaaGreat
open Go Go.RowKit Go.Kn
theorem FdP.of_owns {w : World} {b e : Nat} {A : Option Addr} {c : Nat} {xs : List Fnd} (h : w.ownsRow b e 6 (.slice A xs.length c) xs.length (fndV xs)) (hr : ∀ y ∈ xs, y.fct w) : FdP w A xs.length c xs := by
 obtain ⟨h1, h2, h3⟩ := cells_owns h
 refine ⟨rfl, h1, h2, fun hn => ?_, hr⟩
 obtain ⟨g, rfl, hc⟩ := h3 hn
 refine ⟨g, 0, rfl, fun i hi => ?_⟩
 have hk : ∀ k, k < 6 → (fndV xs)[i * 6 + k]? = (Kn.Fnd.one xs[i])[k]? := fun k hk => flatMap_get Kn.Fnd.one 6 (fun x => rfl) xs i k hi hk
 simp only [Nat.zero_add]
 exact ⟨hc _ _ ((hk 0 (by decide)).trans rfl), hc _ _ ((hk 1 (by decide)).trans rfl), hc _ _ ((hk 2 (by decide)).trans rfl), hc _ _ ((hk 3 (by decide)).trans rfl), hc _ _ ((hk 4 (by decide)).trans rfl), hc _ _ ((hk 5 (by decide)).trans rfl)⟩
theorem FdR.of_owns {w : World} {b e : Nat} {A : Option Addr} {c : Nat} {xs : List Fnd} (h : w.ownsRow b e 10 (.slice A xs.length c) xs.length (rfndV xs)) (hr : ∀ y ∈ xs, y.fct w) : FdR w A xs.length c xs := by
 obtain ⟨h1, h2, h3⟩ := cells_owns h
 refine ⟨rfl, h1, h2, fun hn => ?_, hr⟩
 obtain ⟨g, rfl, hc⟩ := h3 hn
 refine ⟨g, 0, rfl, fun i hi => ?_⟩
 have hk : ∀ k, k < 10 → (rfndV xs)[i * 10 + k]? = (rfnd xs[i])[k]? := fun k hk => flatMap_get rfnd 10 (fun x => rfl) xs i k hi hk
 simp only [Nat.zero_add]
 exact ⟨hc _ _ ((hk 0 (by decide)).trans rfl), hc _ _ ((hk 1 (by decide)).trans rfl), hc _ _ ((hk 5 (by decide)).trans rfl), hc _ _ ((hk 6 (by decide)).trans rfl), hc _ _ ((hk 7 (by decide)).trans rfl), hc _ _ ((hk 8 (by decide)).trans rfl), hc _ _ ((hk 9 (by decide)).trans rfl)⟩
end Go.Proofs.YtgcfdjcpcclcjaaGreat
namespace Go.Kn
open Go Go.RowKit
/-- sectors with rows of 64 bytes laid over them from one on -/
def setSecs (s : List (List UInt8)) (a : Nat) (b : List UInt8) : Nat → List (List UInt8)
 | 0 => s
 | i + 1 => (setSecs s a b i).set (a + i) ((b.drop (64 * i)).take 64)
@[simp] theorem setSecs_length (s : List (List UInt8)) (a : Nat) (b : List UInt8) : ∀ n, (setSecs s a b n).length = s.length
 | 0 => rfl
 | n + 1 => by rw [setSecs, List.length_set, setSecs_length s a b n]
theorem setSecs_other (s : List (List UInt8)) (a : Nat) (b : List UInt8) (k : Nat) : ∀ n, k < a ∨ a + n ≤ k → (setSecs s a b n)[k]? = s[k]?
 | 0, _ => rfl
 | n + 1, h => by rw [setSecs, List.getElem?_set_ne (by omega), setSecs_other s a b k n (by omega)]
theorem setSecs_at (s : List (List UInt8)) (a : Nat) (b : List UInt8) (i : Nat) : ∀ n, i < n → a + i < s.length → (setSecs s a b n)[a + i]? = some ((b.drop (64 * i)).take 64)
 | 0, h, _ => absurd h (by omega)
 | n + 1, h, hl => by
  rw [setSecs]
  by_cases e : i = n
  ·subst e
   rw [List.getElem?_set_self (by rw [setSecs_length]; exact hl)]
  ·rw [List.getElem?_set_ne (by omega), setSecs_at s a b i n (by omega) hl]
/-- a disk with power and no faults -/
structure Rdy (d : Dk) : Prop where
 ok : d.Ok
 live : d.Live
 bad : ∀ x, d.bad x = false
section
variable {d d' : Dk} {a : Int} {b : List UInt8} {n : Nat}
theorem Rdy.new {n : Nat} (h1 : 1 ≤ n) (h2 : n ≤ 4096) : Rdy (Dk.new n) := ⟨Dk.new_ok h1 h2, ⟨rfl, rfl⟩, fun x => by
 unfold Dk.bad Dk.new
 simp only
 rw [List.getD_eq_getElem?_getD, List.getElem?_replicate]
 split <;> rfl⟩
theorem Rdy.err (h : Rdy d) (x : Int) : d.err x = if d.has x = true then 0 else 1 := by
 unfold Dk.err
 rw [h.live.off, h.bad x]
 rfl
theorem Rdy.err0 (h : Rdy d) {x : Int} (hx : d.has x = true) : d.err x = 0 := by rw [h.err, if_pos hx]
theorem has_of {x : Int} (h0 : 0 ≤ x) (h1 : x < d.safe.length) : d.has x = true := by
 unfold Dk.has
 exact decide_eq_true ⟨h0, h1⟩
theorem Dk.write_go (hl : d.Live) (hh : d.has a = true) (hb : b.length = 64) : d.write a b = (d.wrote a b, 0) := by
 unfold Dk.write
 rw [hh, hb, hl.gone]
 rfl
theorem Rdy.write (h : Rdy d) (hh : d.has a = true) (hb : b.length = 64) : Rdy (d.write a b).1 ∧ (d.write a b).1.now = d.now.set a.toNat b ∧ (d.write a b).1.safe.length = d.safe.length := by
 have e := Dk.write_go h.live hh hb
 have hl := h.live.write a b
 rw [e] at hl ⊢
 exact ⟨⟨h.ok.wrote hh hb, hl, h.bad⟩, Dk.now_wrote d a b, rfl⟩
theorem Rdy.wrs (h : Rdy d) (ha : 0 ≤ a) (hb : 64 * n ≤ b.length) (hr : a + n ≤ d.safe.length) : ∀ i, i ≤ n → Rdy (d.wrs a b i) ∧ (d.wrs a b i).now = setSecs d.now a.toNat b i ∧ (d.wrs a b i).safe.length = d.safe.length
 | 0, _ => ⟨h, rfl, rfl⟩
 | i + 1, hi => by
  obtain ⟨h1, h2, h3⟩ := Rdy.wrs h ha hb hr i (by omega)
  have hw := h1.write (a := a + (i : Nat)) (b := (b.drop (64 * i)).take 64) (has_of (by omega) (by rw [h3]; omega)) (by rw [List.length_take, List.length_drop]; omega)
  refine ⟨hw.1, ?_, hw.2.2.trans h3⟩
  show ((d.wrs a b i).write (a + (i : Nat)) ((b.drop (64 * i)).take 64)).1.now = _
  rw [hw.2.1, h2, setSecs, show (a + (i : Nat)).toNat = a.toNat + i from by omega]
/-- what is put is on the disk -/
theorem Rdy.puts (h : Rdy d) (ha : 0 ≤ a) (hb : b.length = 64 * n) (hr : a + n ≤ d.safe.length) : Rdy (d.puts a b) ∧ (d.puts a b).now = setSecs d.now a.toNat b n ∧ (d.puts a b).safe.length = d.safe.length := by
 have hn : b.length / 64 = n := by omega
 obtain ⟨h1, h2, h3⟩ := h.wrs (b := b) ha (by omega) hr n (Nat.le_refl _)
 have hp : d.puts a b = (d.wrs a b n).flushed := by
  unfold Dk.puts
  rw [hn, h1.live.flush.1]
 have hnow : (d.wrs a b n).flushed.now = (d.wrs a b n).now := rfl
 have hsl : (d.wrs a b n).flushed.safe.length = (d.wrs a b n).safe.length := by show (d.wrs a b n).now.length = _; rw [Dk.now_length]
 rw [hp]
 exact ⟨⟨h1.ok.flushed, h1.live.flush.2.1, h1.bad⟩, hnow.trans h2, hsl.trans h3⟩
/-- some sectors are on both disks as they are -/
def Agr (d d' : Dk) (lo hi : Int) : Prop := ∀ x, lo ≤ x → x < hi → d'.err x = d.err x ∧ d'.read x = d.read x
theorem Agr.sub {lo hi lo' hi' : Int} (h : Agr d d' lo hi) (h1 : lo ≤ lo') (h2 : hi' ≤ hi) : Agr d d' lo' hi' := fun x hx hy => h x (by omega) (by omega)
theorem Agr.trans {d'' : Dk} {lo hi : Int} (h : Agr d d' lo hi) (k : Agr d' d'' lo hi) : Agr d d'' lo hi := fun x hx hy => ⟨(k x hx hy).1.trans (h x hx hy).1, (k x hx hy).2.trans (h x hx hy).2⟩
theorem read_now (h : Rdy d) (h' : Rdy d') (hs : d'.safe.length = d.safe.length) {x : Int} (hx : d'.now[x.toNat]? = d.now[x.toNat]?) : d'.err x = d.err x ∧ d'.read x = d.read x := by
 have hh : d'.has x = d.has x := by unfold Dk.has; rw [hs]
 have he : d'.err x = d.err x := by rw [h'.err, h.err, hh]
 refine ⟨he, ?_⟩
 unfold Dk.read
 rw [he]
 have : d'.sector x = d.sector x := by
  unfold Dk.sector
  rw [List.getD_eq_getElem?_getD, List.getD_eq_getElem?_getD, hx]
 rw [this]
theorem Rdy.puts_agr (h : Rdy d) (ha : 0 ≤ a) (hb : b.length = 64 * n) (hr : a + n ≤ d.safe.length) {lo hi : Int} (hlo : 0 ≤ lo) (hx : hi ≤ a ∨ a + n ≤ lo) : Agr d (d.puts a b) lo hi := by
 obtain ⟨h1, h2, h3⟩ := h.puts ha hb hr
 intro x hx1 hx2
 refine read_now h h1 h3 ?_
 rw [h2]
 exact setSecs_other _ _ _ _ _ (by omega)
theorem Rdy.read_sec (h : Rdy d) {x : Int} (hx : d.has x = true) {s : List UInt8} (hs : d.now[x.toNat]? = some s) : d.read x = s := by
 unfold Dk.read
 rw [if_pos (h.err0 hx)]
 unfold Dk.sector
 rw [List.getD_eq_getElem?_getD, hs, Option.getD_some]
theorem rdy_gerr (h : Rdy d) (ha : 0 ≤ a) : ∀ n : Nat, a + n ≤ d.safe.length → gerr d a n = 0
 | 0, _ => rfl
 | n + 1, hr => by
  have h1 := rdy_gerr h ha n (by omega)
  rw [gerr_succ, if_pos h1]
  exact h.err0 (has_of (by omega) (by omega))
theorem chunks (b : List UInt8) : ∀ n : Nat, 64 * n ≤ b.length → (List.range n).flatMap (fun i => (b.drop (64 * i)).take 64) = b.take (64 * n)
 | 0, _ => by simp
 | n + 1, h => by
  rw [List.range_succ, List.flatMap_append, chunks b n (by omega), List.flatMap_cons, List.flatMap_nil, List.append_nil, Nat.mul_succ, List.take_add]
theorem Rdy.puts_gat (h : Rdy d) (ha : 0 ≤ a) (hb : b.length = 64 * n) (hr : a + n ≤ d.safe.length) : gat (d.puts a b) a n = b ∧ gerr (d.puts a b) a n = 0 := by
 obtain ⟨h1, h2, h3⟩ := h.puts ha hb hr
 refine ⟨?_, rdy_gerr h1 ha n (by rw [h3]; exact hr)⟩
 have : ∀ m : Nat, m ≤ n → gat (d.puts a b) a m = (List.range m).flatMap (fun i => (b.drop (64 * i)).take 64) := by
  intro m
  induction m with
  | zero => intro _; rfl
  | succ m ih =>
   intro hm
   rw [gat_succ, ih (by omega), List.range_succ, List.flatMap_append, List.flatMap_cons, List.flatMap_nil, List.append_nil]
   congr 1
   refine h1.read_sec (has_of (by omega) (by rw [h3]; omega)) ?_
   rw [h2, show (a + (m : Nat)).toNat = a.toNat + m from by omega]
   exact setSecs_at _ _ _ _ _ (by omega) (by rw [Dk.now_length]; omega)
 replace this := this n (Nat.le_refl _)
 rw [this, chunks b n (by omega), List.take_of_length_le (by omega)]
theorem gat_agr {lo hi : Int} (h : Agr d d' lo hi) (hlo : lo ≤ a) : ∀ n : Nat, a + n ≤ hi → gat d' a n = gat d a n ∧ gerr d' a n = gerr d a n
 | 0, _ => ⟨rfl, rfl⟩
 | n + 1, hr => by
  obtain ⟨h1, h2⟩ := gat_agr h hlo n (by omega)
  obtain ⟨h3, h4⟩ := h (a + (n : Nat)) (by omega) (by omega)
  exact ⟨by rw [gat_succ, gat_succ, h1, h4], by rw [gerr_succ, gerr_succ, h2, h3]⟩
/-- .. even if behind the record they are others -/
theorem follow_agr2 {c : Cf} {q q' : Ps} {r : Rc} {e : Int} {lo hi : Int} (h : Agr d d' lo hi) (hlo : lo ≤ c.at_ q.s + q.o) (hf : follow d c q = (some (r, q'), e)) (hhi : c.at_ q.s + q'.o ≤ hi) : follow d' c q = (some (r, q'), e) := by
 have hf0 := hf
 obtain ⟨_, hp, _, _⟩ := follow_place hf0
 have hn : q'.o = q.o + (sizeRc (d.read (c.at_ q.s + q.o)) : Nat) := by
  unfold follow at hf
  split at hf
  ·split at hf
   ·split at hf
    ·cases hf
    ·split at hf
     ·split at hf
      ·cases hf
      ·split at hf
       ·injection hf with h1 h2
        injection h1 with h1
        injection h1 with h1 h3
        rw [← h3]
       ·cases hf
     ·cases hf
   ·cases hf
  ·cases hf
 obtain ⟨h1, h2⟩ := h (c.at_ q.s + q.o) hlo (by omega)
 obtain ⟨h3, h4⟩ := gat_agr h hlo (sizeRc (d.read (c.at_ q.s + q.o))) (by omega)
 rw [← hf0]
 unfold follow
 rw [h1, h2, h3, h4]
end
theorem rcHd_take (b : List UInt8) : rcHd (b.take 64) = rcHd b ∧ rcK (b.take 64) = rcK b := by
 have h1 : (b.take 64).take 2 = b.take 2 := by rw [List.take_take]; rfl
 have h2 : ((b.take 64).drop 14).take 1 = (b.drop 14).take 1 := by rw [List.drop_take, List.take_take]; rfl
 have h3 : ((b.take 64).drop 15).take 1 = (b.drop 15).take 1 := by rw [List.drop_take, List.take_take]; rfl
 unfold rcHd rcN rcK
 rw [h1, h2, h3]
 exact ⟨rfl, rfl⟩
theorem sizeRc_laid {r : Rc} (h : rcMay r = true) : sizeRc ((rcBytes r).take 64) = 1 + r.bl.length := by
 obtain ⟨h1, h2⟩ := rcOf_bytes h
 have hl := rcBytes_length h
 obtain ⟨⟨hm, hn, hp, h3, h6⟩, hi, hb, hf⟩ := rcMay_iff.1 h
 have hk : r.bl.length ≤ 6 := by have := loads_le r.its; omega
 obtain ⟨t1, t2⟩ := rcHd_take (rcBytes r)
 unfold rcFit at h2
 simp only [Bool.and_eq_true, decide_eq_true_eq] at h2
 unfold sizeRc
 rw [t1, t2, if_pos ⟨by rw [List.length_take]; omega, h2.1⟩, rcK_bytes hk]
/-- the record that was laid at a place follows it -/
theorem follow_laid {d : Dk} {c : Cf} {q : Ps} {r : Rc} (hr : rcMay r = true) (hg : gat d (c.at_ q.s + q.o) (1 + r.bl.length) = rcBytes r) (hge : gerr d (c.at_ q.s + q.o) (1 + r.bl.length) = 0) (hd : d.Ok)
  (h1 : 1 ≤ q.o) (h2 : q.o + (1 + r.bl.length : Nat) ≤ c.l) (hn : r.n = q.l) (hp : r.p = q.p) (hm : q.m ≤ r.m) : follow d c q = (some (r, ⟨q.s, q.o + (1 + r.bl.length : Nat), q.l + 1, (rcSum r : Nat), r.m⟩), 0) := by
 have he0 : d.err (c.at_ q.s + q.o) = 0 := by rw [← gerr_one]; exact gerr_le hge (by omega)
 have hs1 : d.read (c.at_ q.s + q.o) = (rcBytes r).take 64 := by
  have h64 := Dk.read_64 hd he0
  have : gat d (c.at_ q.s + q.o) (1 + r.bl.length) = d.read (c.at_ q.s + q.o) ++ gat d (c.at_ q.s + q.o + 1) r.bl.length := by
   unfold gat
   rw [Nat.add_comm 1, List.range_succ_eq_map, List.flatMap_cons, List.flatMap_map]
   congr 1
   ·simp
   ·congr 1
    funext i
    congr 1
    simp only [Nat.succ_eq_add_one]
    omega
  rw [← hg, this, List.take_left' h64]
 have hsz : sizeRc (d.read (c.at_ q.s + q.o)) = 1 + r.bl.length := by rw [hs1]; exact sizeRc_laid hr
 rw [follow_rec ⟨h1, by omega⟩ rfl he0 hsz (by omega) hge (by rw [hg]; exact dec_rc hr), if_pos ⟨hn, hp, hm⟩]
theorem sizeRc_zero : sizeRc (List.replicate 64 0) = 0 := by
 have : rcHd (List.replicate 64 0) = false := by decide
 unfold sizeRc
 rw [this]
 simp
theorem follow_zero {d : Dk} {c : Cf} {q : Ps} (he : d.err (c.at_ q.s + q.o) = 0) (hz : d.read (c.at_ q.s + q.o) = List.replicate 64 0) : follow d c q = (none, 0) := by
 by_cases h : 1 ≤ q.o ∧ q.o ≤ c.l - 1
 ·exact follow_size h rfl he (by rw [hz]; exact sizeRc_zero) (.inl rfl)
 ·exact follow_out h
/-- records that follow one another from a place on, none of which tells another segment -/
inductive Laid (d : Dk) (c : Cf) : Ps → List (Ps × Rc) → Ps → Prop
 | nil (q : Ps) : Laid d c q [] q
 | cons {q q1 q' : Ps} {r : Rc} {l : List (Ps × Rc)} : follow d c q = (some (r, q1), 0) → nextOf r = none → Laid d c q1 l q' → Laid d c q ((q, r) :: l) q'
theorem Laid.snoc {d : Dk} {c : Cf} {q q1 q2 : Ps} {r : Rc} {l : List (Ps × Rc)} (h : Laid d c q l q1) (hf : follow d c q1 = (some (r, q2), 0)) (hn : nextOf r = none) : Laid d c q (l ++ [(q1, r)]) q2 := by
 induction h with
 | nil q => exact .cons hf hn (.nil _)
 | cons h1 h2 _ ih => exact .cons h1 h2 (ih hf)
theorem Laid.place {d : Dk} {c : Cf} {q q' : Ps} {l : List (Ps × Rc)} (h : Laid d c q l q') : q'.s = q.s ∧ q.o + l.length ≤ q'.o := by
 induction h with
 | nil q => simp
 | cons h1 h2 _ ih =>
  obtain ⟨e1, e2, _, _⟩ := follow_place h1
  rw [List.length_cons]
  exact ⟨ih.1.trans e1, by omega⟩
theorem Laid.scan {d : Dk} {c : Cf} {q q' : Ps} {l : List (Ps × Rc)} (h : Laid d c q l q') : ∀ k, scanG d c (k + l.length) q = (l ++ (scanG d c k q').1, (scanG d c k q').2) := by
 induction h with
 | nil q => intro k; rfl
 | cons h1 h2 _ ih =>
  intro k
  rw [List.length_cons, ← Nat.add_assoc, scanG_some h1, h2]
  simp only [Option.isSome_none, Bool.false_eq_true, if_false]
  rw [ih k]
  rfl
theorem Laid.agr {d d' : Dk} {c : Cf} {q q' : Ps} {l : List (Ps × Rc)} {lo hi : Int} (h : Laid d c q l q') (ha : Agr d d' lo hi) (hlo : lo ≤ c.at_ q.s + q.o) (hhi : c.at_ q.s + q'.o ≤ hi) : Laid d' c q l q' := by
 induction h with
 | nil q => exact .nil q
 | cons h1 h2 h3 ih =>
  obtain ⟨e1, e2, _, _⟩ := follow_place h1
  obtain ⟨e3, e4⟩ := h3.place
  refine .cons (follow_agr2 ha hlo h1 (by omega)) h2 (ih (by rw [e1]; omega) (by rw [e1]; omega))
/-- gone through to its end -/
theorem Laid.told {d : Dk} {c : Cf} {q q' : Ps} {l : List (Ps × Rc)} {e : Int} (h : Laid d c q l q') (hq : 1 ≤ q.o) (hq' : q'.o ≤ 64) (hf : follow d c q' = (none, e)) : scanG d c 65 q = (l, q', e) := by
 obtain ⟨_, h2⟩ := h.place
 obtain ⟨k, hk⟩ : ∃ k, 65 = k + 1 + l.length := ⟨64 - l.length, by omega⟩
 rw [hk, h.scan (k + 1), scanG_none hf, List.append_nil]
end Go.Kn
namespace Go.Kn
open Go Go.RowKit
theorem may_k (k b c v : Int) : (It.mk k b c v).may = true ↔ ((k = 1 ∨ k = 5) ∧ (0 ≤ b ∧ b ≤ 63) ∧ c = 0 ∧ v = 0) ∨ ((k = 2 ∨ k = 6) ∧ (0 ≤ b ∧ b ≤ 63) ∧ (1 ≤ c ∧ c ≤ 64 - b) ∧ v = 0) ∨ (k = 3 ∧ b = 0 ∧ c = 0 ∧ (1 ≤ v ∧ v ≤ 2147483647)) ∨ (k = 4 ∧ (0 ≤ b ∧ b ≤ 63) ∧ c = 0 ∧ (1 ≤ v ∧ v ≤ 4095)) ∨ (k = 7 ∧ b = 0 ∧ c = 0 ∧ (0 ≤ v ∧ v ≤ 31)) := by
 unfold It.may
 simp only
 split
 ·simp only [Bool.and_eq_true, decide_eq_true_eq, beq_iff_eq]; omega
 ·split
  ·simp only [Bool.and_eq_true, decide_eq_true_eq, beq_iff_eq]; omega
  ·split
   ·simp only [Bool.and_eq_true, decide_eq_true_eq, beq_iff_eq]; omega
   ·split
    ·simp only [Bool.and_eq_true, decide_eq_true_eq, beq_iff_eq]; omega
    ·split
     ·simp only [Bool.and_eq_true, decide_eq_true_eq, beq_iff_eq]; omega
     ·simp; omega
theorem loads_one (i : It) (h : i.may = true) : loads [i] = if i.k = 1 ∨ i.k = 4 ∨ i.k = 5 then 1 else 0 := by
 unfold loads It.loaded
 rw [List.filter_cons, h]
 by_cases h1 : i.k = 1
 ·simp [h1]
 ·by_cases h4 : i.k = 4
  ·simp [h4]
  ·by_cases h5 : i.k = 5
   ·simp [h5]
   ·simp [h1, h4, h5]
/-- a segment in which records stand from one place on, noughts behind them -/
structure Lg (d : Dk) (c : Cf) (q0 : Ps) (l : List (Ps × Rc)) (q : Ps) : Prop where
 rdy : Rdy d
 len : (d.safe.length : Int) = c.sectors
 laid : Laid d c q0 l q
 zs : ∀ x, c.at_ q.s + q.o ≤ x → x < c.at_ q.s + c.l → d.read x = List.replicate 64 0
 o0 : 1 ≤ q0.o
 o1 : q.o ≤ c.l - 1
 s0 : 0 ≤ q0.s ∧ q0.s ≤ c.s - 1
theorem Cf.sec (c : Cf) (h : c.Ok) (k : Int) (h0 : 0 ≤ k) (h1 : k ≤ c.s - 1) : 2 ≤ c.at_ k ∧ c.at_ k + c.l ≤ c.sectors ∧ c.sectors ≤ 4096 := by
 obtain ⟨m1, m2⟩ := Cf.prod c h k h0 (by omega)
 obtain ⟨m3, m4⟩ := Cf.prod c h c.s (by have := h.2.1; omega) (by omega)
 have h3 := rln_bounds h
 have h4 := pgs_bounds h
 have h5 : (c.s - k) * c.l ≥ 1 * c.l := Int.mul_le_mul_of_nonneg_right (by omega) (by have := h.2.2; omega)
 rw [Int.sub_mul] at h5
 unfold Cf.at_ Cf.sectors
 rw [if_pos ⟨h0, h1⟩]
 omega
theorem Lg.none_ {d : Dk} {c : Cf} {q0 q : Ps} {l : List (Ps × Rc)} (h : Lg d c q0 l q) (hc : c.Ok) : follow d c q = (none, 0) := by
 obtain ⟨h1, h2⟩ := h.laid.place
 obtain ⟨g1, g2, g3⟩ := Cf.sec c hc q.s (by rw [h1]; exact h.s0.1) (by rw [h1]; exact h.s0.2)
 have hl := h.len
 have ho0 := h.o0
 have ho := h.o1
 exact follow_zero (h.rdy.err0 (has_of (by omega) (by omega))) (h.zs _ (Int.le_refl _) (by omega))
theorem Lg.scan {d : Dk} {c : Cf} {q0 q : Ps} {l : List (Ps × Rc)} (h : Lg d c q0 l q) (hc : c.Ok) : scanG d c 65 q0 = (l, q, 0) :=
 h.laid.told h.o0 (by have := h.o1; have := hc.2.2; omega) (h.none_ hc)
/-- one record more -/
theorem Lg.add {d : Dk} {c : Cf} {q0 q : Ps} {l : List (Ps × Rc)} (h : Lg d c q0 l q) (hc : c.Ok) {r : Rc} (hr : rcMay r = true) (hn : r.n = q.l) (hp : r.p = q.p) (hm : q.m ≤ r.m) (hx : nextOf r = none) (hf : q.o + (1 + r.bl.length : Nat) ≤ c.l - 1) :
  Lg (d.puts (c.at_ q.s + q.o) (rcBytes r)) c q0 (l ++ [(q, r)]) ⟨q.s, q.o + (1 + r.bl.length : Nat), q.l + 1, (rcSum r : Nat), r.m⟩ := by
 obtain ⟨h1, h2⟩ := h.laid.place
 obtain ⟨g1, g2, g3⟩ := Cf.sec c hc q.s (by rw [h1]; exact h.s0.1) (by rw [h1]; exact h.s0.2)
 have hl := h.len
 have ho := h.o0
 have hb := rcBytes_length hr
 have hpt := h.rdy.puts (a := c.at_ q.s + q.o) (by omega) hb (by omega)
 have hg := h.rdy.puts_gat (a := c.at_ q.s + q.o) (by omega) hb (by omega)
 refine ⟨hpt.1, by rw [hpt.2.2]; exact hl, ?_, ?_, h.o0, by simp only; omega, h.s0⟩
 ·refine (h.laid.agr (lo := c.at_ q0.s) (h.rdy.puts_agr (lo := c.at_ q0.s) (hi := c.at_ q.s + q.o) (by omega) hb (by omega) (by rw [← h1]; omega) (.inl (Int.le_refl _))) (by omega) (by rw [h1]; exact Int.le_refl _)).snoc ?_ hx
  exact follow_laid hr hg.1 hg.2 hpt.1.ok (by omega) (by omega) hn hp hm
 ·intro x hx1 hx2
  simp only at hx1 hx2
  have := h.rdy.puts_agr (a := c.at_ q.s + q.o) (lo := x) (hi := x + 1) (by omega) hb (by omega) (by omega) (.inr (by omega)) x (Int.le_refl _) (by omega)
  rw [this.2]
  exact h.zs x (by omega) (by omega)
theorem read_new (n : Nat) (x : Int) (hn : 1 ≤ n ∧ n ≤ 4096) (h0 : 0 ≤ x) (h1 : x < n) : (Dk.new n).read x = List.replicate 64 0 := by
 refine (Rdy.new hn.1 hn.2).read_sec (has_of h0 (by simp [Dk.new]; omega)) ?_
 show (List.replicate n (List.replicate 64 (0 : UInt8)))[x.toNat]? = _
 rw [List.getElem?_replicate, if_pos (by omega)]
/-- a new disk with a segment's head -/
theorem Lg.start (c : Cf) (hc : c.Ok) (p q : Ps) (hq : q.s = p.s) (hs : 0 ≤ p.s ∧ p.s ≤ c.s - 1) (ho : 1 ≤ q.o ∧ q.o ≤ c.l - 1) : Lg ((Dk.new c.sectors.toNat).puts (c.at_ p.s) (headB p)) c q [] q := by
 obtain ⟨g1, g2, g3⟩ := Cf.sec c hc p.s hs.1 hs.2
 have hl := hc.2.2
 have hr : Rdy (Dk.new c.sectors.toNat) := Rdy.new (by omega) (by omega)
 have hlen : (Dk.new c.sectors.toNat).safe.length = c.sectors.toNat := by simp [Dk.new]
 have hpt := hr.puts (a := c.at_ p.s) (b := headB p) (n := 1) (by omega) (headB_length p) (by omega)
 refine ⟨hpt.1, by rw [hpt.2.2, hlen]; omega, .nil q, ?_, ho.1, ho.2, by rw [hq]; exact hs⟩
 intro x hx1 hx2
 rw [hq] at hx1 hx2
 have := hr.puts_agr (a := c.at_ p.s) (b := headB p) (n := 1) (lo := x) (hi := x + 1) (by omega) (headB_length p) (by omega) (by omega) (.inr (by omega)) x (Int.le_refl _) (by omega)
 rw [this.2]
 exact read_new _ x (by omega) (by omega) (by omega)
end Go.Kn
namespace Go.Proofs.YtgcfdjcpcclcjaaGreat
open Go Go.RowKit Go.Kn
theorem _root_.Go.Kn.fc_geo {w : World} {M : Nat → Prop} {p : Nat} {b s l : Int} (h : GeoAt w p b s l) (hp : ¬ M p) : Fc w M (fun W => GeoAt W p b s l) := fun W hW => ⟨fc_cell h.c0 hp W hW, fc_cell h.c1 hp W hW, fc_cell h.c2 hp W hW⟩
end Go.Proofs.YtgcfdjcpcclcjaaGreat
namespace Go.Proofs.YtgcfdjcpcclcjaaGreat
open Go Go.RowKit Go.Kn
theorem Duo.dk {w0 w : World} {p : PD} {r : RD} {d e : Dk} {c : Fr3} (h : Duo w0 w p r d e c) : ∃ L0 G0 F0, Wc w0 w (c.L ++ L0) (c.G ++ G0) (c.F ++ F0) ∧ DkIn p d L0 ∧ ∀ w' (c' : Fr3), Wc w0 w' (c'.L ++ L0) (c'.G ++ G0) (c'.F ++ F0) → Duo w0 w' p r d e c' := by
 obtain ⟨v, v', lv, k, ls, sl, hs, hl, hm⟩ := h.mem
 have pl : ∀ L, (p.L v d (r.L v' lv sl e L)).Perm (L ++ p.L v d (r.L v' lv sl e [])) := fun L => by
  have := List.perm_append_comm (l₁ := p.L v d (r.L v' lv sl e [])) (l₂ := L)
  simpa [PD.L, RD.L] using this
 have pg : ∀ (a b x : Gs) G, (a :: b :: x :: G).Perm (G ++ [a, b, x]) := fun a b x G => by
  have := List.perm_append_comm (l₁ := [a, b, x]) (l₂ := G)
  simpa using this
 refine ⟨p.L v d (r.L v' lv sl e []), [⟨158, 65, v, d.held.length, heldV d.held⟩, ⟨175, 2, v', e.held.length, heldR e.held hs⟩, ⟨47, 1, lv, k, ls⟩], [(fun W => Bls W sl e.safe), (fun W => Bls W hs (e.held.map (·.2)))], ?_, ?_, fun w' c' h' => ?_⟩
 ·refine (hm.perm (pl _) (pg _ _ _ _)).subF ?_
  intro f hf
  rcases List.mem_append.1 hf with hf | hf
  ·exact List.mem_cons_of_mem _ (List.mem_cons_of_mem _ hf)
  ·simp only [List.mem_cons, List.not_mem_nil, or_false] at hf ⊢
   rcases hf with hf | hf
   ·exact .inl hf
   ·exact .inr (.inl hf)
 ·exact ⟨h.ok, h.N, ⟨v, by simp [PD.L]⟩, by simp [PD.L], by simp [PD.L]⟩
 ·refine ⟨h.ok, h.N, h.hs, h.hn, h.hf, h.ok', h.N', h.hs', h.hf', v, v', lv, k, ls, sl, hs, hl, (h'.perm (pl _).symm (pg _ _ _ _).symm).subF ?_⟩
  intro f hf
  simp only [List.mem_cons] at hf
  rcases hf with hf | hf | hf
  ·exact List.mem_append.2 (.inr (by simp [hf]))
  ·exact List.mem_append.2 (.inr (by simp [hf]))
  ·exact List.mem_append.2 (.inl hf)
theorem Duo.put {w0 w : World} {p : PD} {r : RD} {d e : Dk} {L : List (Nat × List Value)} {G : List Gs} {F : List (World → Prop)} (h : Duo w0 w p r d e ⟨L, G, F⟩) (i : Nat) {b : Nat} {cs : List Value} (hi : L[i]? = some (b, cs)) (j : Nat) (u : Value) : Duo w0 (w.setCell ⟨b, j, none⟩ u) p r d e ⟨L.set i (b, cs.set j u), G, F⟩ := by
 obtain ⟨L0, G0, F0, hw, back⟩ := h.fr
 have hlt : i < L.length := (List.getElem?_eq_some_iff.1 hi).1
 have hw2 := hw.put i (p := b) (cs := cs) (by show (L ++ L0)[i]? = _; rw [List.getElem?_append_left hlt]; exact hi) j u
 refine back _ ⟨L.set i (b, cs.set j u), G, F⟩ ?_
 have e1 : (L ++ L0).set i (b, cs.set j u) = L.set i (b, cs.set j u) ++ L0 := by rw [List.set_append_left _ _ hlt]
 rw [← e1]
 exact hw2
theorem Duo.alloc {w0 w : World} {p : PD} {r : RD} {d e : Dk} {c : Fr3} (h : Duo w0 w p r d e c) (o : Obj) : Duo w0 (w.alloc o) p r d e c := h.keep0 ((Only.refl _ _).alloc _)
theorem Duo.drew {w0 w : World} {p : PD} {r : RD} {d e : Dk} {c : Fr3} (h : Duo w0 w p r d e c) : Duo w0 w.drew p r d e c := h.keep0 (Only.refl _ _).drew
theorem Duo.row {w0 w : World} {p : PD} {r : RD} {d e : Dk} {c : Fr3} (h : Duo w0 w p r d e c) {g : Gs} (hg : g ∈ c.G) : w.ownsRow w0.heap.size g.e g.sz g.v g.n g.xs := by
 obtain ⟨L0, G0, F0, hw, -⟩ := h.fr
 exact hw.g1 g (List.mem_append_left _ hg)
end Go.Proofs.YtgcfdjcpcclcjaaGreat
namespace Go.Kn
open Go Go.RowKit
theorem headB_dec {p : Ps} (h : headMay p.head = true) : decHead (headB p) = some p.head := by
 obtain ⟨b, h1, _, _, h2⟩ := head_back h
 rw [headB_enc h] at h1
 injection h1 with h1
 rw [h1]
 exact h2
/-- a segment's head stands there -/
structure Hd (d : Dk) (c : Cf) (p : Ps) : Prop where
 e : d.err (c.at_ p.s) = 0
 r : d.read (c.at_ p.s) = headB p
 may : headMay p.head = true
theorem Hd.agr {d d' : Dk} {c : Cf} {p : Ps} {lo hi : Int} (h : Hd d c p) (ha : Agr d d' lo hi) (h1 : lo ≤ c.at_ p.s) (h2 : c.at_ p.s < hi) : Hd d' c p := by
 obtain ⟨e1, e2⟩ := ha _ h1 h2
 exact ⟨e1.trans h.e, e2.trans h.r, h.may⟩
theorem Hd.start (c : Cf) (hc : c.Ok) (p : Ps) (hs : 0 ≤ p.s ∧ p.s ≤ c.s - 1) (hm : headMay p.head = true) : Hd ((Dk.new c.sectors.toNat).puts (c.at_ p.s) (headB p)) c p := by
 obtain ⟨g1, g2, g3⟩ := Cf.sec c hc p.s hs.1 hs.2
 have hl := hc.2.2
 have hr : Rdy (Dk.new c.sectors.toNat) := Rdy.new (by omega) (by omega)
 have hlen : (Dk.new c.sectors.toNat).safe.length = c.sectors.toNat := by simp [Dk.new]
 obtain ⟨h1, h2⟩ := hr.puts_gat (a := c.at_ p.s) (b := headB p) (n := 1) (by omega) (headB_length p) (by omega)
 rw [gat_one] at h1
 rw [gerr_one] at h2
 exact ⟨h2, h1, hm⟩
theorem Hd.scanB {d : Dk} {c : Cf} {p : Ps} (h : Hd d c p) (hc : c.Ok) (hs : 0 ≤ p.s ∧ p.s ≤ c.s - 1) : Kn.scanB d c false ⟨p.s, 0, p.l, p.p, p.m⟩ = (⟨p.s, 1, p.l, p.p, p.m⟩, true, 0) ∧ Kn.scanB d c true ⟨p.s, 0, 0, 0, 0⟩ = (⟨p.s, 1, p.l, p.p, p.m⟩, true, 0) := by
 have hl := hc.2.2
 have hd : decHead (d.read (c.at_ p.s)) = some p.head := by rw [h.r]; exact headB_dec h.may
 constructor
 ·rw [scanB_some (p := ⟨p.s, 0, p.l, p.p, p.m⟩) ⟨hs, by simp only; omega⟩ (by simp) h.e hd]
  simp [headFits, Ps.head]
 ·rw [scanB_some (p := ⟨p.s, 0, 0, 0, 0⟩) ⟨hs, by simp only; omega⟩ (by simp) h.e hd]
  simp [Ps.head]
theorem Hd.scan {d : Dk} {c : Cf} {p : Ps} (h : Hd d c p) (hc : c.Ok) (hs : 0 ≤ p.s ∧ p.s ≤ c.s - 1) : scanR d c false ⟨p.s, 0, p.l, p.p, p.m⟩ = scanG d c 65 ⟨p.s, 1, p.l, p.p, p.m⟩ ∧ scanR d c true ⟨p.s, 0, 0, 0, 0⟩ = scanG d c 65 ⟨p.s, 1, p.l, p.p, p.m⟩ := by
 obtain ⟨h1, h2⟩ := h.scanB hc hs
 unfold scanR
 rw [h1, h2]
 exact ⟨rfl, rfl⟩
theorem Krs.one {w : World} {g : Nat} {s : Option Addr × Nat × Nat} {zs : List Int} {f : Int} (ho : Own w g [slv s, .int .i64 f, .int .i64 0, .int .i64 0, .int .i64 0]) (hi : Ins w s.1 s.2.1 s.2.2 zs) : Krs w (some ⟨g, 0, none⟩) 1 1 [⟨zs, f, 0, 0, 0⟩] [s] := by
 refine ⟨rfl, rfl, Nat.le_refl _, by decide, fun _ => ⟨g, 0, rfl, fun i h h2 => ?_⟩, fun i h h2 => ?_⟩
 ·obtain rfl : i = 0 := by simp at h; omega
  exact ⟨ho.cell 0 (by simp), ho.cell 1 (by simp), ho.cell 2 (by simp), ho.cell 3 (by simp), ho.cell 4 (by simp)⟩
 ·obtain rfl : i = 0 := by simp at h; omega
  exact hi
end Go.Kn
namespace Go.Proofs.YtgcfdjcpcclcjaaGreat
open Go Go.RowKit Go.Kn
theorem Duo.permL {w0 w : World} {p : PD} {r : RD} {d e : Dk} {L L' : List (Nat × List Value)} {G : List Gs} {F : List (World → Prop)} (h : Duo w0 w p r d e ⟨L, G, F⟩) (hL : L.Perm L') : Duo w0 w p r d e ⟨L', G, F⟩ := by
 obtain ⟨L0, G0, F0, hw, back⟩ := h.fr
 exact back w ⟨L', G, F⟩ (hw.perm (hL.append_right L0) (List.Perm.refl _))
end Go.Proofs.YtgcfdjcpcclcjaaGreat
namespace Go.Proofs.YtgcfdjcpcclcjaaGreat
open Go.ChangeShapes Go.WideShapes Go.ChangeAt Go.RowKit Go.Kn
theorem own : ownKnob Tryz.prog.godebug = none := by kernel_rfl
theorem laidOut : laidOutB Tryz.prog = true := by kernel_rfl
/-- a slice of integers that came in: nil, or a row of cap cells. -/
def IsRow (k : IntKind) (w : World) (a : Option Addr) (len cap : Nat) (zs : List Int) : Prop :=
 (a = none ∧ len = 0 ∧ cap = 0 ∧ zs = []) ∨
 ∃ x, a = some x ∧ len ≤ cap ∧ cap ≤ maxLen ∧ zs.length = cap ∧ (∀ i, i < zs.length → w.cell? (x.add i) = some (.int k (zs.getD i 0))) ∧ ∀ n ∈ zs, (Lit.int k n).wf = true
theorem add_none {w : World} {x : Addr} {i : Nat} {v : Value} (h : w.cell? (x.add i) = some v) (h0 : ∃ u, w.cell? (x.add 0) = some u) : x.add i = ⟨x.block, x.off + i, none⟩ := by
 obtain ⟨u, hu⟩ := h0
 have hs : x.spot = none := by
  have := World.cell?_spot hu
  simpa [Addr.add] using this
 obtain ⟨b, o, s⟩ := x
 simp only at hs
 subst hs
 unfold Addr.add
 split <;> simp_all
theorem IsRow.row1 {k : IntKind} {w : World} {a : Option Addr} {len cap : Nat} {zs : List Int} (h : IsRow k w a len cap zs) : Row1 w a len cap ((zs.take len).map (Value.int k)) := by
 rcases h with ⟨rfl, rfl, rfl, rfl⟩ | ⟨x, rfl, hl, hm, hz, hcell, hwz⟩
 ·exact Row1.nil w
 ·refine ⟨by simp; omega, hl, hm, fun hn => ⟨x.block, x.off, ?_, fun i hi => ?_⟩⟩
  ·have h0 := hcell 0 (by omega)
   have := add_none h0 ⟨_, h0⟩
   unfold Addr.add at this
   simp at this
   rw [this]
  ·have hi' : i < len := by simp at hi; omega
   have h0 := hcell 0 (by omega)
   have h1 := hcell i (by omega)
   rw [add_none h1 ⟨_, h0⟩] at h1
   rw [h1]
   simp [List.getElem_take, show i < zs.length by omega]
theorem IsRow.ins {w : World} {a : Option Addr} {len cap : Nat} {zs : List Int} (h : IsRow .i64 w a len cap zs) : Ins w a len cap (zs.take len) := h.row1
theorem IsRow.wf {k : IntKind} {w : World} {a : Option Addr} {len cap : Nat} {zs : List Int} (h : IsRow k w a len cap zs) : ∀ z ∈ zs.take len, (Lit.int k z).wf = true := by
 intro z hz
 rcases h with ⟨rfl, rfl, rfl, rfl⟩ | ⟨x, rfl, hl, hm, hz', hcell, hwz⟩
 ·simp at hz
 ·exact hwz z (List.mem_of_mem_take hz)
section
open Go.Deep
variable {H : Type} {enc : TypeId × Value → H} {P : Program} {w : World} {base : Nat} {spare : Nat → Bool} {held : Bool}
end
end Go.Proofs.YtgcfdjcpcclcjaaGreat
namespace Go.Kn
open Go Go.RowKit
/-- a slice of slices of numbers -/
def Inss (w : World) (A : Option Addr) (n c : Nat) (l : List (List Int)) : Prop := ∃ sl : List (Option Addr × Nat × Nat), Row1 w A n c (sl.map slv) ∧ sl.length = l.length ∧ ∀ i (h1 : i < sl.length) (h2 : i < l.length), Ins w sl[i].1 sl[i].2.1 sl[i].2.2 l[i]
theorem Inss.nil (w : World) : Inss w none 0 0 [] := ⟨[], Row1.nil w, rfl, fun i h1 => by simp at h1⟩
theorem Inss.len {w : World} {A : Option Addr} {n c : Nat} {l : List (List Int)} (h : Inss w A n c l) : l.length = n := by
 obtain ⟨sl, h1, h2, _⟩ := h
 have := h1.len
 simp at this
 omega
theorem Krs.nil (w : World) : Krs w none 0 0 [] [] := ⟨rfl, rfl, Nat.le_refl _, Nat.zero_le _, fun h => absurd h (by omega), fun i h => by simp at h⟩
end Go.Kn
namespace Go.Kn
open Go Go.RowKit
def InRows (sl : List (Option Addr × Nat × Nat)) (l : List (List Int)) (W : World) : Prop := ∀ (i : Nat) (s : Option Addr × Nat × Nat) (z : List Int), sl[i]? = some s → l[i]? = some z → Ins W s.1 s.2.1 s.2.2 z
/-- a slice of slices, as two facts -/
theorem Inss.old {w : World} {A : Option Addr} {n c : Nat} {l : List (List Int)} (h : Inss w A n c l) : ∃ sl, sl.length = l.length ∧ Wc w w [] [] [InRows sl l, fun W => Row1 W A n c (sl.map slv)] := by
 obtain ⟨sl, hr, hl, hi⟩ := h
 have h1 := (Wc.start w).old (f := fun W => Row1 W A n c (sl.map slv)) (Row1.fc hr (by simp))
 refine ⟨sl, hl, h1.old (f := InRows sl l) (fun W hW i s z hs hz => ?_)⟩
 obtain ⟨hi1, rfl⟩ := List.getElem?_eq_some_iff.1 hs
 obtain ⟨hi2, rfl⟩ := List.getElem?_eq_some_iff.1 hz
 exact Row1.fc (hi i hi1 hi2) (M := fun _ => False) (by simp) W hW
theorem Kb.hd {w w' : World} {D : Nat} {x : Option (List Deferred)} (hk : Kb w.heap.size w w') (h : w.heap[D]? = some (.deferred x)) : w'.heap[D]? = some (.deferred x) := hk.keep D _ (lt_of_obj h) h rfl
theorem Laid.cut {d : Dk} {c : Cf} {q' : Ps} {l2 : List (Ps × Rc)} : ∀ {l1 : List (Ps × Rc)} {q : Ps}, Laid d c q (l1 ++ l2) q' → ∃ qm, Laid d c q l1 qm ∧ Laid d c qm l2 q'
 | [], q, h => ⟨q, .nil _, h⟩
 | x :: l1, q, h => by
  cases h with
  | cons h1 h2 h3 =>
   obtain ⟨qm, g1, g2⟩ := Laid.cut h3
   exact ⟨qm, .cons h1 h2 g1, g2⟩
theorem Laid.last {d : Dk} {c : Cf} {q' x : Ps} {r : Rc} : ∀ {l : List (Ps × Rc)} {q : Ps}, Laid d c q (l ++ [(x, r)]) q' → follow d c x = (some (r, q'), 0)
 | [], q, h => by
  cases h with
  | cons h1 h2 h3 =>
   cases h3
   exact h1
 | y :: l, q, h => by
  cases h with
  | cons h1 h2 h3 => exact Laid.last h3
/-- stopped behind some records it goes on there -/
theorem Lg.stop {d : Dk} {c : Cf} {q0 q e x : Ps} {r : Rc} {l pre : List (Ps × Rc)} (h : Lg d c q0 l q) (hc : c.Ok) (hp : pre ++ [(x, r)] <+: l) (hf : follow d c x = (some (r, e), 0)) :
  (e.s = q0.s ∧ 1 ≤ e.o ∧ e.o ≤ c.l - 1) ∧ scanG d c 65 e = (l.drop (pre.length + 1), q, 0) := by
 obtain ⟨l2, rfl⟩ := hp
 obtain ⟨qm, g1, g2⟩ := h.laid.cut
 have g3 := g1.last
 rw [hf] at g3
 injection g3 with g3 _
 injection g3 with g3
 injection g3 with _ g3
 subst g3
 have p1 := g1.place
 have p2 := g2.place
 have ho := h.o0
 have ho1 := h.o1
 have hl := hc.2.2
 refine ⟨⟨p1.1, by omega, by omega⟩, ?_⟩
 have hd : (pre ++ [(x, r)] ++ l2).drop (pre.length + 1) = l2 := List.drop_left' (by simp)
 rw [hd]
 exact g2.told (by omega) (by omega) (h.none_ hc)
end Go.Kn
namespace Go.Proofs.YtgcfdjcpcclcjaaGreat
open Go Go.RowKit Go.Kn
theorem Duo.impF {w0 w : World} {p : PD} {r : RD} {d e : Dk} {L : List (Nat × List Value)} {G : List Gs} {F : List (World → Prop)} (h : Duo w0 w p r d e ⟨L, G, F⟩) {F' : List (World → Prop)} (hF : ∀ f ∈ F', ∀ W, (∀ g ∈ F, g W) → f W) : Duo w0 w p r d e ⟨L, G, F'⟩ := by
 obtain ⟨L0, G0, F0, hw, back⟩ := h.fr
 refine back w ⟨L, G, F'⟩ ⟨hw.only, hw.own, hw.lo, hw.nd, hw.g1, hw.g2, hw.g3, fun f hf w' h' => ?_⟩
 rcases List.mem_append.1 hf with hf | hf
 ·exact hF f hf w' (fun g hg => hw.fx g (List.mem_append_left _ hg) w' h')
 ·exact hw.fx f (List.mem_append_right _ hf) w' h'
end Go.Proofs.YtgcfdjcpcclcjaaGreat
namespace Go.Kn
open Go Go.RowKit
/-- where the records of a log stand -/
theorem Laid.first {d : Dk} {c : Cf} {q q' : Ps} {l : List (Ps × Rc)} (h : Laid d c q l q') : (l.map (·.1.o) ++ [q'.o])[0]? = some q.o := by
 cases h with
 | nil _ => rfl
 | cons h1 h2 h3 => rfl
end Go.Kn
namespace Go.Proofs.YtgcfdjcpcclcjaaGreat
open Go Go.RowKit Go.Kn
section
variable {w0 w w' : World} {p : PD} {r : RD} {d e : Dk} {L : List (Nat × List Value)} {G : List Gs} {F : List (World → Prop)}
theorem Duo.gnew (h : Duo w0 w p r d e ⟨L, G, F⟩) (t sz : Nat) : Duo w0 w p r d e ⟨L, ⟨t, sz, .slice none 0 0, 0, []⟩ :: G, F⟩ := by
 obtain ⟨L0, G0, F0, hw, back⟩ := h.fr
 exact back w ⟨L, _ :: G, F⟩ (hw.gnew t sz)
theorem Duo.gapp (h : Duo w0 w p r d e ⟨L, G, F⟩) (i : Nat) {x : Gs} (hi : G[i]? = some x) {v' : Value} {n' : Nat} {ys : List Value} (ho : w'.ownsRow w0.heap.size x.e x.sz v' n' ys) (hg : w.grownBy w' x.v.ownBlock) (hat : v'.ownBlock = x.v.ownBlock ∨ v'.ownBlock = some w.heap.size) : Duo w0 w' p r d e ⟨L, G.set i ⟨x.e, x.sz, v', n', ys⟩, F⟩ := by
 obtain ⟨L0, G0, F0, hw, back⟩ := h.fr
 have hlt : i < G.length := (List.getElem?_eq_some_iff.1 hi).1
 have hw2 := hw.gapp i (x := x) (by show (G ++ G0)[i]? = _; rw [List.getElem?_append_left hlt]; exact hi) ho hg hat
 refine back _ ⟨L, G.set i ⟨x.e, x.sz, v', n', ys⟩, F⟩ ?_
 show Wc w0 w' (L ++ L0) (G.set i ⟨x.e, x.sz, v', n', ys⟩ ++ G0) (F ++ F0)
 rw [← List.set_append_left _ _ hlt]
 exact hw2
theorem Duo.gadd (h : Duo w0 w p r d e ⟨L, G, F⟩) (hO : Only [] w w') {t sz n : Nat} {v : Value} {xs : List Value} (ho : w'.ownsRow w.heap.size t sz v n xs) : Duo w0 w' p r d e ⟨L, ⟨t, sz, v, n, xs⟩ :: G, F⟩ := by
 obtain ⟨L0, G0, F0, hw, back⟩ := h.fr
 exact back w' ⟨L, _ :: G, F⟩ (hw.gadd hO ho)
theorem Duo.gdrop {x : Gs} (h : Duo w0 w p r d e ⟨L, x :: G, F⟩) : Duo w0 w p r d e ⟨L, G, F⟩ := by
 obtain ⟨L0, G0, F0, hw, back⟩ := h.fr
 exact back w ⟨L, G, F⟩ hw.gdrop
theorem Duo.gform (h : Duo w0 w p r d e ⟨L, G, F⟩) (i : Nat) {t sz n : Nat} {v : Value} {xs : List Value} (hi : G[i]? = some ⟨t, sz, v, n, xs⟩) : ∃ A c, v = .slice A n c := by
 obtain ⟨L0, G0, F0, hw, back⟩ := h.fr
 have hlt : i < G.length := (List.getElem?_eq_some_iff.1 hi).1
 exact hw.gform i (by show (G ++ G0)[i]? = _; rw [List.getElem?_append_left hlt]; exact hi)
theorem Duo.gi (h : Duo w0 w p r d e ⟨L, G, F⟩) (i : Nat) {x : Gs} (hi : G[i]? = some x) : w.ownsRow w0.heap.size x.e x.sz x.v x.n x.xs := h.row (List.mem_of_getElem? hi)
/-- the cells of a gathered row of single cells -/
theorem Duo.grow (h : Duo w0 w p r d e ⟨L, G, F⟩) (i : Nat) {t n c : Nat} {A : Option Addr} {xs : List Value} (hi : G[i]? = some ⟨t, 1, .slice A n c, n, xs⟩) : Row1 w A n c xs := (Row1.of_owns (h.gi i hi)).1
theorem duo_write {c : Fr3} (h : Duo w0 w p r d e c) (a : Int) (A : Option Addr) (n cc : Nat) (b : List UInt8) (hb : (fun W => Bys W A n cc b) ∈ c.F) (hh : d.held.length ≤ 1000000) :
  Calls Tryz.prog 24 #[.pointer (some ⟨p.D, 0, none⟩), .int .i64 a, .slice A n cc] w fun en w' => en = .returned (.int .i64 (d.write a b).2) ∧ Duo w0 w' p r (d.write a b).1 e c := by
 obtain ⟨c1, hF, hP, back⟩ := h.ofP
 refine (dk_write_any w0 w p d c1 a A n cc b hP (hF _ hb) hh).mono ?_
 rintro en w1 ⟨rfl, h1⟩
 exact ⟨rfl, back _ _ h1⟩
end
end Go.Proofs.YtgcfdjcpcclcjaaGreat
namespace Go.Kn
open Go Go.RowKit
/-- a record of a lower Mount stands at a place -/
def Low (d : Dk) (c : Cf) (q : Ps) : Prop := ∃ r : Rc, rcMay r = true ∧ r.bl = [] ∧ gat d (c.at_ q.s + q.o) 1 = rcBytes r ∧ gerr d (c.at_ q.s + q.o) 1 = 0 ∧ r.m < q.m
theorem Low.none_ {d : Dk} {c : Cf} {q : Ps} (h : Low d c q) : follow d c q = (none, 0) := by
 obtain ⟨r, hm, hb, hg, he, hl⟩ := h
 by_cases hin : 1 ≤ q.o ∧ q.o ≤ c.l - 1
 ·have hlen := rcBytes_length hm
  rw [hb] at hlen
  have hs := sizeRc_laid hm
  rw [hb, List.take_of_length_le (by rw [hlen]; decide)] at hs
  rw [gat_one] at hg
  have he2 := he
  rw [gerr_one] at he2
  have hsz : sizeRc (d.read (c.at_ q.s + q.o)) = 1 := by rw [hg]; exact hs
  rw [follow_rec hin rfl he2 hsz (by omega) he (by rw [gat_one, hg]; exact dec_rc hm), if_neg (by intro h; omega)]
 ·exact follow_out hin
theorem Low.agr {d d' : Dk} {c : Cf} {q : Ps} {lo hi : Int} (h : Low d c q) (ha : Agr d d' lo hi) (h1 : lo ≤ c.at_ q.s + q.o) (h2 : c.at_ q.s + q.o + 1 ≤ hi) : Low d' c q := by
 obtain ⟨r, hm, hb, hg, he, hl⟩ := h
 obtain ⟨e1, e2⟩ := gat_agr ha h1 1 (by omega)
 exact ⟨r, hm, hb, e1.trans hg, e2.trans he, hl⟩
structure Mt (d : Dk) (c : Cf) (q0 q : Ps) (want : Nat) (down : Bool) : Prop where
 rdy : Rdy d
 len : (d.safe.length : Int) = c.sectors
 zs : ∀ x, c.at_ q.s + q.o ≤ x → x < c.at_ q.s + c.l → d.read x = List.replicate 64 0
 s : q.s = q0.s
 o0 : 1 ≤ q0.o ∧ q0.o + want ≤ q.o
 o1 : q.o ≤ c.l - 1
 s0 : 0 ≤ q0.s ∧ q0.s ≤ c.s - 1
 st : (down = false ∧ ∃ l : List (Ps × Rc), l.length = want ∧ Laid d c q0 l q ∧ q.o = q0.o + want) ∨ (down = true ∧ ∃ (l : List (Ps × Rc)) (qf : Ps), l.length = want ∧ Laid d c q0 l qf ∧ qf.o = q0.o + want ∧ Low d c qf ∧ qf.o + 1 ≤ q.o)
theorem Mt.start {d : Dk} {c : Cf} {q0 q : Ps} (h : Lg d c q0 [] q) (hq : q = q0) : Mt d c q0 q 0 false := by
 subst hq
 exact ⟨h.rdy, h.len, h.zs, rfl, ⟨h.o0, by simp⟩, h.o1, h.s0, .inl ⟨rfl, [], rfl, h.laid, by simp⟩⟩
theorem Mt.step {d : Dk} {c : Cf} {q0 q : Ps} {want : Nat} {down : Bool} (h : Mt d c q0 q want down) (hc : c.Ok) {r : Rc} (hr : rcMay r = true) (hb : r.bl = []) (hn : r.n = q.l) (hp : r.p = q.p) (hx : nextOf r = none) (hf : q.o + 1 ≤ c.l - 1) :
  Mt (d.puts (c.at_ q.s + q.o) (rcBytes r)) c q0 ⟨q.s, q.o + 1, q.l + 1, (rcSum r : Nat), r.m⟩ (if (down || decide (r.m < q.m)) = true then want else want + 1) (down || decide (r.m < q.m)) := by
 obtain ⟨g1, g2, g3⟩ := Cf.sec c hc q.s (by rw [h.s]; exact h.s0.1) (by rw [h.s]; exact h.s0.2)
 have hl := h.len
 obtain ⟨ho0, ho1⟩ := h.o0
 have hlen := rcBytes_length hr
 rw [hb] at hlen
 have hlen' : (rcBytes r).length = 64 * 1 := hlen
 have hpt := h.rdy.puts (a := c.at_ q.s + q.o) (by omega) hlen' (by omega)
 have hg := h.rdy.puts_gat (a := c.at_ q.s + q.o) (by omega) hlen' (by omega)
 have hag := h.rdy.puts_agr (a := c.at_ q.s + q.o) (lo := c.at_ q.s) (hi := c.at_ q.s + q.o) (by omega) hlen' (by omega) (by omega) (.inl (Int.le_refl _))
 refine ⟨hpt.1, by rw [hpt.2.2]; exact hl, ?_, h.s, ⟨ho0, ?_⟩, by simp only; omega, h.s0, ?_⟩
 ·intro x hx1 hx2
  simp only at hx1 hx2
  have := h.rdy.puts_agr (a := c.at_ q.s + q.o) (lo := x) (hi := x + 1) (by omega) hlen' (by omega) (by omega) (.inr (by omega)) x (Int.le_refl _) (by omega)
  rw [this.2]
  exact h.zs x (by omega) (by omega)
 ·simp only; split <;> omega
 ·rcases h.st with ⟨rfl, l, h1, h2, h3⟩ | ⟨rfl, l, qf, h1, h2, h3, h4, h5⟩
  ·have hpl := h2.place
   have hla := h2.agr hag (by rw [← h.s]; omega) (by rw [← h.s]; exact Int.le_refl _)
   by_cases hk : r.m < q.m
   ·rw [Bool.false_or, decide_eq_true hk, if_pos rfl]
    exact .inr ⟨rfl, l, q, h1, hla, h3, ⟨r, hr, hb, hg.1, hg.2, hk⟩, by simp⟩
   ·rw [Bool.false_or, decide_eq_false hk, if_neg (by decide)]
    refine .inl ⟨rfl, l ++ [(q, r)], by rw [List.length_append, h1]; rfl, hla.snoc ?_ hx, by simp only; omega⟩
    have := follow_laid (c := c) (q := q) hr (by rw [hb]; exact hg.1) (by rw [hb]; exact hg.2) hpt.1.ok (by omega) (by rw [hb]; simp; omega) hn hp (by omega)
    rw [hb] at this
    exact this
  ·rw [Bool.true_or, if_pos rfl]
   have hpl := h2.place
   refine .inr ⟨rfl, l, qf, h1, h2.agr hag (by rw [← h.s]; omega) (by rw [← h.s]; omega), h3, h4.agr hag (by rw [hpl.1, ← h.s]; omega) (by rw [hpl.1, ← h.s]; omega), by simp only; omega⟩
theorem Mt.scan {d : Dk} {c : Cf} {q0 q : Ps} {want : Nat} {down : Bool} (h : Mt d c q0 q want down) (hc : c.Ok) : ∃ (l : List (Ps × Rc)) (qf : Ps), scanG d c 65 q0 = (l, qf, 0) ∧ l.length = want ∧ qf.o = q0.o + want := by
 have hll := hc.2.2
 have ho1 := h.o1
 obtain ⟨ho0, ho2⟩ := h.o0
 rcases h.st with ⟨rfl, l, h1, h2, h3⟩ | ⟨rfl, l, qf, h1, h2, h3, h4, h5⟩
 ·refine ⟨l, q, h2.told ho0 (by omega) ?_, h1, h3⟩
  obtain ⟨g1, g2, g3⟩ := Cf.sec c hc q.s (by rw [h.s]; exact h.s0.1) (by rw [h.s]; exact h.s0.2)
  have hl := h.len
  exact follow_zero (h.rdy.err0 (has_of (by omega) (by omega))) (h.zs _ (Int.le_refl _) (by omega))
 ·exact ⟨l, qf, h2.told ho0 (by omega) h4.none_, h1, h3⟩
end Go.Kn
namespace Go.Kn
open Go Go.RowKit
/-- a disk of a device, ready, of which nothing is held -/
structure Std (d : Dk) (c : Cf) : Prop where
 rdy : Rdy d
 len : (d.safe.length : Int) = c.sectors
 held : d.held = []
theorem Std.start (c : Cf) (hc : c.Ok) : Std (Dk.new c.sectors.toNat) c := by
 obtain ⟨g1, g2, g3⟩ := Cf.sec c hc 0 (by decide) (by have := hc.2.1; omega)
 have hl := hc.2.2
 exact ⟨Rdy.new (by omega) (by omega), by simp [Dk.new]; omega, rfl⟩
theorem Std.puts {d : Dk} {c : Cf} (h : Std d c) {a : Int} {b : List UInt8} {n : Nat} (ha : 0 ≤ a) (hb : b.length = 64 * n) (hr : a + n ≤ c.sectors) : Std (d.puts a b) c := by
 have hl := h.len
 obtain ⟨h1, h2, h3⟩ := h.rdy.puts (a := a) (b := b) (n := n) ha hb (by omega)
 exact ⟨h1, by rw [h3]; exact hl, (h.rdy.live.puts a b).2⟩
theorem Std.head {d : Dk} {c : Cf} (h : Std d c) (hc : c.Ok) (p : Ps) (hs : 0 ≤ p.s ∧ p.s ≤ c.s - 1) : Std (d.puts (c.at_ p.s) (headB p)) c := by
 obtain ⟨g1, g2, g3⟩ := Cf.sec c hc p.s hs.1 hs.2
 have hl := hc.2.2
 exact h.puts (n := 1) (by omega) (headB_length p) (by omega)
theorem Std.log {c : Cf} (hc : c.Ok) : ∀ (l : List KR) (q : Ps) (d : Dk), Std d c → PsOk c q → Std (logRun c l q d).2 c
 | [], q, d, h, _ => h
 | r :: rs, q, d, h, hq => by
  cases he : encRc (kMade q r) with
  | none => rw [Go.Proofs.YtgcfdjcpcclcjaaGreat.logRun_none he]; exact h
  | some x =>
   obtain ⟨b, s⟩ := x
   by_cases hf : c.l - 1 < q.o + ((b.length / 64 : Nat) : Int)
   ·rw [Go.Proofs.YtgcfdjcpcclcjaaGreat.logRun_far he hf]; exact h
   ·rw [Go.Proofs.YtgcfdjcpcclcjaaGreat.logRun_go he hf]
    obtain ⟨g1, g2, g3⟩ := Cf.sec c hc q.s hq.s.1 hq.s.2
    obtain ⟨_, _, _, hb, _⟩ := enc_some he
    have ho := hq.o
    refine Std.log hc rs _ _ (h.puts (n := b.length / 64) (by omega) (by omega) (by omega)) (hq.next hc he hf)
end Go.Kn
namespace Go.Proofs.YtgcfdjcpcclcjaaGreat
open Go Go.RowKit Go.Kn
section
variable {w0 w w' : World} {p : PD} {r : RD} {d e : Dk} {L : List (Nat × List Value)} {G : List Gs} {F : List (World → Prop)}
theorem Duo.sub (h : Duo w0 w p r d e ⟨L, G, F⟩) {L' : List (Nat × List Value)} {G' : List Gs} {F' : List (World → Prop)} (hL : L'.Sublist L) (hG : G'.Sublist G) (hF : ∀ f ∈ F', f ∈ F) : Duo w0 w p r d e ⟨L', G', F'⟩ := by
 obtain ⟨L0, G0, F0, hw, back⟩ := h.fr
 exact back w ⟨L', G', F'⟩ ((hw.sub (hL.append_right L0) (F' := F' ++ F0) (fun f hf => (List.mem_append.1 hf).elim (fun h => List.mem_append_left _ (hF f h)) (List.mem_append_right _))).subG (hG.append_right G0))
end
end Go.Proofs.YtgcfdjcpcclcjaaGreat
namespace Go.Kn
open Go Go.RowKit
/-- a segment's state and stamp -/
structure Us where
 st : Int
 sp : Int
structure Tb where
 us : List Us
 live : List Int
def usOne (x : Us) : List Value := [.int .i64 x.st, .int .i64 x.sp]
def usV (l : List Us) : List Value := l.flatMap usOne
theorem usV_get (l : List Us) (i k : Nat) (hi : i < l.length) (hk : k < 2) : (usV l)[i * 2 + k]? = (usOne l[i])[k]? := flatMap_get usOne 2 (fun _ => rfl) l i k hi hk
theorem usV_set : ∀ (l : List Us) (i k : Nat) (x : Us) (v : Value), i < l.length → k < 2 → usOne x = (usOne (l.getD i ⟨0, 0⟩)).set k v → (usV l).set (i * 2 + k) v = usV (l.set i x)
 | [], i, k, x, v, hi, _, _ => by simp at hi
 | y :: l, 0, k, x, v, _, hk, h => by
  rw [List.set_cons_zero]
  unfold usV
  rw [List.flatMap_cons, List.flatMap_cons, List.set_append_left _ _ (by show 0 * 2 + k < 2; omega), h]
  simp
 | y :: l, i + 1, k, x, v, hi, hk, h => by
  rw [List.set_cons_succ]
  have ih := usV_set l i k x v (by simpa using hi) hk (by simpa using h)
  unfold usV at ih ⊢
  rw [List.flatMap_cons, List.flatMap_cons, List.set_append_right _ _ (by show 2 ≤ _; omega)]
  congr 1
  have : (i + 1) * 2 + k - (usOne y).length = i * 2 + k := by show _ - 2 = _; omega
  rw [this]
  exact ih
namespace Tb
/-- is there such a segment -/
def has (t : Tb) (s : Int) : Bool := decide (0 ≤ s ∧ s < t.us.length)
def use (t : Tb) (s : Int) : Us := t.us.getD s.toNat ⟨0, 0⟩
def state (t : Tb) (s : Int) : Int := if t.has s = true then (t.use s).st else 0
def grabs (t : Tb) (s : Int) : Bool := t.has s && decide ((t.use s).st = 0)
def grab (t : Tb) (s : Int) : Tb := if t.grabs s = true then ⟨t.us.set s.toNat ⟨1, (t.use s).sp⟩, t.live.set s.toNat 0⟩ else t
def shut (t : Tb) (s : Int) : Tb := if (t.has s && decide ((t.use s).st = 1)) = true then ⟨t.us.set s.toNat ⟨2, (t.use s).sp⟩, t.live⟩ else t
def touch (t : Tb) (s x : Int) : Tb := if (t.has s && decide (0 ≤ x ∧ x ≤ 2147483647)) = true then ⟨t.us.set s.toNat ⟨(t.use s).st, x⟩, t.live⟩ else t
def isFree (x : Us) : Bool := decide (x.st = 0)
def free (t : Tb) : Nat := t.us.countP isFree
/-- the first that is Free; -1: there is none -/
def idx (l : List Us) : Int := match l.findIdx? isFree with
 | some i => (i : Nat)
 | none => -1
def takes (t : Tb) (spare : Bool) : Bool := spare || decide (2 < t.free)
def new (n : Nat) : Tb := ⟨List.replicate n ⟨0, 0⟩, List.replicate n 0⟩
structure Ok (t : Tb) (n : Nat) : Prop where
 u : t.us.length = n
 l : t.live.length = n
theorem Ok.grab {t : Tb} {n : Nat} (h : t.Ok n) (s : Int) : (t.grab s).Ok n := by
 unfold Tb.grab
 split
 ·exact ⟨by rw [List.length_set]; exact h.u, by rw [List.length_set]; exact h.l⟩
 ·exact h
theorem Ok.shut {t : Tb} {n : Nat} (h : t.Ok n) (s : Int) : (t.shut s).Ok n := by
 unfold Tb.shut
 split
 ·exact ⟨by rw [List.length_set]; exact h.u, h.l⟩
 ·exact h
theorem Ok.touch {t : Tb} {n : Nat} (h : t.Ok n) (s x : Int) : (t.touch s x).Ok n := by
 unfold Tb.touch
 split
 ·exact ⟨by rw [List.length_set]; exact h.u, h.l⟩
 ·exact h
theorem new_ok (n : Nat) : (Tb.new n).Ok n := ⟨by simp [Tb.new], by simp [Tb.new]⟩
end Tb
/-- where a table lies -/
structure TD where
 T : Nat
 u : Nat
 v : Nat
 gb : Nat
 n : Nat
def TD.box (p : TD) : List Value := [.pointer (some ⟨p.gb, 0, none⟩), .slice (some ⟨p.u, 0, none⟩) p.n p.n, .slice (some ⟨p.v, 0, none⟩) p.n p.n]
def TD.L (p : TD) (t : Tb) (L : List (Nat × List Value)) : List (Nat × List Value) := (p.T, p.box) :: (p.u, usV t.us) :: (p.v, ivs t.live) :: L
theorem us_cell {w : World} {u : Nat} {l : List Us} (h : Own w u (usV l)) {i : Nat} (hi : i < l.length) : w.cell? ⟨u, i * 2, none⟩ = some (.int .i64 l[i].st) ∧ w.cell? ⟨u, i * 2 + 1, none⟩ = some (.int .i64 l[i].sp) := by
 have h0 : (usV l)[i * 2 + 0]? = some (Value.int .i64 l[i].st) := usV_get l i 0 hi (by decide)
 have h1 : (usV l)[i * 2 + 1]? = some (Value.int .i64 l[i].sp) := usV_get l i 1 hi (by decide)
 obtain ⟨a0, b0⟩ := List.getElem?_eq_some_iff.1 h0
 obtain ⟨a1, b1⟩ := List.getElem?_eq_some_iff.1 h1
 exact ⟨(h.cell (i * 2 + 0) a0).trans (congrArg some b0), (h.cell (i * 2 + 1) a1).trans (congrArg some b1)⟩
theorem us_get {t : Tb} {i : Nat} (hi : i < t.us.length) : t.use (i : Int) = t.us[i] := by
 unfold Tb.use
 rw [Int.toNat_natCast, List.getD_eq_getElem?_getD, List.getElem?_eq_getElem hi]
 rfl
end Go.Kn
namespace Go.Kn
open Go Go.RowKit
/-- the next segment that a list of records tells at its end -/
def nextIn (c : Cf) (l : List (Ps × Rc)) : Option Int := (l.getLast?.bind fun x => nextOf x.2).filter fun v => decide (v ≤ c.s - 1)
def turnP (q : Ps) (v : Int) : Ps := ⟨v, 0, q.l, q.p, q.m⟩
def onP (c : Cf) (r : Rc) (q : Ps) : Ps × Bool := match (nextOf r).filter (fun v => decide (v ≤ c.s - 1)) with
 | some v => (turnP q v, true)
 | none => (q, false)
def chainG (d : Dk) (c : Cf) : Nat → Ps → List (Ps × Rc) × Ps × Int
 | 0, p => ([], p, 0)
 | k + 1, p => match nextIn c (scanR d c false p).1 with
  | some v => ((scanR d c false p).1 ++ (chainG d c k (turnP (scanR d c false p).2.1 v)).1, (chainG d c k (turnP (scanR d c false p).2.1 v)).2)
  | none => scanR d c false p
def ChEnds (d : Dk) (c : Cf) : Nat → Ps → Prop
 | 0, _ => False
 | k + 1, p => match nextIn c (scanR d c false p).1 with
  | some v => ChEnds d c k (turnP (scanR d c false p).2.1 v)
  | none => True
theorem chainG_some {d : Dk} {c : Cf} {k : Nat} {p : Ps} {v : Int} (h : nextIn c (scanR d c false p).1 = some v) : chainG d c (k + 1) p = ((scanR d c false p).1 ++ (chainG d c k (turnP (scanR d c false p).2.1 v)).1, (chainG d c k (turnP (scanR d c false p).2.1 v)).2) := by rw [chainG, h]
theorem chainG_none {d : Dk} {c : Cf} {k : Nat} {p : Ps} (h : nextIn c (scanR d c false p).1 = none) : chainG d c (k + 1) p = scanR d c false p := by rw [chainG, h]
theorem chEnds_some {d : Dk} {c : Cf} {k : Nat} {p : Ps} {v : Int} (h : nextIn c (scanR d c false p).1 = some v) : ChEnds d c (k + 1) p ↔ ChEnds d c k (turnP (scanR d c false p).2.1 v) := by rw [ChEnds, h]
theorem chEnds_none {d : Dk} {c : Cf} {k : Nat} {p : Ps} (h : nextIn c (scanR d c false p).1 = none) : ChEnds d c (k + 1) p := by rw [ChEnds, h]; trivial
theorem nextIn_nil (c : Cf) : nextIn c [] = none := rfl
theorem nextIn_snoc (c : Cf) (l : List (Ps × Rc)) (x : Ps × Rc) : nextIn c (l ++ [x]) = (nextOf x.2).filter fun v => decide (v ≤ c.s - 1) := by simp [nextIn]
theorem onP_some {c : Cf} {r : Rc} {q : Ps} {v : Int} (h : nextOf r = some v) (hv : v ≤ c.s - 1) : onP c r q = (turnP q v, true) := by
 unfold onP
 have e : (nextOf r).filter (fun v => decide (v ≤ c.s - 1)) = some v := by rw [h]; simp [Option.filter, hv]
 rw [e]
theorem onP_far {c : Cf} {r : Rc} {q : Ps} {v : Int} (h : nextOf r = some v) (hv : ¬ v ≤ c.s - 1) : onP c r q = (q, false) := by
 unfold onP
 have e : (nextOf r).filter (fun v => decide (v ≤ c.s - 1)) = none := by rw [h]; simp [Option.filter, hv]
 rw [e]
theorem onP_none {c : Cf} {r : Rc} {q : Ps} (h : nextOf r = none) : onP c r q = (q, false) := by
 unfold onP
 rw [h]
 rfl
/-- the place behind the last that is told is where the next is sought -/
theorem scanG_last {d : Dk} {c : Cf} : ∀ (k : Nat) (p : Ps) (l : List (Ps × Rc)) (x : Ps × Rc), (scanG d c k p).1 = l ++ [x] → follow d c x.1 = (some (x.2, (scanG d c k p).2.1), 0) ∧ ((nextOf x.2).isSome → (scanG d c k p).2.2 = 0)
 | 0, _, l, x, h => by simp [scanG] at h
 | k + 1, p, l, x, h => by
  rcases hf : follow d c p with ⟨_ | ⟨r, q⟩, e⟩
  ·rw [scanG_none hf] at h; simp at h
  ·obtain ⟨_, _, _, rfl⟩ := follow_place hf
   rw [scanG_some hf] at h ⊢
   cases hn : (nextOf r).isSome with
   | true =>
    rw [hn, if_pos rfl] at h
    rw [if_pos rfl]
    simp only at h ⊢
    cases l with
    | nil =>
     simp only [List.nil_append, List.cons.injEq, and_true] at h
     subst h
     exact ⟨hf, fun _ => trivial⟩
    | cons y l => simp at h
   | false =>
    rw [hn, if_neg (by simp)] at h
    rw [if_neg (by simp)]
    simp only at h ⊢
    cases l with
    | nil =>
     simp only [List.nil_append, List.cons.injEq] at h
     obtain ⟨rfl, h2⟩ := h
     refine ⟨?_, fun h => by rw [hn] at h; cases h⟩
     cases k with
     | zero => exact hf
     | succ k =>
      rcases hf2 : follow d c q with ⟨_ | ⟨r2, q2⟩, e2⟩
      ·rw [scanG_none hf2]; exact hf
      ·rw [scanG_some hf2] at h2
       split at h2 <;> simp at h2
    | cons y l =>
     simp only [List.cons_append, List.cons.injEq] at h
     exact scanG_last k q l x h.2
theorem scanR_last {d : Dk} {c : Cf} {own : Bool} {p : Ps} {l : List (Ps × Rc)} {x : Ps × Rc} (h : (scanR d c own p).1 = l ++ [x]) : follow d c x.1 = (some (x.2, (scanR d c own p).2.1), 0) ∧ ((nextOf x.2).isSome → (scanR d c own p).2.2 = 0) := by
 unfold scanR at h ⊢
 split
 ·rename_i hb
  rw [if_pos hb] at h
  exact scanG_last _ _ _ _ h
 ·rename_i hb
  rw [if_neg hb] at h
  simp at h
theorem follow_num {d : Dk} {c : Cf} {p q : Ps} {r : Rc} {e : Int} (h : follow d c p = (some (r, q), e)) : r.n = p.l ∧ q.l = p.l + 1 ∧ 1 ≤ p.l ∧ p.l ≤ 2147483647 ∧ r.p = p.p ∧ q.m = r.m ∧ p.m ≤ r.m ∧ q.p = (rcSum r : Nat) ∧ rcMay r = true := by
 unfold follow at h
 split at h
 ·split at h
  ·split at h
   ·cases h
   ·split at h
    ·split at h
     ·cases h
     ·rename_i r' s hd
      split at h
      ·rename_i hc
       injection h with h1 h2
       injection h1 with h1
       injection h1 with h1 h3
       subst h1
       obtain ⟨he, _, _⟩ := encRc_of_dec hd
       obtain ⟨hm, hs, _, _, _, _, hn, _⟩ := enc_some he
       obtain ⟨_, _, hs⟩ := of_enc he
       subst h3
       refine ⟨hc.1, rfl, by omega, by omega, hc.2.1, rfl, by have := hc.2.2; omega, ?_, hm⟩
       simp only
       rw [hs]
      ·cases h
    ·cases h
  ·cases h
 ·cases h
/-- numbers rise by one along what is told -/
theorem scanG_num {d : Dk} {c : Cf} : ∀ (k : Nat) (p : Ps), (scanG d c k p).2.1.l = p.l + ((scanG d c k p).1.length : Nat) ∧ (∀ i (h : i < (scanG d c k p).1.length), ((scanG d c k p).1[i]).1.l = p.l + (i : Nat) ∧ ((scanG d c k p).1[i]).2.n = p.l + (i : Nat) ∧ 1 ≤ p.l ∧ p.l + (i : Nat) ≤ 2147483647 ∧ ((scanG d c k p).1[i]).2.p = ((scanG d c k p).1[i]).1.p)
 | 0, p => by simp [scanG]
 | k + 1, p => by
  rcases hf : follow d c p with ⟨_ | ⟨r, q⟩, e⟩
  ·rw [scanG_none hf]; simp
  ·obtain ⟨h1, h2, h3, h4, h5, _⟩ := follow_num hf
   rw [scanG_some hf]
   split
   ·refine ⟨by simp only [List.length_cons, List.length_nil]; omega, fun i hi => ?_⟩
    obtain rfl : i = 0 := by simp at hi; omega
    simp only [List.getElem_cons_zero]
    exact ⟨by simp, by simp [h1], by omega, by simpa using h4, h5⟩
   ·obtain ⟨g1, g2⟩ := scanG_num k q
    refine ⟨by simp only [List.length_cons]; rw [g1, h2]; push_cast; omega, fun i hi => ?_⟩
    cases i with
    | zero =>
     simp only [List.getElem_cons_zero]
     exact ⟨by simp, by simp [h1], by omega, by simpa using h4, h5⟩
    | succ i =>
     obtain ⟨a1, a2, a3, a4, a5⟩ := g2 i (by simpa using hi)
     simp only [List.getElem_cons_succ]
     rw [h2] at a1 a2 a4
     exact ⟨by rw [a1]; push_cast; omega, by rw [a2]; push_cast; omega, by omega, by push_cast; omega, a5⟩
theorem scanB_num {d : Dk} {c : Cf} {p : Ps} : (scanB d c false p).1.l = p.l := by
 unfold scanB
 split
 ·split
  ·rfl
  ·split
   ·split
    ·rfl
    ·split
     ·rename_i hd hf
      rw [Bool.false_or] at hf
      unfold headFits at hf
      simp only [Bool.and_eq_true, beq_iff_eq] at hf
      exact hf.1.1.2
     ·rfl
   ·rfl
 ·rfl
theorem scanR_num {d : Dk} {c : Cf} (p : Ps) : (scanR d c false p).2.1.l = p.l + ((scanR d c false p).1.length : Nat) ∧ (∀ i (h : i < (scanR d c false p).1.length), ((scanR d c false p).1[i]).1.l = p.l + (i : Nat) ∧ ((scanR d c false p).1[i]).2.n = p.l + (i : Nat) ∧ 1 ≤ p.l ∧ p.l + (i : Nat) ≤ 2147483647 ∧ ((scanR d c false p).1[i]).2.p = ((scanR d c false p).1[i]).1.p) := by
 have hb := scanB_num (d := d) (c := c) (p := p)
 unfold scanR
 split
 ·have h := scanG_num (d := d) (c := c) 65 (scanB d c false p).1
  rw [hb] at h
  exact h
 ·refine ⟨by simp [hb], fun i hi => by simp at hi⟩
theorem nextIn_last {c : Cf} {l : List (Ps × Rc)} {v : Int} (h : nextIn c l = some v) : ∃ l' x, l = l' ++ [x] ∧ nextOf x.2 = some v ∧ v ≤ c.s - 1 := by
 rcases List.eq_nil_or_concat l with rfl | ⟨l', x, rfl⟩
 ·simp [nextIn] at h
 ·rw [List.concat_eq_append] at h ⊢
  rw [nextIn_snoc, Option.filter_eq_some_iff] at h
  exact ⟨l', x, rfl, h.1, by simpa using h.2⟩
/-- a log ends: its numbers have an end -/
theorem chEnds_all (d : Dk) (c : Cf) : ∀ (k : Nat) (p : Ps), 2147483648 - p.l ≤ (k : Int) → ChEnds d c (k + 1) p
 | k, p, hk => by
  cases hn : nextIn c (scanR d c false p).1 with
  | none => exact chEnds_none hn
  | some v =>
   rw [chEnds_some hn]
   obtain ⟨l', x, hl, _, _⟩ := nextIn_last hn
   obtain ⟨h1, h2⟩ := scanR_num (d := d) (c := c) p
   have hlen : 0 < (scanR d c false p).1.length := by rw [hl]; simp
   have h3 := (h2 0 hlen).2.2.2
   cases k with
   | zero => simp at h3; omega
   | succ k =>
    refine chEnds_all d c k _ ?_
    show 2147483648 - (scanR d c false p).2.1.l ≤ _
    omega
theorem chEnds_some_k (d : Dk) (c : Cf) (p : Ps) : ChEnds d c ((2147483648 - p.l).toNat + 1) p := chEnds_all d c _ p (by omega)
end Go.Kn
namespace Go.Kn
open Go Go.RowKit
/-- what is laid to tell the next segment -/
def nextR (q : Ps) (v : Int) : Rc := ⟨q.m, q.l, q.p, [⟨7, 0, 0, v⟩], []⟩
def nextP (q : Ps) (v o : Int) : Ps := ⟨v, o, q.l + 1, (rcSum (nextR q v) : Nat), q.m⟩
/-- kit.Turn -/
def turnRun (c : Cf) (v : Int) (head : Bool) (q : Ps) (d : Dk) : Ps × Dk :=
 if head = true then (nextP q v 1, (d.puts (c.at_ q.s + q.o) (rcBytes (nextR q v))).puts (c.at_ v) (headB (nextP q v 0)))
 else (nextP q v 0, d.puts (c.at_ q.s + q.o) (rcBytes (nextR q v)))
theorem nextR_ok {q : Ps} {v : Int} (hm : 1 ≤ q.m ∧ q.m ≤ 2147483647) (hl : 1 ≤ q.l ∧ q.l ≤ 2147483647) (hp : 0 ≤ q.p ∧ q.p ≤ 4294967295) (hv : 0 ≤ v ∧ v ≤ 31) : rcMay (nextR q v) = true ∧ nextOf (nextR q v) = some v := by
 refine ⟨?_, rfl⟩
 rw [rcMay_iff]
 refine ⟨⟨hm, hl, hp, by simp [nextR]⟩, ?_, ?_, rfl⟩
 ·have := (may_k 7 0 0 v).2 (.inr (.inr (.inr (.inr ⟨rfl, rfl, rfl, hv⟩))))
  simp [nextR, this]
 ·have := loads_one ⟨7, 0, 0, v⟩ ((may_k 7 0 0 v).2 (.inr (.inr (.inr (.inr ⟨rfl, rfl, rfl, hv⟩)))))
  simpa [nextR] using this.symm
/-- segments that a log goes along -/
structure Sgs (c : Cf) (sg : Nat → Int) (T : Nat) : Prop where
 ok : c.Ok
 s : c.s = 8
 l : c.l = 24
 r : ∀ t, t < T → 0 ≤ sg t ∧ sg t ≤ 7
 inj : ∀ t u, t < T → u < T → sg t = sg u → t = u
section
variable {c : Cf} {sg : Nat → Int} {T : Nat} {d d' : Dk}
def Sec (c : Cf) (sg : Nat → Int) (y : Nat) : Int := c.at_ (sg (y / 24)) + ((y % 24 : Nat) : Int)
theorem Sgs.base (h : Sgs c sg T) : ∃ b : Int, 2 ≤ b ∧ b + 192 ≤ c.sectors ∧ c.sectors ≤ 4096 ∧ ∀ k, 0 ≤ k → k ≤ 7 → c.at_ k = b + 24 * k := by
 have hs := h.s
 have hl := h.l
 obtain ⟨g1, _, g3⟩ := Cf.sec c h.ok 0 (by decide) (by omega)
 obtain ⟨_, g2, _⟩ := Cf.sec c h.ok 7 (by decide) (by omega)
 have e : ∀ k, 0 ≤ k → k ≤ 7 → c.at_ k = c.at_ 0 + 24 * k := by
  intro k h0 h1
  unfold Cf.at_
  rw [if_pos ⟨h0, by omega⟩, if_pos ⟨by decide, by omega⟩, hl]
  omega
 have e7 := e 7 (by decide) (by decide)
 exact ⟨c.at_ 0, g1, by omega, g3, e⟩
theorem Sgs.sec (h : Sgs c sg T) {y : Nat} (hy : y < 24 * T) : 2 ≤ Sec c sg y ∧ Sec c sg y + 1 ≤ c.sectors := by
 obtain ⟨b, h1, h2, _, h3⟩ := h.base
 obtain ⟨r1, r2⟩ := h.r (y / 24) (by omega)
 unfold Sec
 rw [h3 _ r1 r2]
 omega
theorem Sgs.ne (h : Sgs c sg T) {y z : Nat} (hy : y < 24 * T) (hz : z < 24 * T) (hn : y ≠ z) : Sec c sg y ≠ Sec c sg z := by
 intro e
 obtain ⟨b, _, _, _, h3⟩ := h.base
 obtain ⟨r1, r2⟩ := h.r (y / 24) (by omega)
 obtain ⟨r3, r4⟩ := h.r (z / 24) (by omega)
 unfold Sec at e
 rw [h3 _ r1 r2, h3 _ r3 r4] at e
 have := h.inj (y / 24) (z / 24) (by omega) (by omega) (by omega)
 omega
structure PlY (sg : Nat → Int) (T Y : Nat) (q : Ps) : Prop where
 s : q.s = sg (Y / 24)
 o : q.o = ((Y % 24 : Nat) : Int)
 o1 : 1 ≤ Y % 24
 lt : Y < 24 * T
theorem PlY.sec {Y : Nat} {q : Ps} (h : PlY sg T Y q) : c.at_ q.s + q.o = Sec c sg Y := by unfold Sec; rw [h.s, h.o]
theorem PlY.seg (hs : Sgs c sg T) {Y : Nat} {q : Ps} (h : PlY sg T Y q) : 0 ≤ q.s ∧ q.s ≤ c.s - 1 := by
 have := hs.r (Y / 24) (by have := h.lt; omega)
 rw [h.s, hs.s]
 omega
/-- records that follow one another along the segments -/
inductive Run (c : Cf) (sg : Nat → Int) (T : Nat) (d : Dk) : Nat → Ps → List (Ps × Rc) → Nat → Ps → Prop
 | nil {Y : Nat} {q : Ps} : PlY sg T Y q → Run c sg T d Y q [] Y q
 | cons {Y Y' : Nat} {q q1 q' : Ps} {r : Rc} {l : List (Ps × Rc)} : PlY sg T Y q → follow d c q = (some (r, q1), 0) → q1.o = q.o + 1 → nextOf r = none → Run c sg T d (Y + 1) q1 l Y' q' → Run c sg T d Y q ((q, r) :: l) Y' q'
 | turn {Y Y' : Nat} {q q1 q' : Ps} {r : Rc} {l : List (Ps × Rc)} : PlY sg T Y q → follow d c q = (some (r, q1), 0) → q1.o = q.o + 1 → nextOf r = some (sg (Y / 24 + 1)) → Hd d c ⟨sg (Y / 24 + 1), 0, q1.l, q1.p, q1.m⟩ →
   Run c sg T d (24 * (Y / 24 + 1) + 1) ⟨sg (Y / 24 + 1), 1, q1.l, q1.p, q1.m⟩ l Y' q' → Run c sg T d Y q ((q, r) :: l) Y' q'
theorem Run.pl {Y Y' : Nat} {q q' : Ps} {l : List (Ps × Rc)} (h : Run c sg T d Y q l Y' q') : PlY sg T Y q ∧ PlY sg T Y' q' ∧ Y + l.length ≤ Y' := by
 induction h with
 | nil h => exact ⟨h, h, Nat.le_refl _⟩
 | cons h _ _ _ _ ih => exact ⟨h, ih.2.1, by rw [List.length_cons]; have := ih.2.2; omega⟩
 | turn h _ _ _ _ _ ih => exact ⟨h, ih.2.1, by rw [List.length_cons]; have := ih.2.2; omega⟩
theorem Run.app {Y Y1 Y2 : Nat} {q q1 q2 : Ps} {l l2 : List (Ps × Rc)} (h : Run c sg T d Y q l Y1 q1) (h2 : Run c sg T d Y1 q1 l2 Y2 q2) : Run c sg T d Y q (l ++ l2) Y2 q2 := by
 induction h with
 | nil _ => exact h2
 | cons a b e f _ ih => exact .cons a b e f (ih h2)
 | turn a b e f g _ ih => exact .turn a b e f g (ih h2)
theorem Run.agr {Y Y' : Nat} {q q' : Ps} {l : List (Ps × Rc)} (h : Run c sg T d Y q l Y' q') (ha : ∀ y, Y ≤ y → y < Y' → d'.err (Sec c sg y) = d.err (Sec c sg y) ∧ d'.read (Sec c sg y) = d.read (Sec c sg y)) : Run c sg T d' Y q l Y' q' := by
 have one : ∀ {Y : Nat} {q q1 : Ps} {r : Rc}, PlY sg T Y q → follow d c q = (some (r, q1), 0) → q1.o = q.o + 1 → d'.err (Sec c sg Y) = d.err (Sec c sg Y) ∧ d'.read (Sec c sg Y) = d.read (Sec c sg Y) → follow d' c q = (some (r, q1), 0) := by
  intro Y q q1 r hp hf ho he
  have hsec := hp.sec (c := c)
  refine follow_agr2 (lo := Sec c sg Y) (hi := Sec c sg Y + 1) ?_ (by omega) hf (by omega)
  intro x h1 h2
  obtain rfl : x = Sec c sg Y := by omega
  exact he
 induction h with
 | nil h => exact .nil h
 | cons hp hf ho hn hr ih =>
  have hl := hr.pl.2.2
  exact .cons hp (one hp hf ho (ha _ (Nat.le_refl _) (by omega))) ho hn (ih (fun y h1 h2 => ha y (by omega) h2))
 | turn hp hf ho hn hh hr ih =>
  rename_i Y Y' q q1 q' r l
  have hl := hr.pl.2.2
  refine .turn hp (one hp hf ho (ha _ (Nat.le_refl _) (by omega))) ho hn ?_ (ih (fun y h1 h2 => ha y (by omega) h2))
  have hs : c.at_ (sg (Y / 24 + 1)) = Sec c sg (24 * (Y / 24 + 1)) := by
   unfold Sec
   rw [show 24 * (Y / 24 + 1) / 24 = Y / 24 + 1 from by omega, show 24 * (Y / 24 + 1) % 24 = 0 from by omega]
   simp
  obtain ⟨e1, e2⟩ := ha (24 * (Y / 24 + 1)) (by omega) (by omega)
  rw [← hs] at e1 e2
  exact ⟨e1.trans hh.e, e2.trans hh.r, hh.may⟩
theorem Run.split {Y Y' : Nat} {q q' : Ps} {l : List (Ps × Rc)} (h : Run c sg T d Y q l Y' q') : ∀ k, k ≤ l.length → ∃ Yk qk, Run c sg T d Y q (l.take k) Yk qk ∧ Run c sg T d Yk qk (l.drop k) Y' q' ∧ (∀ x, l[k]? = some x → x.1 = qk) := by
 induction h with
 | nil h => exact fun k _ => ⟨_, _, by rw [List.take_nil]; exact .nil h, by rw [List.drop_nil]; exact .nil h, fun x hx => by simp at hx⟩
 | cons hp hf ho hn hr ih =>
  intro k hk
  cases k with
  | zero => exact ⟨_, _, .nil hp, .cons hp hf ho hn hr, fun x hx => by simp at hx; rw [← hx]⟩
  | succ k =>
   obtain ⟨Yk, qk, h1, h2, h3⟩ := ih k (by simpa using hk)
   exact ⟨Yk, qk, .cons hp hf ho hn h1, h2, fun x hx => h3 x (by simpa using hx)⟩
 | turn hp hf ho hn hh hr ih =>
  intro k hk
  cases k with
  | zero => exact ⟨_, _, .nil hp, .turn hp hf ho hn hh hr, fun x hx => by simp at hx; rw [← hx]⟩
  | succ k =>
   obtain ⟨Yk, qk, h1, h2, h3⟩ := ih k (by simpa using hk)
   exact ⟨Yk, qk, .turn hp hf ho hn hh h1, h2, fun x hx => h3 x (by simpa using hx)⟩
theorem Run.nums {Y Y' : Nat} {q q' : Ps} {l : List (Ps × Rc)} (h : Run c sg T d Y q l Y' q') : q'.l = q.l + (l.length : Nat) ∧ ∀ i (x : Ps × Rc), l[i]? = some x → x.1.l = q.l + (i : Nat) ∧ x.2.n = q.l + (i : Nat) ∧ x.2.p = x.1.p := by
 have step : ∀ {q q1 : Ps} {r : Rc} {l : List (Ps × Rc)} {q' : Ps}, follow d c q = (some (r, q1), 0) → (q'.l = q1.l + (l.length : Nat) ∧ ∀ i (x : Ps × Rc), l[i]? = some x → x.1.l = q1.l + (i : Nat) ∧ x.2.n = q1.l + (i : Nat) ∧ x.2.p = x.1.p) →
   (q'.l = q.l + (((q, r) :: l).length : Nat) ∧ ∀ i (x : Ps × Rc), ((q, r) :: l)[i]? = some x → x.1.l = q.l + (i : Nat) ∧ x.2.n = q.l + (i : Nat) ∧ x.2.p = x.1.p) := by
  intro q q1 r l q' hf ih
  obtain ⟨f1, f2, _, _, f5, _⟩ := follow_num hf
  refine ⟨by rw [ih.1, f2, List.length_cons]; push_cast; omega, ?_⟩
  intro i x hx
  cases i with
  | zero =>
   simp at hx
   rw [← hx]
   exact ⟨by simp, by simp [f1], f5⟩
  | succ i =>
   obtain ⟨g1, g2, g3⟩ := ih.2 i x (by simpa using hx)
   rw [f2] at g1 g2
   exact ⟨by rw [g1]; push_cast; omega, by rw [g2]; push_cast; omega, g3⟩
 induction h with
 | nil h => exact ⟨by simp, fun i x hx => by simp at hx⟩
 | cons hp hf ho hn hr ih => exact step hf ih
 | turn hp hf ho hn hh hr ih => exact step hf ih
def chM (d : Dk) (c : Cf) (K : Nat) (x : List (Ps × Rc) × Ps × Int) : List (Ps × Rc) × Ps × Int := match nextIn c x.1 with
 | some v => (x.1 ++ (chainG d c K (turnP x.2.1 v)).1, (chainG d c K (turnP x.2.1 v)).2)
 | none => x
theorem chainG_M (d : Dk) (c : Cf) (K : Nat) (p : Ps) : chainG d c (K + 1) p = chM d c K (scanR d c false p) := by
 unfold chainG chM
 cases nextIn c (scanR d c false p).1 <;> rfl
theorem nextIn_cons {c : Cf} {x : Ps × Rc} {l : List (Ps × Rc)} (h : nextOf x.2 = none) : nextIn c (x :: l) = nextIn c l := by
 rcases List.eq_nil_or_concat l with rfl | ⟨l', y, rfl⟩
 ·rw [nextIn_nil, show [x] = [] ++ [x] from rfl, nextIn_snoc, h]
  rfl
 ·rw [List.concat_eq_append, ← List.cons_append, nextIn_snoc, nextIn_snoc]
theorem chM_cons {d : Dk} {c : Cf} {K : Nat} {x : Ps × Rc} {l : List (Ps × Rc)} {y : Ps × Int} (h : nextOf x.2 = none) : chM d c K (x :: l, y) = (x :: (chM d c K (l, y)).1, (chM d c K (l, y)).2) := by
 unfold chM
 simp only [nextIn_cons h]
 cases nextIn c l <;> rfl
/-- a log is told as it stands -/
theorem Run.chain (hs : Sgs c sg T) {Y Y' : Nat} {q q' : Ps} {l : List (Ps × Rc)} {e : Int} (h : Run c sg T d Y q l Y' q') (hf : follow d c q' = (none, e)) : ∀ f K, 65 ≤ f + Y % 24 → l.length ≤ K → chM d c K (scanG d c f q) = (l, q', e) := by
 induction h with
 | nil h =>
  intro f K h1 _
  obtain ⟨f, rfl⟩ : ∃ g, f = g + 1 := ⟨f - 1, by omega⟩
  rw [scanG_none hf]
  rfl
 | cons hp hf' ho hn hr ih =>
  intro f K h1 h2
  have hp2 := hr.pl.1
  have e1 := hp.o
  have e2 := hp2.o
  obtain ⟨f, rfl⟩ : ∃ g, f = g + 1 := ⟨f - 1, by omega⟩
  have := ih hf f K (by omega) (by simp at h2; omega)
  rw [scanG_some hf', hn]
  simp only [Option.isSome_none, Bool.false_eq_true, if_false]
  have e3 : chM d c K ((scanG d c f _).1, (scanG d c f _).2) = _ := this
  rw [chM_cons hn, e3]
 | turn hp hf' ho hn hh hr ih =>
  rename_i Y Y' q q1 q' r l
  intro f K h1 h2
  obtain ⟨f, rfl⟩ : ∃ g, f = g + 1 := ⟨f - 1, by omega⟩
  obtain ⟨K, rfl⟩ : ∃ g, K = g + 1 := ⟨K - 1, by simp at h2; omega⟩
  have hlt := hr.pl.1.lt
  have hv := hs.r (Y / 24 + 1) (by omega)
  have hc := hs.s
  rw [scanG_some hf', hn]
  simp only [Option.isSome_some, if_true]
  have hni : nextIn c [(q, r)] = some (sg (Y / 24 + 1)) := by
   rw [show [(q, r)] = [] ++ [(q, r)] from rfl, nextIn_snoc, hn]
   simp [Option.filter]
   omega
  have e1 : scanR d c false (turnP q1 (sg (Y / 24 + 1))) = scanG d c 65 ⟨sg (Y / 24 + 1), 1, q1.l, q1.p, q1.m⟩ := (hh.scan hs.ok ⟨hv.1, by show sg (Y / 24 + 1) ≤ _; omega⟩).1
  have e2 := ih hf 65 K (by omega) (by simp at h2; omega)
  unfold chM
  rw [hni]
  simp only
  rw [chainG_M, e1, e2]
  rfl
/-- a log that was laid on a new disk: noughts behind it -/
structure RL (c : Cf) (sg : Nat → Int) (T : Nat) (d : Dk) (q0 : Ps) (l : List (Ps × Rc)) (Y : Nat) (q : Ps) : Prop where
 rdy : Rdy d
 len : (d.safe.length : Int) = c.sectors
 run : Run c sg T d 1 q0 l Y q
 hd : Hd d c ⟨sg 0, 0, q0.l, q0.p, q0.m⟩
 zs : ∀ y, Y ≤ y → y < 24 * T → d.read (Sec c sg y) = List.replicate 64 0
 ql : q.l = q0.l + (l.length : Nat)
 qm : q.m = q0.m
 qp : 0 ≤ q.p ∧ q.p ≤ 4294967295
 b : (1 ≤ q0.l ∧ q0.l ≤ 1000) ∧ (1 ≤ q0.m ∧ q0.m ≤ 1000)
theorem RL.nums (hs : Sgs c sg T) (h4 : T ≤ 8) {q0 q : Ps} {l : List (Ps × Rc)} {Y : Nat} (h : RL c sg T d q0 l Y q) : (1 ≤ q.m ∧ q.m ≤ 2147483647) ∧ (1 ≤ q.l ∧ q.l ≤ 2147483647) := by
 have h1 := h.run.pl.2.2
 have h2 := h.run.pl.2.1.lt
 have h3 := h.b
 have h5 := h.ql
 have h6 := h.qm
 omega
theorem Sec_head (t : Nat) : Sec c sg (24 * t) = c.at_ (sg t) := by
 unfold Sec
 rw [show 24 * t / 24 = t from by omega, show 24 * t % 24 = 0 from by omega]
 simp
theorem RL.none_ (hs : Sgs c sg T) {q0 q : Ps} {l : List (Ps × Rc)} {Y : Nat} (h : RL c sg T d q0 l Y q) : follow d c q = (none, 0) := by
 have hp := h.run.pl.2.1
 obtain ⟨g1, g2⟩ := hs.sec hp.lt
 have hl := h.len
 refine follow_zero ?_ ?_
 ·rw [hp.sec]; exact h.rdy.err0 (has_of (by omega) (by omega))
 ·rw [hp.sec]; exact h.zs Y (Nat.le_refl _) hp.lt
/-- a row is put where the log ends: what stands elsewhere stays -/
theorem put_else (hs : Sgs c sg T) (hr : Rdy d) (hl : (d.safe.length : Int) = c.sectors) {y : Nat} (hy : y < 24 * T) {b : List UInt8} (hb : b.length = 64) :
  Rdy (d.puts (Sec c sg y) b) ∧ ((d.puts (Sec c sg y) b).safe.length : Int) = c.sectors ∧ (d.puts (Sec c sg y) b).err (Sec c sg y) = 0 ∧ (d.puts (Sec c sg y) b).read (Sec c sg y) = b ∧
   (∀ z, z < 24 * T → z ≠ y → (d.puts (Sec c sg y) b).err (Sec c sg z) = d.err (Sec c sg z) ∧ (d.puts (Sec c sg y) b).read (Sec c sg z) = d.read (Sec c sg z)) := by
 obtain ⟨g1, g2⟩ := hs.sec hy
 have h1 := hr.puts (a := Sec c sg y) (b := b) (n := 1) (by omega) hb (by omega)
 obtain ⟨h2, h3⟩ := hr.puts_gat (a := Sec c sg y) (b := b) (n := 1) (by omega) hb (by omega)
 rw [gat_one] at h2
 rw [gerr_one] at h3
 refine ⟨h1.1, by rw [h1.2.2]; exact hl, h3, h2, fun z hz hn => ?_⟩
 have hne := hs.ne hz hy hn
 obtain ⟨g3, g4⟩ := hs.sec hz
 exact hr.puts_agr (a := Sec c sg y) (b := b) (n := 1) (lo := Sec c sg z) (hi := Sec c sg z + 1) (by omega) hb (by omega) (by omega) (by omega) _ (Int.le_refl _) (by omega)
theorem head_may {s o l p m : Int} (h1 : 0 ≤ s ∧ s ≤ 31) (h2 : 1 ≤ l ∧ l ≤ 2147483647) (h3 : 0 ≤ p ∧ p ≤ 4294967295) (h4 : 1 ≤ m ∧ m ≤ 2147483647) : headMay (⟨s, o, l, p, m⟩ : Ps).head = true := by
 show headMay ⟨s, m, l, p⟩ = true
 unfold headMay
 simp only [Bool.and_eq_true, decide_eq_true_eq]
 exact ⟨⟨⟨h1, h4⟩, h2⟩, h3⟩
theorem rcSum_lt2 {r : Rc} (h : rcMay r = true) : rcSum r < 4294967296 := (enc_some (enc_rc h)).2.2.2.2.2.2.2
theorem rcBytes_64 {r : Rc} (h : rcMay r = true) (hb : r.bl = []) : (rcBytes r).length = 64 := by have := rcBytes_length h; rw [hb] at this; simpa using this
/-- one record more, of one sector -/
theorem RL.step (hs : Sgs c sg T) {q0 q : Ps} {l : List (Ps × Rc)} {Y : Nat} (h : RL c sg T d q0 l Y q) (ho : Y % 24 ≤ 22) {r : Rc} (hr : rcMay r = true) (hb : r.bl = []) (hn : r.n = q.l) (hp : r.p = q.p) (hm : r.m = q.m) :
  ∃ d1, d1 = d.puts (c.at_ q.s + q.o) (rcBytes r) ∧ Rdy d1 ∧ (d1.safe.length : Int) = c.sectors ∧ Run c sg T d1 1 q0 l Y q ∧ Hd d1 c ⟨sg 0, 0, q0.l, q0.p, q0.m⟩ ∧ follow d1 c q = (some (r, ⟨q.s, q.o + 1, q.l + 1, (rcSum r : Nat), r.m⟩), 0) ∧
   (∀ z, z < 24 * T → z ≠ Y → d1.read (Sec c sg z) = d.read (Sec c sg z)) := by
 have hpl := h.run.pl.2.1
 have hY := h.run.pl.2.2
 have hsec := hpl.sec (c := c)
 obtain ⟨h1, h2, h3, h4, h5⟩ := put_else hs h.rdy h.len hpl.lt (rcBytes_64 hr hb)
 have hlt := hpl.lt
 refine ⟨_, rfl, ?_⟩
 rw [hsec]
 refine ⟨h1, h2, h.run.agr (fun y a b => h5 y (by omega) (by omega)), ?_, ?_, fun z a b => (h5 z a b).2⟩
 ·obtain ⟨e1, e2⟩ := h5 0 (by omega) (by omega)
  have e3 : Sec c sg 0 = c.at_ (sg 0) := Sec_head 0
  rw [e3] at e1 e2
  exact ⟨e1.trans h.hd.e, e2.trans h.hd.r, h.hd.may⟩
 ·have hl := hs.l
  have hoo := hpl.o
  have ho1 := hpl.o1
  have := follow_laid (d := d.puts (Sec c sg Y) (rcBytes r)) (c := c) (q := q) hr (by rw [hb, hsec]; show gat _ _ 1 = _; rw [gat_one]; exact h4) (by rw [hb, hsec]; show gerr _ _ 1 = _; rw [gerr_one]; exact h3) h1.ok (by omega) (by rw [hb]; simp; omega) hn hp (by omega)
  rw [hb] at this
  exact this
/-- the next segment is told, its head laid -/
theorem RL.turn (hs : Sgs c sg T) (h4 : T ≤ 8) {q0 q : Ps} {l : List (Ps × Rc)} {Y : Nat} (h : RL c sg T d q0 l Y q) (ho : Y % 24 ≤ 22) (hT : Y / 24 + 1 < T) :
  ∃ q' d', turnRun c (sg (Y / 24 + 1)) true q d = (q', d') ∧ RL c sg T d' q0 (l ++ [(q, nextR q (sg (Y / 24 + 1)))]) (24 * (Y / 24 + 1) + 1) q' := by
 obtain ⟨n1, n2⟩ := h.nums hs h4
 obtain ⟨v1, v2⟩ := hs.r (Y / 24 + 1) hT
 obtain ⟨k1, k2⟩ := nextR_ok (v := sg (Y / 24 + 1)) n1 n2 h.qp ⟨v1, by omega⟩
 obtain ⟨d1, hd1, e1, e2, e3, e4, e5, e6⟩ := h.step hs ho k1 rfl rfl rfl rfl
 have hpl := h.run.pl.2.1
 have hlt := hpl.lt
 have hY := h.run.pl.2.2
 have hsum := rcSum_lt2 k1
 have hql := h.ql
 have hb := h.b
 have hmay : headMay (nextP q (sg (Y / 24 + 1)) 0).head = true := by
  exact head_may ⟨v1, by omega⟩ ⟨by omega, by omega⟩ ⟨by omega, by omega⟩ n1
 have hh := Sec_head (c := c) (sg := sg) (Y / 24 + 1)
 obtain ⟨f1, f2, f3, f4, f5⟩ := put_else hs e1 e2 (y := 24 * (Y / 24 + 1)) (by omega) (headB_length (nextP q (sg (Y / 24 + 1)) 0))
 refine ⟨nextP q (sg (Y / 24 + 1)) 1, d1.puts (Sec c sg (24 * (Y / 24 + 1))) (headB (nextP q (sg (Y / 24 + 1)) 0)), ?_, ?_⟩
 ·unfold turnRun
  rw [if_pos rfl, ← hd1, ← hh]
 ·have hrun := e3.agr (d' := d1.puts (Sec c sg (24 * (Y / 24 + 1))) (headB (nextP q (sg (Y / 24 + 1)) 0))) (fun y a b => f5 y (by omega) (by omega))
  have hfl : follow (d1.puts (Sec c sg (24 * (Y / 24 + 1))) (headB (nextP q (sg (Y / 24 + 1)) 0))) c q = (some (nextR q (sg (Y / 24 + 1)), ⟨q.s, q.o + 1, q.l + 1, (rcSum (nextR q (sg (Y / 24 + 1))) : Nat), q.m⟩), 0) := by
   have hsec := hpl.sec (c := c)
   refine follow_agr2 (lo := Sec c sg Y) (hi := Sec c sg Y + 1) ?_ (by omega) e5 (by show c.at_ q.s + (q.o + 1) ≤ _; omega)
   intro x h1 h2
   obtain rfl : x = Sec c sg Y := by omega
   exact f5 Y hlt (by omega)
  have hd2 : Hd (d1.puts (Sec c sg (24 * (Y / 24 + 1))) (headB (nextP q (sg (Y / 24 + 1)) 0))) c (nextP q (sg (Y / 24 + 1)) 0) := by
   rw [hh] at f3 f4 ⊢
   exact ⟨f3, f4, hmay⟩
  have hp2 : PlY sg T (24 * (Y / 24 + 1) + 1) (nextP q (sg (Y / 24 + 1)) 1) := by
   have e : (24 * (Y / 24 + 1) + 1) / 24 = Y / 24 + 1 := by omega
   have e' : (24 * (Y / 24 + 1) + 1) % 24 = 1 := by omega
   refine ⟨?_, by rw [e']; rfl, by omega, by omega⟩
   rw [e]
   rfl
  refine ⟨f1, f2, hrun.app (.turn hpl hfl rfl k2 hd2 (.nil hp2)), ?_, fun y a b => ((f5 y b (by omega)).2.trans (e6 y b (by omega))).trans (h.zs y (by omega) b), ?_, h.qm, ⟨?_, ?_⟩, h.b⟩
  ·obtain ⟨a1, a2⟩ := f5 0 (by omega) (by omega)
   have e3 : Sec c sg 0 = c.at_ (sg 0) := Sec_head 0
   rw [e3] at a1 a2
   exact ⟨a1.trans e4.e, a2.trans e4.r, e4.may⟩
  ·show q.l + 1 = _
   rw [List.length_append, h.ql]
   simp
   omega
  ·show 0 ≤ ((rcSum (nextR q (sg (Y / 24 + 1))) : Nat) : Int)
   omega
  ·show ((rcSum (nextR q (sg (Y / 24 + 1))) : Nat) : Int) ≤ 4294967295
   omega
theorem RL.start (hs : Sgs c sg T) (hT : 0 < T) {p : Ps} (hps : p.s = sg 0) (hl : 1 ≤ p.l ∧ p.l ≤ 1000) (hm : 1 ≤ p.m ∧ p.m ≤ 1000) (hp : 0 ≤ p.p ∧ p.p ≤ 4294967295) :
  RL c sg T ((Dk.new c.sectors.toNat).puts (c.at_ p.s) (headB p)) ⟨p.s, 1, p.l, p.p, p.m⟩ [] 1 ⟨p.s, 1, p.l, p.p, p.m⟩ := by
 obtain ⟨b, b1, b2, b3, _⟩ := hs.base
 obtain ⟨v1, v2⟩ := hs.r 0 hT
 have hr : Rdy (Dk.new c.sectors.toNat) := Rdy.new (by omega) (by omega)
 have hlen : ((Dk.new c.sectors.toNat).safe.length : Int) = c.sectors := by simp [Dk.new]; omega
 have hh : Sec c sg 0 = c.at_ p.s := by rw [hps]; exact Sec_head 0
 have hmay : headMay p.head = true := head_may ⟨by rw [hps]; exact v1, by rw [hps]; omega⟩ ⟨hl.1, by omega⟩ hp ⟨hm.1, by omega⟩
 obtain ⟨f1, f2, f3, f4, f5⟩ := put_else hs hr hlen (y := 0) (by omega) (headB_length p)
 rw [hh] at f1 f2 f3 f4 f5
 refine ⟨f1, f2, .nil ⟨hps, rfl, by decide, by show 1 < 24 * T; omega⟩, ?_, fun y a b => ?_, by simp, rfl, hp, hl, hm⟩
 ·refine ⟨?_, ?_, ?_⟩
  ·show Dk.err _ (c.at_ (sg 0)) = 0
   rw [← hps]; exact f3
  ·show Dk.read _ (c.at_ (sg 0)) = _
   rw [← hps, f4]
   unfold headB Ps.head
   rw [hps]
  ·unfold Ps.head at hmay ⊢
   rw [hps] at hmay
   exact hmay
 ·rw [(f5 y b (by omega)).2]
  obtain ⟨g1, g2⟩ := hs.sec b
  exact read_new _ _ (by omega) (by omega) (by omega)
end
end Go.Kn
namespace Go.Kn
open Go Go.RowKit
structure Wr where
 d : Dk
 t : Tb
 p : Ps
 its : List It
 bl : List (List UInt8)
/-- the place in the segment behind a record of so many blocks -/
def behind (o : Int) (n : Nat) : Int := max o 1 + 1 + (n : Int)
/-- sectors one behind the other, till one is refused -/
def seqW (d : Dk) (a : Int) : List (List UInt8) → Dk × Int
 | [] => (d, 0)
 | x :: xs => if (d.write a x).2 = 0 then seqW (d.write a x).1 (a + 1) xs else d.write a x
/-- n rows of 64 bytes -/
def rows64 (b : List UInt8) (n : Nat) : List (List UInt8) := (List.range n).map fun i => (b.drop (64 * i)).take 64
namespace Wr
def fits (c : Cf) (o : Int) (items blocks : Nat) : Bool := decide (items ≤ 6) && decide (behind o blocks < c.l)
def first (c : Cf) (w : Wr) : Int := c.at_ w.p.s + behind w.p.o 0
def begin_ (c : Cf) (w : Wr) : Wr × Int :=
 if 0 < w.p.o then (w, 0)
 else match encHead w.p.head with
  | none => (w, 1)
  | some b => if (w.d.write (c.at_ w.p.s) b).2 = 0 then ({ w with d := (w.d.write (c.at_ w.p.s) b).1, p := { w.p with o := 1 } }, 0) else ({ w with d := (w.d.write (c.at_ w.p.s) b).1 }, (w.d.write (c.at_ w.p.s) b).2)
def write (c : Cf) (w : Wr) (its : List It) (bl : List (List UInt8)) : Wr × Int :=
 match encRc ⟨w.p.m, w.p.l, w.p.p, its, bl⟩ with
 | none => (w, 1)
 | some (b, s) =>
  if (seqW w.d (c.at_ w.p.s + w.p.o) (rows64 b (b.length / 64))).2 = 0 then
   ({ w with d := (seqW w.d (c.at_ w.p.s + w.p.o) (rows64 b (b.length / 64))).1, t := w.t.touch w.p.s w.p.l, p := ⟨w.p.s, behind w.p.o bl.length, w.p.l + 1, (s : Nat), w.p.m⟩ }, 0)
  else ({ w with d := (seqW w.d (c.at_ w.p.s + w.p.o) (rows64 b (b.length / 64))).1 }, (seqW w.d (c.at_ w.p.s + w.p.o) (rows64 b (b.length / 64))).2)
def emit (c : Cf) (w : Wr) : Wr × Int :=
 if w.d.off = true then (w, 3)
 else if w.its = [] then (w, 0)
 else if (w.begin_ c).2 ≠ 0 then w.begin_ c
 else if ((w.begin_ c).1.write c w.its w.bl).2 ≠ 0 then (w.begin_ c).1.write c w.its w.bl
 else ({ ((w.begin_ c).1.write c w.its w.bl).1 with its := [], bl := [] }, 0)
def turn (c : Cf) (w : Wr) (s : Int) : Wr × Int :=
 if (w.write c [⟨7, 0, 0, s⟩] []).2 ≠ 0 then w.write c [⟨7, 0, 0, s⟩] []
 else begin_ c { (w.write c [⟨7, 0, 0, s⟩] []).1 with t := (w.write c [⟨7, 0, 0, s⟩] []).1.t.shut w.p.s, p := { (w.write c [⟨7, 0, 0, s⟩] []).1.p with s := s, o := 0 } }
/-- room for one item more, with so many blocks -/
def room (c : Cf) (w : Wr) (n : Nat) (spare : Bool) : Wr × Int :=
  if fits c w.p.o (w.its.length + 1) (w.bl.length + n) = true then (w, 0)
  else if fits c (if w.its = [] then w.p.o else behind w.p.o w.bl.length) 1 n = true then w.emit c
  else if w.t.takes spare = true ∧ Tb.idx w.t.us ≠ -1 then
    (if (emit c { w with t := w.t.grab (Tb.idx w.t.us) }).2 ≠ 0 then emit c { w with t := w.t.grab (Tb.idx w.t.us) }
     else (emit c { w with t := w.t.grab (Tb.idx w.t.us) }).1.turn c (Tb.idx w.t.us))
  else (w, 6)
end Wr
def WB (D gb T : Nat) (p : Ps) (vi vb : Value) : List Value := [.pointer (some ⟨D, 0, none⟩), .pointer (some ⟨gb, 0, none⟩), .pointer (some ⟨T, 0, none⟩), .int .i64 p.s, .int .i64 p.o, .int .i64 p.l, .int .i64 p.p, .int .i64 p.m, vi, vb]
end Go.Kn
namespace Go.Kn
open Go Go.RowKit
theorem tb_has {t : Tb} {n : Nat} (h : t.Ok n) (s : Int) : t.has s = decide (0 ≤ s ∧ s < (n : Int)) := by unfold Tb.has; rw [h.u]
end Go.Kn
namespace Go.Proofs.YtgcfdjcpcclcjaaGreat
open Go Go.RowKit Go.Kn
theorem us_has_any (w : World) (p : TD) (s : Int) (hT : Kn.Own w p.T p.box) (hn : p.n ≤ 1000) : Calls Tryz.prog 139 #[.pointer (some ⟨p.T, 0, none⟩), .int .i64 s] w fun e w' => e = .returned (.bool (decide (0 ≤ s ∧ s < (p.n : Int)))) ∧ w = w' := by
 have c1 : w.cell? ⟨p.T, 1, none⟩ = some (.slice (some ⟨p.u, 0, none⟩) p.n p.n) := hT.cellv 1
 have lt := hT.lt
 clear hT
 by_cases h0 : 0 ≤ s
 ·by_cases h1 : s < (p.n : Int)
  ·rw [decide_eq_true ⟨h0, h1⟩]
   go_enter Tryz.func139, Tryz.ntmps139
   go_wp2
   go_ret
   exact ⟨rfl, rfl⟩
  ·rw [decide_eq_false (fun h => h1 h.2)]
   go_enter Tryz.func139, Tryz.ntmps139
   go_wp2
   go_ret
   exact ⟨rfl, rfl⟩
 ·rw [decide_eq_false (fun h => h0 h.1)]
  go_enter Tryz.func139, Tryz.ntmps139
  go_wp2
  go_ret
  exact ⟨rfl, rfl⟩
set_option maxRecDepth 100000 in
set_option maxHeartbeats 4000000 in
theorem us_grab_any (w0 w : World) (p : TD) (t : Tb) (s : Int) (L : List (Nat × List Value)) (G : List Gs) (F : List (World → Prop)) (hw : Wc w0 w (p.L t L) G F) (ht : t.Ok p.n) (hn : p.n ≤ 1000) :
  Calls Tryz.prog 112 #[.pointer (some ⟨p.T, 0, none⟩), .int .i64 s] w fun e w' => e = .returned (.bool (t.grabs s)) ∧ Wc w0 w' (p.L (t.grab s) L) G F := by
 have HW := Lib.hid hw
 have HO := Lib.hid ht
 clear hw ht
 have HT : Hid (Kn.Own w p.T p.box) := Lib.hid (HW.out.boxi 0 rfl)
 have c1 : w.cell? ⟨p.T, 1, none⟩ = some (.slice (some ⟨p.u, 0, none⟩) p.n p.n) := HT.out.cellv 1
 have lt := HT.out.lt
 by_cases hs : 0 ≤ s ∧ s < (p.n : Int)
 ·obtain ⟨s, rfl⟩ : ∃ k : Nat, s = k := ⟨s.toNat, by omega⟩
  have hsl : s < t.us.length := by rw [HO.out.u]; omega
  have hsv : s < t.live.length := by rw [HO.out.l]; omega
  have c0 := (us_cell (HW.out.boxi 1 rfl) hsl).1
  have hsn : (s : Int) < (p.n : Int) := hs.2
  have hd := decide_eq_true hs
  obtain ⟨st, hst⟩ : ∃ x, t.us[s].st = x := ⟨_, rfl⟩
  rw [hst] at c0
  have hgr : t.grabs (s : Int) = decide (st = 0) := by unfold Tb.grabs; rw [tb_has HO.out, hd, us_get hsl, hst, Bool.true_and]
  have HST := Lib.hid hst
  have HGR := Lib.hid hgr
  clear hst hgr hs
  go_enter Tryz.func112, Tryz.ntmps112
  go_wp2_with fail
  refine (us_has_any _ p s HT.out hn).mono ?_
  rintro e w2 ⟨rfl, rfl⟩
  rw [hd]
  by_cases h0 : st = 0
  ·subst h0
   have hgb : t.grab (s : Int) = ⟨t.us.set s ⟨1, t.us[s].sp⟩, t.live.set s 0⟩ := by unfold Tb.grab; rw [HGR.out, if_pos (by decide), us_get hsl, Int.toNat_natCast]
   have hu1 : (usV t.us).set (s * 2) (.int .i64 1) = usV (t.us.set s ⟨1, t.us[s].sp⟩) := usV_set t.us s 0 ⟨1, t.us[s].sp⟩ _ hsl (by decide) (by rw [List.getD_eq_getElem?_getD, List.getElem?_eq_getElem hsl]; rfl)
   have hv1 : (ivs t.live).set s (.int .i64 0) = ivs (t.live.set s 0) := by unfold ivs; rw [List.map_set]
   have HGB := Lib.hid hgb
   have HU1 := Lib.hid hu1
   have HV1 := Lib.hid hv1
   clear hgb hu1 hv1
   go_wp2_with fail
   clear c0
   have HY := Lib.hid HW.out.drew
   clear HW
   refine wp_region_held_drew (S := (fun w' => Kn.Own w' p.T [.pointer (some ⟨p.gb, 0, none⟩), .slice (some ⟨p.u, 0, none⟩) p.n p.n, .slice (some ⟨p.v, 0, none⟩) p.n p.n])) (by kernel_rfl) (HY.out.boxi 0 rfl) (fun hSw0 => ?_)
   generalize w.drew = wz at *
   refine Kn.takeS 0 ⟨some 20, _, _, _, _, _⟩ ?_
   refine Kn.takeS 1 ⟨some 21, _, _, _, _, _⟩ ?_
   refine Kn.takeS 2 ⟨some 22, _, _, _, _, _⟩ ?_
   refine Kn.takeS 3 ⟨some 23, _, _, _, _, _⟩ (v := (.slice (some ⟨p.u, 0, none⟩) p.n p.n)) (hy := fun w hSw => by
    have q0 := hSw.cellv 1
    go_simp) ?_
   refine Kn.takeS 4 ⟨some 24, _, _, _, _, _⟩ ?_
   refine Kn.takeS 5 ⟨some 25, _, _, _, _, _⟩ ?_
   refine Kn.takeS 6 ⟨some 26, _, _, _, _, _⟩ ?_
   refine Kn.takeS 7 ⟨some 27, _, _, _, _, _⟩ ?_
   refine Kn.takeS 8 ⟨some 28, _, _, _, _, _⟩ (v := (.slice (some ⟨p.v, 0, none⟩) p.n p.n)) (hy := fun w hSw => by
    have q0 := hSw.cellv 2
    go_simp) ?_
   refine Kn.takeS 9 ⟨some 29, _, _, _, _, _⟩ ?_
   refine Kn.takeS 10 ⟨some 30, _, _, _, _, _⟩ ?_
   refine Kn.takeS 11 ⟨some 31, _, _, _, _, _⟩ ?_
   refine Kn.takeR 12 ⟨none, _, _, _, _, _⟩ fun K hK => ?_
   have b := HY.out.boxi 1 rfl
   have c0 := (us_cell b hsl).1
   have z0 := b.frozen (s * 2)
   have l0 := b.lt
   clear b
   go_simp
   have HYa := Lib.hid (HY.out.put 1 rfl (s * 2) (.int .i64 1))
   clear HY c0 z0 l0
   refine hK.out _ _ (HYa.out.boxi 0 rfl) (fun hSn => ?_)
   clear hK K hSw0
   have hSw0 := hSn
   clear hSn
   refine Kn.takeS 13 ⟨some 32, _, _, _, _, _⟩ ?_
   refine Kn.takeR 14 ⟨none, _, _, _, _, _⟩ fun K hK => ?_
   have b := HYa.out.boxi 2 rfl
   have c0 := b.cell s (by simp [ivs]; omega)
   have z0 := b.frozen s
   have l0 := b.lt
   clear b
   go_simp
   have HYab := Lib.hid (HYa.out.put 2 rfl s (.int .i64 0))
   clear HYa c0 z0 l0
   refine hK.out _ _ (HYab.out.boxi 0 rfl) (fun hSn => ?_)
   clear hK K hSw0
   have hSw0 := hSn
   clear hSn
   refine wpAnyH_done (by kernel_rfl) ?_ _
   clear hSw0
   go_wp2
   go_ret
   have hf := HYab.out
   simp only [List.set_cons_zero, List.set_cons_succ, HU1.out, HV1.out] at hf
   rw [HGR.out, HGB.out]
   exact ⟨by simp, hf⟩
  ·have hgb : t.grab (s : Int) = t := by unfold Tb.grab; rw [HGR.out, if_neg (by simpa using h0)]
   have HGB := Lib.hid hgb
   clear hgb
   go_wp2
   go_ret
   rw [HGR.out, HGB.out]
   exact ⟨by simp [h0], HW.out⟩
 ·have hd := decide_eq_false hs
  have hgr : t.grabs s = false := by unfold Tb.grabs; rw [tb_has HO.out, hd, Bool.false_and]
  have hgb : t.grab s = t := by unfold Tb.grab; rw [hgr]; simp
  have HGR := Lib.hid hgr
  have HGB := Lib.hid hgb
  clear hgr hgb hs
  go_enter Tryz.func112, Tryz.ntmps112
  go_wp2_with fail
  refine (us_has_any _ p s HT.out hn).mono ?_
  rintro e w2 ⟨rfl, rfl⟩
  rw [hd]
  go_wp2
  go_ret
  rw [HGR.out, HGB.out]
  exact ⟨rfl, HW.out⟩
set_option maxHeartbeats 4000000 in
theorem us_seal_any (w0 w : World) (p : TD) (t : Tb) (s : Int) (L : List (Nat × List Value)) (G : List Gs) (F : List (World → Prop)) (hw : Wc w0 w (p.L t L) G F) (ht : t.Ok p.n) (hn : p.n ≤ 1000) :
  Calls Tryz.prog 114 #[.pointer (some ⟨p.T, 0, none⟩), .int .i64 s] w fun e w' => e = .returned (.tuple #[]) ∧ Wc w0 w' (p.L (t.shut s) L) G F := by
 have HW := Lib.hid hw
 have HO := Lib.hid ht
 clear hw ht
 have HT : Hid (Kn.Own w p.T p.box) := Lib.hid (HW.out.boxi 0 rfl)
 have c1 : w.cell? ⟨p.T, 1, none⟩ = some (.slice (some ⟨p.u, 0, none⟩) p.n p.n) := HT.out.cellv 1
 have lt := HT.out.lt
 by_cases hs : 0 ≤ s ∧ s < (p.n : Int)
 ·obtain ⟨s, rfl⟩ : ∃ k : Nat, s = k := ⟨s.toNat, by omega⟩
  have hsl : s < t.us.length := by rw [HO.out.u]; omega
  have c0 := (us_cell (HW.out.boxi 1 rfl) hsl).1
  have z0 := (HW.out.boxi 1 rfl).frozen (s * 2)
  have l0 := (HW.out.boxi 1 rfl).lt
  have hsn : (s : Int) < (p.n : Int) := hs.2
  have hd := decide_eq_true hs
  obtain ⟨st, hst⟩ : ∃ x, t.us[s].st = x := ⟨_, rfl⟩
  rw [hst] at c0
  have hgr : (t.has (s : Int) && decide ((t.use (s : Int)).st = 1)) = decide (st = 1) := by rw [tb_has HO.out, hd, us_get hsl, hst, Bool.true_and]
  have HGR := Lib.hid hgr
  clear hst hgr hs
  go_enter Tryz.func114, Tryz.ntmps114
  go_wp2_with fail
  refine (us_has_any _ p s HT.out hn).mono ?_
  rintro e w2 ⟨rfl, rfl⟩
  rw [hd]
  by_cases h0 : st = 1
  ·subst h0
   have hgb : t.shut (s : Int) = ⟨t.us.set s ⟨2, t.us[s].sp⟩, t.live⟩ := by unfold Tb.shut; rw [HGR.out, if_pos (by decide), us_get hsl, Int.toNat_natCast]
   have hu1 : (usV t.us).set (s * 2) (.int .i64 2) = usV (t.us.set s ⟨2, t.us[s].sp⟩) := usV_set t.us s 0 ⟨2, t.us[s].sp⟩ _ hsl (by decide) (by rw [List.getD_eq_getElem?_getD, List.getElem?_eq_getElem hsl]; rfl)
   have hf := HW.out.put 1 rfl (s * 2) (.int .i64 2)
   simp only [List.set_cons_zero, List.set_cons_succ, hu1] at hf
   have HF := Lib.hid hf
   have HGB := Lib.hid hgb
   clear hgb hu1 hf
   go_wp2
   refine bodyPost_end (results_none rfl _ _ _) rfl ⟨rfl, ?_⟩
   rw [HGB.out]
   exact HF.out
  ·have hgb : t.shut (s : Int) = t := by unfold Tb.shut; rw [HGR.out, if_neg (by simpa using h0)]
   have HGB := Lib.hid hgb
   clear hgb
   go_wp2
   refine bodyPost_end (results_none rfl _ _ _) rfl ⟨rfl, ?_⟩
   rw [HGB.out]
   exact HW.out
 ·have hd := decide_eq_false hs
  have hgb : t.shut s = t := by unfold Tb.shut; rw [tb_has HO.out, hd]; simp
  have HGB := Lib.hid hgb
  clear hgb hs
  go_enter Tryz.func114, Tryz.ntmps114
  go_wp2_with fail
  refine (us_has_any _ p s HT.out hn).mono ?_
  rintro e w2 ⟨rfl, rfl⟩
  rw [hd]
  go_wp2
  refine bodyPost_end (results_none rfl _ _ _) rfl ⟨rfl, ?_⟩
  rw [HGB.out]
  exact HW.out
end Go.Proofs.YtgcfdjcpcclcjaaGreat
namespace Go.Kn
open Go Go.RowKit
/-- a writer's box and the layout's, and what else stays as it was -/
structure WG (w0 : World) (W : Nat) (xs : List Value) (gb : Nat) (cf : Cf) (w : World) : Prop where
 both : Own w W xs ∧ GeoAt w gb cf.b cf.s cf.l
 o : Only [] w0 w
theorem WG.keep0 {w0 w w' : World} {W gb : Nat} {xs : List Value} {cf : Cf} (h : WG w0 W xs gb cf w) (hO : Only [] w w') : WG w0 W xs gb cf w' := ⟨⟨h.both.1.keep0 hO, h.both.2.keep0 hO⟩, h.o.trans' hO⟩
theorem WG.drew {w0 w : World} {W gb : Nat} {xs : List Value} {cf : Cf} (h : WG w0 W xs gb cf w) : WG w0 W xs gb cf w.drew := h.keep0 (Only.refl _ _).drew
end Go.Kn
namespace Go.Proofs.YtgcfdjcpcclcjaaGreat
open Go Go.RowKit Go.Kn
theorem wr_behind_any (o : Int) (n : Nat) (w : World) (ho : -1000000 ≤ o ∧ o ≤ 1000000) (hn : n ≤ 1000) : Calls Tryz.prog 167 #[.int .i64 o, .int .i64 (n : Int)] w fun e w' => e = .returned (.int .i64 (behind o n)) ∧ w = w' := by
 have hw1 := IntWalk.i64_in (o + 1) (by omega)
 have hw2 := IntWalk.i64_in (o + 1 + (n : Int)) (by omega)
 have hw3 := IntWalk.i64_in (2 + (n : Int)) (by omega)
 by_cases h1 : 1 > o
 ·have hb : behind o n = 2 + (n : Int) := by unfold behind; omega
  have HB := Lib.hid hb
  clear hb
  go_enter Tryz.func167, Tryz.ntmps167
  go_wp2
  go_ret
  exact ⟨by rw [HB.out]; rfl, rfl⟩
 ·have hb : behind o n = o + 1 + (n : Int) := by unfold behind; omega
  have HB := Lib.hid hb
  have h2 : ¬ 1 > o := h1
  clear hb
  go_enter Tryz.func167, Tryz.ntmps167
  go_wp2
  go_ret
  exact ⟨by rw [HB.out]; rfl, rfl⟩
set_option maxRecDepth 100000 in
theorem wr_fits_any (w : World) (W D gb T : Nat) (p : Ps) (vi vb : Value) (cf : Cf) (o : Int) (it bl : Nat) (hw : Kn.Own w W (WB D gb T p vi vb)) (hg : GeoAt w gb cf.b cf.s cf.l) (hc : cf.Ok) (ho : -1000000 ≤ o ∧ o ≤ 1000000) (hb : bl ≤ 1000) (hi : it ≤ 1000) :
  Calls Tryz.prog 166 #[.pointer (some ⟨W, 0, none⟩), .int .i64 o, .int .i64 (it : Int), .int .i64 (bl : Int)] w fun e w' => e = .returned (.bool (Wr.fits cf o it bl)) ∧ Only [] w w' := by
 have H0 := Lib.hid (⟨⟨hw, hg⟩, Only.refl _ _⟩ : WG w W (WB D gb T p vi vb) gb cf w)
 have lt := hw.lt
 have HC := Lib.hid hc
 clear hw hg hc
 by_cases h6 : it ≤ 6
 ·have hi6 : (it : Int) ≤ 6 := by omega
  go_enter Tryz.func166, Tryz.ntmps166
  go_wp2_with fail
  have HY := Lib.hid H0.out.drew
  clear H0
  refine wp_region_held_drew (S := (fun w' => Kn.Own w' W (WB D gb T p vi vb) ∧ GeoAt w' gb cf.b cf.s cf.l)) (by kernel_rfl) HY.out.both (fun hSw0 => ?_)
  generalize w.drew = wz at *
  refine Kn.takeS 0 ⟨some 9, _, _, _, _, _⟩ ?_
  refine Kn.takeS 1 ⟨some 10, _, _, _, _, _⟩ ?_
  refine Kn.takeS 2 ⟨some 11, _, _, _, _, _⟩ ?_
  refine Kn.takeS 3 ⟨some 12, _, _, _, _, _⟩ ?_
  refine Kn.takeS 4 ⟨some 13, _, _, _, _, _⟩ ?_
  refine Kn.takeS 6 ⟨some 15, _, _, _, _, _⟩ ?_
  refine Kn.takeS 7 ⟨some 16, _, _, _, _, _⟩ ?_
  refine Kn.takeS 8 ⟨some 17, _, _, _, _, _⟩ ?_
  refine Kn.takeS 9 ⟨some 18, _, _, _, _, _⟩ (v := (.pointer (some ⟨gb, 0, none⟩))) (hy := fun w hSw => by
   have q0 := hSw.1.cellv 1
   go_simp) ?_
  refine Kn.takeR 5 ⟨some 14, _, _, _, _, _⟩ fun K hK => ?_
  go_simp
  refine (wr_behind_any o bl _ (by omega) (by omega)).mono ?_
  rintro en wa ⟨rfl, rfl⟩
  refine hK.out _ _ hSw0 (fun hSn => ?_)
  clear hK K hSw0
  have hSw0 := hSn
  clear hSn
  refine Kn.takeR 10 ⟨some 19, _, _, _, _, _⟩ fun K hK => ?_
  go_simp
  refine (geom_config_any gb cf.b cf.s cf.l _ hSw0.2).mono ?_
  rintro en wb ⟨rfl, hO⟩
  have HYb := Lib.hid (WG.keep0 HY.out hO)
  clear hO HY
  refine hK.out _ _ HYb.out.both (fun hSn => ?_)
  clear hK K hSw0
  have hSw0 := hSn
  clear hSn
  refine Kn.takeS 11 ⟨some 20, _, _, _, _, _⟩ (v := (.int .i64 cf.l)) (hy := fun w hSw => by
   have q0 := field_cfg2 cf.b cf.s cf.l w
   go_simp) ?_
  refine Kn.takeS 12 ⟨some 21, _, _, _, _, _⟩ ?_
  refine Kn.takeS 13 ⟨some 22, _, _, _, _, _⟩ ?_
  refine Kn.takeS 14 ⟨some 8, _, _, _, _, _⟩ ?_
  refine wpAnyH_done (by kernel_rfl) ?_ _
  clear hSw0
  go_wp2
  go_ret
  exact ⟨by unfold Wr.fits; rw [decide_eq_true h6, Bool.true_and]; rfl, HYb.out.o⟩
 ·have hi6 : decide ((it : Int) ≤ 6) = false := decide_eq_false (by omega)
  go_enter Tryz.func166, Tryz.ntmps166
  go_wp2_with fail
  have HY := Lib.hid H0.out.drew
  clear H0
  refine wp_region_held_drew (S := (fun w' => Kn.Own w' W (WB D gb T p vi vb) ∧ GeoAt w' gb cf.b cf.s cf.l)) (by kernel_rfl) HY.out.both (fun hSw0 => ?_)
  generalize w.drew = wz at *
  refine Kn.takeS 0 ⟨some 9, _, _, _, _, _⟩ ?_
  refine Kn.takeS 1 ⟨some 10, _, _, _, _, _⟩ ?_
  refine Kn.takeS 2 ⟨some 11, _, _, _, _, _⟩ ?_
  refine Kn.takeN 3 ⟨some 12, _, _, _, _, _⟩ ?_
  refine Kn.takeN 4 ⟨some 13, _, _, _, _, _⟩ ?_
  refine Kn.takeN 5 ⟨some 14, _, _, _, _, _⟩ ?_
  refine Kn.takeN 6 ⟨some 15, _, _, _, _, _⟩ ?_
  refine Kn.takeN 7 ⟨some 16, _, _, _, _, _⟩ ?_
  refine Kn.takeN 8 ⟨some 17, _, _, _, _, _⟩ ?_
  refine Kn.takeN 9 ⟨some 18, _, _, _, _, _⟩ ?_
  refine Kn.takeN 10 ⟨some 19, _, _, _, _, _⟩ ?_
  refine Kn.takeN 11 ⟨some 20, _, _, _, _, _⟩ ?_
  refine Kn.takeN 12 ⟨some 21, _, _, _, _, _⟩ ?_
  refine Kn.takeS 13 ⟨some 22, _, _, _, _, _⟩ ?_
  refine Kn.takeS 14 ⟨some 8, _, _, _, _, _⟩ ?_
  refine wpAnyH_done (by kernel_rfl) ?_ _
  clear hSw0
  go_wp2
  go_ret
  exact ⟨by unfold Wr.fits; rw [decide_eq_false h6, Bool.false_and]; rfl, HY.out.o⟩
set_option maxRecDepth 100000 in
theorem wr_first_any (w : World) (W D gb T : Nat) (p : Ps) (vi vb : Value) (cf : Cf) (hw : Kn.Own w W (WB D gb T p vi vb)) (hg : GeoAt w gb cf.b cf.s cf.l) (hc : cf.Ok) (ho : -1000000 ≤ p.o ∧ p.o ≤ 1000000) (ha : -1 ≤ cf.at_ p.s ∧ cf.at_ p.s ≤ 100000) :
  Calls Tryz.prog 121 #[.pointer (some ⟨W, 0, none⟩)] w fun e w' => e = .returned (.int .i64 (cf.at_ p.s + behind p.o 0)) ∧ Only [] w w' := by
 have H0 := Lib.hid (⟨⟨hw, hg⟩, Only.refl _ _⟩ : WG w W (WB D gb T p vi vb) gb cf w)
 have lt := hw.lt
 have HC := Lib.hid hc
 have hb : behind p.o 0 = max p.o 1 + 1 + ((0 : Nat) : Int) := rfl
 have hw2 := IntWalk.i64_in (cf.at_ p.s + behind p.o 0) (by omega)
 clear hw hg hc hb
 go_enter Tryz.func121, Tryz.ntmps121
 go_wp2_with fail
 have HY := Lib.hid H0.out.drew
 clear H0
 refine wp_region_held_drew (S := (fun w' => Kn.Own w' W (WB D gb T p vi vb) ∧ GeoAt w' gb cf.b cf.s cf.l)) (by kernel_rfl) HY.out.both (fun hSw0 => ?_)
 generalize w.drew = wz at *
 refine Kn.takeS 0 ⟨some 3, _, _, _, _, _⟩ ?_
 refine Kn.takeS 1 ⟨some 4, _, _, _, _, _⟩ ?_
 refine Kn.takeS 2 ⟨some 5, _, _, _, _, _⟩ ?_
 refine Kn.takeS 3 ⟨some 6, _, _, _, _, _⟩ (v := (.pointer (some ⟨gb, 0, none⟩))) (hy := fun w hSw => by
  have q0 := hSw.1.cellv 1
  go_simp) ?_
 refine Kn.takeS 4 ⟨some 7, _, _, _, _, _⟩ ?_
 refine Kn.takeS 5 ⟨some 8, _, _, _, _, _⟩ ?_
 refine Kn.takeS 6 ⟨some 9, _, _, _, _, _⟩ ?_
 refine Kn.takeS 7 ⟨some 10, _, _, _, _, _⟩ ?_
 refine Kn.takeS 8 ⟨some 11, _, _, _, _, _⟩ (v := (.int .i64 p.s)) (hy := fun w hSw => by
  have q0 := hSw.1.cellv 3
  go_simp) ?_
 refine Kn.takeS 10 ⟨some 13, _, _, _, _, _⟩ ?_
 refine Kn.takeS 11 ⟨some 14, _, _, _, _, _⟩ ?_
 refine Kn.takeS 12 ⟨some 15, _, _, _, _, _⟩ ?_
 refine Kn.takeS 13 ⟨some 16, _, _, _, _, _⟩ ?_
 refine Kn.takeS 14 ⟨some 17, _, _, _, _, _⟩ (v := (.int .i64 p.o)) (hy := fun w hSw => by
  have q0 := hSw.1.cellv 4
  go_simp) ?_
 refine Kn.takeR 9 ⟨some 12, _, _, _, _, _⟩ fun K hK => ?_
 go_simp
 refine (geom_seg_any gb cf p.s _ hSw0.2 HC.out).mono ?_
 rintro en wb ⟨rfl, hO⟩
 have HYb := Lib.hid (WG.keep0 HY.out hO)
 clear hO HY
 refine hK.out _ _ HYb.out.both (fun hSn => ?_)
 clear hK K hSw0
 have hSw0 := hSn
 clear hSn
 refine Kn.takeR 15 ⟨some 18, _, _, _, _, _⟩ fun K hK => ?_
 go_simp
 refine (wr_behind_any p.o 0 _ (by omega) (by omega)).mono ?_
 rintro en wa ⟨rfl, rfl⟩
 refine hK.out _ _ hSw0 (fun hSn => ?_)
 clear hK K hSw0
 have hSw0 := hSn
 clear hSn
 refine Kn.takeS 16 ⟨some 19, _, _, _, _, _⟩ ?_
 refine Kn.takeS 17 ⟨some 2, _, _, _, _, _⟩ ?_
 refine wpAnyH_done (by kernel_rfl) ?_ _
 clear hSw0
 go_wp2
 go_ret
 exact ⟨rfl, HYb.out.o⟩
set_option maxRecDepth 100000 in
theorem wr_pos_any (w : World) (W D gb T : Nat) (p : Ps) (vi vb : Value) (hw : Kn.Own w W (WB D gb T p vi vb)) :
  Calls Tryz.prog 72 #[.pointer (some ⟨W, 0, none⟩)] w fun e w' => e = .returned (.agg #[.int .i64 p.s, .int .i64 p.o, .int .i64 p.l, .int .i64 p.p, .int .i64 p.m]) ∧ Only [] w w' := by
 have hres : Tryz.f72.results = #[.cell 2 32] := by kernel_rfl
 have HRES := Lib.hid hres
 have c0 := hw.cellv 3
 have c1 := hw.cellv 4
 have c2 := hw.cellv 5
 have c3 := hw.cellv 6
 have c4 := hw.cellv 7
 have hlt := hw.lt
 clear hw hres
 go_enter Tryz.func72, Tryz.ntmps72
 go_wp2
 (try simp only [Exit.inBlock, Exit.then])
 refine bodyPost_ret (v := .agg #[.int .i64 p.s, .int .i64 p.o, .int .i64 p.l, .int .i64 p.p, .int .i64 p.m]) ?_ rfl ⟨rfl, ?_⟩
 ·simp only [results, HRES.out]
  go_simp
 ·exact (Only.refl _ _).alloc _
theorem wr_waiting_any (w : World) (W D gb T : Nat) (p : Ps) (A : Option Addr) (n c : Nat) (vb : Value) (hw : Kn.Own w W (WB D gb T p (.slice A n c) vb)) :
  Calls Tryz.prog 68 #[.pointer (some ⟨W, 0, none⟩)] w fun e w' => e = .returned (.int .i64 (n : Int)) ∧ w = w' := by
 have c0 := hw.cellv 8
 clear hw
 go_enter Tryz.func68, Tryz.ntmps68
 go_wp2
 go_ret
 exact ⟨rfl, rfl⟩
end Go.Proofs.YtgcfdjcpcclcjaaGreat
namespace Go.Kn
open Go Go.RowKit
theorem Its.one {w : World} {g : Nat} {k b c v : Int} (h : Own w g [.int .i64 k, .int .i64 b, .int .i64 c, .int .i64 v]) : Its w (some ⟨g, 0, none⟩) 1 1 [⟨k, b, c, v⟩] :=
 ⟨rfl, Nat.le_refl _, by decide, fun _ => ⟨g, 0, rfl, fun i hi => by
  obtain rfl : i = 0 := by simp at hi; omega
  exact ⟨h.cell 0 (by simp), h.cell 1 (by simp), h.cell 2 (by simp), h.cell 3 (by simp)⟩⟩⟩
end Go.Kn
namespace Go.Proofs.YtgcfdjcpcclcjaaGreat
open Go Go.RowKit Go.Kn
theorem Duo.boxi {w0 w : World} {p : PD} {r : RD} {d e : Dk} {c : Fr3} (h : Duo w0 w p r d e c) (i : Nat) {x : Nat × List Value} (hi : c.L[i]? = some x) : Kn.Own w x.1 x.2 := h.box (List.mem_of_getElem? hi)
end Go.Proofs.YtgcfdjcpcclcjaaGreat
namespace Go.Kn
open Go Go.RowKit
/-- the head of the place's segment, if none stands there: the disk, the place, the error -/
def beginW (d : Dk) (c : Cf) (q : Ps) : Dk × Ps × Int :=
 if 0 < q.o then (d, q, 0)
 else match encHead q.head with
  | none => (d, q, 1)
  | some b => if (d.write (c.at_ q.s) b).2 = 0 then ((d.write (c.at_ q.s) b).1, ⟨q.s, 1, q.l, q.p, q.m⟩, 0) else ((d.write (c.at_ q.s) b).1, q, (d.write (c.at_ q.s) b).2)
theorem begin_W (c : Cf) (w : Wr) : w.begin_ c = ({ w with d := (beginW w.d c w.p).1, p := (beginW w.d c w.p).2.1 }, (beginW w.d c w.p).2.2) := by
 unfold Wr.begin_ beginW
 split
 ·rfl
 ·cases encHead w.p.head with
  | none => rfl
  | some b =>
   simp only
   split <;> rfl
theorem encOwn_none {w w' : World} {e : Ending} (h : EncOwn w none e w') : e = .returned (.tuple #[.slice none 0 0, .int .i64 1]) ∧ Only [] w w' := by
 rcases h with ⟨_, h⟩ | ⟨_, _, _, h, _⟩
 ·exact h
 ·cases h
end Go.Kn
namespace Go.Proofs.YtgcfdjcpcclcjaaGreat
open Go Go.RowKit Go.Kn
set_option maxRecDepth 100000 in
set_option maxHeartbeats 8000000 in
theorem wr_begin_any (w0 w : World) (p : PD) (r : RD) (d e : Dk) (W gb T : Nat) (q : Ps) (vi vb : Value) (cf : Cf) (L : List (Nat × List Value)) (G : List Gs) (F : List (World → Prop)) (h : Duo w0 w p r d e ⟨(W, (WB p.D gb T q vi vb)) :: L, G, F⟩) (hg : (fun W => GeoAt W gb cf.b cf.s cf.l) ∈ F) (hc : cf.Ok) (hh : d.held.length ≤ 1000000) :
  Calls Tryz.prog 127 #[.pointer (some ⟨W, 0, none⟩)] w fun en w' => en = .returned (.int .i64 (beginW d cf q).2.2) ∧ Duo w0 w' p r (beginW d cf q).1 e ⟨(W, WB p.D gb T (beginW d cf q).2.1 vi vb) :: L, G, F⟩ := by
 have HD := Lib.hid h
 have HG := Lib.hid hg
 have HC := Lib.hid hc
 have HHH := Lib.hid hh
 have c4 := (h.boxi 0 rfl).cellv 4
 have lt := (h.boxi 0 rfl).lt
 clear h hg hc hh
 by_cases ho : 0 < q.o
 ·have ho2 : q.o > 0 := ho
  have hbg : beginW d cf q = (d, q, 0) := if_pos ho
  have HBG := Lib.hid hbg
  clear hbg
  go_enter Tryz.func127, Tryz.ntmps127
  go_wp2
  go_ret
  rw [HBG.out]
  exact ⟨rfl, HD.out⟩
 ·have ho2 : ¬ q.o > 0 := ho
  have HO : Hid (¬ 0 < q.o) := Lib.hid ho
  clear ho
  cases hen : encHead q.head with
  | none =>
   have HEN := Lib.hid hen
   clear hen
   go_enter Tryz.func127, Tryz.ntmps127
   go_wp2_with fail
   clear c4
   have HY := Lib.hid HD.out.drew
   clear HD
   refine wp_region_held_drew (S := (fun w' => Kn.Own w' W (WB p.D gb T q vi vb))) (by kernel_rfl) (HY.out.box (x := (W, (WB p.D gb T q vi vb))) List.mem_cons_self) (fun hSw0 => ?_)
   generalize w.drew = wz at *
   refine Kn.takeS 0 ⟨some 13, _, _, _, _, _⟩ ?_
   refine Kn.takeS 1 ⟨some 14, _, _, _, _, _⟩ ?_
   refine Kn.takeS 2 ⟨some 15, _, _, _, _, _⟩ ?_
   refine Kn.takeS 3 ⟨some 16, _, _, _, _, _⟩ ?_
   refine Kn.takeS 4 ⟨some 17, _, _, _, _, _⟩ (v := (.int .i64 q.s)) (hy := fun w hSw => by
    have q0 := hSw.cellv 3
    go_simp) ?_
   refine Kn.takeS 5 ⟨some 18, _, _, _, _, _⟩ ?_
   refine Kn.takeS 6 ⟨some 19, _, _, _, _, _⟩ ?_
   refine Kn.takeS 7 ⟨some 20, _, _, _, _, _⟩ ?_
   refine Kn.takeS 8 ⟨some 21, _, _, _, _, _⟩ ?_
   refine Kn.takeS 9 ⟨some 22, _, _, _, _, _⟩ (v := (.int .i64 q.m)) (hy := fun w hSw => by
    have q0 := hSw.cellv 7
    go_simp) ?_
   refine Kn.takeS 10 ⟨some 23, _, _, _, _, _⟩ ?_
   refine Kn.takeS 11 ⟨some 24, _, _, _, _, _⟩ ?_
   refine Kn.takeS 12 ⟨some 25, _, _, _, _, _⟩ ?_
   refine Kn.takeS 13 ⟨some 26, _, _, _, _, _⟩ ?_
   refine Kn.takeS 14 ⟨some 27, _, _, _, _, _⟩ (v := (.int .i64 q.l)) (hy := fun w hSw => by
    have q0 := hSw.cellv 5
    go_simp) ?_
   refine Kn.takeS 15 ⟨some 28, _, _, _, _, _⟩ ?_
   refine Kn.takeS 16 ⟨some 29, _, _, _, _, _⟩ ?_
   refine Kn.takeS 17 ⟨some 30, _, _, _, _, _⟩ ?_
   refine Kn.takeS 18 ⟨some 31, _, _, _, _, _⟩ ?_
   refine Kn.takeS 19 ⟨some 32, _, _, _, _, _⟩ (v := (.int .i64 q.p)) (hy := fun w hSw => by
    have q0 := hSw.cellv 6
    go_simp) ?_
   refine Kn.takeS 20 ⟨some 33, _, _, _, _, _⟩ ?_
   refine Kn.takeR 21 ⟨some 34, _, _, _, _, _⟩ fun K hK => ?_
   go_simp
   refine (head_enc_own q.s q.m q.l q.p _).mono ?_
   rintro en w2 hen
   rw [show (⟨q.s, q.m, q.l, q.p⟩ : It) = q.head from rfl, HEN.out] at hen
   obtain ⟨rfl, hO⟩ := encOwn_none hen
   have HY2 := Lib.hid (HY.out.keep0 hO)
   clear hen hO HY
   refine hK.out _ _ (HY2.out.box (x := (W, (WB p.D gb T q vi vb))) List.mem_cons_self) (fun hSn => ?_)
   clear hK K hSw0
   have hSw0 := hSn
   clear hSn
   refine Kn.takeS 22 ⟨some 12, _, _, _, _, _⟩ ?_
   refine Kn.takeS 23 ⟨some 35, _, _, _, _, _⟩ ?_
   refine Kn.takeS 24 ⟨some 36, _, _, _, _, _⟩ ?_
   refine Kn.takeS 25 ⟨some 3, _, _, _, _, _⟩ ?_
   refine Kn.takeS 26 ⟨some 4, _, _, _, _, _⟩ ?_
   refine wpAnyH_done (by kernel_rfl) ?_ _
   clear hSw0
   have hbg : beginW d cf q = (d, q, 1) := by unfold beginW; rw [if_neg (by have := HO.out; omega), HEN.out]
   have HBG := Lib.hid hbg
   clear hbg
   go_wp2
   go_ret
   rw [HBG.out]
   exact ⟨rfl, HY2.out⟩
  | some b =>
   have HEN := Lib.hid hen
   obtain ⟨d2, er, hwr⟩ : ∃ d2 er, d.write (cf.at_ q.s) b = (d2, er) := ⟨_, _, rfl⟩
   have HWR := Lib.hid hwr
   clear hen hwr
   go_enter Tryz.func127, Tryz.ntmps127
   go_wp2_with fail
   clear c4
   have HY := Lib.hid HD.out.drew
   clear HD
   refine wp_region_held_drew (S := (fun w' => Kn.Own w' W (WB p.D gb T q vi vb))) (by kernel_rfl) (HY.out.box (x := (W, (WB p.D gb T q vi vb))) List.mem_cons_self) (fun hSw0 => ?_)
   generalize w.drew = wz at *
   refine Kn.takeS 0 ⟨some 13, _, _, _, _, _⟩ ?_
   refine Kn.takeS 1 ⟨some 14, _, _, _, _, _⟩ ?_
   refine Kn.takeS 2 ⟨some 15, _, _, _, _, _⟩ ?_
   refine Kn.takeS 3 ⟨some 16, _, _, _, _, _⟩ ?_
   refine Kn.takeS 4 ⟨some 17, _, _, _, _, _⟩ (v := (.int .i64 q.s)) (hy := fun w hSw => by
    have q0 := hSw.cellv 3
    go_simp) ?_
   refine Kn.takeS 5 ⟨some 18, _, _, _, _, _⟩ ?_
   refine Kn.takeS 6 ⟨some 19, _, _, _, _, _⟩ ?_
   refine Kn.takeS 7 ⟨some 20, _, _, _, _, _⟩ ?_
   refine Kn.takeS 8 ⟨some 21, _, _, _, _, _⟩ ?_
   refine Kn.takeS 9 ⟨some 22, _, _, _, _, _⟩ (v := (.int .i64 q.m)) (hy := fun w hSw => by
    have q0 := hSw.cellv 7
    go_simp) ?_
   refine Kn.takeS 10 ⟨some 23, _, _, _, _, _⟩ ?_
   refine Kn.takeS 11 ⟨some 24, _, _, _, _, _⟩ ?_
   refine Kn.takeS 12 ⟨some 25, _, _, _, _, _⟩ ?_
   refine Kn.takeS 13 ⟨some 26, _, _, _, _, _⟩ ?_
   refine Kn.takeS 14 ⟨some 27, _, _, _, _, _⟩ (v := (.int .i64 q.l)) (hy := fun w hSw => by
    have q0 := hSw.cellv 5
    go_simp) ?_
   refine Kn.takeS 15 ⟨some 28, _, _, _, _, _⟩ ?_
   refine Kn.takeS 16 ⟨some 29, _, _, _, _, _⟩ ?_
   refine Kn.takeS 17 ⟨some 30, _, _, _, _, _⟩ ?_
   refine Kn.takeS 18 ⟨some 31, _, _, _, _, _⟩ ?_
   refine Kn.takeS 19 ⟨some 32, _, _, _, _, _⟩ (v := (.int .i64 q.p)) (hy := fun w hSw => by
    have q0 := hSw.cellv 6
    go_simp) ?_
   refine Kn.takeS 20 ⟨some 33, _, _, _, _, _⟩ ?_
   refine Kn.takeR 21 ⟨some 34, _, _, _, _, _⟩ fun K hK => ?_
   go_simp
   refine (head_enc_own q.s q.m q.l q.p _).mono ?_
   rintro en w2 hen
   rw [show (⟨q.s, q.m, q.l, q.p⟩ : It) = q.head from rfl, HEN.out] at hen
   obtain ⟨g2, c2, rfl, hbc, hcm2, hg2, hown, hO⟩ := encOwn_some hen
   have HY2 := Lib.hid (HY.out.addFc hO (f := fun W => Bys W (some ⟨g2, 0, none⟩) b.length c2 b) (Row1.fc (Row1.of_Own hown (by rw [bvs_length]) hbc hcm2) (fun _ a ha => by injection ha with ha; subst ha; exact Nat.not_lt.2 hg2)))
   clear hen hbc hcm2 hg2 hown hO HY
   refine hK.out _ _ (HY2.out.box (x := (W, (WB p.D gb T q vi vb))) List.mem_cons_self) (fun hSn => ?_)
   clear hK K hSw0
   have hSw0 := hSn
   clear hSn
   refine Kn.takeS 22 ⟨some 12, _, _, _, _, _⟩ ?_
   refine Kn.takeS 23 ⟨some 35, _, _, _, _, _⟩ ?_
   refine Kn.takeS 24 ⟨some 36, _, _, _, _, _⟩ ?_
   refine Kn.takeS 25 ⟨some 3, _, _, _, _, _⟩ ?_
   refine Kn.takeS 26 ⟨some 4, _, _, _, _, _⟩ ?_
   refine wpAnyH_done (by kernel_rfl) ?_ _
   clear hSw0
   go_wp2_with fail
   have HZ := Lib.hid HY2.out.drew
   clear HY2
   refine wp_region_held_drew (S := (fun w' => Kn.Own w' W (WB p.D gb T q vi vb))) (by kernel_rfl) (HZ.out.box (x := (W, (WB p.D gb T q vi vb))) List.mem_cons_self) (fun hSw0 => ?_)
   generalize w2.drew = wy at *
   refine Kn.takeS 0 ⟨some 40, _, _, _, _, _⟩ ?_
   refine Kn.takeS 1 ⟨some 41, _, _, _, _, _⟩ ?_
   refine Kn.takeS 2 ⟨some 42, _, _, _, _, _⟩ ?_
   refine Kn.takeS 3 ⟨some 43, _, _, _, _, _⟩ (v := (.pointer (some ⟨p.D, 0, none⟩))) (hy := fun w hSw => by
    have q0 := hSw.cellv 0
    go_simp) ?_
   refine Kn.takeS 4 ⟨some 44, _, _, _, _, _⟩ ?_
   refine Kn.takeS 5 ⟨some 45, _, _, _, _, _⟩ ?_
   refine Kn.takeS 6 ⟨some 46, _, _, _, _, _⟩ ?_
   refine Kn.takeS 7 ⟨some 47, _, _, _, _, _⟩ (v := (.pointer (some ⟨gb, 0, none⟩))) (hy := fun w hSw => by
    have q0 := hSw.cellv 1
    go_simp) ?_
   refine Kn.takeS 8 ⟨some 48, _, _, _, _, _⟩ ?_
   refine Kn.takeS 9 ⟨some 49, _, _, _, _, _⟩ ?_
   refine Kn.takeS 10 ⟨some 50, _, _, _, _, _⟩ ?_
   refine Kn.takeS 11 ⟨some 51, _, _, _, _, _⟩ ?_
   refine Kn.takeS 12 ⟨some 52, _, _, _, _, _⟩ (v := (.int .i64 q.s)) (hy := fun w hSw => by
    have q0 := hSw.cellv 3
    go_simp) ?_
   refine Kn.takeS 14 ⟨some 54, _, _, _, _, _⟩ ?_
   refine Kn.takeR 13 ⟨some 53, _, _, _, _, _⟩ fun K hK => ?_
   go_simp
   refine (geom_seg_any gb cf q.s _ (HZ.out.fact (f := (fun W => GeoAt W gb cf.b cf.s cf.l)) (List.mem_cons_of_mem _ HG.out)) HC.out).mono ?_
   rintro en w3 ⟨rfl, hO⟩
   have HZ2 := Lib.hid (HZ.out.keep0 hO)
   clear hO HZ
   refine hK.out _ _ (HZ2.out.box (x := (W, (WB p.D gb T q vi vb))) List.mem_cons_self) (fun hSn => ?_)
   clear hK K hSw0
   have hSw0 := hSn
   clear hSn
   refine Kn.takeR 15 ⟨some 55, _, _, _, _, _⟩ fun K hK => ?_
   go_simp
   refine (duo_write HZ2.out (cf.at_ q.s) (some ⟨g2, 0, none⟩) b.length c2 b List.mem_cons_self HHH.out).mono ?_
   rw [HWR.out]
   rintro en w4 ⟨rfl, hd⟩
   have HZ3 := Lib.hid (Duo.subF hd (F' := F) (fun f hf => List.mem_cons_of_mem _ hf))
   clear hd HZ2
   refine hK.out _ _ (HZ3.out.box (x := (W, (WB p.D gb T q vi vb))) List.mem_cons_self) (fun hSn => ?_)
   clear hK K hSw0
   have hSw0 := hSn
   clear hSn
   refine Kn.takeS 16 ⟨some 5, _, _, _, _, _⟩ ?_
   refine wpAnyH_done (by kernel_rfl) ?_ _
   clear hSw0
   by_cases he : er = 0
   ·subst he
    have b1 := HZ3.out.boxi 0 rfl
    have y0 := b1.frozen 4
    have y1 := b1.cellv 4
    have yl := b1.lt
    have HE := Lib.hid (HZ3.out.put 0 rfl 4 (.int .i64 1))
    have hbg : beginW d cf q = (d2, ⟨q.s, 1, q.l, q.p, q.m⟩, 0) := by unfold beginW; rw [if_neg (by have := HO.out; omega), HEN.out]; simp only; rw [HWR.out]; rfl
    have HBG := Lib.hid hbg
    clear hbg b1
    go_wp2
    go_ret
    rw [HBG.out]
    exact ⟨rfl, HE.out⟩
   ·have heb : (er != 0) = true := by rw [bne_iff_ne]; exact he
    have hbg : beginW d cf q = (d2, q, er) := by unfold beginW; rw [if_neg (by have := HO.out; omega), HEN.out]; simp only; rw [HWR.out, if_neg he]
    have HBG := Lib.hid hbg
    clear hbg
    go_wp2
    go_ret
    rw [HBG.out]
    exact ⟨rfl, HZ3.out⟩
end Go.Proofs.YtgcfdjcpcclcjaaGreat
namespace Go.Kn
open Go Go.RowKit
def CB (D gb : Nat) (p e : Ps) (er : Int) : List Value :=
 [.pointer (some ⟨D, 0, none⟩), .pointer (some ⟨gb, 0, none⟩), .int .i64 p.s, .int .i64 p.o, .int .i64 p.l, .int .i64 p.p, .int .i64 p.m, .int .i64 e.s, .int .i64 e.o, .int .i64 e.l, .int .i64 e.p, .int .i64 e.m, .int .i64 er]
end Go.Kn
namespace Go.Proofs.YtgcfdjcpcclcjaaGreat
open Go Go.RowKit Go.Kn
theorem chain_new_any {wb : World} (w0 w : World) (D gb : Nat) (p : Ps) (L : List (Nat × List Value)) (G : List Gs) (F : List (World → Prop)) (hw : Wk w0 wb w L G F) :
  Calls Tryz.prog 56 #[.pointer (some ⟨D, 0, none⟩), .pointer (some ⟨gb, 0, none⟩), .agg #[.int .i64 p.s, .int .i64 p.o, .int .i64 p.l, .int .i64 p.p, .int .i64 p.m]] w fun en w' => ∃ C, en = .returned (.pointer (some ⟨C, 0, none⟩)) ∧ Wk w0 wb w' ((C, CB D gb p p 0) :: L) G F := by
 have H := Lib.hid hw
 clear hw
 go_enter Tryz.func56, Tryz.ntmps56
 go_wp2
 go_ret
 exact ⟨_, rfl, (H.out.alloc (.cells #[.int .i64 p.s, .int .i64 p.o, .int .i64 p.l, .int .i64 p.p, .int .i64 p.m] 32)).newB #[.pointer (some ⟨D, 0, none⟩), .pointer (some ⟨gb, 0, none⟩), .int .i64 p.s, .int .i64 p.o, .int .i64 p.l, .int .i64 p.p, .int .i64 p.m, .int .i64 p.s, .int .i64 p.o, .int .i64 p.l, .int .i64 p.p, .int .i64 p.m, .int .i64 0] 205 (by simp)⟩
set_option maxRecDepth 100000 in
theorem chain_end_any (w : World) (C D gb : Nat) (p e : Ps) (er : Int) (h : Kn.Own w C (CB D gb p e er)) :
  Calls Tryz.prog 58 #[.pointer (some ⟨C, 0, none⟩)] w fun en w' => en = .returned (.agg #[.int .i64 e.s, .int .i64 e.o, .int .i64 e.l, .int .i64 e.p, .int .i64 e.m]) ∧ Only [] w w' := by
 have hres : Tryz.f58.results = #[.cell 2 32] := by kernel_rfl
 have HRES := Lib.hid hres
 have c0 := h.cellv 7
 have c1 := h.cellv 8
 have c2 := h.cellv 9
 have c3 := h.cellv 10
 have c4 := h.cellv 11
 have hlt := h.lt
 clear h hres
 go_enter Tryz.func58, Tryz.ntmps58
 go_wp2
 (try simp only [Exit.inBlock, Exit.then])
 refine bodyPost_ret (v := .agg #[.int .i64 e.s, .int .i64 e.o, .int .i64 e.l, .int .i64 e.p, .int .i64 e.m]) ?_ rfl ⟨rfl, ?_⟩
 ·simp only [results, HRES.out]
  go_simp
 ·exact (Only.refl _ _).alloc _
theorem chain_records_any (p : Option Addr) (w : World) : Calls Tryz.prog 137 #[.pointer p] w fun e w' => e = .returned (.func (.func 179) #[] #[.pointer (some ⟨w.heap.size, 0, none⟩)]) ∧ w' = w.alloc (.cells #[.pointer p] 113) := by
 go_enter Tryz.func137, Tryz.ntmps137
 go_wp2
 go_ret
 exact ⟨rfl, rfl⟩
set_option maxRecDepth 100000 in
set_option maxHeartbeats 4000000 in
theorem chain_on_any (w0 w : World) (C D gb : Nat) (cf : Cf) (p e : Ps) (er : Int) (x : Rc) (s t : Option Addr × Nat × Nat) (q : Ps) (L : List (Nat × List Value)) (G : List Gs) (F : List (World → Prop)) (hw : Wc w0 w L G F) (hC : (C, CB D gb p e er) ∈ L) (hx : (fun W => RcAt W x s t) ∈ F) (hg : (fun W => GeoAt W gb cf.b cf.s cf.l) ∈ F) (hc : cf.Ok) (hn : ∀ v, nextOf x = some v → 0 ≤ v ∧ v ≤ 31) :
  Calls Tryz.prog 180 #[.pointer (some ⟨C, 0, none⟩), .agg (x.cells s t), .agg #[.int .i64 q.s, .int .i64 q.o, .int .i64 q.l, .int .i64 q.p, .int .i64 q.m]] w fun en w' => en = .returned (.tuple #[.agg #[.int .i64 (onP cf x q).1.s, .int .i64 (onP cf x q).1.o, .int .i64 (onP cf x q).1.l, .int .i64 (onP cf x q).1.p, .int .i64 (onP cf x q).1.m], .bool (onP cf x q).2]) ∧ Only [] w w' := by
 have hres : Tryz.f180.results = #[.cell 6 32, .tmp 7] := by kernel_rfl
 have HRES := Lib.hid hres
 obtain ⟨s1, s2, s3⟩ := s
 obtain ⟨t1, t2, t3⟩ := t
 have HX := Lib.hid hx
 have HGE := Lib.hid hg
 have HC := Lib.hid hc
 have HCC := Lib.hid hC
 have hO := ((((Only.refl [] w).alloc (.cells #[.int .i64 x.m, .int .i64 x.n, .int .i64 x.p, .slice s1 s2 s3, .slice t1 t2 t3] 56)).alloc (.cells #[.int .i64 q.s, .int .i64 q.o, .int .i64 q.l, .int .i64 q.p, .int .i64 q.m] 32)).alloc (.cells #[.int .i64 0, .int .i64 0, .int .i64 0, .int .i64 0, .int .i64 0] 32))
 have H := Lib.hid ((((hw.newB #[.int .i64 x.m, .int .i64 x.n, .int .i64 x.p, .slice s1 s2 s3, .slice t1 t2 t3] 56 (b := w.heap.size) rfl).newB #[.int .i64 q.s, .int .i64 q.o, .int .i64 q.l, .int .i64 q.p, .int .i64 q.m] 32 (b := w.heap.size + 1) (by simp)).newB #[.int .i64 0, .int .i64 0, .int .i64 0, .int .i64 0, .int .i64 0] 32 (b := w.heap.size + 1 + 1) (by simp)))
 clear hres hx hg hc hC hw
 simp only [Rc.cells, slv]
 go_enter Tryz.func180, Tryz.ntmps180
 go_upto_region 1 with (fail)
 have hs1 : (w.alloc (.cells #[.int .i64 x.m, .int .i64 x.n, .int .i64 x.p, .slice s1 s2 s3, .slice t1 t2 t3] 56)).heap.size = w.heap.size + 1 := by simp
 have hs2 : ((w.alloc (.cells #[.int .i64 x.m, .int .i64 x.n, .int .i64 x.p, .slice s1 s2 s3, .slice t1 t2 t3] 56)).alloc (.cells #[.int .i64 q.s, .int .i64 q.o, .int .i64 q.l, .int .i64 q.p, .int .i64 q.m] 32)).heap.size = w.heap.size + 1 + 1 := by simp
 try rw [hs2]
 try rw [hs1]
 generalize hz1 : (((w.alloc (.cells #[.int .i64 x.m, .int .i64 x.n, .int .i64 x.p, .slice s1 s2 s3, .slice t1 t2 t3] 56)).alloc (.cells #[.int .i64 q.s, .int .i64 q.o, .int .i64 q.l, .int .i64 q.p, .int .i64 q.m] 32)).alloc (.cells #[.int .i64 0, .int .i64 0, .int .i64 0, .int .i64 0, .int .i64 0] 32)) = w1 at *
 clear hz1 hs1 hs2
 obtain ⟨b4, hb4⟩ : ∃ k, k = w.heap.size := ⟨_, rfl⟩
 rw [← hb4] at H ⊢
 obtain ⟨b5, hb5⟩ : ∃ k, k = b4 + 1 := ⟨_, rfl⟩
 rw [← hb5] at H ⊢
 obtain ⟨b6, hb6⟩ : ∃ k, k = b5 + 1 := ⟨_, rfl⟩
 rw [← hb6] at H ⊢
 have hle5 : w.heap.size ≤ b5 := by omega
 have hle6 : w.heap.size ≤ b6 := by omega
 have hn56 : b5 ≠ b6 := by omega
 have hn65 : b6 ≠ b5 := by omega
 clear hb4 hb5 hb6
 have HO := Lib.hid hO
 clear hO
 obtain ⟨r0, r1, r2, r3, r4⟩ := own5 (H.out.boxi 2 rfl)
 go_wp2_with fail
 refine (rec_next_any x (s1, s2, s3) (t1, t2, t3) _ (H.out.fact _ HX.out).1).mono ?_
 rintro en w2 ⟨rfl, hO⟩
 have H2 := Lib.hid (H.out.keep0 hO)
 have HO2 := Lib.hid (HO.out.trans' hO)
 clear hO H HO r0 r1 r2 r3 r4
 have bC := H2.out.box (List.mem_cons_of_mem _ (List.mem_cons_of_mem _ (List.mem_cons_of_mem _ HCC.out)))
 have g1 := bC.cellv 1
 have lC := bC.lt
 obtain ⟨q0, q1, q2, q3, q4⟩ := own5 (H2.out.boxi 1 rfl)
 have y0 := (H2.out.boxi 1 rfl).frozen 0
 have y1 := (H2.out.boxi 1 rfl).frozen 1
 have l5 := (H2.out.boxi 1 rfl).lt
 have b6 := H2.out.boxi 0 rfl
 have z0 := b6.frozen 0
 have z1 := b6.frozen 1
 have z2 := b6.frozen 2
 have z3 := b6.frozen 3
 have z4 := b6.frozen 4
 have l6 := b6.lt
 obtain ⟨k0, k1, k2, k3, k4⟩ := own5 b6
 clear bC
 clear b6
 cases hnx : nextOf x with
 | none =>
  have HON := Lib.hid (onP_none (c := cf) (q := q) hnx)
  simp only [Option.getD_none, Option.isSome_none]
  clear hnx hn
  go_wp2
  (try simp only [Exit.inBlock, Exit.then])
  refine bodyPost_ret (v := .tuple #[.agg #[.int .i64 q.s, .int .i64 q.o, .int .i64 q.l, .int .i64 q.p, .int .i64 q.m], .bool false]) ?_ rfl ⟨?_, ?_⟩
  ·simp only [results, HRES.out]
   go_simp
  ·rw [HON.out]
   try rfl
  ·exact (((((HO2.out.set (.inr hle6) _).set (.inr hle6) _).set (.inr hle6) _).set (.inr hle6) _).set (.inr hle6) _)
 | some v =>
  obtain ⟨hv0, hv1⟩ := hn v hnx
  simp only [Option.getD_some, Option.isSome_some]
  have hss : 8 ≤ cf.s ∧ cf.s ≤ 32 := HC.out.2.1
  go_wp2_with fail
  refine (geom_has_any gb cf.b cf.s cf.l v _ (H2.out.fact _ HGE.out) HC.out).mono ?_
  rintro en w3 ⟨rfl, rfl⟩
  by_cases hv : v ≤ cf.s - 1
  ·have hd : decide (0 ≤ v ∧ v ≤ cf.s - 1) = true := decide_eq_true ⟨hv0, hv⟩
   have HON := Lib.hid (onP_some (c := cf) (q := q) hnx hv)
   rw [hd]
   clear hnx hn hd
   go_wp2
   (try simp only [Exit.inBlock, Exit.then])
   refine bodyPost_ret (v := .tuple #[.agg #[.int .i64 v, .int .i64 0, .int .i64 q.l, .int .i64 q.p, .int .i64 q.m], .bool true]) ?_ rfl ⟨?_, ?_⟩
   ·simp only [results, HRES.out]
    go_simp
   ·rw [HON.out]
    try rfl
   ·exact (((((((HO2.out.set (.inr hle5) _).set (.inr hle5) _).set (.inr hle6) _).set (.inr hle6) _).set (.inr hle6) _).set (.inr hle6) _).set (.inr hle6) _)
  ·have hd : decide (0 ≤ v ∧ v ≤ cf.s - 1) = false := decide_eq_false (fun h => hv h.2)
   have HON := Lib.hid (onP_far (c := cf) (q := q) hnx hv)
   rw [hd]
   clear hnx hn hd
   go_wp2
   (try simp only [Exit.inBlock, Exit.then])
   refine bodyPost_ret (v := .tuple #[.agg #[.int .i64 q.s, .int .i64 q.o, .int .i64 q.l, .int .i64 q.p, .int .i64 q.m], .bool false]) ?_ rfl ⟨?_, ?_⟩
   ·simp only [results, HRES.out]
    go_simp
   ·rw [HON.out]
    try rfl
   ·exact (((((HO2.out.set (.inr hle6) _).set (.inr hle6) _).set (.inr hle6) _).set (.inr hle6) _).set (.inr hle6) _)
end Go.Proofs.YtgcfdjcpcclcjaaGreat
