/- ChnB, WrC, DkW, DuK, WrD, UsB, DkO, WrE: joined by pack.py, without what the claim does not use. -/
import Derived.Test.YtgcfdjcpcclcjaaGreatWriterBackE
set_option linter.unusedVariables false
set_option linter.unusedSimpArgs false
namespace Go.Kn
open Go Go.RowKit
/-- a mark behind a range over a function -/
def mkD (D : Nat) : Deferred := { target := .collected D, args := #[] }
def Marks (B : Nat) (Ds : List Nat) (W : World) : Prop := (∀ D ∈ Ds, B ≤ D ∧ W.heap[D]? = some (.deferred (some []))) ∧ Ds.Nodup
theorem marks_many {F : Fence} {n : Nat} {P : Program} {fn : Func} {tmps : Array Value} {R : Ending → World → Prop} {B : Nat} (Inv : World → Prop) (hput : ∀ (W : World) D, Inv W → B ≤ D → W.heap[D]? = some (.deferred (some [])) → Inv (W.putObj D (.deferred none)))
  (hfin : ∀ W, Inv W → ∃ v, (results fn tmps).run P W = .ok v W ∧ R (.returned v) W) : ∀ (Ds : List Nat) (W : World), Inv W → Marks B Ds W → LeavesInM F n P fn tmps R (Ds.map mkD) .returning W
 | [], W, h, _ => by
  obtain ⟨v, h1, h2⟩ := hfin W h
  exact ⟨v, h1, h2⟩
 | D :: Ds, W, h, hm => by
  obtain ⟨h1, h2⟩ := hm
  obtain ⟨hD, hK⟩ := h1 D List.mem_cons_self
  obtain ⟨hn, h2⟩ := List.nodup_cons.1 h2
  refine ⟨by simp, .inl ⟨D, _, rfl, run_takeDeferred hK, marks_many Inv hput hfin Ds _ (hput _ _ h hD hK) ⟨fun E hE => ?_, h2⟩⟩⟩
  obtain ⟨g1, g2⟩ := h1 E (List.mem_cons_of_mem _ hE)
  exact ⟨g1, (World.putObj_heap_other (fun e => hn (by rw [← e]; exact hE))).trans g2⟩
theorem Marks.kb {B C : Nat} {Ds : List Nat} {X Y : World} (h : Marks B Ds X) (hk : Kb C X Y) (hC : ∀ D ∈ Ds, D < C) : Marks B Ds Y := ⟨fun D hD => ⟨(h.1 D hD).1, hk.keep D _ (hC D hD) (h.1 D hD).2 rfl⟩, h.2⟩
theorem Marks.kf {B : Nat} {Ds : List Nat} {X Y : World} (h : Marks B Ds X) (hk : KeepsFrom B X Y) : Marks B Ds Y := ⟨fun D hD => ⟨(h.1 D hD).1, hk.same D _ (h.1 D hD).1 (h.1 D hD).2 rfl⟩, h.2⟩
theorem Marks.lt {B : Nat} {Ds : List Nat} {X : World} (h : Marks B Ds X) : ∀ D ∈ Ds, D < X.heap.size := fun D hD => lt_of_obj (h.1 D hD).2
theorem Marks.cons {B D : Nat} {Ds : List Nat} {X : World} (h : Marks B Ds X) (hB : B ≤ D) (hD : ∀ E ∈ Ds, E < D) (hK : X.heap[D]? = some (.deferred (some []))) : Marks B (D :: Ds) X :=
 ⟨fun E hE => (List.mem_cons.1 hE).elim (fun e => by rw [e]; exact ⟨hB, hK⟩) (h.1 E), List.nodup_cons.2 ⟨fun hm => Nat.lt_irrefl _ (hD D hm), h.2⟩⟩
def postM (R : Exit → Act → World → Prop) : Exit → Act → World → Prop
 | .normal, a, w => R .normal a w
 | .ret, a, w => R .ret a w
 | _, _, _ => False
theorem callsIn_of_wp_post {n : Nat} {P : Program} {f : FuncId} {fn : Func} {c : Code} {args : Array Value} {w : World} {R : Ending → World → Prop} (hf : P.funcs[f]? = some fn) (hb : fn.body = some c)
  (h : c.wpIn Fence.wide n P (postM (bodyPostM Fence.wide n P fn R)) { tmps := args ++ Array.replicate (fn.ntmps - args.size) undef, defers := [] } w) : CallsIn Fence.wide n P f args w R := by
 refine callsIn_of_wp_marks hf hb trivial (wpIn_mono h ?_) rfl
 intro e a w h
 cases e <;> first | exact h | exact h.elim
theorem not_letsOut_then {K : Act → World → Prop} {Q : Exit → Act → World → Prop} (h : ¬ LetsOut Q) : ¬ LetsOut (Exit.then K Q) := fun ⟨a, w, hq⟩ => h ⟨a, w, hq⟩
theorem cons_of {n : Nat} {us : List Value} (h : us.length = n + 1) : ∃ x t, us = x :: t ∧ t.length = n := by
 cases us with
 | nil => simp at h
 | cons x t => exact ⟨x, t, rfl, by simpa using h⟩
theorem all62 {P : List Value → Prop} (h : ∀ u4 u5 u6 u7 u8 u9 u10 u11 u12 u13 u14 u15 u16 u17 u18 u19 u20 u21 u22 u23 u24 u25 u26 u27 u28 u29 u30 u31 u32 u33 u34 u35 u36 u37 u38 u39 u40 u41 u42 u43 u44 u45 u46 u47 u48 u49 u50 u51 u52 u53 u54 u55 u56 u57 u58 u59 u60 u61 u62 u63 u64 u65 : Value, P (u4 :: u5 :: u6 :: u7 :: u8 :: u9 :: u10 :: u11 :: u12 :: u13 :: u14 :: u15 :: u16 :: u17 :: u18 :: u19 :: u20 :: u21 :: u22 :: u23 :: u24 :: u25 :: u26 :: u27 :: u28 :: u29 :: u30 :: u31 :: u32 :: u33 :: u34 :: u35 :: u36 :: u37 :: u38 :: u39 :: u40 :: u41 :: u42 :: u43 :: u44 :: u45 :: u46 :: u47 :: u48 :: u49 :: u50 :: u51 :: u52 :: u53 :: u54 :: u55 :: u56 :: u57 :: u58 :: u59 :: u60 :: u61 :: u62 :: u63 :: u64 :: u65 :: [])) : ∀ us : List Value, us.length = 62 → P us := by
 intro t3 h3
 obtain ⟨u4, t4, e4, h4⟩ := cons_of h3
 obtain ⟨u5, t5, e5, h5⟩ := cons_of h4
 obtain ⟨u6, t6, e6, h6⟩ := cons_of h5
 obtain ⟨u7, t7, e7, h7⟩ := cons_of h6
 obtain ⟨u8, t8, e8, h8⟩ := cons_of h7
 obtain ⟨u9, t9, e9, h9⟩ := cons_of h8
 obtain ⟨u10, t10, e10, h10⟩ := cons_of h9
 obtain ⟨u11, t11, e11, h11⟩ := cons_of h10
 obtain ⟨u12, t12, e12, h12⟩ := cons_of h11
 obtain ⟨u13, t13, e13, h13⟩ := cons_of h12
 obtain ⟨u14, t14, e14, h14⟩ := cons_of h13
 obtain ⟨u15, t15, e15, h15⟩ := cons_of h14
 obtain ⟨u16, t16, e16, h16⟩ := cons_of h15
 obtain ⟨u17, t17, e17, h17⟩ := cons_of h16
 obtain ⟨u18, t18, e18, h18⟩ := cons_of h17
 obtain ⟨u19, t19, e19, h19⟩ := cons_of h18
 obtain ⟨u20, t20, e20, h20⟩ := cons_of h19
 obtain ⟨u21, t21, e21, h21⟩ := cons_of h20
 obtain ⟨u22, t22, e22, h22⟩ := cons_of h21
 obtain ⟨u23, t23, e23, h23⟩ := cons_of h22
 obtain ⟨u24, t24, e24, h24⟩ := cons_of h23
 obtain ⟨u25, t25, e25, h25⟩ := cons_of h24
 obtain ⟨u26, t26, e26, h26⟩ := cons_of h25
 obtain ⟨u27, t27, e27, h27⟩ := cons_of h26
 obtain ⟨u28, t28, e28, h28⟩ := cons_of h27
 obtain ⟨u29, t29, e29, h29⟩ := cons_of h28
 obtain ⟨u30, t30, e30, h30⟩ := cons_of h29
 obtain ⟨u31, t31, e31, h31⟩ := cons_of h30
 obtain ⟨u32, t32, e32, h32⟩ := cons_of h31
 obtain ⟨u33, t33, e33, h33⟩ := cons_of h32
 obtain ⟨u34, t34, e34, h34⟩ := cons_of h33
 obtain ⟨u35, t35, e35, h35⟩ := cons_of h34
 obtain ⟨u36, t36, e36, h36⟩ := cons_of h35
 obtain ⟨u37, t37, e37, h37⟩ := cons_of h36
 obtain ⟨u38, t38, e38, h38⟩ := cons_of h37
 obtain ⟨u39, t39, e39, h39⟩ := cons_of h38
 obtain ⟨u40, t40, e40, h40⟩ := cons_of h39
 obtain ⟨u41, t41, e41, h41⟩ := cons_of h40
 obtain ⟨u42, t42, e42, h42⟩ := cons_of h41
 obtain ⟨u43, t43, e43, h43⟩ := cons_of h42
 obtain ⟨u44, t44, e44, h44⟩ := cons_of h43
 obtain ⟨u45, t45, e45, h45⟩ := cons_of h44
 obtain ⟨u46, t46, e46, h46⟩ := cons_of h45
 obtain ⟨u47, t47, e47, h47⟩ := cons_of h46
 obtain ⟨u48, t48, e48, h48⟩ := cons_of h47
 obtain ⟨u49, t49, e49, h49⟩ := cons_of h48
 obtain ⟨u50, t50, e50, h50⟩ := cons_of h49
 obtain ⟨u51, t51, e51, h51⟩ := cons_of h50
 obtain ⟨u52, t52, e52, h52⟩ := cons_of h51
 obtain ⟨u53, t53, e53, h53⟩ := cons_of h52
 obtain ⟨u54, t54, e54, h54⟩ := cons_of h53
 obtain ⟨u55, t55, e55, h55⟩ := cons_of h54
 obtain ⟨u56, t56, e56, h56⟩ := cons_of h55
 obtain ⟨u57, t57, e57, h57⟩ := cons_of h56
 obtain ⟨u58, t58, e58, h58⟩ := cons_of h57
 obtain ⟨u59, t59, e59, h59⟩ := cons_of h58
 obtain ⟨u60, t60, e60, h60⟩ := cons_of h59
 obtain ⟨u61, t61, e61, h61⟩ := cons_of h60
 obtain ⟨u62, t62, e62, h62⟩ := cons_of h61
 obtain ⟨u63, t63, e63, h63⟩ := cons_of h62
 obtain ⟨u64, t64, e64, h64⟩ := cons_of h63
 obtain ⟨u65, t65, e65, h65⟩ := cons_of h64
 obtain rfl := List.length_eq_zero_iff.1 h65
 rw [e4, e5, e6, e7, e8, e9, e10, e11, e12, e13, e14, e15, e16, e17, e18, e19, e20, e21, e22, e23, e24, e25, e26, e27, e28, e29, e30, e31, e32, e33, e34, e35, e36, e37, e38, e39, e40, e41, e42, e43, e44, e45, e46, e47, e48, e49, e50, e51, e52, e53, e54, e55, e56, e57, e58, e59, e60, e61, e62, e63, e64, e65]
 exact h u4 u5 u6 u7 u8 u9 u10 u11 u12 u13 u14 u15 u16 u17 u18 u19 u20 u21 u22 u23 u24 u25 u26 u27 u28 u29 u30 u31 u32 u33 u34 u35 u36 u37 u38 u39 u40 u41 u42 u43 u44 u45 u46 u47 u48 u49 u50 u51 u52 u53 u54 u55 u56 u57 u58 u59 u60 u61 u62 u63 u64 u65
theorem wpIn_named {F : Fence} {n : Nat} {P : Program} {c : Code} {Q : Exit → Act → World → Prop} {a : Act} {w : World} (h : ∀ a0, a0 = a → c.wpIn F n P Q a0 w) : c.wpIn F n P Q a w := h a rfl
theorem not_letsOut_postW {α : Type} {B : Nat} {w0 : World} {φ : Fr3} {J : Option Code → List α → Fr3 → World → Prop} {xs : List α} {W : World} {id : Nat} : ¬ LetsOut (Exit.inBlock id (postW B w0 φ J xs W)) := by
 rintro ⟨a, w, h⟩
 exact h
theorem perm_any {α : Type} {A B : List α} (h : ∀ (c : α → Nat), (A.map c).sum = (B.map c).sum) : A.Perm B := by
 classical
 rw [List.perm_iff_count]
 intro a
 have h1 := h (fun x => if x = a then 1 else 0)
 have e : ∀ l : List α, (l.map fun x => if x = a then 1 else 0).sum = l.count a := by
  intro l
  induction l with
  | nil => rfl
  | cons x l ih => rw [List.map_cons, List.sum_cons, ih, List.count_cons, Nat.add_comm]; simp
 rw [e, e] at h1
 exact h1
/-- what the loop has behind some records of a segment: where it goes on, and whether in another one -/
def OnSt (d : Dk) (cf : Cf) (pre : List Fnd) (e : Ps) (more : Bool) : Prop :=
 (pre = [] ∧ more = false) ∨ ∃ pre' x q', pre = pre' ++ [x] ∧ follow d cf x.p = (some (x.r, q'), 0) ∧ e = (onP cf x.r q').1 ∧ more = (onP cf x.r q').2
theorem OnSt.done {d : Dk} {cf : Cf} {xs : List Fnd} {q e : Ps} {more : Bool} (h : OnSt d cf xs e more) (hx : xs.map Fnd.pr = (scanR d cf false q).1) :
  (more = true ∧ ∃ v, nextIn cf (scanR d cf false q).1 = some v ∧ e = turnP (scanR d cf false q).2.1 v) ∨ (more = false ∧ nextIn cf (scanR d cf false q).1 = none) := by
 rcases h with ⟨rfl, rfl⟩ | ⟨pre', x, q', rfl, hf, rfl, rfl⟩
 ·exact .inr ⟨rfl, by rw [← hx]; rfl⟩
 ·rw [List.map_append] at hx
  obtain ⟨g1, g2⟩ := scanR_last hx.symm
  have g3 : (some (x.r, q'), (0 : Int)) = (some (x.r, (scanR d cf false q).2.1), 0) := hf.symm.trans g1
  injection g3 with g3
  injection g3 with g3
  injection g3 with _ g3
  rw [← g3, ← hx]
  show (_ ∧ ∃ v, nextIn cf (pre'.map Fnd.pr ++ [x.pr]) = some v ∧ _) ∨ (_ ∧ nextIn cf (pre'.map Fnd.pr ++ [x.pr]) = none)
  rw [nextIn_snoc]
  show (_ ∧ ∃ v, (nextOf x.r).filter _ = some v ∧ _) ∨ (_ ∧ (nextOf x.r).filter _ = none)
  unfold onP
  cases hn : (nextOf x.r).filter fun v => decide (v ≤ cf.s - 1) with
  | none => exact .inr ⟨rfl, rfl⟩
  | some v => exact .inl ⟨rfl, v, rfl, rfl⟩
theorem OnSt.snoc {d : Dk} {cf : Cf} {pre : List Fnd} {x : Fnd} {e q : Ps} {more : Bool} (h : OnSt d cf (pre ++ [x]) e more) (hf : follow d cf x.p = (some (x.r, q), 0)) : e = (onP cf x.r q).1 ∧ more = (onP cf x.r q).2 := by
 rcases h with ⟨h, _⟩ | ⟨pre', x', q', h, hf', he, hm⟩
 ·simp at h
 ·obtain ⟨_, h⟩ := List.append_inj' h rfl
  injection h with h
  subst h
  rw [hf] at hf'
  injection hf' with h1
  injection h1 with h1
  injection h1 with _ h1
  subst h1
  exact ⟨he, hm⟩
theorem scan_prefix_chain (d : Dk) (c : Cf) (k : Nat) (p : Ps) : (scanR d c false p).1 <+: (chainG d c (k + 1) p).1 := by
 cases hn : nextIn c (scanR d c false p).1 with
 | none => rw [chainG_none hn]; exact List.prefix_refl _
 | some v => rw [chainG_some hn]; exact List.prefix_append _ _
end Go.Kn
namespace Go.Proofs.YtgcfdjcpcclcjaaGreat
open Go Go.RowKit Go.Kn Go.Shelf
attribute [local go_sem] Oper.semAt_some
section
variable (C D gb : Nat) (d : Dk) (cf : Cf) (p : Ps) (k0 : Nat) (L : List (Nat × List Value)) (G : List Gs) (F : List (World → Prop))
def ChPre (pre : List Fnd) (x : Fnd) (φ : Fr3) : Prop := ∃ (X : List (Nat × List Value)) (q : Ps) (fs : List (World → Prop)), φ = ⟨(C, CB D gb p (onP cf x.r q).1 0) :: (X ++ L), G, fs ++ F⟩ ∧ (∀ y ∈ pre ++ [x], y.fct ∈ fs) ∧ (pre ++ [x]).map Fnd.pr <+: (chainG d cf k0 p).1 ∧ Kn.follow d cf x.p = (some (x.r, q), 0)
def ChFin (xs : List Fnd) (φ : Fr3) : Prop := ∃ (X : List (Nat × List Value)) (fs : List (World → Prop)), φ = ⟨(C, CB D gb p (chainG d cf k0 p).2.1 (chainG d cf k0 p).2.2) :: (X ++ L), G, fs ++ F⟩ ∧ (∀ y ∈ xs, y.fct ∈ fs) ∧ xs.map Fnd.pr = (chainG d cf k0 p).1
def ChFix (pre : List Fnd) (φ : Fr3) : Prop := ∃ (X : List (Nat × List Value)) (q : Ps) (fs : List (World → Prop)) (pre' : List Fnd) (x : Fnd), φ = ⟨(C, CB D gb p (onP cf x.r q).1 0) :: (X ++ L), G, fs ++ F⟩ ∧ (∀ y ∈ pre, y.fct ∈ fs) ∧ pre.map Fnd.pr <+: (chainG d cf k0 p).1 ∧ pre = pre' ++ [x] ∧ Kn.follow d cf x.p = (some (x.r, q), 0)
end
/-- what the range over a segment's records keeps -/
def ChC (C D gb : Nat) (p e : Ps) (f2 f3 f4 S l : Nat) (more : Bool) (co : Fr3) : Fr3 := ⟨(f4, [.pointer (some ⟨S, 0, none⟩)]) :: (C, CB D gb p e 0) :: (f3, [.bool more]) :: (f2, [.func (.yield l) #[] #[]]) :: co.L, co.G, co.F⟩
def ChJ (J : Option Code → List Fnd → Fr3 → World → Prop) (C D gb : Nat) (d : Dk) (cf : Cf) (p : Ps) (f2 f3 f4 S l : Nat) (told : List Fnd) (B : Nat) (Ds : List Nat) : Option Code → List Fnd → Fr3 → World → Prop
 | none, pre, c, W => ∃ (co : Fr3) (e : Ps) (more : Bool), c = ChC C D gb p e f2 f3 f4 S l more co ∧ J none (told ++ pre) co W ∧ Marks B Ds W ∧ OnSt d cf pre e more
 | some cd, pre, c, W => ∃ (co : Fr3) (e : Ps) (more : Bool) (cd' : Code), c = ChC C D gb p e f2 f3 f4 S l more co ∧ cd = .ret ∧ J (some cd') (told ++ pre) co W ∧ Marks B Ds W ∧ OnSt d cf pre e more
set_option maxRecDepth 100000 in
set_option maxHeartbeats 8000000 in
theorem chrec1_seq (w0 W : World) (C b1 gb : Nat) (pd : PD) (d : Dk) (cf : Cf) (p : Ps) (e : Ps) (er : Int) (L : List (Nat × List Value)) (G : List Gs) (F : List (World → Prop)) (n : Nat) (hn : 4 ≤ n) (k0 N : Nat)
  (hd : DkIn pd d L) (hb1 : (b1, [.pointer (some ⟨C, 0, none⟩)]) ∈ L) (hg : (fun W => GeoAt W gb cf.b cf.s cf.l) ∈ F) (hc : cf.Ok) (hk : ChEnds d cf k0 p) (hN : (chainG d cf k0 p).1.length ≤ N) :
  SeqW Fence.wide n Tryz.prog 179 #[.pointer (some ⟨b1, 0, none⟩)] Fnd.enc (ChPre C pd.D gb d cf p k0 L G F) (ChFin C pd.D gb d cf p k0 L G F) (ChFix C pd.D gb d cf p k0 L G F) N w0 W ⟨(C, CB pd.D gb p e er) :: L, G, F⟩ := by
 intro l J c0 hJc hY hJ0 hA
 have HJC := Lib.hid hJc
 have HYY := Lib.hid hY
 clear hJc hY
 have h1 : 1 ≤ n := by omega
 have hA' : Wc w0 W ((C, CB pd.D gb p e er) :: (L ++ c0.L)) (G ++ c0.G) (F ++ c0.F) := hA
 have HB1 := Lib.hid hb1
 have HDK := Lib.hid hd
 have HG := Lib.hid hg
 have HC := Lib.hid hc
 have HKE := Lib.hid hk
 have HN := Lib.hid hN
 have HW1 := Lib.hid ((Wk.start hA').newB #[.func (.yield l) #[] #[]] 221 (b := W.heap.size) rfl)
 have hws := hA'.only.size
 clear hA hA' hd hg hb1 hk hN hc
 refine callsIn_of_wp_post Tryz.func179 rfl ?_
 simp only [Tryz.ntmps179, List.size_toArray, List.length_cons, List.length_nil, Nat.reduceAdd, Nat.reduceSub, Array.replicate_succ, Array.replicate_zero, List.push_toArray, List.append_toArray, List.nil_append, List.cons_append]
 have c1 : (W.alloc (.cells #[.func (.yield l) #[] #[]] 221)).cell? ⟨b1, 0, none⟩ = some (.pointer (some ⟨C, 0, none⟩)) := own1 (HW1.out.own _ (List.mem_cons_of_mem _ (List.mem_cons_of_mem _ (List.mem_append_left _ HB1.out))))
 gi_upto_region 2 with (fail)
 generalize hz1 : W.alloc (.cells #[.func (.yield l) #[] #[]] 221) = w1 at *
 obtain ⟨f2, hf2⟩ : ∃ k, k = W.heap.size := ⟨_, rfl⟩
 have hf2' : W.heap.size ≤ f2 := by omega
 rw [← hf2] at HW1 ⊢
 clear hz1 hf2 c1
 have HY := Lib.hid HW1.out.drew
 clear HW1
 refine wpIn_wide.2 (wp_region_held_drew (S := (fun w' => w'.cell? ⟨b1, 0, none⟩ = some (.pointer (some ⟨C, 0, none⟩)) ∧ w'.cell? ⟨C, 2, none⟩ = some (.int .i64 p.s) ∧ w'.cell? ⟨C, 3, none⟩ = some (.int .i64 p.o) ∧ w'.cell? ⟨C, 4, none⟩ = some (.int .i64 p.l) ∧ w'.cell? ⟨C, 5, none⟩ = some (.int .i64 p.p) ∧ w'.cell? ⟨C, 6, none⟩ = some (.int .i64 p.m))) (by kernel_rfl) ⟨own1 (HY.out.own _ (List.mem_cons_of_mem _ (List.mem_cons_of_mem _ (List.mem_append_left _ HB1.out)))), (HY.out.boxi 1 rfl).cellv 2, (HY.out.boxi 1 rfl).cellv 3, (HY.out.boxi 1 rfl).cellv 4, (HY.out.boxi 1 rfl).cellv 5, (HY.out.boxi 1 rfl).cellv 6⟩ (fun hSw0 => ?_))
 generalize w1.drew = wz at *
 refine Kn.takeS 0 ⟨some 9, _, _, _, _, _⟩ (hQ := fun _ _ _ h => h.elim) (v := (.pointer (some ⟨C, 0, none⟩))) (hy := fun w hSw => by
  obtain ⟨q0, q1, q2, q3, q4, q5⟩ := hSw
  go_simp) ?_
 refine Kn.takeS 1 ⟨some 10, _, _, _, _, _⟩ (hQ := fun _ _ _ h => h.elim) (v := (.pointer (some ⟨C, 0, none⟩))) (hy := fun w hSw => by
  obtain ⟨q0, q1, q2, q3, q4, q5⟩ := hSw
  go_simp) ?_
 refine Kn.takeS 2 ⟨some 11, _, _, _, _, _⟩ (hQ := fun _ _ _ h => h.elim) (v := (.pointer (some ⟨C, 0, none⟩))) (hy := fun w hSw => by
  obtain ⟨q0, q1, q2, q3, q4, q5⟩ := hSw
  go_simp) ?_
 refine Kn.takeS 3 ⟨some 12, _, _, _, _, _⟩ (hQ := fun _ _ _ h => h.elim) ?_
 refine Kn.takeS 4 ⟨some 13, _, _, _, _, _⟩ (hQ := fun _ _ _ h => h.elim) ?_
 refine Kn.takeS 5 ⟨some 14, _, _, _, _, _⟩ (hQ := fun _ _ _ h => h.elim) (v := (.agg #[.int .i64 p.s, .int .i64 p.o, .int .i64 p.l, .int .i64 p.p, .int .i64 p.m])) (hy := fun w hSw => by
  obtain ⟨q0, q1, q2, q3, q4, q5⟩ := hSw
  go_simp) ?_
 refine Kn.takeS 6 ⟨some 15, _, _, _, _, _⟩ (hQ := fun _ _ _ h => h.elim) ?_
 refine Kn.takeS 7 ⟨some 16, _, _, _, _, _⟩ (hQ := fun _ _ _ h => h.elim) ?_
 refine Kn.takeR 8 ⟨none, _, _, _, _, _⟩ fun K hK => ?_
 have bC := HY.out.boxi 1 rfl
 have c7 := bC.cellv 7
 have c8 := bC.cellv 8
 have c9 := bC.cellv 9
 have c10 := bC.cellv 10
 have c11 := bC.cellv 11
 have z7 := bC.frozen 7
 have z8 := bC.frozen 8
 have z9 := bC.frozen 9
 have z10 := bC.frozen 10
 have z11 := bC.frozen 11
 have lC := bC.lt
 go_simp
 have HY1 : Hid (Wk w0 W _ ((f2, [.func (.yield l) #[] #[]]) :: (C, CB pd.D gb p p er) :: (L ++ c0.L)) (G ++ c0.G) (F ++ c0.F)) := Lib.hid (((((HY.out.put 1 rfl 7 (.int .i64 p.s)).put 1 rfl 8 (.int .i64 p.o)).put 1 rfl 9 (.int .i64 p.l)).put 1 rfl 10 (.int .i64 p.p)).put 1 rfl 11 (.int .i64 p.m))
 clear c7 z7 c8 z8 c9 z9 c10 z10 c11 z11 bC lC HY
 obtain ⟨wy, hgn⟩ : ∃ x, x = (World.setCell (World.setCell (World.setCell (World.setCell (World.setCell wz ⟨C, 7, none⟩ (.int .i64 p.s)) ⟨C, 8, none⟩ (.int .i64 p.o)) ⟨C, 9, none⟩ (.int .i64 p.l)) ⟨C, 10, none⟩ (.int .i64 p.p)) ⟨C, 11, none⟩ (.int .i64 p.m)) := ⟨_, rfl⟩
 rw [← hgn] at HY1 ⊢
 clear hgn
 refine hK.out _ _ ⟨own1 (HY1.out.own _ (List.mem_cons_of_mem _ (List.mem_cons_of_mem _ (List.mem_append_left _ HB1.out)))), (HY1.out.boxi 1 rfl).cellv 2, (HY1.out.boxi 1 rfl).cellv 3, (HY1.out.boxi 1 rfl).cellv 4, (HY1.out.boxi 1 rfl).cellv 5, (HY1.out.boxi 1 rfl).cellv 6⟩ (fun hSn => ?_)
 clear hK K hSw0
 have hSw0 := hSn
 clear hSn
 refine Kn.takeS 9 ⟨some 17, _, _, _, _, _⟩ (hQ := fun _ _ _ h => h.elim) ?_
 refine Kn.takeS 10 ⟨some 18, _, _, _, _, _⟩ (hQ := fun _ _ _ h => h.elim) ?_
 refine Kn.takeR 11 ⟨none, _, _, _, _, _⟩ fun K hK => ?_
 have bC := HY1.out.boxi 1 rfl
 have c12 := bC.cellv 12
 have z12 := bC.frozen 12
 have lC := bC.lt
 go_simp
 have HY2 : Hid (Wk w0 W _ ((f2, [.func (.yield l) #[] #[]]) :: (C, CB pd.D gb p p 0) :: (L ++ c0.L)) (G ++ c0.G) (F ++ c0.F)) := Lib.hid (HY1.out.put 1 rfl 12 (.int .i64 0))
 clear c12 z12 bC lC HY1
 obtain ⟨wx, hgn⟩ : ∃ x, x = (World.setCell wy ⟨C, 12, none⟩ (.int .i64 0)) := ⟨_, rfl⟩
 rw [← hgn] at HY2 ⊢
 clear hgn
 refine hK.out _ _ ⟨own1 (HY2.out.own _ (List.mem_cons_of_mem _ (List.mem_cons_of_mem _ (List.mem_append_left _ HB1.out)))), (HY2.out.boxi 1 rfl).cellv 2, (HY2.out.boxi 1 rfl).cellv 3, (HY2.out.boxi 1 rfl).cellv 4, (HY2.out.boxi 1 rfl).cellv 5, (HY2.out.boxi 1 rfl).cellv 6⟩ (fun hSn => ?_)
 clear hK K hSw0
 have hSw0 := hSn
 clear hSn
 refine wpAnyH_done (by kernel_rfl) ?_ _
 clear hSw0
 have HY3 := Lib.hid (HY2.out.newB #[.bool true] 4 (b := wx.heap.size) rfl)
 gi_wp2_with fail
 generalize hz3 : wx.alloc (.cells #[.bool true] 4) = w3 at *
 generalize wx.heap.size = f3 at *
 clear hz3 HY2
 have HS0 : Hid (Wk w0 W w3 ((C, CB pd.D gb p p 0) :: (f3, [.bool true]) :: (f2, [.func (.yield l) #[] #[]]) :: (L ++ c0.L)) (G ++ c0.G) ([] ++ (F ++ c0.F))) := Lib.hid (HY3.out.perm (perm_any (fun c => by simp only [List.map_cons, List.map_append, List.sum_cons, List.sum_append, List.cons_append, List.map_nil, List.sum_nil] <;> omega)) (List.Perm.refl _))
 clear HY3
 have hJ3 : J none [] c0 w3 := HJC.out _ _ _ _ _ hJ0 HS0.out.kb
 refine wpIn_loop_ghost_k (fun (k : Nat) (a : Act) (wr : World) => ∃ (us : List Value) (f3 : Nat) (ds : List Deferred), us.length = 62 ∧ a = { tmps := (.func (.yield l) #[] #[] :: .pointer (some ⟨b1, 0, none⟩) :: .pointer (some ⟨f2, 0, none⟩) :: .pointer (some ⟨f3, 0, none⟩) :: us).toArray, defers := ds } ∧ (∃ (told : List Fnd) (c : Fr3) (fs : List (World → Prop)) (more : Bool) (q : Ps) (er : Int) (Ds : List Nat), ds = Ds.map mkD ∧ W.heap.size ≤ wr.heap.size ∧ Wc w0 wr ((C, CB pd.D gb p q er) :: (f3, [.bool more]) :: (f2, [.func (.yield l) #[] #[]]) :: (L ++ c.L)) (G ++ c.G) (fs ++ (F ++ c.F)) ∧ (∀ y ∈ told, y.fct ∈ fs) ∧ J none told c wr ∧ Marks W.heap.size Ds wr ∧
   ((more = true ∧ er = 0 ∧ ChEnds d cf k q ∧ chainG d cf k0 p = (told.map Fnd.pr ++ (chainG d cf k q).1, (chainG d cf k q).2)) ∨ (more = false ∧ chainG d cf k0 p = (told.map Fnd.pr, q, er))))) k0 ?start ?round
 case start =>
  refine ⟨_, f3, [], ?_, rfl, ⟨[], c0, [], true, p, 0, [], rfl, HS0.out.hs, HS0.out.toWc, by simp, hJ3, ⟨by simp, List.nodup_nil⟩, .inl ⟨rfl, rfl, HKE.out, by simp⟩⟩⟩
  rfl
 case round =>
  clear HS0 hJ3 hJ0
  rintro gk a wr ⟨us, f3, ds, hus, rfl, ⟨told, c, fs, more, q, er, Ds, rfl, hsz, hw, hfs, hJt, hmk, hst⟩⟩
  intro _ _ _ _
  revert us
  refine all62 ?_
  intro u4 u5 u6 u7 u8 u9 u10 u11 u12 u13 u14 u15 u16 u17 u18 u19 u20 u21 u22 u23 u24 u25 u26 u27 u28 u29 u30 u31 u32 u33 u34 u35 u36 u37 u38 u39 u40 u41 u42 u43 u44 u45 u46 u47 u48 u49 u50 u51 u52 u53 u54 u55 u56 u57 u58 u59 u60 u61 u62 u63 u64 u65
  rcases hst with ⟨rfl, rfl, hke, hsc⟩ | ⟨rfl, hsc⟩
  ·as_aux_lemma =>
    obtain ⟨k, rfl⟩ : ∃ k, gk = k + 1 := by
     cases gk with
     | zero => exact hke.elim
     | succ k => exact ⟨k, rfl⟩
    have HW := Lib.hid (Wk.start hw)
    have HKQ := Lib.hid hke
    have HSC := Lib.hid hsc
    have HFS := Lib.hid hfs
    have HMK := Lib.hid hmk
    have HJT := Lib.hid hJt
    clear hw hke hsc hfs hmk hJt
    have c3 := own1 (HW.out.boxi 1 rfl)
    gi_upto_region 5 with (fail)
    clear c3
    gi_cut [4] from 7 (fun s4 wy => ∃ f4 S : Nat, s4 = .pointer (some ⟨f4, 0, none⟩) ∧ Wk w0 wr wy ((f4, [.pointer (some ⟨S, 0, none⟩)]) :: (S, SB pd.D gb q false q 0) :: (C, CB pd.D gb p q 0) :: (f3, [.bool true]) :: (f2, [.func (.yield l) #[] #[]]) :: (L ++ c.L)) (G ++ c.G) (fs ++ (F ++ c.F)))
    case first =>
     as_aux_lemma =>
      have HY := Lib.hid HW.out.drew
      clear HW
      refine wpIn_wide.2 (wp_region_held_drew (S := (fun w' => w'.cell? ⟨b1, 0, none⟩ = some (.pointer (some ⟨C, 0, none⟩)) ∧ w'.cell? ⟨C, 0, none⟩ = some (.pointer (some ⟨pd.D, 0, none⟩)) ∧ w'.cell? ⟨C, 1, none⟩ = some (.pointer (some ⟨gb, 0, none⟩)) ∧ w'.cell? ⟨C, 7, none⟩ = some (.int .i64 q.s) ∧ w'.cell? ⟨C, 8, none⟩ = some (.int .i64 q.o) ∧ w'.cell? ⟨C, 9, none⟩ = some (.int .i64 q.l) ∧ w'.cell? ⟨C, 10, none⟩ = some (.int .i64 q.p) ∧ w'.cell? ⟨C, 11, none⟩ = some (.int .i64 q.m))) (by kernel_rfl) ⟨own1 (HY.out.own _ (List.mem_cons_of_mem _ (List.mem_cons_of_mem _ (List.mem_cons_of_mem _ (List.mem_append_left _ HB1.out))))), (HY.out.boxi 0 rfl).cellv 0, (HY.out.boxi 0 rfl).cellv 1, (HY.out.boxi 0 rfl).cellv 7, (HY.out.boxi 0 rfl).cellv 8, (HY.out.boxi 0 rfl).cellv 9, (HY.out.boxi 0 rfl).cellv 10, (HY.out.boxi 0 rfl).cellv 11⟩ (fun hSw0 => ?_))
      generalize wr.drew = wz at *
      refine Kn.takeS 0 ⟨some 20, _, _, _, _, _⟩ (hQ := fun _ _ _ h => h.elim) (v := (.pointer (some ⟨C, 0, none⟩))) (hy := fun w hSw => by
       obtain ⟨q0, q1, q2, q3, q4, q5, q6, q7⟩ := hSw
       go_simp) ?_
      refine Kn.takeS 1 ⟨some 21, _, _, _, _, _⟩ (hQ := fun _ _ _ h => h.elim) ?_
      refine Kn.takeS 2 ⟨some 22, _, _, _, _, _⟩ (hQ := fun _ _ _ h => h.elim) ?_
      refine Kn.takeS 3 ⟨some 23, _, _, _, _, _⟩ (hQ := fun _ _ _ h => h.elim) (v := (.pointer (some ⟨pd.D, 0, none⟩))) (hy := fun w hSw => by
       obtain ⟨q0, q1, q2, q3, q4, q5, q6, q7⟩ := hSw
       go_simp) ?_
      refine Kn.takeS 4 ⟨some 24, _, _, _, _, _⟩ (hQ := fun _ _ _ h => h.elim) (v := (.pointer (some ⟨C, 0, none⟩))) (hy := fun w hSw => by
       obtain ⟨q0, q1, q2, q3, q4, q5, q6, q7⟩ := hSw
       go_simp) ?_
      refine Kn.takeS 5 ⟨some 25, _, _, _, _, _⟩ (hQ := fun _ _ _ h => h.elim) ?_
      refine Kn.takeS 6 ⟨some 26, _, _, _, _, _⟩ (hQ := fun _ _ _ h => h.elim) ?_
      refine Kn.takeS 7 ⟨some 27, _, _, _, _, _⟩ (hQ := fun _ _ _ h => h.elim) (v := (.pointer (some ⟨gb, 0, none⟩))) (hy := fun w hSw => by
       obtain ⟨q0, q1, q2, q3, q4, q5, q6, q7⟩ := hSw
       go_simp) ?_
      refine Kn.takeS 8 ⟨some 28, _, _, _, _, _⟩ (hQ := fun _ _ _ h => h.elim) (v := (.pointer (some ⟨C, 0, none⟩))) (hy := fun w hSw => by
       obtain ⟨q0, q1, q2, q3, q4, q5, q6, q7⟩ := hSw
       go_simp) ?_
      refine Kn.takeS 9 ⟨some 29, _, _, _, _, _⟩ (hQ := fun _ _ _ h => h.elim) ?_
      refine Kn.takeS 10 ⟨some 30, _, _, _, _, _⟩ (hQ := fun _ _ _ h => h.elim) ?_
      refine Kn.takeS 11 ⟨some 31, _, _, _, _, _⟩ (hQ := fun _ _ _ h => h.elim) (v := (.agg #[.int .i64 q.s, .int .i64 q.o, .int .i64 q.l, .int .i64 q.p, .int .i64 q.m])) (hy := fun w hSw => by
       obtain ⟨q0, q1, q2, q3, q4, q5, q6, q7⟩ := hSw
       go_simp) ?_
      refine wpAnyH_ready (rs := [12, 13]) (by kernel_rfl) (by simp) ?_
      refine AllReadyH.cons (o := ⟨some 32, _, _, _, _, _⟩) rfl (fun K hK => ?_) ?_
      ·go_simp
       refine (scan_new_any w0 _ pd.D gb q _ _ _ HY.out).mono ?_
       rintro en wv ⟨S, rfl, hw9⟩
       have HYc := Lib.hid hw9
       clear hw9 HY
       refine hK.out _ _ ⟨own1 (HYc.out.own _ (List.mem_cons_of_mem _ (List.mem_cons_of_mem _ (List.mem_cons_of_mem _ (List.mem_cons_of_mem _ (List.mem_append_left _ HB1.out)))))), (HYc.out.boxi 1 rfl).cellv 0, (HYc.out.boxi 1 rfl).cellv 1, (HYc.out.boxi 1 rfl).cellv 7, (HYc.out.boxi 1 rfl).cellv 8, (HYc.out.boxi 1 rfl).cellv 9, (HYc.out.boxi 1 rfl).cellv 10, (HYc.out.boxi 1 rfl).cellv 11⟩ (fun hSn => ?_)
       clear hK K hSw0
       have hSw0 := hSn
       clear hSn
       refine Kn.takeR 13 ⟨some 4, _, _, _, _, _⟩ fun K hK => ?_
       go_simp
       have HYca := Lib.hid (HYc.out.newB #[.pointer none] 40 (b := wv.heap.size) rfl)
       clear HYc
       generalize hvb : wv.alloc (.cells #[.pointer none] 40) = wa at *
       generalize wv.heap.size = f4 at *
       clear hvb
       refine hK.out _ _ ⟨own1 (HYca.out.own _ (List.mem_cons_of_mem _ (List.mem_cons_of_mem _ (List.mem_cons_of_mem _ (List.mem_cons_of_mem _ (List.mem_cons_of_mem _ (List.mem_append_left _ HB1.out))))))), (HYca.out.boxi 2 rfl).cellv 0, (HYca.out.boxi 2 rfl).cellv 1, (HYca.out.boxi 2 rfl).cellv 7, (HYca.out.boxi 2 rfl).cellv 8, (HYca.out.boxi 2 rfl).cellv 9, (HYca.out.boxi 2 rfl).cellv 10, (HYca.out.boxi 2 rfl).cellv 11⟩ (fun hSn => ?_)
       clear hK K hSw0
       have hSw0 := hSn
       clear hSn
       refine Kn.takeR 14 ⟨none, _, _, _, _, _⟩ fun K hK => ?_
       have b4 := HYca.out.boxi 0 rfl
       have c4 := own1 b4
       have z4 := b4.frozen 0
       have l4 := b4.lt
       go_simp
       have HYcas := Lib.hid (HYca.out.put 0 rfl 0 (.pointer (some ⟨S, 0, none⟩)))
       simp only [List.set_cons_zero, List.set_cons_succ] at HYcas
       clear b4 c4 z4 l4 HYca
       generalize World.setCell wa ⟨f4, 0, none⟩ (.pointer (some ⟨S, 0, none⟩)) = ws at *
       refine hK.out _ _ ⟨own1 (HYcas.out.own _ (List.mem_cons_of_mem _ (List.mem_cons_of_mem _ (List.mem_cons_of_mem _ (List.mem_cons_of_mem _ (List.mem_cons_of_mem _ (List.mem_append_left _ HB1.out))))))), (HYcas.out.boxi 2 rfl).cellv 0, (HYcas.out.boxi 2 rfl).cellv 1, (HYcas.out.boxi 2 rfl).cellv 7, (HYcas.out.boxi 2 rfl).cellv 8, (HYcas.out.boxi 2 rfl).cellv 9, (HYcas.out.boxi 2 rfl).cellv 10, (HYcas.out.boxi 2 rfl).cellv 11⟩ (fun hSn => ?_)
       clear hK K hSw0
       have hSw0 := hSn
       clear hSn
       refine wpAnyH_done (by kernel_rfl) ?_ _
       clear hSw0
       gi_wp2
       gi_meet
       case rel => exact ⟨f4, S, rfl, HYcas.out.perm (perm_any (fun c => by simp only [List.map_cons, List.map_append, List.sum_cons, List.sum_append, List.cons_append, List.map_nil, List.sum_nil] <;> omega)) (List.Perm.refl _)⟩
      refine AllReadyH.cons (o := ⟨some 4, _, _, _, _, _⟩) rfl (fun K hK => ?_) ?_
      ·go_simp
       have HYa := Lib.hid (HY.out.newB #[.pointer none] 40 (b := wz.heap.size) rfl)
       clear HY
       generalize hvb : wz.alloc (.cells #[.pointer none] 40) = wa at *
       generalize wz.heap.size = f4 at *
       clear hvb
       refine hK.out _ _ ⟨own1 (HYa.out.own _ (List.mem_cons_of_mem _ (List.mem_cons_of_mem _ (List.mem_cons_of_mem _ (List.mem_cons_of_mem _ (List.mem_append_left _ HB1.out)))))), (HYa.out.boxi 1 rfl).cellv 0, (HYa.out.boxi 1 rfl).cellv 1, (HYa.out.boxi 1 rfl).cellv 7, (HYa.out.boxi 1 rfl).cellv 8, (HYa.out.boxi 1 rfl).cellv 9, (HYa.out.boxi 1 rfl).cellv 10, (HYa.out.boxi 1 rfl).cellv 11⟩ (fun hSn => ?_)
       clear hK K hSw0
       have hSw0 := hSn
       clear hSn
       refine Kn.takeR 12 ⟨some 32, _, _, _, _, _⟩ fun K hK => ?_
       go_simp
       refine (scan_new_any w0 _ pd.D gb q _ _ _ HYa.out).mono ?_
       rintro en wv ⟨S, rfl, hw9⟩
       have HYac := Lib.hid hw9
       clear hw9 HYa
       refine hK.out _ _ ⟨own1 (HYac.out.own _ (List.mem_cons_of_mem _ (List.mem_cons_of_mem _ (List.mem_cons_of_mem _ (List.mem_cons_of_mem _ (List.mem_cons_of_mem _ (List.mem_append_left _ HB1.out))))))), (HYac.out.boxi 2 rfl).cellv 0, (HYac.out.boxi 2 rfl).cellv 1, (HYac.out.boxi 2 rfl).cellv 7, (HYac.out.boxi 2 rfl).cellv 8, (HYac.out.boxi 2 rfl).cellv 9, (HYac.out.boxi 2 rfl).cellv 10, (HYac.out.boxi 2 rfl).cellv 11⟩ (fun hSn => ?_)
       clear hK K hSw0
       have hSw0 := hSn
       clear hSn
       refine Kn.takeR 14 ⟨none, _, _, _, _, _⟩ fun K hK => ?_
       have b4 := HYac.out.boxi 1 rfl
       have c4 := own1 b4
       have z4 := b4.frozen 0
       have l4 := b4.lt
       go_simp
       have HYacs := Lib.hid (HYac.out.put 1 rfl 0 (.pointer (some ⟨S, 0, none⟩)))
       simp only [List.set_cons_zero, List.set_cons_succ] at HYacs
       clear b4 c4 z4 l4 HYac
       generalize World.setCell wv ⟨f4, 0, none⟩ (.pointer (some ⟨S, 0, none⟩)) = ws at *
       refine hK.out _ _ ⟨own1 (HYacs.out.own _ (List.mem_cons_of_mem _ (List.mem_cons_of_mem _ (List.mem_cons_of_mem _ (List.mem_cons_of_mem _ (List.mem_cons_of_mem _ (List.mem_append_left _ HB1.out))))))), (HYacs.out.boxi 2 rfl).cellv 0, (HYacs.out.boxi 2 rfl).cellv 1, (HYacs.out.boxi 2 rfl).cellv 7, (HYacs.out.boxi 2 rfl).cellv 8, (HYacs.out.boxi 2 rfl).cellv 9, (HYacs.out.boxi 2 rfl).cellv 10, (HYacs.out.boxi 2 rfl).cellv 11⟩ (fun hSn => ?_)
       clear hK K hSw0
       have hSw0 := hSn
       clear hSn
       refine wpAnyH_done (by kernel_rfl) ?_ _
       clear hSw0
       gi_wp2
       gi_meet
       case rel => exact ⟨f4, S, rfl, HYacs.out.perm (perm_any (fun c => by simp only [List.map_cons, List.map_append, List.sum_cons, List.sum_append, List.cons_append, List.map_nil, List.sum_nil] <;> omega)) (List.Perm.refl _)⟩
      exact AllReadyH.nil
    case rest =>
     clear HW
     obtain ⟨f4, S, rfl, hw4⟩ := hcut
     have HW4 := Lib.hid hw4
     clear hw4
     have b3 := HW4.out.boxi 3 rfl
     have c3 := own1 b3
     have z3 := b3.frozen 0
     have l3 := b3.lt
     clear b3
     gi_upto_region 7 with (fail)
     have HW5 : Hid (Wk w0 wr _ ((f4, [.pointer (some ⟨S, 0, none⟩)]) :: (S, SB pd.D gb q false q 0) :: (C, CB pd.D gb p q 0) :: (f3, [.bool false]) :: (f2, [.func (.yield l) #[] #[]]) :: (L ++ c.L)) (G ++ c.G) (fs ++ (F ++ c.F))) := Lib.hid (HW4.out.put 3 rfl 0 (.bool false))
     generalize World.setCell wc ⟨f3, 0, none⟩ (.bool false) = w5 at *
     clear c3 z3 l3 HW4
     have c4 := own1 (HW5.out.boxi 0 rfl)
     gi_wp2_with fail
     refine ⟨trivial, callsIn_wide.2 ((places_any _ _).mono ?_)⟩
     rintro en w6 ⟨rfl, rfl⟩
     have HW6 := Lib.hid (HW5.out.newB #[.pointer (some ⟨S, 0, none⟩)] 40 (b := w5.heap.size) rfl)
     clear HW5 c4
     generalize hz6 : w5.alloc (.cells #[.pointer (some ⟨S, 0, none⟩)] 40) = w6 at *
     generalize w5.heap.size = f7 at *
     clear hz6
     have hsz6 : W.heap.size ≤ w6.heap.size := Nat.le_trans hsz HW6.out.hs
     have hmk6 : Marks W.heap.size Ds w6 := HMK.out.kb HW6.out.kb HMK.out.lt
     have hJ6 : J none told c w6 := HJC.out _ _ _ _ _ HJT.out (HW6.out.kb.mono hsz)
     have hdl : ∀ E ∈ Ds, E < w6.heap.size := hmk6.lt
     have HMK6 := Lib.hid hmk6
     have HJ6 := Lib.hid hJ6
     have HDL := Lib.hid hdl
     clear hmk6 hJ6 hdl HMK HJT
     gi_wp2_with fail
     have H0 : At3 w0 w6 ⟨(S, SB pd.D gb q false q 0) :: ((f7, [.pointer (some ⟨S, 0, none⟩)]) :: L), G, fs ++ F⟩ (ChC C pd.D gb p q f2 f3 f4 S l false c) := at3_mk (HW6.out.toWc.perm (L' := ((S, SB pd.D gb q false q 0) :: ((f7, [.pointer (some ⟨S, 0, none⟩)]) :: L)) ++ ((f4, [.pointer (some ⟨S, 0, none⟩)]) :: (C, CB pd.D gb p q 0) :: (f3, [.bool false]) :: (f2, [.func (.yield l) #[] #[]]) :: c.L)) (perm_any (fun c => by simp only [List.map_cons, List.map_append, List.sum_cons, List.sum_append, List.cons_append, List.map_nil, List.sum_nil] <;> omega)) (List.Perm.refl _))
     have H00 := Lib.hid H0
     clear H0 HW6
     refine wpIn_rangeFunc_W rfl h1 (gf := 151) (lb := #[.pointer (some ⟨f7, 0, none⟩)]) rfl trivial (enters_of Tryz.func151 (by kernel_rfl) rfl) (c0 := (ChC C pd.D gb p q f2 f3 f4 S l false c))
      (fun W1 _ => places1_seq w0 W1 S f7 gb pd d cf q false q 0 ((f7, [.pointer (some ⟨S, 0, none⟩)]) :: L) G (fs ++ F) (n - 1) (by omega) (HDK.out.mono (fun x hx => List.mem_cons_of_mem _ hx)) List.mem_cons_self (List.mem_append_right _ HG.out) HC.out) (fun _ => rfl)
      (ChJ J C pd.D gb d cf p f2 f3 f4 S l told W.heap.size Ds)
      (fun pre x a cc V => ∃ (co : Fr3) (e : Ps) (more : Bool) (bP bR : Nat), cc = ⟨(bR, (x.r.cells x.s x.t).toList) :: (bP, [.int .i64 x.p.s, .int .i64 x.p.o, .int .i64 x.p.l, .int .i64 x.p.p, .int .i64 x.p.m]) :: (ChC C pd.D gb p e f2 f3 f4 S l more co).L, co.G, co.F⟩ ∧ a = { tmps := #[.func (.yield l) #[] #[], .pointer (some ⟨b1, 0, none⟩), .pointer (some ⟨f2, 0, none⟩), .pointer (some ⟨f3, 0, none⟩), .pointer (some ⟨f4, 0, none⟩), .pointer (some ⟨bP, 0, none⟩), .pointer (some ⟨bR, 0, none⟩), u7, u8, u9, u10, u11, u12, u13, u14, u15, u16, u17, u18, u19, u20, u21, u22, u23, u24, u25, u26, u27, u28, u29, u30, u31, u32, .pointer (some ⟨S, 0, none⟩), .func (.func 151) #[] #[.pointer (some ⟨f7, 0, none⟩)], .agg #[.int .i64 x.p.s, .int .i64 x.p.o, .int .i64 x.p.l, .int .i64 x.p.p, .int .i64 x.p.m], .agg (x.r.cells x.s x.t), u37, u38, u39, u40, u41, u42, u43, u44, u45, u46, u47, u48, u49, u50, u51, u52, u53, u54, u55, u56, u57, u58, u59, u60, u61, u62, u63, u64, u65], defers := [] } ∧ J none (told ++ pre) co V ∧ Marks W.heap.size Ds V ∧ OnSt d cf pre e more)
      ?hJ ?hJm ⟨c, q, false, rfl, by rw [List.append_nil]; exact HJ6.out, HMK6.out, .inl ⟨rfl, rfl⟩⟩ H00.out ?assign ?body ?done ?stop
     case hJ =>
      clear H00 HJ6 HMK6
      rintro (_ | cd) xs cc X Y h hb
      ·obtain ⟨co, e, more, hcc, hj, hm, ho⟩ := h
       exact ⟨co, e, more, hcc, HJC.out _ _ _ _ _ hj (hb.mono hsz6), hm.kb hb HDL.out, ho⟩
      ·obtain ⟨co, e, more, cd2, hcc, hcd, hj, hm, ho⟩ := h
       exact ⟨co, e, more, cd2, hcc, hcd, HJC.out _ _ _ _ _ hj (hb.mono hsz6), hm.kb hb HDL.out, ho⟩
     case hJm =>
      clear H00 HJ6 HMK6
      rintro pre x a cc X Y ⟨co, e, more, bP, bR, hcc, ha, hj, hm, ho⟩ hb
      exact ⟨co, e, more, bP, bR, hcc, ha, HJC.out _ _ _ _ _ hj (hb.mono hsz6), hm.kb hb HDL.out, ho⟩
     case assign =>
      as_aux_lemma =>
       clear H00 HJ6 HMK6
       rintro lr pre x φ cc W1 K hpre ⟨co, e, more, rfl, hj, hm, ho⟩ hat hsz1 hlen hK
       have HAT := Lib.hid hat
       have HPRE := Lib.hid hpre
       clear hat hpre
       simp only [Fnd.enc, Rc.cells, slv]
       gi_wp2
       refine hK _ ⟨(W1.heap.size + 1, (x.r.cells x.s x.t).toList) :: (W1.heap.size, [.int .i64 x.p.s, .int .i64 x.p.o, .int .i64 x.p.l, .int .i64 x.p.p, .int .i64 x.p.m]) :: (ChC C pd.D gb p e f2 f3 f4 S l more co).L, co.G, co.F⟩ _ (kf_of_only (S := []) (((Only.refl _ _).alloc _).alloc _) (by simp)) (HAT.out.new2 _ _ _ _) ⟨co, e, more, _, _, rfl, rfl, HJC.out _ _ _ _ _ hj (Kb.of_only (S := []) (((Only.refl _ _).alloc _).alloc _) (by simp)), hm.kb (C := W1.heap.size) (Kb.of_only (S := []) (((Only.refl _ _).alloc _).alloc _) (by simp)) hm.lt, ho⟩
     case body =>
      as_aux_lemma =>
       rintro lr pre x φ cc a' W1 ⟨b3, qx, fs', rfl, hfs', hpx, hfo⟩ ⟨co, e, more, bP, bR, rfl, rfl, hj, hm, ho⟩ hat hsz1 hlen
       have hat1 : Wc w0 W1 (((S, SB pd.D gb q false qx 0) :: (b3, [.int .i64 x.p.s, .int .i64 x.p.o, .int .i64 x.p.l, .int .i64 x.p.p, .int .i64 x.p.m]) :: (f7, [.pointer (some ⟨S, 0, none⟩)]) :: L) ++ ((bR, [.int .i64 x.r.m, .int .i64 x.r.n, .int .i64 x.r.p, .slice x.s.1 x.s.2.1 x.s.2.2, .slice x.t.1 x.t.2.1 x.t.2.2]) :: (bP, [.int .i64 x.p.s, .int .i64 x.p.o, .int .i64 x.p.l, .int .i64 x.p.p, .int .i64 x.p.m]) :: (f4, [.pointer (some ⟨S, 0, none⟩)]) :: (C, CB pd.D gb p e 0) :: (f3, [.bool more]) :: (f2, [.func (.yield l) #[] #[]]) :: co.L)) (G ++ co.G) ((fs' ++ (fs ++ F)) ++ co.F) := hat
       have HF := Lib.hid ((Wk.start hat1).perm (L' := (S, SB pd.D gb q false qx 0) :: (C, CB pd.D gb p e 0) :: (f3, [.bool more]) :: (f4, [.pointer (some ⟨S, 0, none⟩)]) :: (bR, [.int .i64 x.r.m, .int .i64 x.r.n, .int .i64 x.r.p, .slice x.s.1 x.s.2.1 x.s.2.2, .slice x.t.1 x.t.2.1 x.t.2.2]) :: (bP, [.int .i64 x.p.s, .int .i64 x.p.o, .int .i64 x.p.l, .int .i64 x.p.p, .int .i64 x.p.m]) :: (f2, [.func (.yield l) #[] #[]]) :: (b3, [.int .i64 x.p.s, .int .i64 x.p.o, .int .i64 x.p.l, .int .i64 x.p.p, .int .i64 x.p.m]) :: (f7, [.pointer (some ⟨S, 0, none⟩)]) :: (L ++ co.L)) (perm_any (fun c => by simp only [List.map_cons, List.map_append, List.sum_cons, List.sum_append, List.cons_append, List.map_nil, List.sum_nil] <;> omega)) (List.Perm.refl _))
       obtain ⟨e2, m2, hon⟩ : ∃ a b, onP cf x.r qx = (a, b) := ⟨_, _, rfl⟩
       have HON := Lib.hid hon
       have HFS2 := Lib.hid hfs'
       have HPX := Lib.hid hpx
       have HFO := Lib.hid hfo
       have HJ := Lib.hid hj
       have HM := Lib.hid hm
       clear hat hat1 hon hfs' hpx hfo hj hm ho H00 HJ6 HMK6
       have HXF : Hid (x.fct ∈ (fs' ++ (fs ++ F)) ++ co.F) := Lib.hid (List.mem_append_left _ (List.mem_append_left _ (HFS2.out x (by simp))))
       simp only [Rc.cells, slv]
       refine wpIn_block ?_
       gi_upto_region 10 with (fail)
       have HY := Lib.hid HF.out.drew
       clear HF
       refine wpIn_region_held_drew (S := (fun w' => w'.cell? ⟨b1, 0, none⟩ = some (.pointer (some ⟨C, 0, none⟩)) ∧ w'.cell? ⟨f4, 0, none⟩ = some (.pointer (some ⟨S, 0, none⟩)) ∧ Kn.Own w' bR [.int .i64 x.r.m, .int .i64 x.r.n, .int .i64 x.r.p, .slice x.s.1 x.s.2.1 x.s.2.2, .slice x.t.1 x.t.2.1 x.t.2.2])) (not_letsOut_then not_letsOut_postW) (plainOps_spec (by kernel_rfl)) (by kernel_rfl) ⟨own1 (HY.out.own _ (List.mem_cons_of_mem _ (List.mem_cons_of_mem _ (List.mem_cons_of_mem _ (List.mem_cons_of_mem _ (List.mem_cons_of_mem _ (List.mem_cons_of_mem _ (List.mem_cons_of_mem _ (List.mem_cons_of_mem _ (List.mem_cons_of_mem _ (List.mem_append_left _ HB1.out))))))))))), own1 (HY.out.boxi 3 rfl), HY.out.boxi 4 rfl⟩ (fun hSw0 => ?_)
       generalize W1.drew = wz at *
       refine Kn.takeS 0 ⟨some 38, _, _, _, _, _⟩ (hQ := fun _ _ _ h => h.elim) (v := (.pointer (some ⟨C, 0, none⟩))) (hy := fun w hSw => by
        have q0 := hSw.1
        go_simp) ?_
       refine Kn.takeS 1 ⟨some 39, _, _, _, _, _⟩ (hQ := fun _ _ _ h => h.elim) (v := (.pointer (some ⟨C, 0, none⟩))) (hy := fun w hSw => by
        have q0 := hSw.1
        go_simp) ?_
       refine Kn.takeS 2 ⟨some 40, _, _, _, _, _⟩ (hQ := fun _ _ _ h => h.elim) (v := (.agg #[.int .i64 x.r.m, .int .i64 x.r.n, .int .i64 x.r.p, .slice x.s.1 x.s.2.1 x.s.2.2, .slice x.t.1 x.t.2.1 x.t.2.2])) (hy := fun w hSw => by
        obtain ⟨q0, q1, q2, q3, q4⟩ := own5 hSw.2.2
        go_simp) ?_
       refine Kn.takeS 3 ⟨some 41, _, _, _, _, _⟩ (hQ := fun _ _ _ h => h.elim) (v := (.pointer (some ⟨S, 0, none⟩))) (hy := fun w hSw => by
        have q0 := hSw.2.1
        go_simp) ?_
       refine Kn.takeR 4 ⟨some 42, _, _, _, _, _⟩ fun K hK => ?_
       go_simp
       refine (scan_end_any w0 _ S gb pd.D q false qx 0 _ _ _ HY.out).mono ?_
       rintro en v1 ⟨rfl, hO⟩
       have HE1 := Lib.hid (HY.out.keep0 hO)
       clear hO HY
       refine hK.out _ _ ⟨own1 (HE1.out.own _ (List.mem_cons_of_mem _ (List.mem_cons_of_mem _ (List.mem_cons_of_mem _ (List.mem_cons_of_mem _ (List.mem_cons_of_mem _ (List.mem_cons_of_mem _ (List.mem_cons_of_mem _ (List.mem_cons_of_mem _ (List.mem_cons_of_mem _ (List.mem_append_left _ HB1.out))))))))))), own1 (HE1.out.boxi 3 rfl), HE1.out.boxi 4 rfl⟩ (fun hSn => ?_)
       clear hK K hSw0
       have hSw0 := hSn
       clear hSn
       refine Kn.takeR 5 ⟨some 43, _, _, _, _, _⟩ fun K hK => ?_
       go_simp
       refine (chain_on_any w0 _ C pd.D gb cf p e 0 x.r x.s x.t qx _ _ _ HE1.out.toWc (by simp) HXF.out (List.mem_append_left _ (List.mem_append_right _ (List.mem_append_right _ HG.out))) HC.out (fun v hv => follow_next HFO.out hv)).mono ?_
       rintro en v2 ⟨rfl, hO⟩
       rw [HON.out]
       dsimp only
       have HE2 := Lib.hid (HE1.out.keep0 hO)
       clear hO HE1
       refine hK.out _ _ ⟨own1 (HE2.out.own _ (List.mem_cons_of_mem _ (List.mem_cons_of_mem _ (List.mem_cons_of_mem _ (List.mem_cons_of_mem _ (List.mem_cons_of_mem _ (List.mem_cons_of_mem _ (List.mem_cons_of_mem _ (List.mem_cons_of_mem _ (List.mem_cons_of_mem _ (List.mem_append_left _ HB1.out))))))))))), own1 (HE2.out.boxi 3 rfl), HE2.out.boxi 4 rfl⟩ (fun hSn => ?_)
       clear hK K hSw0
       have hSw0 := hSn
       clear hSn
       refine Kn.takeS 6 ⟨some 37, _, _, _, _, _⟩ (hQ := fun _ _ _ h => h.elim) ?_
       refine Kn.takeS 7 ⟨some 44, _, _, _, _, _⟩ (hQ := fun _ _ _ h => h.elim) ?_
       refine Kn.takeS 8 ⟨some 45, _, _, _, _, _⟩ (hQ := fun _ _ _ h => h.elim) ?_
       refine Kn.takeS 9 ⟨some 46, _, _, _, _, _⟩ (hQ := fun _ _ _ h => h.elim) ?_
       refine Kn.takeS 10 ⟨some 47, _, _, _, _, _⟩ (hQ := fun _ _ _ h => h.elim) ?_
       refine Kn.takeR 11 ⟨none, _, _, _, _, _⟩ fun K hK => ?_
       have bC := HE2.out.boxi 1 rfl
       have c7 := bC.cellv 7
       have c8 := bC.cellv 8
       have c9 := bC.cellv 9
       have c10 := bC.cellv 10
       have c11 := bC.cellv 11
       have z7 := bC.frozen 7
       have z8 := bC.frozen 8
       have z9 := bC.frozen 9
       have z10 := bC.frozen 10
       have z11 := bC.frozen 11
       have lC := bC.lt
       go_simp
       have HE2s : Hid (Wk w0 W1 _ ((S, SB pd.D gb q false qx 0) :: (C, CB pd.D gb p e2 0) :: (f3, [.bool more]) :: (f4, [.pointer (some ⟨S, 0, none⟩)]) :: (bR, [.int .i64 x.r.m, .int .i64 x.r.n, .int .i64 x.r.p, .slice x.s.1 x.s.2.1 x.s.2.2, .slice x.t.1 x.t.2.1 x.t.2.2]) :: (bP, [.int .i64 x.p.s, .int .i64 x.p.o, .int .i64 x.p.l, .int .i64 x.p.p, .int .i64 x.p.m]) :: (f2, [.func (.yield l) #[] #[]]) :: (b3, [.int .i64 x.p.s, .int .i64 x.p.o, .int .i64 x.p.l, .int .i64 x.p.p, .int .i64 x.p.m]) :: (f7, [.pointer (some ⟨S, 0, none⟩)]) :: (L ++ co.L)) (G ++ co.G) ((fs' ++ (fs ++ F)) ++ co.F)) := Lib.hid (((((HE2.out.put 1 rfl 7 (.int .i64 e2.s)).put 1 rfl 8 (.int .i64 e2.o)).put 1 rfl 9 (.int .i64 e2.l)).put 1 rfl 10 (.int .i64 e2.p)).put 1 rfl 11 (.int .i64 e2.m))
       clear c7 z7 c8 z8 c9 z9 c10 z10 c11 z11 bC lC HE2
       obtain ⟨wy, hgn⟩ : ∃ x, x = (World.setCell (World.setCell (World.setCell (World.setCell (World.setCell v2 ⟨C, 7, none⟩ (.int .i64 e2.s)) ⟨C, 8, none⟩ (.int .i64 e2.o)) ⟨C, 9, none⟩ (.int .i64 e2.l)) ⟨C, 10, none⟩ (.int .i64 e2.p)) ⟨C, 11, none⟩ (.int .i64 e2.m)) := ⟨_, rfl⟩
       rw [← hgn] at HE2s ⊢
       clear hgn
       refine hK.out _ _ ⟨own1 (HE2s.out.own _ (List.mem_cons_of_mem _ (List.mem_cons_of_mem _ (List.mem_cons_of_mem _ (List.mem_cons_of_mem _ (List.mem_cons_of_mem _ (List.mem_cons_of_mem _ (List.mem_cons_of_mem _ (List.mem_cons_of_mem _ (List.mem_cons_of_mem _ (List.mem_append_left _ HB1.out))))))))))), own1 (HE2s.out.boxi 3 rfl), HE2s.out.boxi 4 rfl⟩ (fun hSn => ?_)
       clear hK K hSw0
       have hSw0 := hSn
       clear hSn
       refine Kn.takeR 12 ⟨none, _, _, _, _, _⟩ fun K hK => ?_
       have b3o := HE2s.out.boxi 2 rfl
       have c3 := own1 b3o
       have z3 := b3o.frozen 0
       have l3 := b3o.lt
       go_simp
       have HE2st : Hid (Wk w0 W1 _ ((S, SB pd.D gb q false qx 0) :: (C, CB pd.D gb p e2 0) :: (f3, [.bool m2]) :: (f4, [.pointer (some ⟨S, 0, none⟩)]) :: (bR, [.int .i64 x.r.m, .int .i64 x.r.n, .int .i64 x.r.p, .slice x.s.1 x.s.2.1 x.s.2.2, .slice x.t.1 x.t.2.1 x.t.2.2]) :: (bP, [.int .i64 x.p.s, .int .i64 x.p.o, .int .i64 x.p.l, .int .i64 x.p.p, .int .i64 x.p.m]) :: (f2, [.func (.yield l) #[] #[]]) :: (b3, [.int .i64 x.p.s, .int .i64 x.p.o, .int .i64 x.p.l, .int .i64 x.p.p, .int .i64 x.p.m]) :: (f7, [.pointer (some ⟨S, 0, none⟩)]) :: (L ++ co.L)) (G ++ co.G) ((fs' ++ (fs ++ F)) ++ co.F)) := Lib.hid (HE2s.out.put 2 rfl 0 (.bool m2))
       clear b3o c3 z3 l3 HE2s
       generalize World.setCell wy ⟨f3, 0, none⟩ (.bool m2) = wx2 at *
       refine hK.out _ _ ⟨own1 (HE2st.out.own _ (List.mem_cons_of_mem _ (List.mem_cons_of_mem _ (List.mem_cons_of_mem _ (List.mem_cons_of_mem _ (List.mem_cons_of_mem _ (List.mem_cons_of_mem _ (List.mem_cons_of_mem _ (List.mem_cons_of_mem _ (List.mem_cons_of_mem _ (List.mem_append_left _ HB1.out))))))))))), own1 (HE2st.out.boxi 3 rfl), HE2st.out.boxi 4 rfl⟩ (fun hSn => ?_)
       clear hK K hSw0
       have hSw0 := hSn
       clear hSn
       refine wpAnyH_done (by kernel_rfl) ?_ _
       clear hSw0
       generalize hgw : wx2 = w2 at *
       clear hgw
       have hA2 : At3 w0 w2 (⟨(C, CB pd.D gb p e2 0) :: (([(S, SB pd.D gb q false qx 0), (f3, [.bool m2]), (f4, [.pointer (some ⟨S, 0, none⟩)]), (bR, [.int .i64 x.r.m, .int .i64 x.r.n, .int .i64 x.r.p, .slice x.s.1 x.s.2.1 x.s.2.2, .slice x.t.1 x.t.2.1 x.t.2.2]), (bP, [.int .i64 x.p.s, .int .i64 x.p.o, .int .i64 x.p.l, .int .i64 x.p.p, .int .i64 x.p.m]), (f2, [.func (.yield l) #[] #[]]), (b3, [.int .i64 x.p.s, .int .i64 x.p.o, .int .i64 x.p.l, .int .i64 x.p.p, .int .i64 x.p.m]), (f7, [.pointer (some ⟨S, 0, none⟩)])] : List (Nat × List Value)) ++ L), G, (fs' ++ fs) ++ F⟩ : Fr3) co := at3_mk ((HE2st.out.toWc.perm (L' := ((C, CB pd.D gb p e2 0) :: (([(S, SB pd.D gb q false qx 0), (f3, [.bool m2]), (f4, [.pointer (some ⟨S, 0, none⟩)]), (bR, [.int .i64 x.r.m, .int .i64 x.r.n, .int .i64 x.r.p, .slice x.s.1 x.s.2.1 x.s.2.2, .slice x.t.1 x.t.2.1 x.t.2.2]), (bP, [.int .i64 x.p.s, .int .i64 x.p.o, .int .i64 x.p.l, .int .i64 x.p.p, .int .i64 x.p.m]), (f2, [.func (.yield l) #[] #[]]), (b3, [.int .i64 x.p.s, .int .i64 x.p.o, .int .i64 x.p.l, .int .i64 x.p.p, .int .i64 x.p.m]), (f7, [.pointer (some ⟨S, 0, none⟩)])] : List (Nat × List Value)) ++ L)) ++ co.L) (perm_any (fun c => by simp only [List.map_cons, List.map_append, List.sum_cons, List.sum_append, List.cons_append, List.map_nil, List.sum_nil] <;> omega)) (List.Perm.refl _)).subF (fun f hf => by simpa [List.append_assoc] using hf))
       have hkb2 : Kb W.heap.size W1 w2 := HE2st.out.kb.mono (Nat.le_trans hsz6 hsz1)
       have hkf2 : KeepsFrom w6.heap.size W1 w2 := kf_of_kb HE2st.out.kb
       have hs2 : W.heap.size ≤ w2.heap.size := Nat.le_trans (Nat.le_trans hsz6 hsz1) HE2st.out.hs
       have hpre2 : ((told ++ pre) ++ [x]).map Fnd.pr <+: (chainG d cf k0 p).1 := by
        rw [List.append_assoc, List.map_append, HSC.out]
        exact (List.prefix_append_right_inj _).2 (HPX.out.trans (scan_prefix_chain d cf k q))
       have hlen2 : (told ++ pre).length < N := by
        have g1 := hpre2.length_le
        have g2 := HN.out
        rw [List.length_map, List.length_append] at g1
        simp at g1 g2 ⊢
        omega
       obtain ⟨fn, tmps, assign, bdy, hy, hR⟩ := HYY.out (told ++ pre) x _ co w2 ⟨[(S, SB pd.D gb q false qx 0), (f3, [.bool m2]), (f4, [.pointer (some ⟨S, 0, none⟩)]), (bR, [.int .i64 x.r.m, .int .i64 x.r.n, .int .i64 x.r.p, .slice x.s.1 x.s.2.1 x.s.2.2, .slice x.t.1 x.t.2.1 x.t.2.2]), (bP, [.int .i64 x.p.s, .int .i64 x.p.o, .int .i64 x.p.l, .int .i64 x.p.p, .int .i64 x.p.m]), (f2, [.func (.yield l) #[] #[]]), (b3, [.int .i64 x.p.s, .int .i64 x.p.o, .int .i64 x.p.l, .int .i64 x.p.p, .int .i64 x.p.m]), (f7, [.pointer (some ⟨S, 0, none⟩)])], qx, fs' ++ fs, by rw [HON.out], (by
        intro y hy
        rw [List.append_assoc] at hy
        rcases List.mem_append.1 hy with hy | hy
        ·exact List.mem_append_right _ (HFS.out y hy)
        ·exact List.mem_append_left _ (HFS2.out y hy)), hpre2, HFO.out⟩ (HJC.out _ _ _ _ _ HJ.out hkb2) hA2 hs2 hlen2
       simp only [Fnd.enc, Rc.cells, slv] at hy
       have HKB2 := Lib.hid hkb2
       have HKF2 := Lib.hid hkf2
       clear hA2 hkb2 hkf2 hs2 hpre2 hlen2
       have cY := own1 (HE2st.out.boxi 6 rfl)
       obtain ⟨p0, p1, p2, p3, p4⟩ := own5 (HE2st.out.boxi 5 rfl)
       obtain ⟨r0, r1, r2, r3, r4⟩ := own5 (HE2st.out.boxi 4 rfl)
       gi_wp2_with fail
       refine ⟨fun _ => by omega, (round_wide lr (n - 1 - 1 - 1) hR).mono ?_⟩
       rintro e3 W' ⟨c', hA', hkf, hend⟩
       have hin : At3 w0 W' ⟨(S, SB pd.D gb q false qx 0) :: (b3, [.int .i64 x.p.s, .int .i64 x.p.o, .int .i64 x.p.l, .int .i64 x.p.p, .int .i64 x.p.m]) :: ((f7, [.pointer (some ⟨S, 0, none⟩)]) :: L), G, fs' ++ (fs ++ F)⟩ (ChC C pd.D gb p e2 f2 f3 f4 S l m2 c') := at3_mk ((((at3_get (fs := fs' ++ fs) hA').perm (L' := (bR, [.int .i64 x.r.m, .int .i64 x.r.n, .int .i64 x.r.p, .slice x.s.1 x.s.2.1 x.s.2.2, .slice x.t.1 x.t.2.1 x.t.2.2]) :: (bP, [.int .i64 x.p.s, .int .i64 x.p.o, .int .i64 x.p.l, .int .i64 x.p.p, .int .i64 x.p.m]) :: (((S, SB pd.D gb q false qx 0) :: (b3, [.int .i64 x.p.s, .int .i64 x.p.o, .int .i64 x.p.l, .int .i64 x.p.p, .int .i64 x.p.m]) :: ((f7, [.pointer (some ⟨S, 0, none⟩)]) :: L)) ++ ((f4, [.pointer (some ⟨S, 0, none⟩)]) :: (C, CB pd.D gb p e2 0) :: (f3, [.bool m2]) :: (f2, [.func (.yield l) #[] #[]]) :: c'.L))) (perm_any (fun c => by simp only [List.map_cons, List.map_append, List.sum_cons, List.sum_append, List.cons_append, List.map_nil, List.sum_nil] <;> omega)) (List.Perm.refl _)).ldrop.ldrop).subF (fun f hf => by simpa [List.append_assoc] using hf))
       have hkk : KeepsFrom w6.heap.size W1 W' := HKF2.out.trans ⟨hkf.size, fun k o hk => hkf.same k o (by omega)⟩
       have hmm : Marks W.heap.size Ds W' := (HM.out.kb (C := W1.heap.size) HE2st.out.kb HM.out.lt).kf hkf
       have hoo : OnSt d cf (pre ++ [x]) e2 m2 := .inr ⟨pre, x, qx, rfl, HFO.out, by rw [HON.out], by rw [HON.out]⟩
       rcases hend with ⟨rfl, hj'⟩ | ⟨rfl, cd, hj'⟩
       ·gi_wp2
        exact ⟨hkk, _, hin, c', e2, m2, rfl, by rw [← List.append_assoc]; exact hj', hmm, hoo⟩
       ·gi_wp2
        exact ⟨hkk, _, hin, c', e2, m2, cd, rfl, rfl, by rw [← List.append_assoc]; exact hj', hmm, hoo⟩
     case done =>
      as_aux_lemma =>
       rintro D xs φ cc W2 hD ⟨fs', rfl, hfs', hxs⟩ ⟨co, e, more, rfl, hj, hm, ho⟩ hat hK hsz2
       have hdn := ho.done hxs
       obtain ⟨E0, E1, E2, hE⟩ : ∃ a b c, scanR d cf false q = (a, b, c) := ⟨_, _, _, rfl⟩
       rw [hE] at hat hxs hdn
       dsimp only at hat hxs hdn
       have hat1 : Wc w0 W2 (((S, SB pd.D gb q false E1 E2) :: (f7, [.pointer (some ⟨S, 0, none⟩)]) :: L) ++ ((f4, [.pointer (some ⟨S, 0, none⟩)]) :: (C, CB pd.D gb p e 0) :: (f3, [.bool more]) :: (f2, [.func (.yield l) #[] #[]]) :: co.L)) (G ++ co.G) ((fs' ++ (fs ++ F)) ++ co.F) := hat
       have HF := Lib.hid ((Wk.start hat1).perm (L' := (S, SB pd.D gb q false E1 E2) :: (C, CB pd.D gb p e 0) :: (f3, [.bool more]) :: (f4, [.pointer (some ⟨S, 0, none⟩)]) :: (f2, [.func (.yield l) #[] #[]]) :: (f7, [.pointer (some ⟨S, 0, none⟩)]) :: (L ++ co.L)) (perm_any (fun c => by simp only [List.map_cons, List.map_append, List.sum_cons, List.sum_append, List.cons_append, List.map_nil, List.sum_nil] <;> omega)) (List.Perm.refl _))
       have HFS2 : Hid (∀ y ∈ told ++ xs, y.fct ∈ fs' ++ fs) := Lib.hid (fun y hy => (List.mem_append.1 hy).elim (fun h => List.mem_append_right _ (HFS.out y h)) (fun h => List.mem_append_left _ (hfs' y h)))
       have hms : Marks W.heap.size (D :: Ds) W2 := hm.cons (Nat.le_trans hsz6 hD) (fun E hE => Nat.lt_of_lt_of_le (HDL.out E hE) hD) hK
       have HM := Lib.hid hms
       have HJ := Lib.hid hj
       have HE := Lib.hid hE
       have HXS := Lib.hid hxs
       have hszz : W.heap.size ≤ W2.heap.size := Nat.le_trans hsz6 hsz2
       clear hat hat1 hms hj hm ho hK hfs' hE hxs H00 HJ6 HMK6
       have c3 := own1 (HF.out.boxi 2 rfl)
       rcases hdn with ⟨rfl, v, hnx, rfl⟩ | ⟨rfl, hnx⟩
       ·have hen := HKQ.out
        rw [chEnds_some (by rw [HE.out]; exact hnx), HE.out] at hen
        have HEN := Lib.hid hen
        have hch := HSC.out
        rw [chainG_some (by rw [HE.out]; exact hnx), HE.out] at hch
        dsimp only at hen hch
        have HCH : Hid (chainG d cf k0 p = ((told ++ xs).map Fnd.pr ++ (chainG d cf k (turnP E1 v)).1, (chainG d cf k (turnP E1 v)).2)) := Lib.hid (by rw [hch, List.map_append, HXS.out, List.append_assoc])
        have HSZ : Hid (W.heap.size ≤ (W2.alloc (.cells #[.bool true] 4)).heap.size) := Lib.hid (by rw [World.size_alloc]; omega)
        clear hen hch hnx
        gi_wp2_with fail
        refine Handed.intro k (by omega) ?_
        gi_step
        exact ⟨_, _, _, rfl, rfl, told ++ xs, co, fs' ++ fs, true, turnP E1 v, 0, D :: Ds, rfl, HSZ.out, ((HF.out.newB #[.bool true] 4 (b := W2.heap.size) rfl).toWc.perm (L' := (S, SB pd.D gb q false E1 E2) :: (f3, [.bool true]) :: (f4, [.pointer (some ⟨S, 0, none⟩)]) :: (f7, [.pointer (some ⟨S, 0, none⟩)]) :: (C, CB pd.D gb p (turnP E1 v) 0) :: (W2.heap.size, [.bool true]) :: (f2, [.func (.yield l) #[] #[]]) :: (L ++ co.L)) (perm_any (fun c => by simp only [List.map_cons, List.map_append, List.sum_cons, List.sum_append, List.cons_append, List.map_nil, List.sum_nil] <;> omega)) (List.Perm.refl _)).ldrop.ldrop.ldrop.ldrop.subF (fun f hf => by simpa [List.append_assoc] using hf), HFS2.out, HJC.out _ _ _ _ _ HJ.out (kb_only0 ((Only.refl _ _).alloc _)), HM.out.kb (C := W2.heap.size) (kb_only0 ((Only.refl _ _).alloc _)) HM.out.lt, .inl ⟨rfl, rfl, HEN.out, HCH.out⟩⟩
       ·gi_upto_region 13 with (fail)
        clear c3
        have HY := Lib.hid HF.out.drew
        clear HF
        refine wpIn_wide.2 (wp_region_held_drew (S := (fun w' => w'.cell? ⟨b1, 0, none⟩ = some (.pointer (some ⟨C, 0, none⟩)) ∧ w'.cell? ⟨f4, 0, none⟩ = some (.pointer (some ⟨S, 0, none⟩)))) (by kernel_rfl) ⟨own1 (HY.out.own _ (List.mem_cons_of_mem _ (List.mem_cons_of_mem _ (List.mem_cons_of_mem _ (List.mem_cons_of_mem _ (List.mem_cons_of_mem _ (List.mem_cons_of_mem _ (List.mem_append_left _ HB1.out)))))))), own1 (HY.out.boxi 3 rfl)⟩ (fun hSw0 => ?_))
        generalize W2.drew = wz at *
        refine Kn.takeS 0 ⟨some 55, _, _, _, _, _⟩ (hQ := fun _ _ _ h => h.elim) (v := (.pointer (some ⟨C, 0, none⟩))) (hy := fun w hSw => by
         have q0 := hSw.1
         go_simp) ?_
        refine Kn.takeS 1 ⟨some 56, _, _, _, _, _⟩ (hQ := fun _ _ _ h => h.elim) (v := (.pointer (some ⟨C, 0, none⟩))) (hy := fun w hSw => by
         have q0 := hSw.1
         go_simp) ?_
        refine Kn.takeS 2 ⟨some 57, _, _, _, _, _⟩ (hQ := fun _ _ _ h => h.elim) (v := (.pointer (some ⟨S, 0, none⟩))) (hy := fun w hSw => by
         have q0 := hSw.2
         go_simp) ?_
        refine Kn.takeS 4 ⟨some 59, _, _, _, _, _⟩ (hQ := fun _ _ _ h => h.elim) (v := (.pointer (some ⟨S, 0, none⟩))) (hy := fun w hSw => by
         have q0 := hSw.2
         go_simp) ?_
        refine Kn.takeR 3 ⟨some 58, _, _, _, _, _⟩ fun K hK => ?_
        go_simp
        refine (scan_end_any w0 _ S gb pd.D q false E1 E2 _ _ _ HY.out).mono ?_
        rintro en v1 ⟨rfl, hO⟩
        have HYe := Lib.hid (HY.out.keep0 hO)
        clear hO HY
        refine hK.out _ _ ⟨own1 (HYe.out.own _ (List.mem_cons_of_mem _ (List.mem_cons_of_mem _ (List.mem_cons_of_mem _ (List.mem_cons_of_mem _ (List.mem_cons_of_mem _ (List.mem_cons_of_mem _ (List.mem_append_left _ HB1.out)))))))), own1 (HYe.out.boxi 3 rfl)⟩ (fun hSn => ?_)
        clear hK K hSw0
        have hSw0 := hSn
        clear hSn
        refine Kn.takeR 5 ⟨some 60, _, _, _, _, _⟩ fun K hK => ?_
        go_simp
        refine (scan_err_any w0 _ S gb pd.D q false E1 E2 _ _ _ HYe.out).mono ?_
        rintro en v2 ⟨rfl, rfl⟩
        refine hK.out _ _ ⟨own1 (HYe.out.own _ (List.mem_cons_of_mem _ (List.mem_cons_of_mem _ (List.mem_cons_of_mem _ (List.mem_cons_of_mem _ (List.mem_cons_of_mem _ (List.mem_cons_of_mem _ (List.mem_append_left _ HB1.out)))))))), own1 (HYe.out.boxi 3 rfl)⟩ (fun hSn => ?_)
        clear hK K hSw0
        have hSw0 := hSn
        clear hSn
        refine Kn.takeS 6 ⟨some 61, _, _, _, _, _⟩ (hQ := fun _ _ _ h => h.elim) ?_
        refine Kn.takeS 7 ⟨some 62, _, _, _, _, _⟩ (hQ := fun _ _ _ h => h.elim) ?_
        refine Kn.takeR 8 ⟨none, _, _, _, _, _⟩ fun K hK => ?_
        have bC := HYe.out.boxi 1 rfl
        have c7 := bC.cellv 7
        have c8 := bC.cellv 8
        have c9 := bC.cellv 9
        have c10 := bC.cellv 10
        have c11 := bC.cellv 11
        have z7 := bC.frozen 7
        have z8 := bC.frozen 8
        have z9 := bC.frozen 9
        have z10 := bC.frozen 10
        have z11 := bC.frozen 11
        have lC := bC.lt
        go_simp
        have HYes : Hid (Wk w0 W2 _ ((S, SB pd.D gb q false E1 E2) :: (C, CB pd.D gb p E1 0) :: (f3, [.bool false]) :: (f4, [.pointer (some ⟨S, 0, none⟩)]) :: (f2, [.func (.yield l) #[] #[]]) :: (f7, [.pointer (some ⟨S, 0, none⟩)]) :: (L ++ co.L)) (G ++ co.G) ((fs' ++ (fs ++ F)) ++ co.F)) := Lib.hid (((((HYe.out.put 1 rfl 7 (.int .i64 E1.s)).put 1 rfl 8 (.int .i64 E1.o)).put 1 rfl 9 (.int .i64 E1.l)).put 1 rfl 10 (.int .i64 E1.p)).put 1 rfl 11 (.int .i64 E1.m))
        clear c7 z7 c8 z8 c9 z9 c10 z10 c11 z11 bC lC HYe
        obtain ⟨wy, hgn⟩ : ∃ x, x = (World.setCell (World.setCell (World.setCell (World.setCell (World.setCell v1 ⟨C, 7, none⟩ (.int .i64 E1.s)) ⟨C, 8, none⟩ (.int .i64 E1.o)) ⟨C, 9, none⟩ (.int .i64 E1.l)) ⟨C, 10, none⟩ (.int .i64 E1.p)) ⟨C, 11, none⟩ (.int .i64 E1.m)) := ⟨_, rfl⟩
        rw [← hgn] at HYes ⊢
        clear hgn
        refine hK.out _ _ ⟨own1 (HYes.out.own _ (List.mem_cons_of_mem _ (List.mem_cons_of_mem _ (List.mem_cons_of_mem _ (List.mem_cons_of_mem _ (List.mem_cons_of_mem _ (List.mem_cons_of_mem _ (List.mem_append_left _ HB1.out)))))))), own1 (HYes.out.boxi 3 rfl)⟩ (fun hSn => ?_)
        clear hK K hSw0
        have hSw0 := hSn
        clear hSn
        refine Kn.takeS 9 ⟨some 63, _, _, _, _, _⟩ (hQ := fun _ _ _ h => h.elim) ?_
        refine Kn.takeS 10 ⟨some 64, _, _, _, _, _⟩ (hQ := fun _ _ _ h => h.elim) ?_
        refine Kn.takeR 11 ⟨none, _, _, _, _, _⟩ fun K hK => ?_
        have bC := HYes.out.boxi 1 rfl
        have c12 := bC.cellv 12
        have z12 := bC.frozen 12
        have lC := bC.lt
        go_simp
        have HYest : Hid (Wk w0 W2 _ ((S, SB pd.D gb q false E1 E2) :: (C, CB pd.D gb p E1 E2) :: (f3, [.bool false]) :: (f4, [.pointer (some ⟨S, 0, none⟩)]) :: (f2, [.func (.yield l) #[] #[]]) :: (f7, [.pointer (some ⟨S, 0, none⟩)]) :: (L ++ co.L)) (G ++ co.G) ((fs' ++ (fs ++ F)) ++ co.F)) := Lib.hid (HYes.out.put 1 rfl 12 (.int .i64 E2))
        clear c12 z12 bC lC HYes
        obtain ⟨wx2, hgn⟩ : ∃ x, x = (World.setCell wy ⟨C, 12, none⟩ (.int .i64 E2)) := ⟨_, rfl⟩
        rw [← hgn] at HYest ⊢
        clear hgn
        refine hK.out _ _ ⟨own1 (HYest.out.own _ (List.mem_cons_of_mem _ (List.mem_cons_of_mem _ (List.mem_cons_of_mem _ (List.mem_cons_of_mem _ (List.mem_cons_of_mem _ (List.mem_cons_of_mem _ (List.mem_append_left _ HB1.out)))))))), own1 (HYest.out.boxi 3 rfl)⟩ (fun hSn => ?_)
        clear hK K hSw0
        have hSw0 := hSn
        clear hSn
        refine wpAnyH_done (by kernel_rfl) ?_ _
        clear hSw0
        have c3 := own1 (HYest.out.boxi 2 rfl)
        gi_wp2_with fail
        refine Handed.intro k (by omega) ?_
        gi_step
        exact ⟨_, _, _, rfl, rfl, told ++ xs, co, fs' ++ fs, false, E1, E2, D :: Ds, rfl, by have := HYest.out.hs; simp; omega, ((HYest.out.newB #[.bool false] 4 (b := wx2.heap.size) rfl).toWc.perm (L' := (S, SB pd.D gb q false E1 E2) :: (f3, [.bool false]) :: (f4, [.pointer (some ⟨S, 0, none⟩)]) :: (f7, [.pointer (some ⟨S, 0, none⟩)]) :: (C, CB pd.D gb p E1 E2) :: (wx2.heap.size, [.bool false]) :: (f2, [.func (.yield l) #[] #[]]) :: (L ++ co.L)) (perm_any (fun c => by simp only [List.map_cons, List.map_append, List.sum_cons, List.sum_append, List.cons_append, List.map_nil, List.sum_nil] <;> omega)) (List.Perm.refl _)).ldrop.ldrop.ldrop.ldrop.subF (fun f hf => by simpa [List.append_assoc] using hf), HFS2.out, HJC.out _ _ _ _ _ HJ.out ((HYest.out.kb.mono hszz).trans (kb_only0 ((Only.refl _ _).alloc _))), (HM.out.kb (C := W2.heap.size) (HYest.out.kb.trans (kb_only0 ((Only.refl _ _).alloc _))) HM.out.lt), .inr ⟨rfl, by rw [HSC.out, chainG_none (by rw [HE.out]; exact hnx), HE.out, List.map_append, HXS.out]⟩⟩
     case stop =>
      as_aux_lemma =>
       rintro D cd pre φ cc W2 hD ⟨qx, fs', rfl, hfs', hpx, pre', x, rfl, hfo⟩ ⟨co, e, more, cd', rfl, rfl, hj, hm, ho⟩ hat hK hsz2
       obtain ⟨he, -⟩ := ho.snoc hfo
       have hat1 : Wc w0 W2 (((S, SB pd.D gb q false qx 0) :: (f7, [.pointer (some ⟨S, 0, none⟩)]) :: L) ++ ((f4, [.pointer (some ⟨S, 0, none⟩)]) :: (C, CB pd.D gb p e 0) :: (f3, [.bool more]) :: (f2, [.func (.yield l) #[] #[]]) :: co.L)) (G ++ co.G) ((fs' ++ (fs ++ F)) ++ co.F) := hat
       have hA2 : At3 w0 W2 (⟨(C, CB pd.D gb p e 0) :: (([(S, SB pd.D gb q false qx 0), (f3, [.bool more]), (f4, [.pointer (some ⟨S, 0, none⟩)]), (f2, [.func (.yield l) #[] #[]]), (f7, [.pointer (some ⟨S, 0, none⟩)])] : List (Nat × List Value)) ++ L), G, (fs' ++ fs) ++ F⟩ : Fr3) co := at3_mk ((hat1.perm (L' := ((C, CB pd.D gb p e 0) :: (([(S, SB pd.D gb q false qx 0), (f3, [.bool more]), (f4, [.pointer (some ⟨S, 0, none⟩)]), (f2, [.func (.yield l) #[] #[]]), (f7, [.pointer (some ⟨S, 0, none⟩)])] : List (Nat × List Value)) ++ L)) ++ co.L) (perm_any (fun c => by simp only [List.map_cons, List.map_append, List.sum_cons, List.sum_append, List.cons_append, List.map_nil, List.sum_nil] <;> omega)) (List.Perm.refl _)).subF (fun f hf => by simpa [List.append_assoc] using hf))
       have hms : Marks W.heap.size (D :: Ds) W2 := hm.cons (Nat.le_trans hsz6 hD) (fun E hE => Nat.lt_of_lt_of_le (HDL.out E hE) hD) hK
       clear hat hat1 hm hK H00 HJ6 HMK6
       gi_wp2_with fail
       show LeavesInM Fence.wide n Tryz.prog Tryz.f179 _ _ ((D :: Ds).map mkD) .returning W2
       refine marks_many (B := W.heap.size) (fun V => At3 w0 V (⟨(C, CB pd.D gb p e 0) :: (([(S, SB pd.D gb q false qx 0), (f3, [.bool more]), (f4, [.pointer (some ⟨S, 0, none⟩)]), (f2, [.func (.yield l) #[] #[]]), (f7, [.pointer (some ⟨S, 0, none⟩)])] : List (Nat × List Value)) ++ L), G, (fs' ++ fs) ++ F⟩ : Fr3) co ∧ J (some cd') (told ++ (pre' ++ [x])) co V ∧ W.heap.size ≤ V.heap.size) ?_ ?_ (D :: Ds) W2 ⟨hA2, hj, Nat.le_trans hsz6 hsz2⟩ hms
       ·rintro V E ⟨g1, g2, g3⟩ hE hKE2
        exact ⟨g1.putObj _ hKE2 rfl (Nat.le_trans hws hE), HJC.out _ _ _ _ _ g2 (kb_putObj _ _ hE), by simpa using g3⟩
       ·rintro V ⟨g1, g2, g3⟩
        exact ⟨_, results_none rfl _ _ _, ⟨_, rfl⟩, g3, _, _, g1, .inr ⟨told ++ (pre' ++ [x]), cd', ⟨[(S, SB pd.D gb q false qx 0), (f3, [.bool more]), (f4, [.pointer (some ⟨S, 0, none⟩)]), (f2, [.func (.yield l) #[] #[]]), (f7, [.pointer (some ⟨S, 0, none⟩)])], qx, fs' ++ fs, told ++ pre', x, by rw [he], (fun y hy => (List.mem_append.1 hy).elim (fun h => List.mem_append_right _ (HFS.out y h)) (fun h => List.mem_append_left _ (hfs' y h))), (by rw [List.map_append, HSC.out]; exact (List.prefix_append_right_inj _).2 (hpx.trans (scan_prefix_chain d cf k q))), by rw [List.append_assoc], hfo⟩, g2⟩⟩
  ·as_aux_lemma =>
    have HW := Lib.hid hw
    have c3 := own1 (HW.out.boxi 1 rfl)
    clear hw
    gi_wp2_with fail
    show LeavesInM Fence.wide n Tryz.prog Tryz.f179 _ _ (Ds.map mkD) .returning wr
    refine marks_many (B := W.heap.size) (fun V => At3 w0 V (⟨(C, CB pd.D gb p q er) :: (([(f3, [.bool false]), (f2, [.func (.yield l) #[] #[]])] : List (Nat × List Value)) ++ L), G, fs ++ F⟩ : Fr3) c ∧ J none told c V ∧ W.heap.size ≤ V.heap.size) ?_ ?_ Ds wr ⟨at3_mk HW.out, hJt, hsz⟩ hmk
    ·rintro V E ⟨g1, g2, g3⟩ hE hKE2
     exact ⟨g1.putObj _ hKE2 rfl (Nat.le_trans hws hE), HJC.out _ _ _ _ _ g2 (kb_putObj _ _ hE), by simpa using g3⟩
    ·rintro V ⟨g1, g2, g3⟩
     exact ⟨_, results_none rfl _ _ _, ⟨_, rfl⟩, g3, _, _, g1, .inl ⟨told, ⟨[(f3, [.bool false]), (f2, [.func (.yield l) #[] #[]])], fs, by rw [hsc], hfs, by rw [hsc]⟩, g2⟩⟩
end Go.Proofs.YtgcfdjcpcclcjaaGreat
namespace Go.Kn
open Go Go.RowKit
theorem run_slice3 {P : Program} (w : World) (t e : TypeId) (ht : P.underlying t = some (.slice e)) (hs : (P.info? e).map (·.size) = some 1) (g len cap l h m : Nat) (li hi : Int) (kl kh km : IntKind) (e1 : li = l) (e2 : hi = h) (hl : l < h) (hh : h ≤ cap) (hm : h - l = m) :
  (Instr.slice t (.slice (some ⟨g, 0, none⟩) len cap) (some (.int kl li)) (some (.int kh hi)) (some (.int km hi))).run P w = .ok (.slice (some ⟨g, l, none⟩) m m) w := by
 subst e1 e2 hm
 have hne : ¬ (h - l = 0) := by omega
 cases hq : P.info? e with
 | none => simp [hq] at hs
 | some i =>
  simp [hq] at hs
  have hle : l ≤ h := by omega
  have hne2 : h ≠ l := by omega
  simp [Instr.slice, Instr.sliceBounds, Instr.sliceBound, run_underlying ht, sizeOf, typeInfo, hq, asIntOf, hle, hh, hs, hne, hne2, Addr.add]
  intro h0
  exact h0.symm
end Go.Kn
namespace Go.Proofs.YtgcfdjcpcclcjaaGreat
open Go Go.RowKit Go.Kn Go.Shelf
attribute [local go_sem] Oper.semAt_some
def chEnc (g : Nat) (i : Nat) : Array Value := #[.slice (some ⟨g, 64 * i, none⟩) 64 64]
set_option maxRecDepth 100000 in
set_option maxHeartbeats 8000000 in
theorem chunk_seq (w0 W : World) (b1 b2 g m c k : Nat) (L : List (Nat × List Value)) (G : List Gs) (F : List (World → Prop)) (n : Nat) (hn : 1 ≤ n) (hm : m = 64 * k) (hmc : m ≤ c) (hk : k ≤ 100)
  (hb1 : (b1, [.slice (some ⟨g, 0, none⟩) m c]) ∈ L) (hb2 : (b2, [.int .i64 64]) ∈ L) :
  SeqW Fence.wide n Tryz.prog 206 #[.pointer (some ⟨b1, 0, none⟩), .pointer (some ⟨b2, 0, none⟩)] (chEnc g) (fun pre x φ => φ = ⟨L, G, F⟩ ∧ x = pre.length ∧ x < k ∧ pre = List.range x) (fun xs φ => φ = ⟨L, G, F⟩ ∧ xs = List.range k) (fun pre φ => φ = ⟨L, G, F⟩ ∧ ∃ j, j < k ∧ pre = List.range (j + 1)) (k + 1) w0 W ⟨L, G, F⟩ := by
 intro l J c0 hJc hY hJ0 hA
 have hA' : Wc w0 W (L ++ c0.L) (G ++ c0.G) (F ++ c0.F) := hA
 have HA := Lib.hid hA'
 have HB1 := Lib.hid hb1
 have HB2 := Lib.hid hb2
 have HJC := Lib.hid hJc
 have HYY := Lib.hid hY
 clear hA hA' hb1 hb2 hJc hY
 refine callsIn_of_wp Tryz.func206 rfl trivial ?_ rfl
 simp only [Tryz.ntmps206, List.size_toArray, List.length_cons, List.length_nil, Nat.reduceAdd, Nat.reduceSub, Array.replicate_succ, Array.replicate_zero, List.push_toArray, List.append_toArray, List.nil_append, List.cons_append]
 gi_wp2_with fail
 gi_loopg [4] k (fun gr t4 wr => ∃ (j x : Nat) (co : Fr3), j + gr = k ∧ x = 64 * j ∧ t4 = .int .i64 (x : Int) ∧ Wc w0 wr (L ++ co.L) (G ++ co.G) (F ++ co.F) ∧ J none (List.range j) co wr ∧ W.heap.size ≤ wr.heap.size)
 case atStart => exact ⟨0, 0, c0, by omega, rfl, rfl, HA.out, hJ0, Nat.le_refl _⟩
 clear HA hJ0
 obtain ⟨j, x, co, hj, hx, rfl, hw, hJp, hsz⟩ := hrel
 have HW := Lib.hid hw
 have HJP := Lib.hid hJp
 clear hw hJp
 have c1 := own1 (HW.out.own _ (List.mem_append_left _ HB1.out))
 have c2 := own1 (HW.out.own _ (List.mem_append_left _ HB2.out))
 by_cases hlt : j < k
 ·have hlm : (x : Int) < (m : Int) := by omega
  obtain ⟨r, hr⟩ : ∃ r, m - x = r := ⟨_, rfl⟩
  obtain ⟨y, hy⟩ : ∃ y, x + 64 = y := ⟨_, rfl⟩
  have hr64 : ¬ (r : Int) < 64 := by omega
  have hwy : IntKind.i64.wrap ((x : Int) + 64) = (y : Int) := by rw [show (x : Int) + 64 = (y : Int) from by omega]; exact IntWalk.i64_in _ (by omega)
  have hs1 : ∀ w : World, (Instr.slice 47 (.slice (some ⟨g, 0, none⟩) m c) (some (.int .i64 (x : Int))) none none).run Tryz.prog w = .ok (.slice (cutA (some ⟨g, 0, none⟩) c x) r (c - x)) w := fun w => run_slice1_lo w _ _ Tryz.underlying47 (by kernel_rfl) _ m c (x : Int) x r .i64 rfl (by omega) hr
  have hs3 : ∀ w : World, (Instr.slice 47 (.slice (some ⟨g, 0, none⟩) m c) (some (.int .i64 (x : Int))) (some (.int .i64 (y : Int))) (some (.int .i64 (y : Int)))).run Tryz.prog w = .ok (.slice (some ⟨g, x, none⟩) 64 64) w := fun w => run_slice3 w _ _ Tryz.underlying47 (by kernel_rfl) g m c x y 64 (x : Int) (y : Int) .i64 .i64 .i64 rfl rfl (by omega) (by omega) (by omega)
  have HX := Lib.hid hx
  have HM := Lib.hid hm
  have HY0 := Lib.hid hy
  clear hx hm hr hy
  gi_wp2_with fail
  clear c1 c2
  have HY := Lib.hid HW.out.drew
  refine wpIn_wide.2 (wp_region_held_drew (S := (fun w' => w'.cell? ⟨b1, 0, none⟩ = some (.slice (some ⟨g, 0, none⟩) m c) ∧ w'.cell? ⟨b2, 0, none⟩ = some (.int .i64 64))) (by kernel_rfl) ⟨own1 (HY.out.own _ (List.mem_append_left _ HB1.out)), own1 (HY.out.own _ (List.mem_append_left _ HB2.out))⟩ (fun hSw0 => ?_))
  have hkb : Kb W.heap.size wr wr.drew := Kb.of_only (S := []) ((Only.refl _ _).drew) (by simp)
  have hsd : wr.heap.size ≤ wr.drew.heap.size := Nat.le_refl _
  generalize wr.drew = wz at *
  refine Kn.takeS 0 ⟨some 13, _, _, _, _, _⟩ (v := (.int .i64 64)) (hy := fun w hSw => by
   have q0 := hSw.2
   go_simp) ?_
  refine Kn.takeS 1 ⟨some 14, _, _, _, _, _⟩ (v := (.slice (some ⟨g, 0, none⟩) m c)) (hy := fun w hSw => by
   have q0 := hSw.1
   go_simp) ?_
  refine Kn.takeS 2 ⟨some 15, _, _, _, _, _⟩ ?_
  refine Kn.takeS 3 ⟨some 16, _, _, _, _, _⟩ ?_
  refine Kn.takeS 4 ⟨some 17, _, _, _, _, _⟩ ?_
  refine Kn.takeS 5 ⟨some 18, _, _, _, _, _⟩ ?_
  refine Kn.takeS 6 ⟨some 5, _, _, _, _, _⟩ ?_
  refine wpAnyH_done (by kernel_rfl) ?_ _
  clear hSw0 HW
  have hjz : J none (List.range j) co wz := HJC.out _ _ _ _ _ HJP.out hkb
  have hsz2 : W.heap.size ≤ wz.heap.size := (Nat.le_trans hsz hsd)
  obtain ⟨fn, tmps, assign, body, hyd, hR⟩ := HYY.out (List.range j) j ⟨L, G, F⟩ co wz ⟨rfl, by simp, hlt, rfl⟩ hjz HY.out hsz2 (by simp; omega)
  have he : chEnc g j = #[.slice (some ⟨g, x, none⟩) 64 64] := by unfold chEnc; rw [HX.out]
  rw [he] at hyd
  have c1 := own1 (HY.out.own _ (List.mem_append_left _ HB1.out))
  clear hjz he
  gi_wp2_with fail
  refine hR.mono ?_
  rintro e2 W' ⟨c', hA', hkf, ⟨rfl, hj'⟩ | ⟨rfl, cd, hj'⟩⟩
  ·have HW' : Hid (Wc w0 W' (L ++ c'.L) (G ++ c'.G) (F ++ c'.F)) := Lib.hid hA'
   have hsw : W.heap.size ≤ W'.heap.size := Nat.le_trans hsz2 hkf.size
   have HJ' : Hid (J none (List.range (j + 1)) c' W') := Lib.hid (by rw [List.range_succ]; exact hj')
   have c2 := own1 (HW'.out.own _ (List.mem_append_left _ HB2.out))
   clear hA' hj' hkf hR hyd c1
   gi_wp2_with fail
   gi_roundg (gk - 1)
   case measure => omega
   case rel => exact ⟨j + 1, y, c', by omega, by rw [← HY0.out, HX.out]; omega, rfl, HW'.out, HJ'.out, hsw⟩
  ·have hsw : W.heap.size ≤ W'.heap.size := Nat.le_trans hsz2 hkf.size
   have HJ' : Hid (J (some cd) (List.range (j + 1)) c' W') := Lib.hid (by rw [List.range_succ]; exact hj')
   have HA' := Lib.hid hA'
   clear hj' hkf hA' hR hyd c1
   gi_wp2_with fail
   exact bodyPost_ret (results_none rfl _ _ _) rfl ⟨⟨_, rfl⟩, hsw, ⟨L, G, F⟩, c', HA'.out, .inr ⟨_, cd, ⟨rfl, j, hlt, rfl⟩, HJ'.out⟩⟩
 ·obtain rfl : j = k := by omega
  have hlm : ¬ (x : Int) < (m : Int) := by omega
  have HX := Lib.hid hx
  have HM := Lib.hid hm
  clear hx hm
  gi_wp2_with fail
  exact bodyPost_end (results_none rfl _ _ _) rfl ⟨⟨_, rfl⟩, hsz, ⟨L, G, F⟩, co, HW.out, .inl ⟨_, ⟨rfl, rfl⟩, HJP.out⟩⟩
end Go.Proofs.YtgcfdjcpcclcjaaGreat
namespace Go.Proofs.YtgcfdjcpcclcjaaGreat
open Go Go.RowKit Go.Kn
structure DsK (wb w0 w : World) (p : PD) (d : Dk) (c : Fr3) : Prop where
 ok : d.Ok
 N : d.safe.length = p.N
 hs : p.N ≤ p.cs
 hn : p.N ≤ p.cn
 hf : p.N ≤ p.cf
 mem : ∃ v, Wk w0 wb w (p.L v d c.L) (⟨158, 65, v, d.held.length, heldV d.held⟩ :: c.G) c.F
theorem DsK.toDsk {wb w0 w : World} {p : PD} {d : Dk} {c : Fr3} (h : DsK wb w0 w p d c) : Dsk w0 w p d c := ⟨h.ok, h.N, h.hs, h.hn, h.hf, by obtain ⟨v, hm⟩ := h.mem; exact ⟨v, hm.toWc⟩⟩
theorem DsK.start {w0 w : World} {p : PD} {d : Dk} {c : Fr3} (h : Dsk w0 w p d c) : DsK w w0 w p d c := ⟨h.ok, h.N, h.hs, h.hn, h.hf, by obtain ⟨v, hm⟩ := h.mem; exact ⟨v, Wk.start hm⟩⟩
theorem DsK.kb {wb w0 w : World} {p : PD} {d : Dk} {c : Fr3} (h : DsK wb w0 w p d c) : Kb wb.heap.size wb w := by obtain ⟨v, hm⟩ := h.mem; exact hm.kb
theorem DsK.gone1 {wb w0 w : World} {p : PD} {d : Dk} {c : Fr3} (h : DsK wb w0 w p d c) (hg : d.gone = true) :
  DsK wb w0 ((w.setCell ⟨p.D, 5, none⟩ (.int .i64 (wrap64 (d.acts + 1)))).setCell ⟨p.D, 6, none⟩ (.bool true)) p d.act c := by
 obtain ⟨v, hm⟩ := h.mem
 have h1 := ((hm.put 0 (p := p.D) (cs := p.box v d) rfl 5 (.int .i64 (wrap64 (d.acts + 1)))).put 0 rfl 6 (.bool true))
 refine ⟨h.ok.act, h.N, h.hs, h.hn, h.hf, v, ?_⟩
 have e : p.L v d.act c.L = (p.D, [.slice (some ⟨p.s, 0, none⟩) p.N p.cs, .slice (some ⟨p.n, 0, none⟩) p.N p.cn, v, .slice (some ⟨p.f, 0, none⟩) p.N p.cf, .int .i64 d.fuse, .int .i64 (wrap64 (d.acts + 1)), .bool true]) :: (p.s, flat d.safe) :: (p.n, flat d.now) :: (p.f, bls d.faults) :: c.L := by
  simp only [PD.L, PD.box, Dk.act, hg, if_true, Dk.tick, Dk.now]
 rw [e]
 exact h1
theorem DsK.gone0 {wb w0 w : World} {p : PD} {d : Dk} {c : Fr3} (h : DsK wb w0 w p d c) (hg : d.gone = false) {m : Int} (hm : m = max (d.fuse - 1) (-1)) :
  DsK wb w0 (((w.setCell ⟨p.D, 5, none⟩ (.int .i64 (wrap64 (d.acts + 1)))).setCell ⟨p.D, 6, none⟩ (.bool false)).setCell ⟨p.D, 4, none⟩ (.int .i64 m)) p d.act c := by
 subst hm
 obtain ⟨v, hm⟩ := h.mem
 have h1 := ((hm.put 0 (p := p.D) (cs := p.box v d) rfl 5 (.int .i64 (wrap64 (d.acts + 1)))).put 0 rfl 6 (.bool false)).put 0 rfl 4 (.int .i64 (max (d.fuse - 1) (-1)))
 refine ⟨h.ok.act, h.N, h.hs, h.hn, h.hf, v, ?_⟩
 have e : p.L v d.act c.L = (p.D, [.slice (some ⟨p.s, 0, none⟩) p.N p.cs, .slice (some ⟨p.n, 0, none⟩) p.N p.cn, v, .slice (some ⟨p.f, 0, none⟩) p.N p.cf, .int .i64 (max (d.fuse - 1) (-1)), .int .i64 (wrap64 (d.acts + 1)), .bool false]) :: (p.s, flat d.safe) :: (p.n, flat d.now) :: (p.f, bls d.faults) :: c.L := by
  simp only [PD.L, PD.box, Dk.act, hg, Bool.false_eq_true, if_false, Dk.tick, Dk.now]
 rw [e]
 exact h1
theorem dk_act_kb (wb w0 w : World) (p : PD) (d : Dk) (c : Fr3) (h : DsK wb w0 w p d c) :
  Calls Tryz.prog 85 #[.pointer (some ⟨p.D, 0, none⟩)] w fun e w' => e = .returned (.int .i64 (if d.gone = true then 3 else 0)) ∧ DsK wb w0 w' p d.act c := by
 obtain ⟨v, hm⟩ := h.mem
 have hb := hm.boxi 0 (p := p.D) (cs := p.box v d) rfl
 have c4 := hb.cell 4 (by simp [PD.box])
 have c5 := hb.cell 5 (by simp [PD.box])
 have c6 := hb.cell 6 (by simp [PD.box])
 have f4 := hb.frozen 4
 have f5 := hb.frozen 5
 have f6 := hb.frozen 6
 simp only [PD.box, List.getElem_cons_zero, List.getElem_cons_succ] at c4 c5 c6
 have hu := h.ok.u
 have hlt := hb.lt
 obtain ⟨hu1, hu2⟩ := hu
 clear hm hb
 by_cases hg : d.gone = true
 ·refine (show Calls _ _ _ _ (fun e w' => e = .returned (.int .i64 3) ∧ DsK wb w0 w' p d.act c) from ?_).mono (fun e w' h => by rw [if_pos hg]; exact h)
  have H := Lib.hid (DsK.gone1 h hg)
  clear h
  unfold Dk.gone at hg
  by_cases ho : d.off = true
  ·rw [ho] at c6
   clear hg ho
   go_enter Tryz.func85, Tryz.ntmps85
   go_wp2
   go_ret
   exact ⟨rfl, H.out⟩
  ·rw [Bool.not_eq_true] at ho
   have hf : d.fuse = 0 := by rw [ho] at hg; simpa using hg
   rw [ho] at c6
   rw [hf] at c4
   clear hg ho hf hu1 hu2
   go_enter Tryz.func85, Tryz.ntmps85
   go_wp2
   go_ret
   exact ⟨rfl, H.out⟩
 ·refine (show Calls _ _ _ _ (fun e w' => e = .returned (.int .i64 0) ∧ DsK wb w0 w' p d.act c) from ?_).mono (fun e w' h => by rw [if_neg hg]; exact h)
  rw [Bool.not_eq_true] at hg
  have H := Lib.hid (fun m hm => DsK.gone0 h hg (m := m) hm)
  clear h
  unfold Dk.gone at hg
  rw [Bool.or_eq_false_iff] at hg
  obtain ⟨ho, hf⟩ := hg
  rw [ho] at c6
  have hf : ¬ d.fuse = 0 := by simpa using hf
  clear ho
  by_cases hz : 0 ≤ d.fuse
  ·have hz1 : decide (-1 ≤ d.fuse - 1) = true := by simp; omega
   go_enter Tryz.func85, Tryz.ntmps85
   go_wp2
   all_goals (first | (exfalso; omega) | skip)
   go_ret
   exact ⟨rfl, H.out _ (by omega)⟩
  ·go_enter Tryz.func85, Tryz.ntmps85
   go_wp2
   all_goals (first | (exfalso; omega) | skip)
   go_ret
   exact ⟨rfl, H.out _ (by omega)⟩
theorem DsK.app {wb w0 w w' : World} {p : PD} {d : Dk} {c : Fr3} {v v' : Value} {a : Int} {b : List UInt8} (hm : Wk w0 wb w (p.L v d.act c.L) (⟨158, 65, v, d.held.length, heldV d.held⟩ :: c.G) c.F)
  (hown : w'.ownsRow w0.heap.size 158 65 v' (d.held.length + 1) (heldV d.held ++ (.int .i64 a :: bvs b))) (hg : w.grownBy w' v.ownBlock) (hat : v'.ownBlock = v.ownBlock ∨ v'.ownBlock = some w.heap.size) (ha : 0 ≤ a) :
  Wk w0 wb (w'.setCell ⟨p.D, 2, none⟩ v') ((p.D, p.box v' d.act) :: (p.s, flat d.safe) :: (p.n, flat d.now) :: (p.f, bls d.faults) :: c.L) (⟨158, 65, v', (d.held ++ [(a.toNat, b)]).length, heldV (d.held ++ [(a.toNat, b)])⟩ :: c.G) c.F := by
 have h1 := hm.gapp 0 rfl hown hg hat
 have h2 := h1.put 0 (p := p.D) (cs := p.box v d.act) rfl 2 v'
 have e : heldV (d.held ++ [(a.toNat, b)]) = heldV d.held ++ (.int .i64 a :: bvs b) := by rw [heldV_snoc, show ((a.toNat : Nat) : Int) = a from by omega]
 rw [e, List.length_append]
 exact h2
theorem DsK.wroteMk {wb w0 w w' : World} {p : PD} {d : Dk} {c : Fr3} {v : Value} {k : Nat} {b : List UInt8} (h : DsK wb w0 w p d c) (hh : d.has k = true) (hb : b.length = 64)
  (hm : Wk w0 wb w' ((p.D, p.box v d.act) :: (p.s, flat d.safe) :: (p.n, flat (d.now.set k b)) :: (p.f, bls d.faults) :: c.L) (⟨158, 65, v, (d.held ++ [((k : Int).toNat, b)]).length, heldV (d.held ++ [((k : Int).toNat, b)])⟩ :: c.G) c.F) :
  DsK wb w0 w' p (d.wrote k b) c := by
 refine ⟨h.ok.wrote hh hb, h.N, h.hs, h.hn, h.hf, v, ?_⟩
 have e : (d.wrote k b).now = d.now.set k b := Dk.now_wrote d k b
 unfold PD.L
 rw [e]
 exact hm
set_option maxRecDepth 100000 in
set_option maxHeartbeats 4000000 in
theorem dk_write_kb (wb w0 w : World) (p : PD) (d : Dk) (c : Fr3) (a : Int) (A : Option Addr) (n cc : Nat) (b : List UInt8) (h : DsK wb w0 w p d c) (hb : (fun W => Bys W A n cc b) ∈ c.F) (hh : d.held.length ≤ 1000000) :
  Calls Tryz.prog 24 #[.pointer (some ⟨p.D, 0, none⟩), .int .i64 a, .slice A n cc] w fun e w' => e = .returned (.int .i64 (d.write a b).2) ∧ DsK wb w0 w' p (d.write a b).1 c := by
 have hbl : b.length = n := by
  obtain ⟨v, hm⟩ := h.mem
  have := (hm.fact _ hb).len
  rwa [bvs_length] at this
 by_cases hok : d.has a = true ∧ b.length = 64
 ·obtain ⟨ho1, ho2⟩ := hok
  obtain rfl : n = 64 := by omega
  by_cases hg : d.gone = true
  ·have e : d.write a b = (d.act, 3) := by unfold Dk.write; simp [ho1, ho2, hg]
   rw [e]
   have H := Lib.hid h
   have HG := Lib.hid hg
   have HO := Lib.hid ho1
   clear h hbl ho2 ho1 hg e
   go_enter Tryz.func24, Tryz.ntmps24
   go_wp2_with fail
   refine (dk_has_any w0 w p d c a H.out.toDsk).mono ?_
   rintro e w1 ⟨rfl, rfl⟩
   rw [HO.out]
   go_wp2_with fail
   refine (dk_act_kb wb w0 w p d c H.out).mono ?_
   rintro e w1 ⟨rfl, h1⟩
   rw [if_pos HG.out]
   have H1 := Lib.hid h1
   clear h1
   go_wp2
   go_ret
   exact ⟨rfl, H1.out⟩
  ·have e : d.write a b = (d.wrote a b, 0) := by unfold Dk.write; simp [ho1, ho2, hg]
   rw [e]
   have hN := h.N
   have hn := h.ok.n
   have hr : 0 ≤ a ∧ a < (p.N : Int) := by unfold Dk.has at ho1; simp only [decide_eq_true_eq] at ho1; omega
   obtain ⟨k, rfl⟩ : ∃ k : Nat, a = k := ⟨a.toNat, by omega⟩
   have hkN : k < p.N := by omega
   have H := Lib.hid h
   have HG := Lib.hid hg
   have HO := Lib.hid ho1
   have HB := Lib.hid hb
   have HN := Lib.hid hN
   have HL := Lib.hid ho2
   clear h hbl ho2 ho1 hg e hb hN hn
   go_enter Tryz.func24, Tryz.ntmps24
   go_wp2_with fail
   refine (dk_has_any w0 w p d c k H.out.toDsk).mono ?_
   rintro e w1 ⟨rfl, rfl⟩
   rw [HO.out]
   go_wp2_with fail
   refine (dk_act_kb wb w0 w p d c H.out).mono ?_
   rintro e w1 ⟨rfl, h1⟩
   rw [if_neg HG.out]
   obtain ⟨v, hm⟩ := h1.mem
   have hbx := hm.boxi 0 (p := p.D) (cs := p.box v d.act) rfl
   have c2 := hbx.cell 2 (by simp [PD.box])
   have c1 := hbx.cell 1 (by simp [PD.box])
   simp only [PD.box, List.getElem_cons_zero, List.getElem_cons_succ] at c1 c2
   have hby := hm.fact _ HB.out
   obtain ⟨g, o, rfl, _⟩ := hby.at_ (by omega)
   have hbw := build_write k b HL.out
   obtain ⟨ar, har⟩ : ∃ ar, (bvs b).toArray = ar := ⟨_, rfl⟩
   obtain ⟨ar2, har2⟩ : ∃ ar, (Value.int .i64 (k : Int) :: bvs b).toArray = ar := ⟨_, rfl⟩
   simp only [har, har2] at hbw
   have HBW := Lib.hid hbw
   have HAR := Lib.hid har
   have HAR2 := Lib.hid har2
   have har3 : ar2.toList = Value.int .i64 (k : Int) :: bvs b := by rw [← har2]
   have HAR3 := Lib.hid har3
   have hdl : d.act.held.length = d.held.length := rfl
   have hde : heldV d.act.held = heldV d.held := rfl
   rw [hdl, hde] at hm
   have HM := Lib.hid hm
   have hfl : (flat d.now).length = 64 * p.N := by rw [flat_length _ H.out.ok.now64, Dk.now_length, HN.out]
   have HFL := Lib.hid hfl
   have hfs := flat_set d.now H.out.ok.now64 k b (by rw [Dk.now_length, HN.out]; exact hkN) HL.out
   have HFS := Lib.hid hfs
   clear hfl hfs
   obtain ⟨i0, z0, hi0, hz0, hz1, hz2, hz3⟩ := write_parts
   have hone : ∀ u ∈ (Value.int .i64 (k : Int) :: bvs b), u.oneCell' = true := by
    intro u hu
    rcases List.mem_cons.1 hu with rfl | hu
    ·rfl
    ·exact bvs_one _ u hu
   have HON := Lib.hid hone
   have HD7 := Lib.hid HM.out.drew
   clear har har2 har3 hbw hm hbx hby h1 hdl hde hone HM c1 c2
   go_wp2_with fail
   refine wp_region_held_drew (S := fun w' => w'.cell? ⟨p.D, 1, none⟩ = some (.slice (some ⟨p.n, 0, none⟩) p.N p.cn) ∧ Bys w' (some ⟨g, o, none⟩) 64 cc b) (by kernel_rfl) ⟨by simpa [PD.box] using (HD7.out.boxi 0 (p := p.D) rfl).cell 1 (by simp [PD.box]), HD7.out.fact _ HB.out⟩ (fun hSw0 => ?_)
   generalize w1.drew = ws at *
   refine Kn.takeS 0 ⟨some 22, _, _, _, _, _⟩ ?_
   refine Kn.takeS 1 ⟨some 23, _, _, _, _, _⟩ ?_
   refine Kn.takeS 2 ⟨some 24, _, _, _, _, _⟩ ?_
   refine Kn.takeS 3 ⟨some 25, _, _, _, _, _⟩ ?_
   refine Kn.takeS 5 ⟨some 27, _, _, _, _, _⟩ ?_
   refine Kn.takeS 6 ⟨some 28, _, _, _, _, _⟩ ?_
   refine Kn.takeS 7 ⟨some 29, _, _, _, _, _⟩ (v := (.pointer (some ⟨g, o, none⟩))) (hy := fun w hSw => by
    exact exec_arr rfl rfl (arr_at (some ⟨g, o, none⟩) cc w)) ?_
   refine Kn.takeS 8 ⟨some 30, _, _, _, _, _⟩ (v := (.agg ar)) (hy := fun w hSw => by
    have hld := load_bytes hSw.2
    rw [HAR.out] at hld
    exact exec_load rfl rfl hld) ?_
   refine Kn.takeS 9 ⟨some 31, _, _, _, _, _⟩ (v := (.agg ar2)) (hy := fun w hSw => by
    exact exec_build (vs := #[(0, .int .i64 (k : Int)), (1, .agg ar)]) rfl (by kernel_rfl) (HBW.out w)) ?_
   refine wpAnyH_ready (rs := [4, 10]) (by kernel_rfl) (by simp) ?_
   refine AllReadyH.cons (o := ⟨some 26, _, _, _, _, _⟩) rfl (fun K hK => ?_) ?_
   ·have yq := (HD7.out.boxi 0 (p := p.D) rfl).cell 2 (by simp [PD.box])
    simp only [PD.box, List.getElem_cons_zero, List.getElem_cons_succ] at yq
    go_simp
    clear yq
    refine hK.out _ _ ⟨by simpa [PD.box] using (HD7.out.boxi 0 (p := p.D) rfl).cell 1 (by simp [PD.box]), HD7.out.fact _ HB.out⟩ (fun hSn => ?_)
    clear hK K hSw0
    have hSw0 := hSn
    clear hSn
    refine Kn.takeR 10 ⟨some 32, _, _, _, _, _⟩ fun K hK => ?_
    refine step_bslice_write rfl (.tmp 31) rfl (.int .i64 (k : Int) :: bvs b) (by simp [HL.out]) (by rw [HAR2.out]; rfl) ?_
    rw [HAR2.out]
    have HDb := Lib.hid (HD7.out.alloc (.cells ar2 158))
    have hnw := news_new ws ar2 158 (by rw [HAR3.out]; simp [HL.out, maxLen])
    rw [HAR3.out] at hnw
    have HNW := Lib.hid hnw
    clear hnw
    generalize hvz : ws.heap.size = vz at *
    generalize hvb : ws.alloc (.cells ar2 158) = vb at *
    clear hvb hvz
    refine hK.out _ _ ⟨by simpa [PD.box] using (HDb.out.boxi 0 (p := p.D) rfl).cell 1 (by simp [PD.box]), HDb.out.fact _ HB.out⟩ (fun hSn => ?_)
    clear hK K hSw0
    have hSw0 := hSn
    clear hSn
    refine Kn.takeR 11 ⟨some 33, _, _, _, _, _⟩ fun K hK => ?_
    have hbw := HDb.out.only.size
    refine step_append_own rfl (.tmp 26) (.tmp 32) 151 rfl w0.heap.size 158 i0 z0 65 72 Tryz.underlying151 hi0 hz0 hz1 hz2 hz3 (by decide) v d.held.length (heldV d.held) rfl (HDb.out.gi 0 rfl) ⟨vz, 0, none⟩ 1 1 (.int .i64 (k : Int) :: bvs b) rfl (by simp [HL.out]) HNW.out HON.out (by unfold maxLen; omega) (by omega) hbw ?_
    intro v5 w5 hown hgrow hat
    have hdd := HDb.out.gapp 0 rfl hown hgrow hat
    obtain ⟨A5, c5, rfl⟩ := hdd.gform 0 rfl
    have HDd := Lib.hid hdd
    have HDx := Lib.hid (DsK.app HDb.out hown hgrow hat (by omega))
    clear hdd hown hgrow hat hbw
    simp only [List.set_cons_zero] at HDd
    refine hK.out _ _ ⟨by simpa [PD.box] using (HDd.out.boxi 0 (p := p.D) rfl).cell 1 (by simp [PD.box]), HDd.out.fact _ HB.out⟩ (fun hSn => ?_)
    clear hK K hSw0
    have hSw0 := hSn
    clear hSn
    refine Kn.takeS 12 ⟨some 34, _, _, _, _, _⟩ ?_
    refine Kn.takeS 13 ⟨some 35, _, _, _, _, _⟩ ?_
    refine Kn.takeR 14 ⟨none, _, _, _, _, _⟩ fun K hK => ?_
    have hxb := HDd.out.boxi 0 (p := p.D) rfl
    have yq := hxb.cell 2 (by simp [PD.box])
    simp only [PD.box, List.getElem_cons_zero, List.getElem_cons_succ] at yq
    have fq := hxb.frozen 2
    go_simp
    clear yq fq hxb
    refine hK.out _ _ ⟨by simpa [PD.box] using (HDx.out.boxi 0 (p := p.D) rfl).cell 1 (by simp [PD.box]), HDx.out.fact _ HB.out⟩ (fun hSn => ?_)
    clear hK K hSw0
    have hSw0 := hSn
    clear hSn
    refine wpAnyH_done (by kernel_rfl) ?_ _
    clear hSw0 HDd
    have HDy := Lib.hid HDx.out.drew
    clear HDx
    go_wp2_with fail
    refine wp_region_held_drew (S := fun w' => w'.cell? ⟨p.D, 1, none⟩ = some (.slice (some ⟨p.n, 0, none⟩) p.N p.cn) ∧ Bys w' (some ⟨g, o, none⟩) 64 cc b) (by kernel_rfl) ⟨by simpa [PD.box] using (HDy.out.boxi 0 (p := p.D) rfl).cell 1 (by simp [PD.box]), HDy.out.fact _ HB.out⟩ (fun hSw0 => ?_)
    generalize (w5.setCell ⟨p.D, 2, none⟩ (.slice A5 (d.held.length + 1) c5)).drew = wt at *
    refine Kn.takeS 0 ⟨some 36, _, _, _, _, _⟩ ?_
    refine Kn.takeS 1 ⟨some 37, _, _, _, _, _⟩ ?_
    refine Kn.takeS 2 ⟨some 38, _, _, _, _, _⟩ ?_
    refine Kn.takeS 3 ⟨some 39, _, _, _, _, _⟩ ?_
    refine Kn.takeS 4 ⟨some 40, _, _, _, _, _⟩ ?_
    refine Kn.takeS 5 ⟨some 41, _, _, _, _, _⟩ ?_
    refine Kn.takeS 6 ⟨some 42, _, _, _, _, _⟩ (v := (.pointer (some ⟨g, o, none⟩))) (hy := fun w hSw => by
     exact exec_arr rfl rfl (arr_at (some ⟨g, o, none⟩) cc w)) ?_
    refine Kn.takeS 7 ⟨some 43, _, _, _, _, _⟩ (v := (.agg ar)) (hy := fun w hSw => by
     have hld := load_bytes hSw.2
     rw [HAR.out] at hld
     exact exec_load rfl rfl hld) ?_
    refine Kn.takeS 8 ⟨some 44, _, _, _, _, _⟩ (v := (.pointer (some ⟨p.n, 64 * k, none⟩))) (hy := fun w hSw => by
     exact exec_index rfl rfl rfl (idx_block p.n p.N p.cn k hkN w)) ?_
    refine Kn.takeR 9 ⟨none, _, _, _, _, _⟩ fun K hK => ?_
    refine step_store_part rfl 156 (.tmp 44) (.tmp 43) rfl p.n (64 * k) (flat d.now) (bvs b) (by rw [bvs_length, HL.out]; exact size_block) rfl (by rw [HAR.out]; rfl) (HDy.out.boxi 2 rfl) (by rw [bvs_length, HL.out, HFL.out]; omega) (bvs_one _) ?_
    intro w6 hown hO6
    rw [bvs_length, HL.out, ← HFS.out] at hown
    have HDz := Lib.hid (HDy.out.call1 2 rfl hown hO6)
    clear hown hO6 HDy
    refine hK.out _ _ ⟨by simpa [PD.box] using (HDz.out.boxi 0 (p := p.D) rfl).cell 1 (by simp [PD.box]), HDz.out.fact _ HB.out⟩ (fun hSn => ?_)
    clear hK K hSw0
    have hSw0 := hSn
    clear hSn
    refine wpAnyH_done (by kernel_rfl) ?_ _
    clear hSw0
    have HE := Lib.hid (H.out.wroteMk HO.out HL.out HDz.out)
    clear HDz
    go_wp2
    go_ret
    exact ⟨rfl, HE.out⟩
   refine AllReadyH.cons (o := ⟨some 32, _, _, _, _, _⟩) rfl (fun K hK => ?_) ?_
   ·refine step_bslice_write rfl (.tmp 31) rfl (.int .i64 (k : Int) :: bvs b) (by simp [HL.out]) (by rw [HAR2.out]; rfl) ?_
    rw [HAR2.out]
    have HDb := Lib.hid (HD7.out.alloc (.cells ar2 158))
    have hnw := news_new ws ar2 158 (by rw [HAR3.out]; simp [HL.out, maxLen])
    rw [HAR3.out] at hnw
    have HNW := Lib.hid hnw
    clear hnw
    generalize hvz : ws.heap.size = vz at *
    generalize hvb : ws.alloc (.cells ar2 158) = vb at *
    clear hvb hvz
    refine hK.out _ _ ⟨by simpa [PD.box] using (HDb.out.boxi 0 (p := p.D) rfl).cell 1 (by simp [PD.box]), HDb.out.fact _ HB.out⟩ (fun hSn => ?_)
    clear hK K hSw0
    have hSw0 := hSn
    clear hSn
    refine Kn.takeR 4 ⟨some 26, _, _, _, _, _⟩ fun K hK => ?_
    have yq := (HDb.out.boxi 0 (p := p.D) rfl).cell 2 (by simp [PD.box])
    simp only [PD.box, List.getElem_cons_zero, List.getElem_cons_succ] at yq
    go_simp
    clear yq
    refine hK.out _ _ ⟨by simpa [PD.box] using (HDb.out.boxi 0 (p := p.D) rfl).cell 1 (by simp [PD.box]), HDb.out.fact _ HB.out⟩ (fun hSn => ?_)
    clear hK K hSw0
    have hSw0 := hSn
    clear hSn
    refine Kn.takeR 11 ⟨some 33, _, _, _, _, _⟩ fun K hK => ?_
    have hbw := HDb.out.only.size
    refine step_append_own rfl (.tmp 26) (.tmp 32) 151 rfl w0.heap.size 158 i0 z0 65 72 Tryz.underlying151 hi0 hz0 hz1 hz2 hz3 (by decide) v d.held.length (heldV d.held) rfl (HDb.out.gi 0 rfl) ⟨vz, 0, none⟩ 1 1 (.int .i64 (k : Int) :: bvs b) rfl (by simp [HL.out]) HNW.out HON.out (by unfold maxLen; omega) (by omega) hbw ?_
    intro v5 w5 hown hgrow hat
    have hdd := HDb.out.gapp 0 rfl hown hgrow hat
    obtain ⟨A5, c5, rfl⟩ := hdd.gform 0 rfl
    have HDd := Lib.hid hdd
    have HDx := Lib.hid (DsK.app HDb.out hown hgrow hat (by omega))
    clear hdd hown hgrow hat hbw
    simp only [List.set_cons_zero] at HDd
    refine hK.out _ _ ⟨by simpa [PD.box] using (HDd.out.boxi 0 (p := p.D) rfl).cell 1 (by simp [PD.box]), HDd.out.fact _ HB.out⟩ (fun hSn => ?_)
    clear hK K hSw0
    have hSw0 := hSn
    clear hSn
    refine Kn.takeS 12 ⟨some 34, _, _, _, _, _⟩ ?_
    refine Kn.takeS 13 ⟨some 35, _, _, _, _, _⟩ ?_
    refine Kn.takeR 14 ⟨none, _, _, _, _, _⟩ fun K hK => ?_
    have hxb := HDd.out.boxi 0 (p := p.D) rfl
    have yq := hxb.cell 2 (by simp [PD.box])
    simp only [PD.box, List.getElem_cons_zero, List.getElem_cons_succ] at yq
    have fq := hxb.frozen 2
    go_simp
    clear yq fq hxb
    refine hK.out _ _ ⟨by simpa [PD.box] using (HDx.out.boxi 0 (p := p.D) rfl).cell 1 (by simp [PD.box]), HDx.out.fact _ HB.out⟩ (fun hSn => ?_)
    clear hK K hSw0
    have hSw0 := hSn
    clear hSn
    refine wpAnyH_done (by kernel_rfl) ?_ _
    clear hSw0 HDd
    have HDy := Lib.hid HDx.out.drew
    clear HDx
    go_wp2_with fail
    refine wp_region_held_drew (S := fun w' => w'.cell? ⟨p.D, 1, none⟩ = some (.slice (some ⟨p.n, 0, none⟩) p.N p.cn) ∧ Bys w' (some ⟨g, o, none⟩) 64 cc b) (by kernel_rfl) ⟨by simpa [PD.box] using (HDy.out.boxi 0 (p := p.D) rfl).cell 1 (by simp [PD.box]), HDy.out.fact _ HB.out⟩ (fun hSw0 => ?_)
    generalize (w5.setCell ⟨p.D, 2, none⟩ (.slice A5 (d.held.length + 1) c5)).drew = wt at *
    refine Kn.takeS 0 ⟨some 36, _, _, _, _, _⟩ ?_
    refine Kn.takeS 1 ⟨some 37, _, _, _, _, _⟩ ?_
    refine Kn.takeS 2 ⟨some 38, _, _, _, _, _⟩ ?_
    refine Kn.takeS 3 ⟨some 39, _, _, _, _, _⟩ ?_
    refine Kn.takeS 4 ⟨some 40, _, _, _, _, _⟩ ?_
    refine Kn.takeS 5 ⟨some 41, _, _, _, _, _⟩ ?_
    refine Kn.takeS 6 ⟨some 42, _, _, _, _, _⟩ (v := (.pointer (some ⟨g, o, none⟩))) (hy := fun w hSw => by
     exact exec_arr rfl rfl (arr_at (some ⟨g, o, none⟩) cc w)) ?_
    refine Kn.takeS 7 ⟨some 43, _, _, _, _, _⟩ (v := (.agg ar)) (hy := fun w hSw => by
     have hld := load_bytes hSw.2
     rw [HAR.out] at hld
     exact exec_load rfl rfl hld) ?_
    refine Kn.takeS 8 ⟨some 44, _, _, _, _, _⟩ (v := (.pointer (some ⟨p.n, 64 * k, none⟩))) (hy := fun w hSw => by
     exact exec_index rfl rfl rfl (idx_block p.n p.N p.cn k hkN w)) ?_
    refine Kn.takeR 9 ⟨none, _, _, _, _, _⟩ fun K hK => ?_
    refine step_store_part rfl 156 (.tmp 44) (.tmp 43) rfl p.n (64 * k) (flat d.now) (bvs b) (by rw [bvs_length, HL.out]; exact size_block) rfl (by rw [HAR.out]; rfl) (HDy.out.boxi 2 rfl) (by rw [bvs_length, HL.out, HFL.out]; omega) (bvs_one _) ?_
    intro w6 hown hO6
    rw [bvs_length, HL.out, ← HFS.out] at hown
    have HDz := Lib.hid (HDy.out.call1 2 rfl hown hO6)
    clear hown hO6 HDy
    refine hK.out _ _ ⟨by simpa [PD.box] using (HDz.out.boxi 0 (p := p.D) rfl).cell 1 (by simp [PD.box]), HDz.out.fact _ HB.out⟩ (fun hSn => ?_)
    clear hK K hSw0
    have hSw0 := hSn
    clear hSn
    refine wpAnyH_done (by kernel_rfl) ?_ _
    clear hSw0
    have HE := Lib.hid (H.out.wroteMk HO.out HL.out HDz.out)
    clear HDz
    go_wp2
    go_ret
    exact ⟨rfl, HE.out⟩
   exact AllReadyH.nil
 ·have e : d.write a b = (d, 1) := by
   unfold Dk.write
   rw [if_neg]
   simp only [Bool.and_eq_true, decide_eq_true_eq]
   exact hok
  rw [e]
  have H := Lib.hid h
  by_cases ho1 : d.has a = true
  ·have hn : ((n : Int) == 64) = false := by
    have : ¬ n = 64 := fun h => hok ⟨ho1, by omega⟩
    simp; omega
   have hn2 : ((n : Int) != 64) = true := by simpa using hn
   have HO := Lib.hid ho1
   clear h hbl hok ho1 e
   go_enter Tryz.func24, Tryz.ntmps24
   go_wp2_with fail
   refine (dk_has_any w0 w p d c a H.out.toDsk).mono ?_
   rintro e w1 ⟨rfl, rfl⟩
   rw [HO.out]
   go_wp2
   go_ret
   exact ⟨rfl, H.out⟩
  ·rw [Bool.not_eq_true] at ho1
   have HO := Lib.hid ho1
   clear h hbl hok ho1 e
   go_enter Tryz.func24, Tryz.ntmps24
   go_wp2_with fail
   refine (dk_has_any w0 w p d c a H.out.toDsk).mono ?_
   rintro e w1 ⟨rfl, rfl⟩
   rw [HO.out]
   go_wp2
   go_ret
   exact ⟨rfl, H.out⟩
theorem duo_write_kb {w0 w : World} {p : PD} {r : RD} {d e : Dk} {c : Fr3} (h : Duo w0 w p r d e c) (a : Int) (A : Option Addr) (n cc : Nat) (b : List UInt8) (hb : (fun W => Bys W A n cc b) ∈ c.F) (hh : d.held.length ≤ 1000000) :
  Calls Tryz.prog 24 #[.pointer (some ⟨p.D, 0, none⟩), .int .i64 a, .slice A n cc] w fun en w' => en = .returned (.int .i64 (d.write a b).2) ∧ Duo w0 w' p r (d.write a b).1 e c ∧ Kb w.heap.size w w' := by
 obtain ⟨c1, hF, hP, back⟩ := h.ofP
 refine (dk_write_kb w w0 w p d c1 a A n cc b (DsK.start hP) (hF _ hb) hh).mono ?_
 rintro en w1 ⟨rfl, h1⟩
 exact ⟨rfl, back _ _ h1.toDsk, h1.kb⟩
end Go.Proofs.YtgcfdjcpcclcjaaGreat
namespace Go.Kn
open Go Go.RowKit
theorem seqW_cons (x : List UInt8) (xs : List (List UInt8)) (d : Dk) (a : Int) : seqW d a (x :: xs) = if (d.write a x).2 = 0 then seqW (d.write a x).1 (a + 1) xs else d.write a x := rfl
theorem seqW_ok : ∀ (xs ys : List (List UInt8)) (d d' : Dk) (a : Int), seqW d a xs = (d', 0) → seqW d a (xs ++ ys) = seqW d' (a + xs.length) ys
 | [], ys, d, d', a, h => by
  injection h with h1
  subst h1
  simp
 | x :: xs, ys, d, d', a, h => by
  rw [seqW_cons] at h
  rw [List.cons_append, seqW_cons]
  by_cases he : (d.write a x).2 = 0
  ·rw [if_pos he] at h ⊢
   rw [seqW_ok xs ys _ _ _ h, show a + 1 + (xs.length : Int) = a + ((x :: xs).length : Int) from by rw [List.length_cons]; omega]
  ·rw [if_neg he] at h
   rw [h] at he
   exact absurd rfl he
theorem seqW_err (x : List UInt8) (xs : List (List UInt8)) (d : Dk) (a : Int) (h : (d.write a x).2 ≠ 0) : seqW d a (x :: xs) = d.write a x := by
 rw [seqW_cons, if_neg h]
theorem seqW_go (x : List UInt8) (xs : List (List UInt8)) (d d' : Dk) (a : Int) (h : d.write a x = (d', 0)) : seqW d a (x :: xs) = seqW d' (a + 1) xs := by
 rw [seqW_cons, h, if_pos rfl]
theorem write_held (d : Dk) (a : Int) (b : List UInt8) : (d.write a b).1.held.length ≤ d.held.length + 1 := by
 unfold Dk.write
 split
 ·split
  ·exact Nat.le_succ _
  ·show (d.held ++ [_]).length ≤ _
   simp
 ·exact Nat.le_succ _
theorem seqW_held : ∀ (xs : List (List UInt8)) (d : Dk) (a : Int), (seqW d a xs).1.held.length ≤ d.held.length + xs.length
 | [], d, a => Nat.le_refl _
 | x :: xs, d, a => by
  rw [seqW_cons]
  have h1 := write_held d a x
  split
  ·have h2 := seqW_held xs (d.write a x).1 (a + 1)
   rw [List.length_cons]
   omega
  ·rw [List.length_cons]
   omega
theorem rows64_len (b : List UInt8) (n : Nat) : (rows64 b n).length = n := by unfold rows64; simp
theorem rows64_get (b : List UInt8) (n i : Nat) (h : i < (rows64 b n).length) : (rows64 b n)[i] = (b.drop (64 * i)).take 64 := by
 have hn : i < n := by rwa [rows64_len] at h
 have h1 : (rows64 b n)[i]? = some ((b.drop (64 * i)).take 64) := by
  unfold rows64
  rw [List.getElem?_map, List.getElem?_range hn]
  rfl
 rw [List.getElem?_eq_getElem h] at h1
 exact Option.some.inj h1
theorem rows64_split (b : List UInt8) (n i : Nat) (h : i < n) : rows64 b n = (rows64 b n).take i ++ ((b.drop (64 * i)).take 64) :: (rows64 b n).drop (i + 1) := by
 have hl : i < (rows64 b n).length := by rw [rows64_len]; exact h
 have h1 := (List.take_append_drop i (rows64 b n)).symm
 rw [List.drop_eq_getElem_cons hl] at h1
 have h2 : (rows64 b n)[i] = (b.drop (64 * i)).take 64 := rows64_get b n i hl
 rw [h2] at h1
 exact h1
theorem rows64_take (b : List UInt8) (n i : Nat) (h : i < n) : (rows64 b n).take (i + 1) = (rows64 b n).take i ++ [(b.drop (64 * i)).take 64] := by
 have hl : i < (rows64 b n).length := by rw [rows64_len]; exact h
 rw [List.take_succ_eq_append_getElem hl]
 have h2 : (rows64 b n)[i] = (b.drop (64 * i)).take 64 := rows64_get b n i hl
 rw [h2]
end Go.Kn
namespace Go.Proofs.YtgcfdjcpcclcjaaGreat
open Go Go.RowKit Go.Kn
theorem Bys.chunk0 {w : World} {g n c i : Nat} {b : List UInt8} (h : Bys w (some ⟨g, 0, none⟩) n c b) (hi : 64 * i + 64 ≤ n) : Bys w (some ⟨g, 64 * i, none⟩) 64 64 ((b.drop (64 * i)).take 64) := by
 have h1 := Bys.chunk h hi
 rw [cutA_at (n := n) (by omega) h.le] at h1
 exact ⟨h1.len, Nat.le_refl _, by decide, h1.at_⟩
structure DuK (wb w0 w : World) (p : PD) (r : RD) (d e : Dk) (c : Fr3) : Prop extends Duo w0 w p r d e c where
 kb : Kb wb.heap.size wb w
section
variable {wb w0 w w' : World} {p : PD} {r : RD} {d d' e e' : Dk} {c c' : Fr3} {L L' : List (Nat × List Value)} {G : List Gs} {F : List (World → Prop)}
theorem DuK.start (h : Duo w0 w p r d e c) : DuK w w0 w p r d e c := ⟨h, Kb.refl _ _⟩
theorem DuK.sz (h : DuK wb w0 w p r d e c) : wb.heap.size ≤ w.heap.size := h.kb.size
theorem DuK.same (h : DuK wb w0 w p r d e c) (g : Duo w0 w p r d e c') : DuK wb w0 w p r d e c' := ⟨g, h.kb⟩
theorem DuK.to (h : DuK wb w0 w p r d e c) (g : Duo w0 w' p r d' e' c') (hk : Kb w.heap.size w w') : DuK wb w0 w' p r d' e' c' := ⟨g, h.kb.trans (hk.mono h.kb.size)⟩
theorem DuK.keep0 (h : DuK wb w0 w p r d e c) (hO : Only [] w w') : DuK wb w0 w' p r d e c := h.to (h.toDuo.keep0 hO) (kb_only0 hO)
theorem DuK.drew (h : DuK wb w0 w p r d e c) : DuK wb w0 w.drew p r d e c := h.keep0 (Only.refl _ _).drew
theorem DuK.newB (h : DuK wb w0 w p r d e c) (cs : Array Value) (t : TypeId) {b : Nat} (hb : w.heap.size = b) : DuK wb w0 (w.alloc (.cells cs t)) p r d e ⟨(b, cs.toList) :: c.L, c.G, c.F⟩ := h.to (h.toDuo.newB cs t hb) (kb_only0 ((Only.refl _ _).alloc _))
theorem DuK.put (h : DuK wb w0 w p r d e ⟨L, G, F⟩) (i : Nat) {b : Nat} {cs : List Value} (hi : L[i]? = some (b, cs)) (j : Nat) (u : Value) : DuK wb w0 (w.setCell ⟨b, j, none⟩ u) p r d e ⟨L.set i (b, cs.set j u), G, F⟩ :=
 h.to (h.toDuo.put i hi j u) (Kb.of_only ((Only.refl [b] w).set (.inl (by simp)) u) (by
  intro k hk o hq
  rw [List.mem_singleton] at hk
  subst hk
  exact (h.toDuo.boxi i (x := (_, cs)) hi).isCells o hq))
theorem DuK.permL (h : DuK wb w0 w p r d e ⟨L, G, F⟩) (hL : L.Perm L') : DuK wb w0 w p r d e ⟨L', G, F⟩ := h.same (h.toDuo.permL hL)
theorem DuK.ldrop {x : Nat × List Value} (h : DuK wb w0 w p r d e ⟨x :: L, G, F⟩) : DuK wb w0 w p r d e ⟨L, G, F⟩ := h.same h.toDuo.ldrop
theorem Duo.putObj (h : Duo w0 w p r d e c) {D : Nat} {o : Obj} (o' : Obj) (hD : w.heap[D]? = some o) (ho : o.isCells = false) (hw : w0.heap.size ≤ D) : Duo w0 (w.putObj D o') p r d e c := by
 obtain ⟨L0, G0, F0, hm, back⟩ := h.fr
 exact back _ c (hm.putObj o' hD ho hw)
end
set_option maxHeartbeats 4000000 in
theorem us_touch_kb (wb w0 w : World) (p : TD) (t : Tb) (s x : Int) (L : List (Nat × List Value)) (G : List Gs) (F : List (World → Prop)) (hw : Wk w0 wb w (p.L t L) G F) (ht : t.Ok p.n) (hn : p.n ≤ 1000) :
  Calls Tryz.prog 174 #[.pointer (some ⟨p.T, 0, none⟩), .int .i64 s, .int .i64 x] w fun e w' => e = .returned (.tuple #[]) ∧ Wk w0 wb w' (p.L (t.touch s x) L) G F := by
 have HW := Lib.hid hw
 have HO := Lib.hid ht
 clear hw ht
 have HT : Hid (Kn.Own w p.T p.box) := Lib.hid (HW.out.boxi 0 rfl)
 have c1 : w.cell? ⟨p.T, 1, none⟩ = some (.slice (some ⟨p.u, 0, none⟩) p.n p.n) := HT.out.cellv 1
 have lt := HT.out.lt
 by_cases hs : 0 ≤ s ∧ s < (p.n : Int)
 ·obtain ⟨s, rfl⟩ : ∃ k : Nat, s = k := ⟨s.toNat, by omega⟩
  have hsl : s < t.us.length := by rw [HO.out.u]; omega
  have c0 := (us_cell (HW.out.boxi 1 rfl) hsl).2
  have z0 := (HW.out.boxi 1 rfl).frozen (s * 2 + 1)
  have l0 := (HW.out.boxi 1 rfl).lt
  have hsn : (s : Int) < (p.n : Int) := hs.2
  have hd := decide_eq_true hs
  have hgr : t.has (s : Int) = true := by rw [tb_has HO.out, hd]
  have HGR := Lib.hid hgr
  clear hgr hs
  go_enter Tryz.func174, Tryz.ntmps174
  go_wp2_with fail
  refine (us_has_any _ p s HT.out hn).mono ?_
  rintro e w2 ⟨rfl, rfl⟩
  rw [hd]
  have no : ¬ (0 ≤ x ∧ x ≤ 2147483647) → t.touch (s : Int) x = t := fun h => by unfold Tb.touch; rw [decide_eq_false h, Bool.and_false]; simp
  have HNO := Lib.hid no
  clear no
  by_cases h0 : 0 ≤ x
  ·by_cases h1 : x ≤ 2147483647
   ·have hgb : t.touch (s : Int) x = ⟨t.us.set s ⟨t.us[s].st, x⟩, t.live⟩ := by unfold Tb.touch; rw [HGR.out, decide_eq_true ⟨h0, h1⟩, if_pos (by rfl), us_get hsl, Int.toNat_natCast]
    have hu1 : (usV t.us).set (s * 2 + 1) (.int .i64 x) = usV (t.us.set s ⟨t.us[s].st, x⟩) := usV_set t.us s 1 ⟨t.us[s].st, x⟩ _ hsl (by decide) (by rw [List.getD_eq_getElem?_getD, List.getElem?_eq_getElem hsl]; rfl)
    have hf := HW.out.put 1 rfl (s * 2 + 1) (.int .i64 x)
    simp only [List.set_cons_zero, List.set_cons_succ, hu1] at hf
    have HF := Lib.hid hf
    have HGB := Lib.hid hgb
    clear hgb hu1 hf
    go_wp2
    refine bodyPost_end (results_none rfl _ _ _) rfl ⟨rfl, ?_⟩
    rw [HGB.out]
    exact HF.out
   ·go_wp2
    refine bodyPost_end (results_none rfl _ _ _) rfl ⟨rfl, ?_⟩
    rw [HNO.out (by omega)]
    exact HW.out
  ·go_wp2
   refine bodyPost_end (results_none rfl _ _ _) rfl ⟨rfl, ?_⟩
   rw [HNO.out (by omega)]
   exact HW.out
 ·have hd := decide_eq_false hs
  have hgb : t.touch s x = t := by unfold Tb.touch; rw [tb_has HO.out, hd]; simp
  have HGB := Lib.hid hgb
  clear hgb hs
  go_enter Tryz.func174, Tryz.ntmps174
  go_wp2_with fail
  refine (us_has_any _ p s HT.out hn).mono ?_
  rintro e w2 ⟨rfl, rfl⟩
  rw [hd]
  go_wp2
  refine bodyPost_end (results_none rfl _ _ _) rfl ⟨rfl, ?_⟩
  rw [HGB.out]
  exact HW.out
theorem duo_touch_kb {wb w0 w : World} {p : PD} {r : RD} {d e : Dk} {q : TD} {t : Tb} {L : List (Nat × List Value)} {G : List Gs} {F : List (World → Prop)} (s x : Int) (h : DuK wb w0 w p r d e ⟨q.L t L, G, F⟩) (ht : t.Ok q.n) (hn : q.n ≤ 1000) :
  Calls Tryz.prog 174 #[.pointer (some ⟨q.T, 0, none⟩), .int .i64 s, .int .i64 x] w fun en w' => en = .returned (.tuple #[]) ∧ DuK wb w0 w' p r d e ⟨q.L (t.touch s x) L, G, F⟩ := by
 obtain ⟨L0, G0, F0, hw, back⟩ := h.toDuo.fr
 refine (us_touch_kb w w0 w q t s x (L ++ L0) (G ++ G0) (F ++ F0) (Wk.start hw) ht hn).mono ?_
 rintro en w1 ⟨rfl, h1⟩
 exact ⟨rfl, h.to (back w1 ⟨q.L (t.touch s x) L, G, F⟩ h1.toWc) h1.kb⟩
/-- a frame that the way back to both disks is known of -/
def WrBack (w0 : World) (p : PD) (r : RD) (d e : Dk) (L : List (Nat × List Value)) (G : List Gs) (F : List (World → Prop)) (c : Fr3) : Prop := ∃ L0 G0 F0, c = ⟨L ++ L0, G ++ G0, F ++ F0⟩ ∧ ∀ w' (c' : Fr3), Wc w0 w' (c'.L ++ L0) (c'.G ++ G0) (c'.F ++ F0) → Duo w0 w' p r d e c'
theorem Duo.at3 {w0 w : World} {p : PD} {r : RD} {d e : Dk} {X L : List (Nat × List Value)} {G : List Gs} {F : List (World → Prop)} (h : Duo w0 w p r d e ⟨X ++ L, G, F⟩) : ∃ c, WrBack w0 p r d e L G F c ∧ At3 w0 w ⟨X, [], []⟩ c := by
 obtain ⟨L0, G0, F0, hw, back⟩ := h.fr
 refine ⟨⟨L ++ L0, G ++ G0, F ++ F0⟩, ⟨L0, G0, F0, rfl, back⟩, ?_⟩
 show Wc w0 w (X ++ (L ++ L0)) ([] ++ (G ++ G0)) ([] ++ (F ++ F0))
 have : Wc w0 w ((X ++ L) ++ L0) (G ++ G0) (F ++ F0) := hw
 rw [List.append_assoc] at this
 exact this
theorem WrBack.duo {w0 w : World} {p : PD} {r : RD} {d e : Dk} {X L : List (Nat × List Value)} {G : List Gs} {F : List (World → Prop)} {c : Fr3} (hb : WrBack w0 p r d e L G F c) (ha : At3 w0 w ⟨X, [], []⟩ c) : Duo w0 w p r d e ⟨X ++ L, G, F⟩ := by
 obtain ⟨L0, G0, F0, rfl, back⟩ := hb
 refine back w ⟨X ++ L, G, F⟩ ?_
 have : Wc w0 w (X ++ (L ++ L0)) ([] ++ (G ++ G0)) ([] ++ (F ++ F0)) := ha
 show Wc w0 w ((X ++ L) ++ L0) (G ++ G0) (F ++ F0)
 rw [List.append_assoc]
 exact this
end Go.Proofs.YtgcfdjcpcclcjaaGreat
namespace Go.Kn
open Go Go.RowKit
/-- a record at the place: the disk, the table, the place, the error -/
def writeW (d : Dk) (t : Tb) (c : Cf) (q : Ps) (its : List It) (bl : List (List UInt8)) : Dk × Tb × Ps × Int :=
 match encRc ⟨q.m, q.l, q.p, its, bl⟩ with
 | none => (d, t, q, 1)
 | some (b, s) =>
  if (seqW d (c.at_ q.s + q.o) (rows64 b (b.length / 64))).2 = 0 then ((seqW d (c.at_ q.s + q.o) (rows64 b (b.length / 64))).1, t.touch q.s q.l, ⟨q.s, behind q.o bl.length, q.l + 1, (s : Nat), q.m⟩, 0)
  else ((seqW d (c.at_ q.s + q.o) (rows64 b (b.length / 64))).1, t, q, (seqW d (c.at_ q.s + q.o) (rows64 b (b.length / 64))).2)
theorem write_W (c : Cf) (w : Wr) (its : List It) (bl : List (List UInt8)) : w.write c its bl = ({ w with d := (writeW w.d w.t c w.p its bl).1, t := (writeW w.d w.t c w.p its bl).2.1, p := (writeW w.d w.t c w.p its bl).2.2.1 }, (writeW w.d w.t c w.p its bl).2.2.2) := by
 unfold Wr.write writeW
 cases encRc ⟨w.p.m, w.p.l, w.p.p, its, bl⟩ with
 | none => rfl
 | some x =>
  obtain ⟨b, s⟩ := x
  simp only
  split <;> rfl
end Go.Kn
namespace Go.Proofs.YtgcfdjcpcclcjaaGreat
open Go Go.RowKit Go.Kn Go.Shelf
attribute [local go_sem] Oper.semAt_some
/-- what the range over a record's rows keeps -/
def WrJ (w0 : World) (p : PD) (r : RD) (d e : Dk) (a0 : Int) (rows : List (List UInt8)) (f10 f6 : Nat) (L : List (Nat × List Value)) (G : List Gs) (F : List (World → Prop)) : Option Code → List Nat → Fr3 → World → Prop
 | none, pre, c, _ => ∃ d', seqW d a0 (rows.take pre.length) = (d', 0) ∧ WrBack w0 p r d' e ((f10, [.int .i64 (a0 + (pre.length : Int))]) :: (f6, [.int .i64 0]) :: L) G F c
 | some cd, _, c, _ => cd = .ret ∧ ∃ d' er v, er ≠ 0 ∧ seqW d a0 rows = (d', er) ∧ WrBack w0 p r d' e ((f10, [v]) :: (f6, [.int .i64 er]) :: L) G F c
set_option maxRecDepth 100000 in
set_option maxHeartbeats 16000000 in
theorem wr_write_any (w0 w : World) (p : PD) (r : RD) (d e : Dk) (W gb : Nat) (q : TD) (t : Tb) (ps : Ps) (vi vb : Value) (cf : Cf) (its : List It) (bl : List (List UInt8)) (A B : Option Addr) (na ca nb cb : Nat) (L : List (Nat × List Value)) (G : List Gs) (F : List (World → Prop))
  (h : Duo w0 w p r d e ⟨(W, (WB p.D gb q.T ps vi vb)) :: q.L t L, G, F⟩) (hg : (fun W => GeoAt W gb cf.b cf.s cf.l) ∈ F) (hc : cf.Ok) (ht : t.Ok q.n) (hqn : q.n ≤ 1000) (hi : Its w A na ca its) (hj : Blks w B nb cb bl) (hs : 0 ≤ ps.s ∧ ps.s ≤ cf.s - 1) (ho : 0 ≤ ps.o ∧ ps.o ≤ 100) (hl : -1000000000000 ≤ ps.l ∧ ps.l ≤ 1000000000000) (hh : d.held.length ≤ 900000) :
  Calls Tryz.prog 128 #[.pointer (some ⟨W, 0, none⟩), .slice A na ca, .slice B nb cb] w fun en w' => en = .returned (.int .i64 (writeW d t cf ps its bl).2.2.2) ∧ Duo w0 w' p r (writeW d t cf ps its bl).1 e ⟨(W, WB p.D gb q.T (writeW d t cf ps its bl).2.2.1 vi vb) :: q.L (writeW d t cf ps its bl).2.1 L, G, F⟩ := by
 have hres : Tryz.f128.results = #[.cell 6 48] := by kernel_rfl
 have HRES := Lib.hid hres
 have HG := Lib.hid hg
 have HC := Lib.hid hc
 have HT := Lib.hid ht
 have HI : Hid (∀ W', Only [] w W' → Its W' A na ca its) := Lib.hid (fun W' hO => hi.keep0 hO)
 have HJ : Hid (∀ W', Only [] w W' → Blks W' B nb cb bl) := Lib.hid (fun W' hO => hj.keep0 hO)
 have HNB := Lib.hid hj.len
 obtain ⟨s1, s2, s3⟩ := Cf.sec cf hc ps.s hs.1 hs.2
 have hcl := hc.2.2
 obtain ⟨a0, ha0⟩ : ∃ a, cf.at_ ps.s + ps.o = a := ⟨_, rfl⟩
 have hw0 : IntKind.i64.wrap (cf.at_ ps.s + ps.o) = a0 := by rw [ha0]; exact IntWalk.i64_in _ (by omega)
 have ha0b : 0 ≤ a0 ∧ a0 ≤ 100000 := by omega
 have HA0 := Lib.hid ha0
 have HHH := Lib.hid hh
 have hwl : IntKind.i64.wrap (ps.l + 1) = ps.l + 1 := IntWalk.i64_in _ (by omega)
 have hs1 : (w.alloc (.cells #[.pointer (some ⟨W, 0, none⟩)] 92)).heap.size = w.heap.size + 1 := by simp
 have H := Lib.hid ((h.newB #[.pointer (some ⟨W, 0, none⟩)] 92 rfl).newB #[.int .i64 0] 48 hs1)
 have hO1 : Only [] w (((w.alloc (.cells #[.pointer (some ⟨W, 0, none⟩)] 92)).alloc (.cells #[.int .i64 0] 48)).drew) := (((Only.refl _ _).alloc _).alloc _).drew
 have HO1 := Lib.hid hO1
 clear h hres hg hc ht hi hj ha0 hh hO1
 refine (callsIn_wide (n := 6)).1 (callsIn_of_wp_post Tryz.func128 rfl ?_)
 simp only [Tryz.ntmps128, List.size_toArray, List.length_cons, List.length_nil, Nat.reduceAdd, Nat.reduceSub, Array.replicate_succ, Array.replicate_zero, List.push_toArray, List.append_toArray, List.nil_append, List.cons_append]
 refine wpIn_wide.2 ?_
 go_upto_region 1 with (fail)
 (try rw [hs1])
 generalize hz : (w.alloc (.cells #[.pointer (some ⟨W, 0, none⟩)] 92)).alloc (.cells #[.int .i64 0] 48) = w1 at *
 clear hz hs1
 generalize w.heap.size = f3 at *
 generalize f3 + 1 = f6 at *
 cases hen : encRc ⟨ps.m, ps.l, ps.p, its, bl⟩ with
 | none =>
  have HEN := Lib.hid hen
  have hww : writeW d t cf ps its bl = (d, t, ps, 1) := by unfold writeW; rw [hen]
  have HWW := Lib.hid hww
  clear hen hww
  have HY := Lib.hid H.out.drew
  clear H
  refine wp_region_held_drew (S := (fun w' => w'.cell? ⟨f3, 0, none⟩ = some (.pointer (some ⟨W, 0, none⟩)) ∧ Kn.Own w' W (WB p.D gb q.T ps vi vb))) (by kernel_rfl) ⟨own1 (HY.out.boxi 1 rfl), HY.out.boxi 2 rfl⟩ (fun hSw0 => ?_)
  generalize w1.drew = wz at *
  refine Kn.takeS 0 ⟨some 14, _, _, _, _, _⟩ (hQ := fun _ _ _ h => h.elim) (v := (.pointer (some ⟨W, 0, none⟩))) (hy := fun w hSw => by
   have q0 := hSw.1
   go_simp) ?_
  refine Kn.takeS 1 ⟨some 15, _, _, _, _, _⟩ (hQ := fun _ _ _ h => h.elim) ?_
  refine Kn.takeS 2 ⟨some 16, _, _, _, _, _⟩ (hQ := fun _ _ _ h => h.elim) ?_
  refine Kn.takeS 3 ⟨some 17, _, _, _, _, _⟩ (hQ := fun _ _ _ h => h.elim) ?_
  refine Kn.takeS 4 ⟨some 18, _, _, _, _, _⟩ (hQ := fun _ _ _ h => h.elim) (v := (.int .i64 ps.m)) (hy := fun w hSw => by
   have q0 := hSw.2.cellv 7
   go_simp) ?_
  refine Kn.takeS 5 ⟨some 19, _, _, _, _, _⟩ (hQ := fun _ _ _ h => h.elim) (v := (.pointer (some ⟨W, 0, none⟩))) (hy := fun w hSw => by
   have q0 := hSw.1
   go_simp) ?_
  refine Kn.takeS 6 ⟨some 20, _, _, _, _, _⟩ (hQ := fun _ _ _ h => h.elim) ?_
  refine Kn.takeS 7 ⟨some 21, _, _, _, _, _⟩ (hQ := fun _ _ _ h => h.elim) ?_
  refine Kn.takeS 8 ⟨some 22, _, _, _, _, _⟩ (hQ := fun _ _ _ h => h.elim) ?_
  refine Kn.takeS 9 ⟨some 23, _, _, _, _, _⟩ (hQ := fun _ _ _ h => h.elim) (v := (.int .i64 ps.l)) (hy := fun w hSw => by
   have q0 := hSw.2.cellv 5
   go_simp) ?_
  refine Kn.takeS 10 ⟨some 24, _, _, _, _, _⟩ (hQ := fun _ _ _ h => h.elim) (v := (.pointer (some ⟨W, 0, none⟩))) (hy := fun w hSw => by
   have q0 := hSw.1
   go_simp) ?_
  refine Kn.takeS 11 ⟨some 25, _, _, _, _, _⟩ (hQ := fun _ _ _ h => h.elim) ?_
  refine Kn.takeS 12 ⟨some 26, _, _, _, _, _⟩ (hQ := fun _ _ _ h => h.elim) ?_
  refine Kn.takeS 13 ⟨some 27, _, _, _, _, _⟩ (hQ := fun _ _ _ h => h.elim) ?_
  refine Kn.takeS 14 ⟨some 28, _, _, _, _, _⟩ (hQ := fun _ _ _ h => h.elim) (v := (.int .i64 ps.p)) (hy := fun w hSw => by
   have q0 := hSw.2.cellv 6
   go_simp) ?_
  refine Kn.takeS 15 ⟨some 29, _, _, _, _, _⟩ (hQ := fun _ _ _ h => h.elim) ?_
  refine Kn.takeS 16 ⟨some 30, _, _, _, _, _⟩ (hQ := fun _ _ _ h => h.elim) ?_
  refine Kn.takeS 17 ⟨some 31, _, _, _, _, _⟩ (hQ := fun _ _ _ h => h.elim) ?_
  refine Kn.takeR 18 ⟨some 32, _, _, _, _, _⟩ fun K hK => ?_
  go_simp
  refine (rec_enc_any ps.m ps.l ps.p A na ca its B nb cb bl _ (HI.out _ HO1.out) (HJ.out _ HO1.out)).mono ?_
  rintro en w2 hen
  rw [HEN.out] at hen
  obtain ⟨rfl, hO⟩ := EncRc.of_none hen
  have HY2 := Lib.hid (HY.out.keep0 hO)
  clear hen hO HY
  refine hK.out _ _ ⟨own1 (HY2.out.boxi 1 rfl), HY2.out.boxi 2 rfl⟩ (fun hSn => ?_)
  clear hK K hSw0
  have hSw0 := hSn
  clear hSn
  refine Kn.takeS 19 ⟨some 13, _, _, _, _, _⟩ (hQ := fun _ _ _ h => h.elim) ?_
  refine Kn.takeS 20 ⟨some 33, _, _, _, _, _⟩ (hQ := fun _ _ _ h => h.elim) ?_
  refine Kn.takeS 21 ⟨some 34, _, _, _, _, _⟩ (hQ := fun _ _ _ h => h.elim) ?_
  refine Kn.takeS 22 ⟨some 35, _, _, _, _, _⟩ (hQ := fun _ _ _ h => h.elim) ?_
  refine Kn.takeS 23 ⟨some 7, _, _, _, _, _⟩ (hQ := fun _ _ _ h => h.elim) ?_
  refine Kn.takeS 24 ⟨some 8, _, _, _, _, _⟩ (hQ := fun _ _ _ h => h.elim) ?_
  refine Kn.takeS 25 ⟨some 9, _, _, _, _, _⟩ (hQ := fun _ _ _ h => h.elim) ?_
  refine wpAnyH_done (by kernel_rfl) ?_ _
  clear hSw0
  have b6 := HY2.out.boxi 0 rfl
  have y0 := b6.cellv 0
  have z0 := b6.frozen 0
  have l0 := b6.lt
  have HE := Lib.hid ((HY2.out.put 0 rfl 0 (.int .i64 1)).ldrop.ldrop)
  clear b6
  go_wp2
  refine ⟨.int .i64 1, ?_, ?_⟩
  ·simp only [results, HRES.out]
   go_simp
  ·rw [HWW.out]; exact ⟨rfl, HE.out⟩
 | some x =>
  obtain ⟨b, sm⟩ := x
  have HEN := Lib.hid hen
  obtain ⟨hq1, hq2, hsm, hb64, hb6, hq3⟩ := enc_some hen
  have hb64' : b.length = 64 * (1 + bl.length) := hb64
  have hb6' : bl.length ≤ 6 := hb6
  obtain ⟨N, hN⟩ : ∃ N, b.length = N := ⟨_, rfl⟩
  obtain ⟨K, hK0⟩ : ∃ K, 1 + bl.length = K := ⟨_, rfl⟩
  have hNK : N = 64 * K := by omega
  have hK7 : 1 ≤ K ∧ K ≤ 7 := by omega
  have hdiv : b.length / 64 = K := by omega
  obtain ⟨d2, er, hsq⟩ : ∃ d2 er, seqW d a0 (rows64 b K) = (d2, er) := ⟨_, _, rfl⟩
  have HSQ := Lib.hid hsq
  have hww : writeW d t cf ps its bl = if er = 0 then (d2, t.touch ps.s ps.l, ⟨ps.s, behind ps.o bl.length, ps.l + 1, (sm : Nat), ps.m⟩, 0) else (d2, t, ps, er) := by
   unfold writeW
   rw [hen]
   simp only
   rw [hdiv, HA0.out, hsq]
  have HWW := Lib.hid hww
  have HSM := Lib.hid hsm
  have HN := Lib.hid hN
  have HNK := Lib.hid hNK
  have HKK := Lib.hid hK0
  obtain ⟨hK1, hK7⟩ := hK7
  clear hq1 hq2 hq3 hen hsm hb64 hb6 hb64' hb6' hN hNK hK0 hdiv hsq hww
  have HY := Lib.hid H.out.drew
  clear H
  refine wp_region_held_drew (S := (fun w' => w'.cell? ⟨f3, 0, none⟩ = some (.pointer (some ⟨W, 0, none⟩)) ∧ Kn.Own w' W (WB p.D gb q.T ps vi vb))) (by kernel_rfl) ⟨own1 (HY.out.boxi 1 rfl), HY.out.boxi 2 rfl⟩ (fun hSw0 => ?_)
  generalize w1.drew = wz at *
  refine Kn.takeS 0 ⟨some 14, _, _, _, _, _⟩ (hQ := fun _ _ _ h => h.elim) (v := (.pointer (some ⟨W, 0, none⟩))) (hy := fun w hSw => by
   have q0 := hSw.1
   go_simp) ?_
  refine Kn.takeS 1 ⟨some 15, _, _, _, _, _⟩ (hQ := fun _ _ _ h => h.elim) ?_
  refine Kn.takeS 2 ⟨some 16, _, _, _, _, _⟩ (hQ := fun _ _ _ h => h.elim) ?_
  refine Kn.takeS 3 ⟨some 17, _, _, _, _, _⟩ (hQ := fun _ _ _ h => h.elim) ?_
  refine Kn.takeS 4 ⟨some 18, _, _, _, _, _⟩ (hQ := fun _ _ _ h => h.elim) (v := (.int .i64 ps.m)) (hy := fun w hSw => by
   have q0 := hSw.2.cellv 7
   go_simp) ?_
  refine Kn.takeS 5 ⟨some 19, _, _, _, _, _⟩ (hQ := fun _ _ _ h => h.elim) (v := (.pointer (some ⟨W, 0, none⟩))) (hy := fun w hSw => by
   have q0 := hSw.1
   go_simp) ?_
  refine Kn.takeS 6 ⟨some 20, _, _, _, _, _⟩ (hQ := fun _ _ _ h => h.elim) ?_
  refine Kn.takeS 7 ⟨some 21, _, _, _, _, _⟩ (hQ := fun _ _ _ h => h.elim) ?_
  refine Kn.takeS 8 ⟨some 22, _, _, _, _, _⟩ (hQ := fun _ _ _ h => h.elim) ?_
  refine Kn.takeS 9 ⟨some 23, _, _, _, _, _⟩ (hQ := fun _ _ _ h => h.elim) (v := (.int .i64 ps.l)) (hy := fun w hSw => by
   have q0 := hSw.2.cellv 5
   go_simp) ?_
  refine Kn.takeS 10 ⟨some 24, _, _, _, _, _⟩ (hQ := fun _ _ _ h => h.elim) (v := (.pointer (some ⟨W, 0, none⟩))) (hy := fun w hSw => by
   have q0 := hSw.1
   go_simp) ?_
  refine Kn.takeS 11 ⟨some 25, _, _, _, _, _⟩ (hQ := fun _ _ _ h => h.elim) ?_
  refine Kn.takeS 12 ⟨some 26, _, _, _, _, _⟩ (hQ := fun _ _ _ h => h.elim) ?_
  refine Kn.takeS 13 ⟨some 27, _, _, _, _, _⟩ (hQ := fun _ _ _ h => h.elim) ?_
  refine Kn.takeS 14 ⟨some 28, _, _, _, _, _⟩ (hQ := fun _ _ _ h => h.elim) (v := (.int .i64 ps.p)) (hy := fun w hSw => by
   have q0 := hSw.2.cellv 6
   go_simp) ?_
  refine Kn.takeS 15 ⟨some 29, _, _, _, _, _⟩ (hQ := fun _ _ _ h => h.elim) ?_
  refine Kn.takeS 16 ⟨some 30, _, _, _, _, _⟩ (hQ := fun _ _ _ h => h.elim) ?_
  refine Kn.takeS 17 ⟨some 31, _, _, _, _, _⟩ (hQ := fun _ _ _ h => h.elim) ?_
  refine Kn.takeR 18 ⟨some 32, _, _, _, _, _⟩ fun K hK => ?_
  go_simp
  refine (rec_enc_any ps.m ps.l ps.p A na ca its B nb cb bl _ (HI.out _ HO1.out) (HJ.out _ HO1.out)).mono ?_
  rintro en w2 hen
  rw [HEN.out] at hen
  obtain ⟨g2, c2, rfl, hbc, hcm2, hg2, hown, hO⟩ := EncRc.of_some hen
  rw [HN.out] at hbc ⊢
  have HY2 := Lib.hid (HY.out.addFc hO (f := (fun W => Bys W (some ⟨g2, 0, none⟩) N c2 b)) (Row1.fc (Row1.of_Own hown (by rw [bvs_length, HN.out]) hbc hcm2) (fun _ a ha => by injection ha with ha; subst ha; exact Nat.not_lt.2 hg2)))
  have HBC := Lib.hid hbc
  clear hen hbc hcm2 hg2 hown hO HY HO1
  refine hK.out _ _ ⟨own1 (HY2.out.boxi 1 rfl), HY2.out.boxi 2 rfl⟩ (fun hSn => ?_)
  clear hK K hSw0
  have hSw0 := hSn
  clear hSn
  refine Kn.takeS 19 ⟨some 13, _, _, _, _, _⟩ (hQ := fun _ _ _ h => h.elim) ?_
  refine Kn.takeS 20 ⟨some 33, _, _, _, _, _⟩ (hQ := fun _ _ _ h => h.elim) ?_
  refine Kn.takeS 21 ⟨some 34, _, _, _, _, _⟩ (hQ := fun _ _ _ h => h.elim) ?_
  refine Kn.takeS 22 ⟨some 35, _, _, _, _, _⟩ (hQ := fun _ _ _ h => h.elim) ?_
  refine Kn.takeS 23 ⟨some 7, _, _, _, _, _⟩ (hQ := fun _ _ _ h => h.elim) ?_
  refine Kn.takeS 24 ⟨some 8, _, _, _, _, _⟩ (hQ := fun _ _ _ h => h.elim) ?_
  refine Kn.takeS 25 ⟨some 9, _, _, _, _, _⟩ (hQ := fun _ _ _ h => h.elim) ?_
  refine wpAnyH_done (by kernel_rfl) ?_ _
  clear hSw0
  go_wp2_with fail
  go_cut [10] from 13 (fun s10 wy => ∃ f10 : Nat, s10 = .pointer (some ⟨f10, 0, none⟩) ∧ Duo w0 wy p r d e ⟨(f10, [.int .i64 a0]) :: (f6, [.int .i64 0]) :: (f3, [.pointer (some ⟨W, 0, none⟩)]) :: (W, (WB p.D gb q.T ps vi vb)) :: (q.L t L), G, (fun W => Bys W (some ⟨g2, 0, none⟩) N c2 b) :: F⟩)
  case first =>
   have HZ := Lib.hid HY2.out.drew
   clear HY2
   refine wp_region_held_drew (S := (fun w' => w'.cell? ⟨f3, 0, none⟩ = some (.pointer (some ⟨W, 0, none⟩)) ∧ Kn.Own w' W (WB p.D gb q.T ps vi vb))) (by kernel_rfl) ⟨own1 (HZ.out.boxi 1 rfl), HZ.out.boxi 2 rfl⟩ (fun hSw0 => ?_)
   generalize w2.drew = wy2 at *
   refine Kn.takeS 0 ⟨some 39, _, _, _, _, _⟩ (hQ := fun _ _ _ h => h.elim) (v := (.pointer (some ⟨W, 0, none⟩))) (hy := fun w hSw => by
    have q0 := hSw.1
    go_simp) ?_
   refine Kn.takeS 1 ⟨some 40, _, _, _, _, _⟩ (hQ := fun _ _ _ h => h.elim) ?_
   refine Kn.takeS 2 ⟨some 41, _, _, _, _, _⟩ (hQ := fun _ _ _ h => h.elim) ?_
   refine Kn.takeS 3 ⟨some 42, _, _, _, _, _⟩ (hQ := fun _ _ _ h => h.elim) (v := (.pointer (some ⟨gb, 0, none⟩))) (hy := fun w hSw => by
    have q0 := hSw.2.cellv 1
    go_simp) ?_
   refine Kn.takeS 4 ⟨some 43, _, _, _, _, _⟩ (hQ := fun _ _ _ h => h.elim) (v := (.pointer (some ⟨W, 0, none⟩))) (hy := fun w hSw => by
    have q0 := hSw.1
    go_simp) ?_
   refine Kn.takeS 5 ⟨some 44, _, _, _, _, _⟩ (hQ := fun _ _ _ h => h.elim) ?_
   refine Kn.takeS 6 ⟨some 45, _, _, _, _, _⟩ (hQ := fun _ _ _ h => h.elim) ?_
   refine Kn.takeS 7 ⟨some 46, _, _, _, _, _⟩ (hQ := fun _ _ _ h => h.elim) ?_
   refine Kn.takeS 8 ⟨some 47, _, _, _, _, _⟩ (hQ := fun _ _ _ h => h.elim) (v := (.int .i64 ps.s)) (hy := fun w hSw => by
    have q0 := hSw.2.cellv 3
    go_simp) ?_
   refine Kn.takeS 10 ⟨some 49, _, _, _, _, _⟩ (hQ := fun _ _ _ h => h.elim) (v := (.pointer (some ⟨W, 0, none⟩))) (hy := fun w hSw => by
    have q0 := hSw.1
    go_simp) ?_
   refine Kn.takeS 11 ⟨some 50, _, _, _, _, _⟩ (hQ := fun _ _ _ h => h.elim) ?_
   refine Kn.takeS 12 ⟨some 51, _, _, _, _, _⟩ (hQ := fun _ _ _ h => h.elim) ?_
   refine Kn.takeS 13 ⟨some 52, _, _, _, _, _⟩ (hQ := fun _ _ _ h => h.elim) ?_
   refine Kn.takeS 14 ⟨some 53, _, _, _, _, _⟩ (hQ := fun _ _ _ h => h.elim) (v := (.int .i64 ps.o)) (hy := fun w hSw => by
    have q0 := hSw.2.cellv 4
    go_simp) ?_
   refine wpAnyH_ready (rs := [9, 16]) (by kernel_rfl) (by simp) ?_
   refine AllReadyH.cons (o := ⟨some 48, _, _, _, _, _⟩) rfl (fun K hK => ?_) ?_
   ·go_simp
    refine (geom_seg_any gb cf ps.s _ (HZ.out.fact (f := (fun W => GeoAt W gb cf.b cf.s cf.l)) (List.mem_cons_of_mem _ HG.out)) HC.out).mono ?_
    rintro en wg ⟨rfl, hO⟩
    have HZc := Lib.hid (HZ.out.keep0 hO)
    clear hO HZ
    refine hK.out _ _ ⟨own1 (HZc.out.boxi 1 rfl), HZc.out.boxi 2 rfl⟩ (fun hSn => ?_)
    clear hK K hSw0
    have hSw0 := hSn
    clear hSn
    refine Kn.takeS 15 ⟨some 54, _, _, _, _, _⟩ (hQ := fun _ _ _ h => h.elim) ?_
    refine Kn.takeR 16 ⟨some 10, _, _, _, _, _⟩ fun K hK => ?_
    go_simp
    have HZca := Lib.hid (HZc.out.newB #[.int .i64 0] 3 rfl)
    clear HZc
    generalize hvb : wg.alloc (.cells #[.int .i64 0] 3) = wv at *
    generalize wg.heap.size = f10 at *
    clear hvb
    refine hK.out _ _ ⟨own1 (HZca.out.boxi 2 rfl), HZca.out.boxi 3 rfl⟩ (fun hSn => ?_)
    clear hK K hSw0
    have hSw0 := hSn
    clear hSn
    refine Kn.takeR 17 ⟨none, _, _, _, _, _⟩ fun K hK => ?_
    have b6 := HZca.out.boxi 0 rfl
    have y0 := b6.cellv 0
    have z0 := b6.frozen 0
    have l0 := b6.lt
    clear b6
    go_simp
    have HZcas := Lib.hid (HZca.out.put 0 rfl 0 (.int .i64 a0))
    clear HZca y0 z0 l0
    refine hK.out _ _ ⟨own1 (HZcas.out.boxi 2 rfl), HZcas.out.boxi 3 rfl⟩ (fun hSn => ?_)
    clear hK K hSw0
    have hSw0 := hSn
    clear hSn
    refine wpAnyH_done (by kernel_rfl) ?_ _
    clear hSw0
    go_wp2
    go_meet
    case rel => exact ⟨f10, rfl, HZcas.out⟩
   refine AllReadyH.cons (o := ⟨some 10, _, _, _, _, _⟩) rfl (fun K hK => ?_) ?_
   ·go_simp
    have HZa := Lib.hid (HZ.out.newB #[.int .i64 0] 3 rfl)
    clear HZ
    generalize hvb : wy2.alloc (.cells #[.int .i64 0] 3) = wv at *
    generalize wy2.heap.size = f10 at *
    clear hvb
    refine hK.out _ _ ⟨own1 (HZa.out.boxi 2 rfl), HZa.out.boxi 3 rfl⟩ (fun hSn => ?_)
    clear hK K hSw0
    have hSw0 := hSn
    clear hSn
    refine Kn.takeR 9 ⟨some 48, _, _, _, _, _⟩ fun K hK => ?_
    go_simp
    refine (geom_seg_any gb cf ps.s _ (HZa.out.fact (f := (fun W => GeoAt W gb cf.b cf.s cf.l)) (List.mem_cons_of_mem _ HG.out)) HC.out).mono ?_
    rintro en wg ⟨rfl, hO⟩
    have HZac := Lib.hid (HZa.out.keep0 hO)
    clear hO HZa
    refine hK.out _ _ ⟨own1 (HZac.out.boxi 2 rfl), HZac.out.boxi 3 rfl⟩ (fun hSn => ?_)
    clear hK K hSw0
    have hSw0 := hSn
    clear hSn
    refine Kn.takeS 15 ⟨some 54, _, _, _, _, _⟩ (hQ := fun _ _ _ h => h.elim) ?_
    refine Kn.takeR 17 ⟨none, _, _, _, _, _⟩ fun K hK => ?_
    have b6 := HZac.out.boxi 0 rfl
    have y0 := b6.cellv 0
    have z0 := b6.frozen 0
    have l0 := b6.lt
    clear b6
    go_simp
    have HZacs := Lib.hid (HZac.out.put 0 rfl 0 (.int .i64 a0))
    clear HZac y0 z0 l0
    refine hK.out _ _ ⟨own1 (HZacs.out.boxi 2 rfl), HZacs.out.boxi 3 rfl⟩ (fun hSn => ?_)
    clear hK K hSw0
    have hSw0 := hSn
    clear hSn
    refine wpAnyH_done (by kernel_rfl) ?_ _
    clear hSw0
    go_wp2
    go_meet
    case rel => exact ⟨f10, rfl, HZacs.out⟩
   exact AllReadyH.nil
  case rest =>
   obtain ⟨f10, rfl, hd⟩ := hcut
   have HD1 := Lib.hid hd
   clear hd HY2
   go_wp2_with fail
   refine (chunk_any (some ⟨g2, 0, none⟩) N c2 _).mono ?_
   rintro en wd ⟨rfl, rfl⟩
   go_wp2_with fail
   have hs2 : (wc.alloc (.cells #[.slice (some ⟨g2, 0, none⟩) N c2] 47)).heap.size = wc.heap.size + 1 := by simp
   have HD2 := Lib.hid ((HD1.out.newB #[.slice (some ⟨g2, 0, none⟩) N c2] 47 rfl).newB #[.int .i64 64] 3 hs2)
   clear HD1
   generalize hz : (wc.alloc (.cells #[.slice (some ⟨g2, 0, none⟩) N c2] 47)).alloc (.cells #[.int .i64 64] 3) = wd at *
   generalize wc.heap.size = b1 at *
   generalize b1 + 1 = b2 at *
   clear hz hs2
   obtain ⟨c0, hb0, hat0⟩ := Duo.at3 (X := [(b2, [.int .i64 64]), (b1, [.slice (some ⟨g2, 0, none⟩) N c2])]) (L := (f10, [.int .i64 a0]) :: (f6, [.int .i64 0]) :: ((f3, [.pointer (some ⟨W, 0, none⟩)]) :: (W, (WB p.D gb q.T ps vi vb)) :: (q.L t L))) HD2.out
   have hw0d := HD2.out.only.size
   have HB0 := Lib.hid hb0
   have HAT0 := Lib.hid hat0
   clear hb0 hat0 HD2
   refine (wpIn_wide (n := 6)).1 ?_
   refine wpIn_named (fun aa haa => ?_)
   have HAA := Lib.hid haa
   clear haa
   refine wpIn_rangeFunc_W (F := Fence.wide) (n := 6) rfl (by decide) (gf := 206) (lb := #[.pointer (some ⟨b1, 0, none⟩), .pointer (some ⟨b2, 0, none⟩)]) (by rw [HAA.out]; rfl) trivial (enters_of Tryz.func206 (by kernel_rfl) rfl)
    (c0 := c0) (fun W1 _ => chunk_seq w0 W1 b1 b2 g2 N c2 K [(b2, [.int .i64 64]), (b1, [.slice (some ⟨g2, 0, none⟩) N c2])] [] [] (6 - 1) (by decide) HNK.out HBC.out (by omega) (by simp) (by simp)) (fun _ => rfl)
    (WrJ w0 p r d e a0 (rows64 b K) f10 f6 ((f3, [.pointer (some ⟨W, 0, none⟩)]) :: (W, (WB p.D gb q.T ps vi vb)) :: (q.L t L)) G ((fun W => Bys W (some ⟨g2, 0, none⟩) N c2 b) :: F)) (fun pre x a cc V => (WrJ w0 p r d e a0 (rows64 b K) f10 f6 ((f3, [.pointer (some ⟨W, 0, none⟩)]) :: (W, (WB p.D gb q.T ps vi vb)) :: (q.L t L)) G ((fun W => Bys W (some ⟨g2, 0, none⟩) N c2 b) :: F)) none pre cc V ∧ a = { tmps := (aa.tmps.setIfInBounds 57 (.slice (some ⟨g2, 64 * x, none⟩) 64 64)).setIfInBounds 11 (.slice (some ⟨g2, 64 * x, none⟩) 64 64), defers := [] }) ?hJ ?hJm ⟨d, rfl, by simpa using HB0.out⟩ HAT0.out ?assign ?body ?done ?stop
   case hJ =>
    rintro (_ | cd) xs cc X Y h hb
    ·exact h
    ·exact h
   case hJm =>
    rintro pre x a cc X Y ⟨h, ha⟩ hb
    exact ⟨h, ha⟩
   case assign =>
    rintro lr pre x φ cc W1 KK hpre hj hat hsz hlen hK
    have HJ1 := Lib.hid hj
    have HAT := Lib.hid hat
    clear hj hat hpre HB0 HAT0
    simp only [chEnc]
    rw [HAA.out]
    gi_wp2
    exact hK _ _ _ (KeepsFrom.refl _ _) HAT.out ⟨HJ1.out, by rw [HAA.out]; rfl⟩
   case body =>
    rintro lr pre x φ cc a' W1 ⟨rfl, hx, hxk, hpre⟩ ⟨⟨dx, hsq, hbk⟩, rfl⟩ hat hsz hlen
    rw [← hx] at hsq hbk
    obtain ⟨ax, hax⟩ : ∃ v, a0 + (x : Int) = v := ⟨_, rfl⟩
    rw [hax] at hbk
    have haxb : 0 ≤ ax ∧ ax ≤ 100010 := by omega
    have hwx : IntKind.i64.wrap (ax + 1) = ax + 1 := IntWalk.i64_in _ (by omega)
    have HAX := Lib.hid hax
    have HF : Hid (DuK W1 w0 W1 p r dx e ⟨(b2, [.int .i64 64]) :: (b1, [.slice (some ⟨g2, 0, none⟩) N c2]) :: (f10, [.int .i64 ax]) :: (f6, [.int .i64 0]) :: ((f3, [.pointer (some ⟨W, 0, none⟩)]) :: (W, (WB p.D gb q.T ps vi vb)) :: (q.L t L)), G, ((fun W => Bys W (some ⟨g2, 0, none⟩) N c2 b) :: F)⟩) := Lib.hid (DuK.start (hbk.duo hat))
    have hhl : dx.held.length ≤ d.held.length + 7 := by
     have h1 := seqW_held ((rows64 b K).take x) d a0
     rw [hsq] at h1
     have h2 : ((rows64 b K).take x).length ≤ x := by rw [List.length_take]; omega
     have h3 : dx.held.length ≤ d.held.length + ((rows64 b K).take x).length := h1
     omega
    have HHL := Lib.hid hhl
    have HSX := Lib.hid hsq
    have HX := Lib.hid hx
    obtain ⟨d3, er, hwr⟩ : ∃ d3 er, dx.write ax ((b.drop (64 * x)).take 64) = (d3, er) := ⟨_, _, rfl⟩
    have HWR := Lib.hid hwr
    clear hsq hbk hat hax hhl hx hwr HB0 HAT0 hpre
    rw [HAA.out]
    clear HAA
    refine wpIn_block ?_
    gi_upto_region 7 with (fail)
    have HY := Lib.hid HF.out.drew
    clear HF
    refine wpIn_region_held_drew (S := (fun w' => w'.cell? ⟨f3, 0, none⟩ = some (.pointer (some ⟨W, 0, none⟩)) ∧ w'.cell? ⟨W, 0, none⟩ = some (.pointer (some ⟨p.D, 0, none⟩)) ∧ w'.cell? ⟨f10, 0, none⟩ = some (.int .i64 ax))) (by repeat (first | exact not_letsOut_postW | apply not_letsOut_then)) (plainOps_spec (by kernel_rfl)) (by kernel_rfl) ⟨own1 (HY.out.boxi 4 rfl), (HY.out.boxi 5 rfl).cellv 0, own1 (HY.out.boxi 2 rfl)⟩ (fun hSw0 => ?_)
    generalize W1.drew = wz at *
    refine Kn.takeS 0 ⟨some 58, _, _, _, _, _⟩ (hQ := fun _ _ _ h => h.elim) (v := (.pointer (some ⟨W, 0, none⟩))) (hy := fun w hSw => by
     have q0 := hSw.1
     go_simp) ?_
    refine Kn.takeS 1 ⟨some 59, _, _, _, _, _⟩ (hQ := fun _ _ _ h => h.elim) ?_
    refine Kn.takeS 2 ⟨some 60, _, _, _, _, _⟩ (hQ := fun _ _ _ h => h.elim) ?_
    refine Kn.takeS 3 ⟨some 61, _, _, _, _, _⟩ (hQ := fun _ _ _ h => h.elim) (v := (.pointer (some ⟨p.D, 0, none⟩))) (hy := fun w hSw => by
     have q0 := hSw.2.1
     go_simp) ?_
    refine Kn.takeS 4 ⟨some 62, _, _, _, _, _⟩ (hQ := fun _ _ _ h => h.elim) (v := (.int .i64 ax)) (hy := fun w hSw => by
     have q0 := hSw.2.2
     go_simp) ?_
    refine Kn.takeS 5 ⟨some 63, _, _, _, _, _⟩ (hQ := fun _ _ _ h => h.elim) ?_
    refine Kn.takeR 6 ⟨some 64, _, _, _, _, _⟩ fun K hK => ?_
    go_simp
    refine (duo_write_kb (HY.out.toDuo.imp (f1 := (fun W => Bys W (some ⟨g2, 0, none⟩) N c2 b)) (f := fun W => Bys W (some ⟨g2, 64 * x, none⟩) 64 64 ((b.drop (64 * x)).take 64)) List.mem_cons_self (fun W h => Bys.chunk0 h (by have := HNK.out; omega))) ax _ 64 64 ((b.drop (64 * x)).take 64) List.mem_cons_self (by have := HHL.out; have := HHH.out; omega)).mono ?_
    rw [HWR.out]
    rintro en v1 ⟨rfl, hd, hkb⟩
    have HZ := Lib.hid (HY.out.to (hd.subF (F' := ((fun W => Bys W (some ⟨g2, 0, none⟩) N c2 b) :: F)) (fun f hf => List.mem_cons_of_mem _ hf)) hkb)
    clear hd hkb HY
    refine hK.out _ _ ⟨own1 (HZ.out.boxi 4 rfl), (HZ.out.boxi 5 rfl).cellv 0, own1 (HZ.out.boxi 2 rfl)⟩ (fun hSn => ?_)
    clear hK K hSw0
    have hSw0 := hSn
    clear hSn
    refine Kn.takeS 7 ⟨some 12, _, _, _, _, _⟩ (hQ := fun _ _ _ h => h.elim) ?_
    refine wpAnyH_done (by kernel_rfl) ?_ _
    clear hSw0
    have hsnoc : seqW d a0 ((rows64 b K).take x ++ [((b.drop (64 * x)).take 64)]) = (d3, er) := by
     rw [seqW_ok _ _ _ _ _ HSX.out, List.length_take, rows64_len, show min x K = x from by omega, HAX.out]
     by_cases he : er = 0
     ·rw [seqW_go _ _ _ _ _ (HWR.out.trans (by rw [he])), he]; rfl
     ·rw [seqW_err _ _ _ _ (by rw [HWR.out]; exact he), HWR.out]
    have HSN := Lib.hid hsnoc
    clear hsnoc
    by_cases he : er = 0
    ·subst he
     have b10 := HZ.out.boxi 2 rfl
     have y0 := b10.cellv 0
     have z0 := b10.frozen 0
     have l0 := b10.lt
     have HE := Lib.hid (HZ.out.put 2 rfl 0 (.int .i64 (ax + 1)))
     clear b10
     gi_wp2
     obtain ⟨cc2, hb2, hat2⟩ := Duo.at3 (X := [(b2, [.int .i64 64]), (b1, [.slice (some ⟨g2, 0, none⟩) N c2])]) (L := (f10, [.int .i64 (ax + 1)]) :: (f6, [.int .i64 0]) :: ((f3, [.pointer (some ⟨W, 0, none⟩)]) :: (W, (WB p.D gb q.T ps vi vb)) :: (q.L t L))) HE.out.toDuo
     refine ⟨kf_of_kb HE.out.kb, cc2, hat2, d3, ?_, ?_⟩
     ·rw [List.length_append, List.length_singleton, ← HX.out, rows64_take b K x hxk]
      exact HSN.out
     ·have e1 : a0 + ((pre ++ [x]).length : Int) = ax + 1 := by have := HAX.out; have := HX.out; simp; omega
      rw [e1]
      exact hb2
    ·have heb : (er != 0) = true := by rw [bne_iff_ne]; exact he
     have b10 := HZ.out.boxi 3 rfl
     have y0 := b10.cellv 0
     have z0 := b10.frozen 0
     have l0 := b10.lt
     have HE := Lib.hid (HZ.out.put 3 rfl 0 (.int .i64 er))
     clear b10
     gi_wp2
     obtain ⟨cc2, hb2, hat2⟩ := Duo.at3 (X := [(b2, [.int .i64 64]), (b1, [.slice (some ⟨g2, 0, none⟩) N c2])]) (L := (f10, [.int .i64 ax]) :: (f6, [.int .i64 er]) :: ((f3, [.pointer (some ⟨W, 0, none⟩)]) :: (W, (WB p.D gb q.T ps vi vb)) :: (q.L t L))) HE.out.toDuo
     refine ⟨kf_of_kb HE.out.kb, cc2, hat2, rfl, d3, er, .int .i64 ax, he, ?_, hb2⟩
     rw [rows64_split b K x hxk, seqW_ok _ _ _ _ _ HSX.out, List.length_take, rows64_len, show min x K = x from by omega, HAX.out, seqW_err _ _ _ _ (by rw [HWR.out]; exact he), HWR.out]
   case done =>
    rintro D xs φ cc W2 hD ⟨rfl, hxs⟩ ⟨dx, hsq, hbk⟩ hat hK hsz
    have hxl : xs.length = K := by rw [hxs]; simp
    rw [hxl, List.take_of_length_le (by rw [rows64_len]; exact Nat.le_refl _), HSQ.out] at hsq
    obtain ⟨rfl, rfl⟩ := Prod.mk.inj hsq
    obtain ⟨ax, hax⟩ : ∃ v, a0 + (xs.length : Int) = v := ⟨_, rfl⟩
    rw [hax] at hbk
    have HQ : Hid (DuK W2 w0 W2 p r d2 e ⟨(f6, [.int .i64 0]) :: (f10, [.int .i64 ax]) :: (f3, [.pointer (some ⟨W, 0, none⟩)]) :: (W, WB p.D gb q.T ps vi vb) :: q.L (t) L, G, ((fun W => Bys W (some ⟨g2, 0, none⟩) N c2 b) :: F)⟩) := Lib.hid (((DuK.start (hbk.duo hat)).ldrop.ldrop).permL (List.Perm.swap _ _ _))
    have HKK2 := Lib.hid hK
    have HWD : Hid (w0.heap.size ≤ D) := Lib.hid (Nat.le_trans hw0d hD)
    have hww2 : writeW d t cf ps its bl = (d2, t.touch ps.s ps.l, ⟨ps.s, behind ps.o bl.length, ps.l + 1, (sm : Nat), ps.m⟩, 0) := by rw [HWW.out, if_pos rfl]
    have HW2 := Lib.hid hww2
    clear hat hbk hK hsq hww2 HWW HB0 HAT0
    rw [HAA.out]
    clear HAA
    go_upto_region 11 with (fail)
    have HE := Lib.hid HQ.out.drew
    clear HQ
    refine wp_region_held_drew (S := (fun w' => w'.cell? ⟨f3, 0, none⟩ = some (.pointer (some ⟨W, 0, none⟩)) ∧ Kn.Own w' W (WB p.D gb q.T ps vi vb))) (by kernel_rfl) ⟨own1 (HE.out.boxi 2 rfl), HE.out.boxi 3 rfl⟩ (fun hSw0 => ?_)
    generalize W2.drew = wz at *
    refine Kn.takeS 0 ⟨some 70, _, _, _, _, _⟩ (hQ := fun _ _ _ h => h.elim) (v := (.pointer (some ⟨W, 0, none⟩))) (hy := fun w hSw => by
     have q0 := hSw.1
     go_simp) ?_
    refine Kn.takeS 1 ⟨some 71, _, _, _, _, _⟩ (hQ := fun _ _ _ h => h.elim) ?_
    refine Kn.takeS 2 ⟨some 72, _, _, _, _, _⟩ (hQ := fun _ _ _ h => h.elim) ?_
    refine Kn.takeS 3 ⟨some 73, _, _, _, _, _⟩ (hQ := fun _ _ _ h => h.elim) (v := (.pointer (some ⟨q.T, 0, none⟩))) (hy := fun w hSw => by
     have q0 := hSw.2.cellv 2
     go_simp) ?_
    refine Kn.takeS 4 ⟨some 74, _, _, _, _, _⟩ (hQ := fun _ _ _ h => h.elim) (v := (.pointer (some ⟨W, 0, none⟩))) (hy := fun w hSw => by
     have q0 := hSw.1
     go_simp) ?_
    refine Kn.takeS 5 ⟨some 75, _, _, _, _, _⟩ (hQ := fun _ _ _ h => h.elim) ?_
    refine Kn.takeS 6 ⟨some 76, _, _, _, _, _⟩ (hQ := fun _ _ _ h => h.elim) ?_
    refine Kn.takeS 7 ⟨some 77, _, _, _, _, _⟩ (hQ := fun _ _ _ h => h.elim) ?_
    refine Kn.takeS 8 ⟨some 78, _, _, _, _, _⟩ (hQ := fun _ _ _ h => h.elim) (v := (.int .i64 ps.s)) (hy := fun w hSw => by
     have q0 := hSw.2.cellv 3
     go_simp) ?_
    refine Kn.takeS 9 ⟨some 79, _, _, _, _, _⟩ (hQ := fun _ _ _ h => h.elim) (v := (.pointer (some ⟨W, 0, none⟩))) (hy := fun w hSw => by
     have q0 := hSw.1
     go_simp) ?_
    refine Kn.takeS 10 ⟨some 80, _, _, _, _, _⟩ (hQ := fun _ _ _ h => h.elim) ?_
    refine Kn.takeS 11 ⟨some 81, _, _, _, _, _⟩ (hQ := fun _ _ _ h => h.elim) ?_
    refine Kn.takeS 12 ⟨some 82, _, _, _, _, _⟩ (hQ := fun _ _ _ h => h.elim) ?_
    refine Kn.takeS 13 ⟨some 83, _, _, _, _, _⟩ (hQ := fun _ _ _ h => h.elim) (v := (.int .i64 ps.l)) (hy := fun w hSw => by
     have q0 := hSw.2.cellv 5
     go_simp) ?_
    refine Kn.takeR 14 ⟨some 84, _, _, _, _, _⟩ fun K hK => ?_
    go_simp
    have hpm := HE.out.permL (L' := q.L t ((f10, [.int .i64 ax]) :: (f6, [.int .i64 0]) :: (f3, [.pointer (some ⟨W, 0, none⟩)]) :: (W, (WB p.D gb q.T ps vi vb)) :: L)) (perm_any (fun c => by simp only [TD.L, List.map_cons, List.map_append, List.sum_cons, List.sum_append, List.cons_append, List.map_nil, List.sum_nil] <;> omega))
    refine (duo_touch_kb ps.s ps.l hpm HT.out hqn).mono ?_
    rintro en v1 ⟨rfl, hd⟩
    have HE1 : Hid (DuK W2 w0 v1 p r d2 e ⟨(f6, [.int .i64 0]) :: (f10, [.int .i64 ax]) :: (f3, [.pointer (some ⟨W, 0, none⟩)]) :: (W, WB p.D gb q.T ps vi vb) :: q.L (t.touch ps.s ps.l) L, G, ((fun W => Bys W (some ⟨g2, 0, none⟩) N c2 b) :: F)⟩) := Lib.hid (hd.permL (perm_any (fun c => by simp only [TD.L, List.map_cons, List.map_append, List.sum_cons, List.sum_append, List.cons_append, List.map_nil, List.sum_nil] <;> omega)))
    clear hd hpm HE
    refine hK.out _ _ ⟨own1 (HE1.out.boxi 2 rfl), HE1.out.boxi 3 rfl⟩ (fun hSn => ?_)
    clear hK K hSw0
    have hSw0 := hSn
    clear hSn
    refine wpAnyH_done (by kernel_rfl) ?_ _
    clear hSw0
    go_upto_region 12 with (fail)
    have HE2 := Lib.hid HE1.out.drew
    clear HE1
    refine wp_region_held_drew (S := (fun w' => w'.cell? ⟨f3, 0, none⟩ = some (.pointer (some ⟨W, 0, none⟩)))) (by kernel_rfl) (own1 (HE2.out.boxi 2 rfl)) (fun hSw0 => ?_)
    generalize v1.drew = wy at *
    refine Kn.takeS 0 ⟨some 85, _, _, _, _, _⟩ (hQ := fun _ _ _ h => h.elim) (v := (.pointer (some ⟨W, 0, none⟩))) (hy := fun w hSw => by
     have q0 := hSw
     go_simp) ?_
    refine Kn.takeS 1 ⟨some 86, _, _, _, _, _⟩ (hQ := fun _ _ _ h => h.elim) (v := (.pointer (some ⟨W, 0, none⟩))) (hy := fun w hSw => by
     have q0 := hSw
     go_simp) ?_
    refine Kn.takeS 2 ⟨some 87, _, _, _, _, _⟩ (hQ := fun _ _ _ h => h.elim) (v := (.pointer (some ⟨W, 0, none⟩))) (hy := fun w hSw => by
     have q0 := hSw
     go_simp) ?_
    refine Kn.takeS 3 ⟨some 88, _, _, _, _, _⟩ (hQ := fun _ _ _ h => h.elim) (v := (.pointer (some ⟨W, 0, none⟩))) (hy := fun w hSw => by
     have q0 := hSw
     go_simp) ?_
    refine Kn.takeS 4 ⟨some 89, _, _, _, _, _⟩ (hQ := fun _ _ _ h => h.elim) ?_
    refine Kn.takeS 5 ⟨some 90, _, _, _, _, _⟩ (hQ := fun _ _ _ h => h.elim) ?_
    refine Kn.takeS 6 ⟨some 91, _, _, _, _, _⟩ (hQ := fun _ _ _ h => h.elim) ?_
    refine Kn.takeS 8 ⟨some 93, _, _, _, _, _⟩ (hQ := fun _ _ _ h => h.elim) ?_
    refine Kn.takeS 9 ⟨some 94, _, _, _, _, _⟩ (hQ := fun _ _ _ h => h.elim) ?_
    refine Kn.takeS 11 ⟨some 96, _, _, _, _, _⟩ (hQ := fun _ _ _ h => h.elim) (v := (.pointer (some ⟨W, 0, none⟩))) (hy := fun w hSw => by
     have q0 := hSw
     go_simp) ?_
    refine Kn.takeS 12 ⟨some 97, _, _, _, _, _⟩ (hQ := fun _ _ _ h => h.elim) ?_
    refine Kn.takeS 13 ⟨some 98, _, _, _, _, _⟩ (hQ := fun _ _ _ h => h.elim) ?_
    refine Kn.takeS 14 ⟨some 99, _, _, _, _, _⟩ (hQ := fun _ _ _ h => h.elim) ?_
    refine Kn.takeS 17 ⟨some 102, _, _, _, _, _⟩ (hQ := fun _ _ _ h => h.elim) ?_
    refine wpAnyH_ready (rs := [7, 15]) (by kernel_rfl) (by simp) ?_
    refine AllReadyH.cons (o := ⟨some 92, _, _, _, _, _⟩) rfl (fun K hK => ?_) ?_
    ·have q0 := (HE2.out.boxi 3 rfl).cellv 4
     go_simp
     clear q0
     refine hK.out _ _ (own1 (HE2.out.boxi 2 rfl)) (fun hSn => ?_)
     clear hK K hSw0
     have hSw0 := hSn
     clear hSn
     refine wpAnyH_ready (rs := [10, 15]) (by kernel_rfl) (by simp) ?_
     refine AllReadyH.cons (o := ⟨some 95, _, _, _, _, _⟩) rfl (fun K hK => ?_) ?_
     ·go_simp
      refine (wr_behind_any ps.o nb _ (by omega) (by have := HNB.out; have := HKK.out; omega)).mono ?_
      rintro en v2 ⟨rfl, rfl⟩
      refine hK.out _ _ (own1 (HE2.out.boxi 2 rfl)) (fun hSn => ?_)
      clear hK K hSw0
      have hSw0 := hSn
      clear hSn
      refine Kn.takeR 15 ⟨some 100, _, _, _, _, _⟩ fun K hK => ?_
      have q0 := (HE2.out.boxi 3 rfl).cellv 5
      go_simp
      clear q0
      refine hK.out _ _ (own1 (HE2.out.boxi 2 rfl)) (fun hSn => ?_)
      clear hK K hSw0
      have hSw0 := hSn
      clear hSn
      refine Kn.takeS 16 ⟨some 101, _, _, _, _, _⟩ (hQ := fun _ _ _ h => h.elim) ?_
      refine Kn.takeS 18 ⟨some 103, _, _, _, _, _⟩ (hQ := fun _ _ _ h => h.elim) ?_
      refine Kn.takeS 19 ⟨some 104, _, _, _, _, _⟩ (hQ := fun _ _ _ h => h.elim) ?_
      refine Kn.takeS 20 ⟨some 105, _, _, _, _, _⟩ (hQ := fun _ _ _ h => h.elim) ?_
      refine Kn.takeR 21 ⟨none, _, _, _, _, _⟩ fun K hK => ?_
      have b3 := HE2.out.boxi 3 rfl
      have y0 := b3.cellv 4
      have z0 := b3.frozen 4
      have l0 := b3.lt
      clear b3
      go_simp
      have HE2s := Lib.hid (HE2.out.put 3 rfl 4 (.int .i64 (behind ps.o nb)))
      clear HE2 y0 z0 l0
      refine hK.out _ _ (own1 (HE2s.out.boxi 2 rfl)) (fun hSn => ?_)
      clear hK K hSw0
      have hSw0 := hSn
      clear hSn
      refine Kn.takeS 22 ⟨some 106, _, _, _, _, _⟩ (hQ := fun _ _ _ h => h.elim) ?_
      refine Kn.takeS 23 ⟨some 107, _, _, _, _, _⟩ (hQ := fun _ _ _ h => h.elim) ?_
      refine Kn.takeS 24 ⟨some 108, _, _, _, _, _⟩ (hQ := fun _ _ _ h => h.elim) ?_
      refine Kn.takeR 25 ⟨none, _, _, _, _, _⟩ fun K hK => ?_
      have b3 := HE2s.out.boxi 3 rfl
      have y0 := b3.cellv 5
      have z0 := b3.frozen 5
      have l0 := b3.lt
      clear b3
      go_simp
      have HE2ss := Lib.hid (HE2s.out.put 3 rfl 5 (.int .i64 (ps.l + 1)))
      clear HE2s y0 z0 l0
      refine hK.out _ _ (own1 (HE2ss.out.boxi 2 rfl)) (fun hSn => ?_)
      clear hK K hSw0
      have hSw0 := hSn
      clear hSn
      refine Kn.takeS 26 ⟨some 109, _, _, _, _, _⟩ (hQ := fun _ _ _ h => h.elim) ?_
      refine Kn.takeS 27 ⟨some 110, _, _, _, _, _⟩ (hQ := fun _ _ _ h => h.elim) ?_
      refine Kn.takeS 28 ⟨some 111, _, _, _, _, _⟩ (hQ := fun _ _ _ h => h.elim) ?_
      refine Kn.takeR 29 ⟨none, _, _, _, _, _⟩ fun K hK => ?_
      have b3 := HE2ss.out.boxi 3 rfl
      have y0 := b3.cellv 6
      have z0 := b3.frozen 6
      have l0 := b3.lt
      clear b3
      go_simp
      have HE2sss := Lib.hid (HE2ss.out.put 3 rfl 6 (.int .i64 ((sm : Nat) : Int)))
      clear HE2ss y0 z0 l0
      refine hK.out _ _ (own1 (HE2sss.out.boxi 2 rfl)) (fun hSn => ?_)
      clear hK K hSw0
      have hSw0 := hSn
      clear hSn
      refine wpAnyH_done (by kernel_rfl) ?_ _
      clear hSw0
      have b6 := HE2sss.out.boxi 0 rfl
      have y0 := b6.cellv 0
      have z0 := b6.frozen 0
      have l0 := b6.lt
      clear b6
      have HF := Lib.hid (HE2sss.out.put 0 rfl 0 (.int .i64 0))
      clear HE2sss
      have hkd := HF.out.kb.keep D _ (lt_of_obj HKK2.out) HKK2.out rfl
      have hke := HF.out.toDuo.putObj (.deferred none) hkd rfl HWD.out
      have hc6 := (hke.boxi 0 rfl).cellv 0
      have HKE := Lib.hid hke
      clear hke HF
      go_wp2_with fail
      refine marks_ret1 (v := .int .i64 0) (D := D) hkd ?_ rfl ?_
      ·simp only [results, HRES.out]
       go_simp
      ·rw [HW2.out, HNB.out]
       exact ⟨rfl, (HKE.out.ldrop.ldrop.ldrop).subF (fun f hf => List.mem_cons_of_mem _ hf)⟩
     refine AllReadyH.cons (o := ⟨some 100, _, _, _, _, _⟩) rfl (fun K hK => ?_) ?_
     ·have q0 := (HE2.out.boxi 3 rfl).cellv 5
      go_simp
      clear q0
      refine hK.out _ _ (own1 (HE2.out.boxi 2 rfl)) (fun hSn => ?_)
      clear hK K hSw0
      have hSw0 := hSn
      clear hSn
      refine Kn.takeS 16 ⟨some 101, _, _, _, _, _⟩ (hQ := fun _ _ _ h => h.elim) ?_
      refine Kn.takeR 10 ⟨some 95, _, _, _, _, _⟩ fun K hK => ?_
      go_simp
      refine (wr_behind_any ps.o nb _ (by omega) (by have := HNB.out; have := HKK.out; omega)).mono ?_
      rintro en v2 ⟨rfl, rfl⟩
      refine hK.out _ _ (own1 (HE2.out.boxi 2 rfl)) (fun hSn => ?_)
      clear hK K hSw0
      have hSw0 := hSn
      clear hSn
      refine Kn.takeS 18 ⟨some 103, _, _, _, _, _⟩ (hQ := fun _ _ _ h => h.elim) ?_
      refine Kn.takeS 19 ⟨some 104, _, _, _, _, _⟩ (hQ := fun _ _ _ h => h.elim) ?_
      refine Kn.takeS 20 ⟨some 105, _, _, _, _, _⟩ (hQ := fun _ _ _ h => h.elim) ?_
      refine Kn.takeR 21 ⟨none, _, _, _, _, _⟩ fun K hK => ?_
      have b3 := HE2.out.boxi 3 rfl
      have y0 := b3.cellv 4
      have z0 := b3.frozen 4
      have l0 := b3.lt
      clear b3
      go_simp
      have HE2s := Lib.hid (HE2.out.put 3 rfl 4 (.int .i64 (behind ps.o nb)))
      clear HE2 y0 z0 l0
      refine hK.out _ _ (own1 (HE2s.out.boxi 2 rfl)) (fun hSn => ?_)
      clear hK K hSw0
      have hSw0 := hSn
      clear hSn
      refine Kn.takeS 22 ⟨some 106, _, _, _, _, _⟩ (hQ := fun _ _ _ h => h.elim) ?_
      refine Kn.takeS 23 ⟨some 107, _, _, _, _, _⟩ (hQ := fun _ _ _ h => h.elim) ?_
      refine Kn.takeS 24 ⟨some 108, _, _, _, _, _⟩ (hQ := fun _ _ _ h => h.elim) ?_
      refine Kn.takeR 25 ⟨none, _, _, _, _, _⟩ fun K hK => ?_
      have b3 := HE2s.out.boxi 3 rfl
      have y0 := b3.cellv 5
      have z0 := b3.frozen 5
      have l0 := b3.lt
      clear b3
      go_simp
      have HE2ss := Lib.hid (HE2s.out.put 3 rfl 5 (.int .i64 (ps.l + 1)))
      clear HE2s y0 z0 l0
      refine hK.out _ _ (own1 (HE2ss.out.boxi 2 rfl)) (fun hSn => ?_)
      clear hK K hSw0
      have hSw0 := hSn
      clear hSn
      refine Kn.takeS 26 ⟨some 109, _, _, _, _, _⟩ (hQ := fun _ _ _ h => h.elim) ?_
      refine Kn.takeS 27 ⟨some 110, _, _, _, _, _⟩ (hQ := fun _ _ _ h => h.elim) ?_
      refine Kn.takeS 28 ⟨some 111, _, _, _, _, _⟩ (hQ := fun _ _ _ h => h.elim) ?_
      refine Kn.takeR 29 ⟨none, _, _, _, _, _⟩ fun K hK => ?_
      have b3 := HE2ss.out.boxi 3 rfl
      have y0 := b3.cellv 6
      have z0 := b3.frozen 6
      have l0 := b3.lt
      clear b3
      go_simp
      have HE2sss := Lib.hid (HE2ss.out.put 3 rfl 6 (.int .i64 ((sm : Nat) : Int)))
      clear HE2ss y0 z0 l0
      refine hK.out _ _ (own1 (HE2sss.out.boxi 2 rfl)) (fun hSn => ?_)
      clear hK K hSw0
      have hSw0 := hSn
      clear hSn
      refine wpAnyH_done (by kernel_rfl) ?_ _
      clear hSw0
      have b6 := HE2sss.out.boxi 0 rfl
      have y0 := b6.cellv 0
      have z0 := b6.frozen 0
      have l0 := b6.lt
      clear b6
      have HF := Lib.hid (HE2sss.out.put 0 rfl 0 (.int .i64 0))
      clear HE2sss
      have hkd := HF.out.kb.keep D _ (lt_of_obj HKK2.out) HKK2.out rfl
      have hke := HF.out.toDuo.putObj (.deferred none) hkd rfl HWD.out
      have hc6 := (hke.boxi 0 rfl).cellv 0
      have HKE := Lib.hid hke
      clear hke HF
      go_wp2_with fail
      refine marks_ret1 (v := .int .i64 0) (D := D) hkd ?_ rfl ?_
      ·simp only [results, HRES.out]
       go_simp
      ·rw [HW2.out, HNB.out]
       exact ⟨rfl, (HKE.out.ldrop.ldrop.ldrop).subF (fun f hf => List.mem_cons_of_mem _ hf)⟩
     exact AllReadyH.nil
    refine AllReadyH.cons (o := ⟨some 100, _, _, _, _, _⟩) rfl (fun K hK => ?_) ?_
    ·have q0 := (HE2.out.boxi 3 rfl).cellv 5
     go_simp
     clear q0
     refine hK.out _ _ (own1 (HE2.out.boxi 2 rfl)) (fun hSn => ?_)
     clear hK K hSw0
     have hSw0 := hSn
     clear hSn
     refine Kn.takeS 16 ⟨some 101, _, _, _, _, _⟩ (hQ := fun _ _ _ h => h.elim) ?_
     refine Kn.takeR 7 ⟨some 92, _, _, _, _, _⟩ fun K hK => ?_
     have q0 := (HE2.out.boxi 3 rfl).cellv 4
     go_simp
     clear q0
     refine hK.out _ _ (own1 (HE2.out.boxi 2 rfl)) (fun hSn => ?_)
     clear hK K hSw0
     have hSw0 := hSn
     clear hSn
     refine Kn.takeR 10 ⟨some 95, _, _, _, _, _⟩ fun K hK => ?_
     go_simp
     refine (wr_behind_any ps.o nb _ (by omega) (by have := HNB.out; have := HKK.out; omega)).mono ?_
     rintro en v2 ⟨rfl, rfl⟩
     refine hK.out _ _ (own1 (HE2.out.boxi 2 rfl)) (fun hSn => ?_)
     clear hK K hSw0
     have hSw0 := hSn
     clear hSn
     refine Kn.takeS 18 ⟨some 103, _, _, _, _, _⟩ (hQ := fun _ _ _ h => h.elim) ?_
     refine Kn.takeS 19 ⟨some 104, _, _, _, _, _⟩ (hQ := fun _ _ _ h => h.elim) ?_
     refine Kn.takeS 20 ⟨some 105, _, _, _, _, _⟩ (hQ := fun _ _ _ h => h.elim) ?_
     refine Kn.takeR 21 ⟨none, _, _, _, _, _⟩ fun K hK => ?_
     have b3 := HE2.out.boxi 3 rfl
     have y0 := b3.cellv 4
     have z0 := b3.frozen 4
     have l0 := b3.lt
     clear b3
     go_simp
     have HE2s := Lib.hid (HE2.out.put 3 rfl 4 (.int .i64 (behind ps.o nb)))
     clear HE2 y0 z0 l0
     refine hK.out _ _ (own1 (HE2s.out.boxi 2 rfl)) (fun hSn => ?_)
     clear hK K hSw0
     have hSw0 := hSn
     clear hSn
     refine Kn.takeS 22 ⟨some 106, _, _, _, _, _⟩ (hQ := fun _ _ _ h => h.elim) ?_
     refine Kn.takeS 23 ⟨some 107, _, _, _, _, _⟩ (hQ := fun _ _ _ h => h.elim) ?_
     refine Kn.takeS 24 ⟨some 108, _, _, _, _, _⟩ (hQ := fun _ _ _ h => h.elim) ?_
     refine Kn.takeR 25 ⟨none, _, _, _, _, _⟩ fun K hK => ?_
     have b3 := HE2s.out.boxi 3 rfl
     have y0 := b3.cellv 5
     have z0 := b3.frozen 5
     have l0 := b3.lt
     clear b3
     go_simp
     have HE2ss := Lib.hid (HE2s.out.put 3 rfl 5 (.int .i64 (ps.l + 1)))
     clear HE2s y0 z0 l0
     refine hK.out _ _ (own1 (HE2ss.out.boxi 2 rfl)) (fun hSn => ?_)
     clear hK K hSw0
     have hSw0 := hSn
     clear hSn
     refine Kn.takeS 26 ⟨some 109, _, _, _, _, _⟩ (hQ := fun _ _ _ h => h.elim) ?_
     refine Kn.takeS 27 ⟨some 110, _, _, _, _, _⟩ (hQ := fun _ _ _ h => h.elim) ?_
     refine Kn.takeS 28 ⟨some 111, _, _, _, _, _⟩ (hQ := fun _ _ _ h => h.elim) ?_
     refine Kn.takeR 29 ⟨none, _, _, _, _, _⟩ fun K hK => ?_
     have b3 := HE2ss.out.boxi 3 rfl
     have y0 := b3.cellv 6
     have z0 := b3.frozen 6
     have l0 := b3.lt
     clear b3
     go_simp
     have HE2sss := Lib.hid (HE2ss.out.put 3 rfl 6 (.int .i64 ((sm : Nat) : Int)))
     clear HE2ss y0 z0 l0
     refine hK.out _ _ (own1 (HE2sss.out.boxi 2 rfl)) (fun hSn => ?_)
     clear hK K hSw0
     have hSw0 := hSn
     clear hSn
     refine wpAnyH_done (by kernel_rfl) ?_ _
     clear hSw0
     have b6 := HE2sss.out.boxi 0 rfl
     have y0 := b6.cellv 0
     have z0 := b6.frozen 0
     have l0 := b6.lt
     clear b6
     have HF := Lib.hid (HE2sss.out.put 0 rfl 0 (.int .i64 0))
     clear HE2sss
     have hkd := HF.out.kb.keep D _ (lt_of_obj HKK2.out) HKK2.out rfl
     have hke := HF.out.toDuo.putObj (.deferred none) hkd rfl HWD.out
     have hc6 := (hke.boxi 0 rfl).cellv 0
     have HKE := Lib.hid hke
     clear hke HF
     go_wp2_with fail
     refine marks_ret1 (v := .int .i64 0) (D := D) hkd ?_ rfl ?_
     ·simp only [results, HRES.out]
      go_simp
     ·rw [HW2.out, HNB.out]
      exact ⟨rfl, (HKE.out.ldrop.ldrop.ldrop).subF (fun f hf => List.mem_cons_of_mem _ hf)⟩
    exact AllReadyH.nil
   case stop =>
    rintro D cd pre φ cc W2 hD ⟨rfl, hfx⟩ ⟨rfl, dx, er2, v, her, hsq, hbk⟩ hat hK hsz
    rw [HSQ.out] at hsq
    obtain ⟨rfl, rfl⟩ := Prod.mk.inj hsq
    have HQ : Hid (Duo w0 W2 p r d2 e ⟨(f6, [.int .i64 er]) :: (f10, [v]) :: ((f3, [.pointer (some ⟨W, 0, none⟩)]) :: (W, (WB p.D gb q.T ps vi vb)) :: (q.L t L)), G, ((fun W => Bys W (some ⟨g2, 0, none⟩) N c2 b) :: F)⟩) := Lib.hid ((hbk.duo hat).ldrop.ldrop.permL (List.Perm.swap _ _ _))
    have hww2 : writeW d t cf ps its bl = (d2, t, ps, er) := by rw [HWW.out, if_neg her]
    have HW2 := Lib.hid hww2
    have hke : Duo w0 (W2.putObj D (.deferred none)) p r d2 e ⟨(f6, [.int .i64 er]) :: (f10, [v]) :: ((f3, [.pointer (some ⟨W, 0, none⟩)]) :: (W, (WB p.D gb q.T ps vi vb)) :: (q.L t L)), G, ((fun W => Bys W (some ⟨g2, 0, none⟩) N c2 b) :: F)⟩ := HQ.out.putObj _ hK rfl (Nat.le_trans hw0d hD)
    have HKE := Lib.hid hke
    have hc6 := (hke.boxi 0 rfl).cellv 0
    have HK2 := Lib.hid hK
    clear hat hbk hK hsq hww2 HWW HB0 HAT0 hke HQ
    rw [HAA.out]
    clear HAA
    gi_wp2_with fail
    refine marks_ret1 (v := .int .i64 er) (D := D) HK2.out ?_ rfl ?_
    ·simp only [results, HRES.out]
     go_simp
    ·rw [HW2.out]
     exact ⟨rfl, (HKE.out.ldrop.ldrop.ldrop).subF (fun f hf => List.mem_cons_of_mem _ hf)⟩
end Go.Proofs.YtgcfdjcpcclcjaaGreat
namespace Go.Kn
open Go Go.RowKit
theorem free_step {l : List Us} {j : Nat} (hj : j < l.length) : (l.take (j + 1)).countP Tb.isFree = (l.take j).countP Tb.isFree + (if l[j].st = 0 then 1 else 0) := by
 rw [List.take_succ_eq_append_getElem hj, List.countP_append, List.countP_cons, List.countP_nil]
 unfold Tb.isFree
 simp
theorem idx_at {l : List Us} {j : Nat} (hj : j < l.length) (h0 : (l.take j).findIdx? Tb.isFree = none) (h1 : l[j].st = 0) : Tb.idx l = (j : Int) := by
 have e : l = l.take j ++ l[j] :: l.drop (j + 1) := by rw [List.getElem_cons_drop, List.take_append_drop]
 have h2 : l.findIdx? Tb.isFree = some j := by
  rw [List.findIdx?_eq_some_iff_getElem]
  refine ⟨hj, by unfold Tb.isFree; simp [h1], fun k hk => ?_⟩
  rw [List.findIdx?_eq_none_iff] at h0
  have hk2 : k < (l.take j).length := by rw [List.length_take]; omega
  have h3 := h0 (l.take j)[k] (List.getElem_mem hk2)
  rw [List.getElem_take] at h3
  simp [h3]
 unfold Tb.idx
 rw [h2]
theorem idx_none {l : List Us} (h0 : l.findIdx? Tb.isFree = none) : Tb.idx l = -1 := by
 unfold Tb.idx
 rw [h0]
theorem idx_step {l : List Us} {j : Nat} (hj : j < l.length) (h0 : (l.take j).findIdx? Tb.isFree = none) (h1 : ¬ l[j].st = 0) : (l.take (j + 1)).findIdx? Tb.isFree = none := by
 rw [List.findIdx?_eq_none_iff] at h0 ⊢
 intro x hx
 rw [List.take_succ_eq_append_getElem hj, List.mem_append] at hx
 rcases hx with hx | hx
 ·exact h0 x hx
 ·rw [List.mem_singleton] at hx
  subst hx
  unfold Tb.isFree
  simp [h1]
theorem idx_range (l : List Us) : -1 ≤ Tb.idx l ∧ Tb.idx l < l.length := by
 unfold Tb.idx
 cases h : l.findIdx? Tb.isFree with
 | none => exact ⟨by decide, by show (-1 : Int) < _; omega⟩
 | some i =>
  rw [List.findIdx?_eq_some_iff_getElem] at h
  obtain ⟨h1, _⟩ := h
  exact ⟨by show (-1 : Int) ≤ (i : Int); omega, by show (i : Int) < _; omega⟩
theorem idx_grabs (t : Tb) : t.grabs (Tb.idx t.us) = decide (Tb.idx t.us ≠ -1) := by
 unfold Tb.grabs Tb.has Tb.use
 have hr := idx_range t.us
 unfold Tb.idx at hr ⊢
 cases h : t.us.findIdx? Tb.isFree with
 | none => simp
 | some i =>
  rw [List.findIdx?_eq_some_iff_getElem] at h
  obtain ⟨h1, h2, _⟩ := h
  unfold Tb.isFree at h2
  have h3 : t.us[i].st = 0 := by simpa using h2
  have h4 : (t.us.getD i ⟨0, 0⟩).st = 0 := by rw [List.getD_eq_getElem?_getD, List.getElem?_eq_getElem h1, Option.getD_some]; exact h3
  simp only [Int.toNat_natCast]
  have h5 : (0 : Int) ≤ (i : Int) ∧ (i : Int) < (t.us.length : Int) := ⟨by omega, by omega⟩
  have h6 : (i : Int) ≠ -1 := by omega
  rw [List.getD_eq_getElem?_getD] at h4
  simp [h4, h5, h6]
/-- Take: the segment, whether there is one, the table -/
def Tb.take (t : Tb) (spare : Bool) : Tb × Int × Bool := if t.takes spare = true ∧ Tb.idx t.us ≠ -1 then (t.grab (Tb.idx t.us), Tb.idx t.us, true) else (t, 0, false)
end Go.Kn
namespace Go.Proofs.YtgcfdjcpcclcjaaGreat
open Go Go.RowKit Go.Kn Go.Shelf
set_option maxHeartbeats 2000000 in
theorem us_free_any (w : World) (p : TD) (t : Tb) (hT : Kn.Own w p.T p.box) (hu : Kn.Own w p.u (usV t.us)) (ht : t.Ok p.n) (hn : p.n ≤ 1000) :
  Calls Tryz.prog 74 #[.pointer (some ⟨p.T, 0, none⟩)] w fun e w' => e = .returned (.int .i64 (t.free : Nat)) ∧ Only [] w w' := by
 have HU := Lib.hid hu
 have c1 : w.cell? ⟨p.T, 1, none⟩ = some (.slice (some ⟨p.u, 0, none⟩) p.n p.n) := hT.cellv 1
 have HL := Lib.hid ht.u
 have hcn : t.us.countP Tb.isFree ≤ p.n := by rw [← ht.u]; exact List.countP_le_length
 clear hT hu ht
 go_enter Tryz.func74, Tryz.ntmps74
 go_wp2_with fail
 clear c1
 go_loopg [2, 12] p.n (fun r s2 s12 wr => ∃ j m : Nat, j + r = p.n ∧ s2 = .int .i64 (m : Int) ∧ s12 = .int .i64 (j : Int) ∧ (t.us.take j).countP Tb.isFree = m ∧ m ≤ j ∧ Only [] w wr)
 case atStart => exact ⟨0, 0, by omega, rfl, rfl, by simp, by omega, Only.refl _ _⟩
 obtain ⟨j, m, hj, rfl, rfl, hm, hmj, hO⟩ := hrel
 have HO := Lib.hid hO
 have HM := Lib.hid hm
 clear hO hm
 by_cases hlt : j < p.n
 ·have hjl : j < t.us.length := by rw [HL.out]; exact hlt
  obtain ⟨c0, c1⟩ := us_cell (HU.out.keep0 HO.out) hjl
  obtain ⟨⟨s, x⟩, hs⟩ : ∃ u, t.us[j] = u := ⟨_, rfl⟩
  have hst := free_step hjl
  rw [hs] at c0 c1 hst
  simp only at c0 c1 hst
  rw [HM.out] at hst
  have HST := Lib.hid hst
  have hlt2 : (j : Int) < (p.n : Int) := by omega
  clear hs hst
  by_cases h0 : s = 0
  ·subst h0
   go_wp2
   go_roundg (gk - 1)
   case measure => omega
   case rel => exact ⟨j + 1, m + 1, by omega, by go_num, by go_num, by rw [HST.out]; rfl, by omega, HO.out.alloc _⟩
  ·have hst2 : (t.us.take (j + 1)).countP Tb.isFree = m := by rw [HST.out, if_neg h0]; rfl
   have HST2 := Lib.hid hst2
   clear hst2
   go_wp2
   go_roundg (gk - 1)
   case measure => omega
   case rel => exact ⟨j + 1, m, by omega, rfl, by go_num, HST2.out, by omega, HO.out.alloc _⟩
 ·obtain rfl : j = p.n := by omega
  have hf : t.free = m := by unfold Tb.free; rw [← HM.out, List.take_of_length_le (by rw [HL.out]; omega)]
  have HF := Lib.hid hf
  clear hf
  go_wp2
  go_ret
  exact ⟨by rw [HF.out]; rfl, HO.out⟩
theorem take1_any (s x : Int) (w : World) : Calls Tryz.prog 194 #[.agg #[.int .i64 s, .int .i64 x]] w fun e w' => e = .returned (.bool (s == 0)) ∧ Only [] w w' := by
 go_enter Tryz.func194, Tryz.ntmps194
 by_cases h : s = 0
 ·subst h
  go_wp2
  go_ret
  exact ⟨rfl, (Only.refl _ _).alloc _⟩
 ·have h1 : (s == 0) = false := by simpa using h
  go_wp2
  go_ret
  exact ⟨by simp [h], (Only.refl _ _).alloc _⟩
set_option maxRecDepth 100000 in
set_option maxHeartbeats 2000000 in
theorem us_index_any (w : World) (p : TD) (t : Tb) (hu : Kn.Own w p.u (usV t.us)) (ht : t.Ok p.n) (hn : p.n ≤ 1000) :
  Calls Tryz.prog 193 #[.slice (some ⟨p.u, 0, none⟩) p.n p.n, .func (.func 194) #[] #[]] w fun e w' => e = .returned (.int .i64 (Tb.idx t.us)) ∧ Only [] w w' := by
 have HU := Lib.hid hu
 have HL := Lib.hid ht.u
 clear hu ht
 have eg : ∀ args w, (callFunc 194 args).run Tryz.prog w = .ok (.enter 194 args) w := enters_of Tryz.func194 (by kernel_rfl) rfl
 go_enter Tryz.func193, Tryz.ntmps193
 go_wp2_with fail
 go_loopg [5, 8] p.n (fun r _ i wr => ∃ j : Nat, j + r = p.n ∧ i = .int .i64 j ∧ Only [] w wr ∧ (t.us.take j).findIdx? Tb.isFree = none)
 case atStart => exact ⟨0, by omega, rfl, Only.refl _ _, by simp⟩
 obtain ⟨j, hj, rfl, hO, hal⟩ := hrel
 have HAL := Lib.hid hal
 have HO := Lib.hid hO
 clear hal hO
 by_cases hlt : j < p.n
 ·have hjl : j < t.us.length := by rw [HL.out]; exact hlt
  obtain ⟨c0, c1⟩ := us_cell (HU.out.keep0 HO.out) hjl
  obtain ⟨⟨s, x⟩, hs⟩ : ∃ u, t.us[j] = u := ⟨_, rfl⟩
  have hst : t.us[j].st = s := by rw [hs]
  have HST := Lib.hid hst
  rw [hs] at c0 c1
  simp only at c0 c1
  clear hs hst
  have hlt2 : (j : Int) < (p.n : Int) := by omega
  go_wp2_with fail
  refine (take1_any s x _).mono ?_
  rintro e w2 ⟨rfl, hO2⟩
  have HO2 := Lib.hid (HO.out.trans' hO2)
  clear hO2 c0 c1
  by_cases hm : s = 0
  ·subst hm
   have HI := Lib.hid (idx_at hjl HAL.out HST.out)
   go_wp2
   go_ret
   exact ⟨by rw [HI.out]; rfl, HO2.out⟩
  ·have h1 : (s == 0) = false := by simpa using hm
   have HM := Lib.hid (idx_step hjl HAL.out (by rw [HST.out]; exact hm))
   clear hm
   go_wp2
   go_roundg (gk - 1)
   case measure => omega
   case rel => exact ⟨j + 1, by omega, by go_num, HO2.out, HM.out⟩
 ·obtain rfl : j = p.n := by omega
  have hal := HAL.out
  rw [List.take_of_length_le (by rw [HL.out]; omega)] at hal
  have HI := Lib.hid (idx_none hal)
  clear hal
  go_wp2
  go_ret
  exact ⟨by rw [HI.out]; rfl, HO.out⟩
set_option maxRecDepth 100000 in
set_option maxHeartbeats 4000000 in
theorem us_take_any (w0 w : World) (p : TD) (t : Tb) (spare : Bool) (L : List (Nat × List Value)) (G : List Gs) (F : List (World → Prop)) (hw : Wc w0 w (p.L t L) G F) (ht : t.Ok p.n) (hn : p.n ≤ 1000) :
  Calls Tryz.prog 168 #[.pointer (some ⟨p.T, 0, none⟩), .bool spare] w fun e w' => e = .returned (.tuple #[.int .i64 (t.take spare).2.1, .bool (t.take spare).2.2]) ∧ Wc w0 w' (p.L (t.take spare).1 L) G F := by
 have HW := Lib.hid hw
 have HO := Lib.hid ht
 have hir := idx_range t.us
 rw [ht.u] at hir
 have hgo : ∀ b : Bool, t.takes spare = true → decide (Tb.idx t.us ≠ -1) = b → (if b = true then (t.grab (Tb.idx t.us), Tb.idx t.us, true) else (t, 0, false)) = t.take spare := by
  intro b h1 h2
  unfold Tb.take
  by_cases h3 : Tb.idx t.us = -1
  ·rw [← h2, if_neg (by simp [h3]), if_neg (fun h => h.2 h3)]
  ·rw [← h2, if_pos (by simp [h3]), if_pos ⟨h1, h3⟩]
 have hgr : decide (Tb.idx t.us ≠ -1) = false → t.grab (Tb.idx t.us) = t := by
  intro h
  unfold Tb.grab
  rw [if_neg (by rw [idx_grabs, h]; decide)]
 have HGO := Lib.hid hgo
 have HGR := Lib.hid hgr
 have HT : Hid (Kn.Own w p.T p.box) := Lib.hid (HW.out.boxi 0 rfl)
 have HU : Hid (Kn.Own w p.u (usV t.us)) := Lib.hid (HW.out.boxi 1 rfl)
 have c1 : w.cell? ⟨p.T, 1, none⟩ = some (.slice (some ⟨p.u, 0, none⟩) p.n p.n) := HT.out.cellv 1
 clear hw ht hgo hgr
 by_cases hsp : t.takes spare = true
 ·have HSP := Lib.hid hsp
  cases spare with
  | true =>
   clear hsp
   go_enter Tryz.func168, Tryz.ntmps168
   go_wp2_with fail
   have HWa := HW
   have HU2 := HU
   refine (us_index_any _ p t HU2.out HO.out hn).mono ?_
   rintro e w2 ⟨rfl, hO2⟩
   have HWb := Lib.hid (HWa.out.keep0 hO2)
   clear hO2 HU2 HWa
   go_wp2_with fail
   refine (us_grab_any w0 _ p t (Tb.idx t.us) L G F HWb.out HO.out hn).mono ?_
   rintro e w3 ⟨rfl, h3⟩
   rw [idx_grabs]
   have HWc := Lib.hid h3
   clear h3 HWb
   by_cases hi : Tb.idx t.us = -1
   ·have hb : decide (Tb.idx t.us ≠ -1) = false := by simp [hi]
    have he := HGO.out _ HSP.out hb
    rw [hb]
    have hwz := HWc.out
    rw [HGR.out hb] at hwz
    rw [if_neg (by decide)] at he
    have HE := Lib.hid he
    have HZ := Lib.hid hwz
    clear he hb hi hwz HWc
    go_wp2
    go_ret2
    rw [← HE.out]
    exact ⟨rfl, HZ.out⟩
   ·have hb : decide (Tb.idx t.us ≠ -1) = true := by simp [hi]
    have he := HGO.out _ HSP.out hb
    rw [hb]
    rw [if_pos rfl] at he
    have HE := Lib.hid he
    clear he hb hi
    go_wp2
    go_ret2
    rw [← HE.out]
    exact ⟨rfl, HWc.out⟩
  | false =>
   have hfr : ¬ t.free ≤ 2 := by unfold Tb.takes at hsp; simpa using hsp
   clear hsp
   go_enter Tryz.func168, Tryz.ntmps168
   go_wp2_with fail
   refine (us_free_any w p t HT.out HU.out HO.out hn).mono ?_
   rintro e w1 ⟨rfl, hO1⟩
   have HWa := Lib.hid (HW.out.keep0 hO1)
   have HU2 : Hid (Kn.Own w1 p.u (usV t.us)) := Lib.hid (HWa.out.boxi 1 rfl)
   have c1 : w1.cell? ⟨p.T, 1, none⟩ = some (.slice (some ⟨p.u, 0, none⟩) p.n p.n) := (HWa.out.boxi 0 rfl).cellv 1
   have hfz : ¬ ((t.free : Nat) : Int) ≤ 2 := by omega
   clear hO1 hfr
   go_wp2_with fail
   refine (us_index_any _ p t HU2.out HO.out hn).mono ?_
   rintro e w2 ⟨rfl, hO2⟩
   have HWb := Lib.hid (HWa.out.keep0 hO2)
   clear hO2 HU2 HWa
   go_wp2_with fail
   refine (us_grab_any w0 _ p t (Tb.idx t.us) L G F HWb.out HO.out hn).mono ?_
   rintro e w3 ⟨rfl, h3⟩
   rw [idx_grabs]
   have HWc := Lib.hid h3
   clear h3 HWb
   by_cases hi : Tb.idx t.us = -1
   ·have hb : decide (Tb.idx t.us ≠ -1) = false := by simp [hi]
    have he := HGO.out _ HSP.out hb
    rw [hb]
    have hwz := HWc.out
    rw [HGR.out hb] at hwz
    rw [if_neg (by decide)] at he
    have HE := Lib.hid he
    have HZ := Lib.hid hwz
    clear he hb hi hwz HWc
    go_wp2
    go_ret2
    rw [← HE.out]
    exact ⟨rfl, HZ.out⟩
   ·have hb : decide (Tb.idx t.us ≠ -1) = true := by simp [hi]
    have he := HGO.out _ HSP.out hb
    rw [hb]
    rw [if_pos rfl] at he
    have HE := Lib.hid he
    clear he hb hi
    go_wp2
    go_ret2
    rw [← HE.out]
    exact ⟨rfl, HWc.out⟩
 ·cases spare with
  | true => exact absurd (by unfold Tb.takes; simp) hsp
  | false =>
   have hfr : t.free ≤ 2 := by unfold Tb.takes at hsp; simpa using hsp
   have hte : t.take false = (t, 0, false) := by unfold Tb.take; rw [if_neg (fun h => hsp h.1)]
   have HTE := Lib.hid hte
   clear hsp hte
   go_enter Tryz.func168, Tryz.ntmps168
   go_wp2_with fail
   refine (us_free_any w p t HT.out HU.out HO.out hn).mono ?_
   rintro e w1 ⟨rfl, hO1⟩
   have HWa := Lib.hid (HW.out.keep0 hO1)
   have hfz : ((t.free : Nat) : Int) ≤ 2 := by omega
   clear hO1 hfr c1
   go_wp2
   go_ret2
   rw [HTE.out]
   exact ⟨rfl, HWa.out⟩
end Go.Proofs.YtgcfdjcpcclcjaaGreat
namespace Go.Proofs.YtgcfdjcpcclcjaaGreat
open Go Go.RowKit Go.Kn
theorem duo_off {w0 w : World} {p : PD} {r : RD} {d e : Dk} {c : Fr3} (h : Duo w0 w p r d e c) :
  Calls Tryz.prog 51 #[.pointer (some ⟨p.D, 0, none⟩)] w fun en w' => en = .returned (.bool d.off) ∧ w = w' := by
 obtain ⟨c1, hF, hP, back⟩ := h.ofP
 obtain ⟨v, hm⟩ := hP.mem
 have c6 := (hm.boxi 0 (p := p.D) (cs := p.box v d) rfl).cellv 6
 have c6 : w.cell? ⟨p.D, 6, none⟩ = some (.bool d.off) := c6
 clear hm back hP h
 go_enter Tryz.func51, Tryz.ntmps51
 go_wp2
 go_ret
 exact ⟨rfl, rfl⟩
theorem duo_held {w0 w : World} {p : PD} {r : RD} {d e : Dk} {c : Fr3} (h : Duo w0 w p r d e c) :
  Calls Tryz.prog 109 #[.pointer (some ⟨p.D, 0, none⟩)] w fun en w' => en = .returned (.int .i64 (d.held.length : Nat)) ∧ w = w' := by
 obtain ⟨c1, hF, hP, back⟩ := h.ofP
 obtain ⟨v, hm⟩ := hP.mem
 obtain ⟨A, cc, rfl⟩ := hm.gform 0 rfl
 have c6 := (hm.boxi 0 (p := p.D) (cs := p.box (.slice A d.held.length cc) d) rfl).cellv 2
 have c6 : w.cell? ⟨p.D, 2, none⟩ = some (.slice A d.held.length cc) := c6
 clear hm back hP h
 go_enter Tryz.func109, Tryz.ntmps109
 go_wp2
 go_ret
 exact ⟨rfl, rfl⟩
end Go.Proofs.YtgcfdjcpcclcjaaGreat
namespace Go.Proofs.YtgcfdjcpcclcjaaGreat
open Go Go.RowKit Go.Kn
/-- a writer as it lies: its box, its table, its rows -/
def WrIn (w0 w : World) (p : PD) (r : RD) (e : Dk) (W gb : Nat) (q : TD) (z : Wr) (L : List (Nat × List Value)) (G : List Gs) (F : List (World → Prop)) : Prop :=
 ∃ (A : Option Addr) (c : Nat) (B : Option Addr) (k : Nat) (sl : List (Option Addr × Nat × Nat)), Duo w0 w p r z.d e ⟨(W, WB p.D gb q.T z.p (.slice A z.its.length c) (.slice B z.bl.length k)) :: q.L z.t L, ⟨63, 4, .slice A z.its.length c, z.its.length, itsV z.its⟩ :: ⟨47, 1, .slice B z.bl.length k, z.bl.length, sl.map slv⟩ :: G, (fun W => Bls W sl z.bl) :: F⟩
theorem Duo.its {w0 w : World} {p : PD} {r : RD} {d e : Dk} {L : List (Nat × List Value)} {G : List Gs} {F : List (World → Prop)} {A : Option Addr} {n c : Nat} {its : List It} (h : Duo w0 w p r d e ⟨L, ⟨63, 4, .slice A n c, n, itsV its⟩ :: G, F⟩) (hl : its.length = n) : Its w A n c its := by
 obtain ⟨L0, G0, F0, hw, back⟩ := h.fr
 obtain ⟨A2, c2, hv, hi, _⟩ := (hw.gath (x := ⟨63, 4, .slice A n c, n, itsV its⟩) List.mem_cons_self).its hl
 injection hv with h1 h2 h3
 subst h1 h3
 exact hi
theorem Bls.nil {w : World} : Bls w [] [] := ⟨rfl, fun i h1 => by simp at h1⟩
theorem WrIn.empty {w0 w : World} {p : PD} {r : RD} {d e : Dk} {W gb : Nat} {q : TD} {t : Tb} {ps : Ps} {g1 g2 : Gs} {L : List (Nat × List Value)} {G : List Gs} {F : List (World → Prop)} {f : World → Prop} (h : Duo w0 w p r d e ⟨(W, WB p.D gb q.T ps (.slice none 0 0) (.slice none 0 0)) :: q.L t L, g1 :: g2 :: G, f :: F⟩) : WrIn w0 w p r e W gb q ⟨d, t, ps, [], []⟩ L G F :=
 ⟨none, 0, none, 0, [], ((h.gdrop.gdrop.gnew 47 1).gnew 63 4).impF (F' := (fun W => Bls W [] []) :: F) (fun g hg W hW => by
  rcases List.mem_cons.1 hg with rfl | hg
  ·exact Bls.nil
  ·exact hW g (List.mem_cons_of_mem _ hg))⟩
theorem beginW_s (d : Dk) (c : Cf) (q : Ps) : (beginW d c q).2.1.s = q.s ∧ (beginW d c q).2.1.l = q.l ∧ ((beginW d c q).2.1.o = q.o ∨ (beginW d c q).2.1.o = 1) ∧ (beginW d c q).1.held.length ≤ d.held.length + 1 := by
 unfold beginW
 split
 ·exact ⟨rfl, rfl, .inl rfl, Nat.le_succ _⟩
 ·cases encHead q.head with
  | none => exact ⟨rfl, rfl, .inl rfl, Nat.le_succ _⟩
  | some b =>
   simp only
   split
   ·exact ⟨rfl, rfl, .inr rfl, write_held _ _ _⟩
   ·exact ⟨rfl, rfl, .inl rfl, write_held _ _ _⟩
set_option maxRecDepth 100000 in
set_option maxHeartbeats 8000000 in
theorem wr_emit_any (w0 w : World) (p : PD) (r : RD) (e : Dk) (W gb : Nat) (q : TD) (z : Wr) (cf : Cf) (L : List (Nat × List Value)) (G : List Gs) (F : List (World → Prop)) (h : WrIn w0 w p r e W gb q z L G F) (hg : (fun W => GeoAt W gb cf.b cf.s cf.l) ∈ F) (hc : cf.Ok) (ht : z.t.Ok q.n) (hqn : q.n ≤ 1000) (hs : 0 ≤ z.p.s ∧ z.p.s ≤ cf.s - 1) (ho : 0 ≤ z.p.o ∧ z.p.o ≤ 64) (hl : -1000000000000 ≤ z.p.l ∧ z.p.l ≤ 1000000000000) (hh : z.d.held.length ≤ 890000) :
  Calls Tryz.prog 44 #[.pointer (some ⟨W, 0, none⟩)] w fun en w' => en = .returned (.int .i64 (z.emit cf).2) ∧ WrIn w0 w' p r e W gb q (z.emit cf).1 L G F := by
 obtain ⟨d, t, ps, its, bl⟩ := z
 obtain ⟨A, c, B, k, sl, h⟩ := h
 dsimp only at h ht hs ho hl hh
 obtain ⟨n, hn⟩ : ∃ n, its.length = n := ⟨_, rfl⟩
 obtain ⟨m, hm⟩ : ∃ m, bl.length = m := ⟨_, rfl⟩
 rw [hn, hm] at h
 have HD : Hid (Duo w0 w p r d e ⟨(W, WB p.D gb q.T ps (.slice A n c) (.slice B m k)) :: q.L (t) L, ⟨63, 4, .slice A n c, n, itsV its⟩ :: ⟨47, 1, .slice B m k, m, sl.map slv⟩ :: G, (fun W => Bls W sl bl) :: F⟩) := Lib.hid h
 have HG := Lib.hid hg
 have HC := Lib.hid hc
 have HT := Lib.hid ht
 have HN := Lib.hid hn
 have HM := Lib.hid hm
 have b0 := HD.out.boxi 0 rfl
 have c0 := b0.cellv 0
 have c8 := b0.cellv 8
 have hfin : ∀ (w' : World) (d' : Dk) (t' : Tb) (p' : Ps), Duo w0 w' p r d' e ⟨(W, WB p.D gb q.T p' (.slice A n c) (.slice B m k)) :: q.L (t') L, ⟨63, 4, .slice A n c, n, itsV its⟩ :: ⟨47, 1, .slice B m k, m, sl.map slv⟩ :: G, (fun W => Bls W sl bl) :: F⟩ → WrIn w0 w' p r e W gb q ⟨d', t', p', its, bl⟩ L G F := fun w' d' t' p' hx => ⟨A, c, B, k, sl, by rw [HN.out, HM.out]; exact hx⟩
 have HFIN := Lib.hid hfin
 clear h hg hc ht b0 hn hm hfin
 go_enter Tryz.func44, Tryz.ntmps44
 go_wp2_with fail
 refine (duo_off HD.out).mono ?_
 rintro en w1 ⟨rfl, rfl⟩
 by_cases hof : d.off = true
 ·have hem : Wr.emit cf ⟨d, t, ps, its, bl⟩ = (⟨d, t, ps, its, bl⟩, 3) := by unfold Wr.emit; rw [if_pos hof]
  have HEM := Lib.hid hem
  rw [hof]
  clear hem hof
  go_wp2
  go_ret
  rw [HEM.out]
  exact ⟨rfl, HFIN.out _ _ _ _ HD.out⟩
 ·have HOF := Lib.hid hof
  rw [Bool.not_eq_true] at hof
  rw [hof]
  clear hof
  by_cases hn0 : n = 0
  ·have hi0 : its = [] := List.eq_nil_of_length_eq_zero (HN.out.trans hn0)
   have hem : Wr.emit cf ⟨d, t, ps, its, bl⟩ = (⟨d, t, ps, its, bl⟩, 0) := by unfold Wr.emit; rw [if_neg HOF.out, if_pos hi0]
   have HEM := Lib.hid hem
   clear hem hi0
   subst hn0
   go_wp2
   go_ret
   rw [HEM.out]
   exact ⟨rfl, HFIN.out _ _ _ _ HD.out⟩
  ·have hi0 : ¬ its = [] := fun h => hn0 (by rw [← HN.out, h]; rfl)
   have hnb : ((n : Int) == 0) = false := by simp; omega
   have hwf := begin_W cf ⟨d, t, ps, its, bl⟩
   obtain ⟨bb1, bb2, bb3, bb4⟩ := beginW_s d cf ps
   obtain ⟨d1, p1, e1, hbg⟩ : ∃ d1 p1 e1, beginW d cf ps = (d1, p1, e1) := ⟨_, _, _, rfl⟩
   dsimp only at hwf
   rw [hbg] at hwf bb1 bb2 bb3 bb4
   dsimp only at hwf bb1 bb2 bb3 bb4
   have hem : Wr.emit cf ⟨d, t, ps, its, bl⟩ = if e1 ≠ 0 then (⟨d1, t, p1, its, bl⟩, e1) else if (Wr.write cf ⟨d1, t, p1, its, bl⟩ its bl).2 ≠ 0 then Wr.write cf ⟨d1, t, p1, its, bl⟩ its bl else ({ (Wr.write cf ⟨d1, t, p1, its, bl⟩ its bl).1 with its := [], bl := [] }, 0) := by
    unfold Wr.emit
    rw [if_neg HOF.out, if_neg hi0, hwf]
   have HEM := Lib.hid hem
   have HBG := Lib.hid hbg
   clear hem hbg hwf hi0 hn0
   go_wp2_with fail
   refine (wr_begin_any w0 _ p r d e W gb q.T ps _ _ cf _ _ _ HD.out (List.mem_cons_of_mem _ HG.out) HC.out (by omega)).mono ?_
   rw [HBG.out]
   rintro en w1 ⟨rfl, hd⟩
   have HB : Hid (Duo w0 w1 p r d1 e ⟨(W, WB p.D gb q.T p1 (.slice A n c) (.slice B m k)) :: q.L (t) L, ⟨63, 4, .slice A n c, n, itsV its⟩ :: ⟨47, 1, .slice B m k, m, sl.map slv⟩ :: G, (fun W => Bls W sl bl) :: F⟩) := Lib.hid hd
   clear hd HD c0 c8
   by_cases he : e1 = 0
   ·subst he
    have hww := write_W cf ⟨d1, t, p1, its, bl⟩ its bl
    have hp1 : 0 ≤ p1.s ∧ p1.s ≤ cf.s - 1 := by rw [bb1]; exact hs
    have hp2 : 0 ≤ p1.o ∧ p1.o ≤ 100 := by rcases bb3 with h | h <;> omega
    have hp3 : -1000000000000 ≤ p1.l ∧ p1.l ≤ 1000000000000 := by rw [bb2]; exact hl
    have HH1 : Hid (d1.held.length ≤ 900000) := Lib.hid (by omega)
    obtain ⟨d2, t2, p2, e2, hwr⟩ : ∃ d2 t2 p2 e2, writeW d1 t cf p1 its bl = (d2, t2, p2, e2) := ⟨_, _, _, _, rfl⟩
    dsimp only at hww
    rw [hwr] at hww
    dsimp only at hww
    have hem := HEM.out
    rw [if_neg (by decide), hww] at hem
    dsimp only at hem
    have HEM2 := Lib.hid hem
    have HWR := Lib.hid hwr
    clear hem hwr hww HEM bb1 bb2 bb3 bb4 HBG
    go_wp2_with fail
    have HY := Lib.hid HB.out.drew
    clear HB
    refine wp_region_held_drew (S := (fun w' => True)) (by kernel_rfl) trivial (fun hSw0 => ?_)
    generalize w1.drew = wz at *
    refine Kn.takeS 0 ⟨some 26, _, _, _, _, _⟩ ?_
    refine Kn.takeS 1 ⟨some 27, _, _, _, _, _⟩ ?_
    refine Kn.takeS 2 ⟨some 28, _, _, _, _, _⟩ ?_
    refine Kn.takeS 3 ⟨some 29, _, _, _, _, _⟩ ?_
    refine Kn.takeS 5 ⟨some 31, _, _, _, _, _⟩ ?_
    refine Kn.takeS 6 ⟨some 32, _, _, _, _, _⟩ ?_
    refine Kn.takeS 7 ⟨some 33, _, _, _, _, _⟩ ?_
    refine wpAnyH_ready (rs := [4, 8]) (by kernel_rfl) (by simp) ?_
    refine AllReadyH.cons (o := ⟨some 30, _, _, _, _, _⟩) rfl (fun K hK => ?_) ?_
    ·have q0 := (HY.out.boxi 0 rfl).cellv 8
     go_simp
     clear q0
     refine hK.out _ _ trivial (fun hSn => ?_)
     clear hK K hSw0
     have hSw0 := hSn
     clear hSn
     refine Kn.takeR 8 ⟨some 34, _, _, _, _, _⟩ fun K hK => ?_
     have q0 := (HY.out.boxi 0 rfl).cellv 9
     go_simp
     clear q0
     refine hK.out _ _ trivial (fun hSn => ?_)
     clear hK K hSw0
     have hSw0 := hSn
     clear hSn
     refine Kn.takeR 9 ⟨some 35, _, _, _, _, _⟩ fun K hK => ?_
     go_simp
     refine (wr_write_any w0 _ p r d1 e W gb q t p1 _ _ cf its bl A B n c m k L _ _ HY.out (List.mem_cons_of_mem _ HG.out) HC.out HT.out hqn (HY.out.its HN.out) ⟨sl, HY.out.grow 1 rfl, HY.out.fact List.mem_cons_self⟩ hp1 hp2 hp3 HH1.out).mono ?_
     rintro en w2 ⟨rfl, hd⟩
     rw [HWR.out] at hd ⊢
     have HZ : Hid (Duo w0 w2 p r d2 e ⟨(W, WB p.D gb q.T p2 (.slice A n c) (.slice B m k)) :: q.L (t2) L, ⟨63, 4, .slice A n c, n, itsV its⟩ :: ⟨47, 1, .slice B m k, m, sl.map slv⟩ :: G, (fun W => Bls W sl bl) :: F⟩) := Lib.hid hd
     clear hd HY
     refine hK.out _ _ trivial (fun hSn => ?_)
     clear hK K hSw0
     have hSw0 := hSn
     clear hSn
     refine Kn.takeS 10 ⟨some 4, _, _, _, _, _⟩ ?_
     refine wpAnyH_done (by kernel_rfl) ?_ _
     clear hSw0
     go_upto_if 37 with (fail)
     by_cases he2 : e2 = 0
     ·subst he2
      have b1 := HZ.out.boxi 0 rfl
      have y8 := b1.cellv 8
      have z8 := b1.frozen 8
      have y9 := b1.cellv 9
      have z9 := b1.frozen 9
      have l9 := b1.lt
      have HE := Lib.hid ((HZ.out.put 0 rfl 8 (.slice none 0 0)).put 0 rfl 9 (.slice none 0 0))
      clear b1
      go_wp2
      go_ret
      rw [HEM2.out, if_neg (by decide)]
      exact ⟨rfl, WrIn.empty HE.out⟩
     ·have heb : (e2 != 0) = true := by rw [bne_iff_ne]; exact he2
      have hem := HEM2.out
      rw [if_pos he2] at hem
      have HEM3 := Lib.hid hem
      clear hem HEM2
      go_wp2
      go_ret
      rw [HEM3.out]
      exact ⟨rfl, HFIN.out _ _ _ _ HZ.out⟩
    refine AllReadyH.cons (o := ⟨some 34, _, _, _, _, _⟩) rfl (fun K hK => ?_) ?_
    ·have q0 := (HY.out.boxi 0 rfl).cellv 9
     go_simp
     clear q0
     refine hK.out _ _ trivial (fun hSn => ?_)
     clear hK K hSw0
     have hSw0 := hSn
     clear hSn
     refine Kn.takeR 4 ⟨some 30, _, _, _, _, _⟩ fun K hK => ?_
     have q0 := (HY.out.boxi 0 rfl).cellv 8
     go_simp
     clear q0
     refine hK.out _ _ trivial (fun hSn => ?_)
     clear hK K hSw0
     have hSw0 := hSn
     clear hSn
     refine Kn.takeR 9 ⟨some 35, _, _, _, _, _⟩ fun K hK => ?_
     go_simp
     refine (wr_write_any w0 _ p r d1 e W gb q t p1 _ _ cf its bl A B n c m k L _ _ HY.out (List.mem_cons_of_mem _ HG.out) HC.out HT.out hqn (HY.out.its HN.out) ⟨sl, HY.out.grow 1 rfl, HY.out.fact List.mem_cons_self⟩ hp1 hp2 hp3 HH1.out).mono ?_
     rintro en w2 ⟨rfl, hd⟩
     rw [HWR.out] at hd ⊢
     have HZ : Hid (Duo w0 w2 p r d2 e ⟨(W, WB p.D gb q.T p2 (.slice A n c) (.slice B m k)) :: q.L (t2) L, ⟨63, 4, .slice A n c, n, itsV its⟩ :: ⟨47, 1, .slice B m k, m, sl.map slv⟩ :: G, (fun W => Bls W sl bl) :: F⟩) := Lib.hid hd
     clear hd HY
     refine hK.out _ _ trivial (fun hSn => ?_)
     clear hK K hSw0
     have hSw0 := hSn
     clear hSn
     refine Kn.takeS 10 ⟨some 4, _, _, _, _, _⟩ ?_
     refine wpAnyH_done (by kernel_rfl) ?_ _
     clear hSw0
     go_upto_if 37 with (fail)
     by_cases he2 : e2 = 0
     ·subst he2
      have b1 := HZ.out.boxi 0 rfl
      have y8 := b1.cellv 8
      have z8 := b1.frozen 8
      have y9 := b1.cellv 9
      have z9 := b1.frozen 9
      have l9 := b1.lt
      have HE := Lib.hid ((HZ.out.put 0 rfl 8 (.slice none 0 0)).put 0 rfl 9 (.slice none 0 0))
      clear b1
      go_wp2
      go_ret
      rw [HEM2.out, if_neg (by decide)]
      exact ⟨rfl, WrIn.empty HE.out⟩
     ·have heb : (e2 != 0) = true := by rw [bne_iff_ne]; exact he2
      have hem := HEM2.out
      rw [if_pos he2] at hem
      have HEM3 := Lib.hid hem
      clear hem HEM2
      go_wp2
      go_ret
      rw [HEM3.out]
      exact ⟨rfl, HFIN.out _ _ _ _ HZ.out⟩
    exact AllReadyH.nil
   ·have heb : (e1 != 0) = true := by rw [bne_iff_ne]; exact he
    have hem := HEM.out
    rw [if_pos he] at hem
    have HEM2 := Lib.hid hem
    clear hem HEM
    go_wp2
    go_ret
    rw [HEM2.out]
    exact ⟨rfl, HFIN.out _ _ _ _ HB.out⟩
end Go.Proofs.YtgcfdjcpcclcjaaGreat
