/- XwF, LaidP, RingQ, RingA, UsD, XwG, DkU, YyP, MdW, YyA, Fill, SpcP: joined by pack.py, without what the claim does not use. -/
import Derived.Test.YtgcfdjcpcclcjaaGreatWriterPlaysF
set_option linter.unusedVariables false
set_option linter.unusedSimpArgs false
namespace Go.Kn
open Go Go.RowKit
theorem own_hr {w : World} {base e sz n c : Nat} {A : Option Addr} {xs : List Value} (h : w.ownsRow base e sz (.slice A n c) n xs) : 0 < n → ∃ g, A = some ⟨g, 0, none⟩ ∧ ∀ j u, xs[j]? = some u → w.cell? ⟨g, j, none⟩ = some u := (cells_owns h).2.2
theorem four_hr {w : World} {g : Nat} {k b c v : Int} (h : w.cell? ⟨g, 0, none⟩ = some (.int .i64 k) ∧ w.cell? ⟨g, 1, none⟩ = some (.int .i64 b) ∧ w.cell? ⟨g, 2, none⟩ = some (.int .i64 c) ∧ w.cell? ⟨g, 3, none⟩ = some (.int .i64 v)) : 0 < 1 → ∃ g', some (⟨g, 0, none⟩ : Addr) = some ⟨g', 0, none⟩ ∧ ∀ j u, (itsV [⟨k, b, c, v⟩])[j]? = some u → w.cell? ⟨g', j, none⟩ = some u := fun _ => ⟨g, rfl, fun j u hj => by
 obtain ⟨h0, h1, h2, h3⟩ := h
 match j, hj with
 | 0, hj => simp [itsV, It.vals] at hj; subst hj; exact h0
 | 1, hj => simp [itsV, It.vals] at hj; subst hj; exact h1
 | 2, hj => simp [itsV, It.vals] at hj; subst hj; exact h2
 | 3, hj => simp [itsV, It.vals] at hj; subst hj; exact h3
 | j + 4, hj => simp [itsV, It.vals] at hj⟩
theorem step_append_rowN {P : Program} {w : World} {ops : Array Oper} {o : Oper} {a : Act} {K : Act → World → Prop} {Q : Exit → Act → World → Prop} {E : Prop} (hgd : o.guard = none) (s x : Operand) (t : TypeId)
  (ho : o.op = .call { callee := .builtin .append, args := #[s, x], argTypes := #[t, t] })
  (base : Nat) (e : TypeId) (i : TypeInfo) (z : Value) (size bytes : Nat) (ht : P.underlying t = some (.slice e)) (hi : P.info? e = some i) (hz : i.zero = some z)
  (hsize : i.size = size) (hby : i.bytes = bytes) (hzs : z.cells.size = size) (hsz : 0 < size)
  (v : Value) (n : Nat) (xs : List Value) (hs : a.eval s = v) (hown : w.ownsRow base e size v n xs)
  (A : Option Addr) (m c : Nat) (news : List Value) (hx : a.eval x = .slice A m c) (hl : news.length = m * size) (hr : 0 < m → ∃ g, A = some ⟨g, 0, none⟩ ∧ ∀ j u, news[j]? = some u → w.cell? ⟨g, j, none⟩ = some u) (h1 : ∀ u ∈ news, u.oneCell' = true)
  (h63 : n + m ≤ maxLen) (hbytes : (n + m) * bytes ≤ 140737488355328) (hbase : base ≤ w.heap.size)
  (h : ∀ v' w', w'.ownsRow base e size v' (n + m) (xs ++ news) → w.grownBy w' v.ownBlock → (v'.ownBlock = v.ownBlock ∨ v'.ownBlock = some w.heap.size) → K (a.put o.dst v') w') :
  if Region.wanted o (yielded ops a.tmps) = true then Oper.wp P o a w K Q else E := by
 have hw : Region.wanted o (yielded ops a.tmps) = true := by simp [Region.wanted, hgd]
 rw [if_pos hw]
 obtain ⟨v', w', hrun, h2, h3, h4⟩ := run_append_rowN (P := P) w base t o.type e i z size bytes ht hi hz hsize hby hzs hsz v n xs hown A m c news hl hr h1 h63 hbytes hbase
 unfold Oper.wp execOp
 simp only [ho, resolve, invoke, builtin, Sem.run_bind, Sem.run_pure, Result.andThen_ok, List.map_toArray, List.map_cons, List.map_nil, hs, hx, hrun]
 exact h v' w' h2 h3 h4
theorem next_iff (t : Tb) (s : Bool) : (t.takes s = true ∧ Tb.idx t.us ≠ -1) ↔ 0 ≤ t.next s := by
 have h := (idx_range t.us).1
 unfold Tb.next
 split
 ·rename_i h1
  exact ⟨fun h2 => by have := h2.2; omega, fun h2 => ⟨h1, by omega⟩⟩
 ·rename_i h1
  exact ⟨fun h2 => absurd h2.1 h1, fun h2 => absurd h2 (by decide)⟩
theorem next_idx {t : Tb} {s : Bool} (h : 0 ≤ t.next s) : t.next s = Tb.idx t.us := by
 unfold Tb.next at h ⊢
 split
 ·rfl
 ·rename_i h1
  rw [if_neg h1] at h
  exact absurd h (by decide)
theorem emit_o1 (c : Cf) (z : Wr) (ho : 0 ≤ z.p.o) : (z.emit c).2 = 0 → z.its ≠ [] → 1 ≤ (z.emit c).1.p.o := by
 obtain ⟨d, t, ps, its, bl⟩ := z
 have ho' : 0 ≤ ps.o := ho
 intro h hi
 have hi' : ¬ its = [] := hi
 unfold Wr.emit at h ⊢
 by_cases h1 : d.off = true
 ·rw [if_pos h1] at h
  exact absurd (show (3 : Int) = 0 from h) (by decide)
 rw [if_neg h1, if_neg hi', begin_W] at h ⊢
 have b5 := Go.Proofs.YtgcfdjcpcclcjaaGreat.begin_o d c ps
 obtain ⟨d1, p1, e1, hbg⟩ : ∃ d1 p1 e1, beginW d c ps = (d1, p1, e1) := ⟨_, _, _, rfl⟩
 dsimp only at h ⊢
 rw [hbg] at b5 h ⊢
 dsimp only at b5 h ⊢
 by_cases he : e1 ≠ 0
 ·rw [if_pos he] at h
  exact absurd h he
 rw [if_neg he, write_W] at h ⊢
 have b6 := b5 (by simpa using he) ho'
 dsimp only at h ⊢
 have w6 := Go.Proofs.YtgcfdjcpcclcjaaGreat.writeW_o d1 t c p1 its bl
 obtain ⟨d2, t2, p2, e2, hwr⟩ : ∃ d2 t2 p2 e2, writeW d1 t c p1 its bl = (d2, t2, p2, e2) := ⟨_, _, _, _, rfl⟩
 rw [hwr] at w6 h ⊢
 dsimp only at w6 h ⊢
 have w7 : 1 ≤ p2.o := by
  rcases w6 with h | h
  ·omega
  ·unfold behind at h
   omega
 split <;> exact w7
end Go.Kn
namespace Go.Proofs.YtgcfdjcpcclcjaaGreat
open Go Go.RowKit Go.Kn
theorem XrIn.up {w0 w : World} {p : PD} {r : RD} {d : Dk} {X : Nat} {u : RT} {cf : Cf} {y : Wr} {L : List (Nat × List Value)} {G : List Gs} {F : List (World → Prop)} (h : XrIn w0 w p r d X u cf y L G F) (n : Nat) : XrIn w0 w p (RD.up r n) d X u cf y L G F := by
 obtain ⟨A, c, B, k, sl, h⟩ := h
 exact ⟨A, c, B, k, sl, duo_up h n⟩
theorem xr_drop {w0 w : World} {p : PD} {r : RD} {d e : Dk} {u : RT} {cf : Cf} {t : Tb} {x y : Nat × List Value} {L : List (Nat × List Value)} {G : List Gs} {F : List (World → Prop)} (h : Duo w0 w p r d e ⟨x :: u.L cf t (y :: L), G, F⟩) : Duo w0 w p r d e ⟨x :: u.L cf t L, G, F⟩ :=
 (h.permL (L' := y :: x :: u.L cf t L) (perm_any (fun c => by simp only [RT.L, List.map_cons, List.sum_cons]; omega))).ldrop
theorem XrIn.ldrop {w0 w : World} {p : PD} {r : RD} {d : Dk} {X : Nat} {u : RT} {cf : Cf} {y : Wr} {x : Nat × List Value} {L : List (Nat × List Value)} {G : List Gs} {F : List (World → Prop)} (h : XrIn w0 w p r d X u cf y (x :: L) G F) : XrIn w0 w p r d X u cf y L G F := by
 obtain ⟨A, c, B, k, sl, h⟩ := h
 exact ⟨A, c, B, k, sl, xr_drop h⟩
theorem Duo.permG {w0 w : World} {p : PD} {r : RD} {d e : Dk} {L : List (Nat × List Value)} {G G' : List Gs} {F : List (World → Prop)} (h : Duo w0 w p r d e ⟨L, G, F⟩) (hG : G.Perm G') : Duo w0 w p r d e ⟨L, G', F⟩ := by
 obtain ⟨L0, G0, F0, hw, back⟩ := h.fr
 exact back w ⟨L, G', F⟩ (hw.perm (List.Perm.refl _) (hG.append_right G0))
theorem add_keep {w0 w : World} {p : PD} {r : RD} {d e : Dk} {u : RT} {cf : Cf} {t : Tb} {x y z : Nat × List Value} {L : List (Nat × List Value)} {g1 g2 g3 : Gs} {G : List Gs} {F : List (World → Prop)} (h : Duo w0 w p r d e ⟨x :: u.L cf t (y :: z :: L), g1 :: g2 :: g3 :: G, F⟩) : Duo w0 w p r d e ⟨x :: u.L cf t (y :: L), g1 :: g3 :: G, F⟩ :=
 ((((h.permL (L' := z :: x :: u.L cf t (y :: L)) (perm_any (fun c => by simp only [RT.L, List.map_cons, List.sum_cons]; omega))).ldrop).permG (G' := g2 :: g1 :: g3 :: G) (List.Perm.swap _ _ _)).gdrop)
set_option maxRecDepth 100000 in
set_option maxHeartbeats 16000000 in
theorem xw_add_any (w0 w : World) (p : PD) (r : RD) (d : Dk) (X : Nat) (u : RT) (y : Wr) (ik ib ic iv : Int) (Ab : Option Addr) (nn cb : Nat) (b : List UInt8) (spare : Bool) (cf : Cf) (L : List (Nat × List Value)) (G : List Gs) (F : List (World → Prop)) (h : XrIn w0 w p r d X u cf y L G F) (hby : (fun W => Bys W Ab nn cb b) ∈ F) (hc : cf.Ok) (ht : y.t.Ok u.n) (hun : u.n ≤ 1000) (hs : 0 ≤ y.p.s ∧ y.p.s ≤ cf.s - 1) (ho : 0 ≤ y.p.o ∧ y.p.o ≤ 64) (hl : -100000000000 ≤ y.p.l ∧ y.p.l ≤ 100000000000) (hh : y.d.held.length ≤ 880000) (hi : y.its.length ≤ 6) (hb : y.bl.length ≤ 20) (hn : nn ≤ 100000) (hK : r.K ≤ 700000) :
  Calls Tryz.prog 43 #[.pointer (some ⟨X, 0, none⟩), .agg #[.int .i64 ik, .int .i64 ib, .int .i64 ic, .int .i64 iv], .slice Ab nn cb, .bool spare] w fun en w' => en = .returned (.tuple #[.int .i64 (y.add cf ⟨ik, ib, ic, iv⟩ b spare).2.1, .int .i64 (y.add cf ⟨ik, ib, ic, iv⟩ b spare).2.2]) ∧ XrIn w0 w' p (RD.up r 4) d X u cf (y.add cf ⟨ik, ib, ic, iv⟩ b spare).1 L G F := by
 obtain ⟨i0, hi0, hz0, hz1, hz2⟩ := info_parts Tryz.infoItem
 obtain ⟨i1, hi1, hy0, hy1, hy2⟩ := info_parts Tryz.infoBys
 obtain ⟨e, t, ps, its, bl⟩ := y
 obtain ⟨A, c, B, k, sl, h⟩ := h
 dsimp only at h ht hs ho hl hh hi hb
 obtain ⟨n, hn0⟩ : ∃ n, its.length = n := ⟨_, rfl⟩
 obtain ⟨m, hm0⟩ : ∃ m, bl.length = m := ⟨_, rfl⟩
 rw [hn0] at hi
 rw [hm0] at hb
 rw [hn0, hm0] at h
 have hnb : b.length = nn := by
  have := (h.fact (List.mem_cons_of_mem _ hby)).len
  rwa [bvs_length] at this
 obtain ⟨nb, hld⟩ : ∃ nb, nbl ⟨ik, ib, ic, iv⟩ = nb := ⟨_, rfl⟩
 have hnb1 : nb ≤ 1 := by rw [← hld]; unfold nbl; split <;> omega
 obtain ⟨ss, hss⟩ : ∃ x, nb * 64 = x := ⟨_, rfl⟩
 have hsl : (if It.loaded ⟨ik, ib, ic, iv⟩ = true then 64 else 0) = ss := by
  rw [← hss, ← hld]
  unfold nbl
  split <;> rfl
 obtain ⟨z1, e1, hrm⟩ : ∃ z1 e1, Wr.room cf ⟨e, t, ps, its, bl⟩ nb spare = (z1, e1) := ⟨_, _, rfl⟩
 have hrl := room_s cf ⟨e, t, ps, its, bl⟩ nb spare ho.1
 rw [hrm] at hrl
 dsimp only at hrl
 rw [hn0, hm0] at hrl
 obtain ⟨f1, hf1⟩ : ∃ x, max ps.o 1 = x := ⟨_, rfl⟩
 have hf1b : 1 ≤ f1 ∧ f1 ≤ 64 := by omega
 obtain ⟨nx, hnx⟩ : ∃ x, t.next spare = x := ⟨_, rfl⟩
 obtain ⟨nf, hnf⟩ : ∃ x, (!Wr.fits cf ps.o (n + 1) (m + nb)) = x := ⟨_, rfl⟩
 obtain ⟨o3, ho3⟩ : ∃ x, (if n = 0 then f1 else f1 + 1 + (m : Int)) = x := ⟨_, rfl⟩
 have ho3b : 1 ≤ o3 ∧ o3 ≤ 200 := by
  rw [← ho3]
  split <;> omega
 obtain ⟨fj, hfj⟩ : ∃ x, decide (o3 + 1 + (nb : Int) < cf.l) = x := ⟨_, rfl⟩
 have hj : (fj = true → ¬ o3 + 1 + (nb : Int) > cf.l - 1) ∧ (fj = false → o3 + 1 + (nb : Int) > cf.l - 1) := by
  rw [← hfj]
  exact ⟨fun h => by have := of_decide_eq_true h; omega, fun h => by have := of_decide_eq_false h; omega⟩
 have hn1 : its = [] ↔ n = 0 := by rw [← hn0]; exact List.length_eq_zero_iff.symm
 have hro : (z1, e1) = if nf = false then (⟨e, t, ps, its, bl⟩, 0) else if fj = true then Wr.emit cf ⟨e, t, ps, its, bl⟩ else if 0 ≤ nx then (if (Wr.emit cf ⟨e, t.grab nx, ps, its, bl⟩).2 ≠ 0 then Wr.emit cf ⟨e, t.grab nx, ps, its, bl⟩ else (Wr.emit cf ⟨e, t.grab nx, ps, its, bl⟩).1.turn cf nx) else (⟨e, t, ps, its, bl⟩, 6) := by
  rw [← hrm]
  unfold Wr.room
  dsimp only
  have g2 : Wr.fits cf (if its = [] then ps.o else behind ps.o bl.length) 1 nb = fj := by
   unfold Wr.fits
   rw [decide_eq_true (by decide), Bool.true_and, ← hfj]
   congr 1
   rw [← ho3, hm0]
   by_cases hx : its = []
   ·rw [if_pos hx, if_pos (hn1.1 hx)]
    unfold behind
    rw [hf1]
   ·rw [if_neg hx, if_neg (fun h => hx (hn1.2 h))]
    unfold behind
    rw [hf1]
    have : max (f1 + 1 + (m : Int)) 1 = f1 + 1 + (m : Int) := by omega
    rw [this]
  rw [g2, hn0, hm0]
  by_cases hq : Wr.fits cf ps.o (n + 1) (m + nb) = true
  ·have h3 : nf = false := by rw [← hnf, hq]; rfl
   rw [if_pos hq, if_pos h3]
  ·have h3 : ¬ nf = false := by rw [← hnf]; rw [Bool.not_eq_true] at hq; rw [hq]; decide
   rw [if_neg hq, if_neg h3]
   by_cases hr : 0 ≤ t.next spare
   ·rw [if_pos ((next_iff t spare).2 hr), ← next_idx hr, hnx]
    rw [hnx] at hr
    rw [if_pos hr]
   ·rw [if_neg (fun h => hr ((next_iff t spare).1 h))]
    rw [hnx] at hr
    rw [if_neg hr]
 have ho1 : fj = false → nf = true → ∀ z2, Wr.emit cf ⟨e, t.grab nx, ps, its, bl⟩ = (z2, 0) → 1 ≤ z2.p.o := fun h1 h2 z2 h3 => by
  have q := emit_o1 cf ⟨e, t.grab nx, ps, its, bl⟩ ho.1
  rw [h3] at q
  by_cases hx : its = []
  ·have h4 := hj.2 h1
   rw [← ho3, if_pos (hn1.1 hx)] at h4
   have h5 := hc.2.2
   unfold Wr.emit at h3
   split at h3
   ·cases h3
   ·try rw [if_pos hx] at h3
    injection h3 with h3
    rw [← h3]
    show 1 ≤ ps.o
    omega
  ·exact q rfl hx
 have hperm : ∀ f5 : Nat, ((f5, ([.int .i64 ik, .int .i64 ib, .int .i64 ic, .int .i64 iv] : List Value)) :: (X, (XB r u cf ps (.slice A n c) (.slice B m k))) :: u.L cf t L).Perm ((X, (XB r u cf ps (.slice A n c) (.slice B m k))) :: u.L cf t ((f5, [.int .i64 ik, .int .i64 ib, .int .i64 ic, .int .i64 iv]) :: L)) := fun f5 => perm_any (fun c => by simp only [RT.L, List.map_cons, List.sum_cons]; omega)
 have hd0 := (h.newB #[.int .i64 ik, .int .i64 ib, .int .i64 ic, .int .i64 iv] 63 (b := w.heap.size) rfl).permL (hperm w.heap.size)
 have hfin : ∀ (f5 : Nat) (t' : Tb) (w' : World), Duo w0 w' p r d e ⟨(X, (XB r u cf ps (.slice A n c) (.slice B m k))) :: u.L cf (t') ((f5, [.int .i64 ik, .int .i64 ib, .int .i64 ic, .int .i64 iv]) :: L), ⟨63, 4, .slice A n c, n, itsV (its)⟩ :: ⟨47, 1, .slice B m k, m, (sl).map slv⟩ :: G, (fun W => Bls W (sl) (bl)) :: F⟩ → XrIn w0 w' p r d X u cf ⟨e, t', ps, its, bl⟩ ((f5, [.int .i64 ik, .int .i64 ib, .int .i64 ic, .int .i64 iv]) :: L) G F := fun f5 t' w' hx => ⟨A, c, B, k, sl, by rw [hn0, hm0]; exact hx⟩
 have HBL0 := Lib.hid hm0
 have HD := Lib.hid hd0
 have HFIN := Lib.hid (hfin w.heap.size)
 have HC := Lib.hid hc
 have HT := Lib.hid ht
 have HBY := Lib.hid hby
 have HNB := Lib.hid hnb
 have HLD := Lib.hid hld
 have HSL := Lib.hid hsl
 have HSS := Lib.hid hss
 have HRM := Lib.hid hrm
 have HRL := Lib.hid hrl
 have HF1 := Lib.hid hf1
 have HNX := Lib.hid hnx
 have HNF := Lib.hid hnf
 have HO3 := Lib.hid ho3
 have HFJ := Lib.hid hfj
 have HJ := Lib.hid hj
 have HRO := Lib.hid hro
 have HO1' := Lib.hid ho1
 have hw1 := IntWalk.i64_in (cf.l - 1) (by have := hc.2.2; omega)
 have hw2 := IntWalk.i64_in (f1 + 1) (by omega)
 have hw3 := IntWalk.i64_in (f1 + 1 + (m : Int)) (by omega)
 have hw4 := IntWalk.i64_in (f1 + 1 + (m : Int) + (nb : Int)) (by omega)
 have hw5 := IntWalk.i64_in (o3 + 1) (by omega)
 have hw6 := IntWalk.i64_in (o3 + 1 + (nb : Int)) (by omega)
 have hw7 := IntWalk.i64_in ((nb : Int) * 64) (by omega)
 clear h hc ht hby hnb hfin hperm hd0 hn0 hm0 hld hsl hss hrm hrl hf1 hnx hnf ho3 hfj hj hro ho1 hn1
 go_enter Tryz.func43, Tryz.ntmps43
 go_wp2_with fail
 generalize hz : w.alloc (.cells #[.int .i64 ik, .int .i64 ib, .int .i64 ic, .int .i64 iv] 63) = w1 at *
 generalize w.heap.size = f5 at *
 clear hz
 obtain ⟨y0, y1, y2, y3⟩ := own4 (HD.out.boxi 4 rfl)
 refine (xw_loaded_any ik ib ic iv _).mono ?_
 rintro en w2 ⟨rfl, hO⟩
 rw [HLD.out]
 have HD2 := Lib.hid (HD.out.keep0 hO)
 clear hO HD y0 y1 y2 y3
 obtain ⟨y0, y1, y2, y3⟩ := own4 (HD2.out.boxi 4 rfl)
 go_wp2_with fail
 refine (ref_item_may_any ik ib ic iv _).mono ?_
 rintro en w3 ⟨rfl, hO⟩
 have HD3 := Lib.hid (HD2.out.keep0 hO)
 clear hO HD2 y0 y1 y2 y3
 obtain ⟨y0, y1, y2, y3⟩ := own4 (HD3.out.boxi 4 rfl)
 by_cases hok : (It.may ⟨ik, ib, ic, iv⟩ = true ∧ ik ≠ 7) ∧ nn = ss
 ·obtain ⟨⟨hm, h7⟩, hns⟩ := hok
  have hnok : (It.may ⟨ik, ib, ic, iv⟩ && decide (ik ≠ 7) && decide (b.length = (if It.loaded ⟨ik, ib, ic, iv⟩ = true then 64 else 0))) = true := by rw [HSL.out, hm, decide_eq_true h7, HNB.out, hns, decide_eq_true rfl]; rfl
  have h71 : (ik == 7) = false := by simpa using h7
  have HNO := Lib.hid hnok
  have HNS : Hid (nn = nb * 64) := Lib.hid (hns.trans HSS.out.symm)
  have hne : ((nn : Int) != (nb : Int) * 64) = false := by
   have := HNS.out
   simp
   omega
  rw [hm]
  clear hm h7 hnok hns
  have c0 := (HD3.out.boxi 0 rfl).cellv 0
  have cof := duo_roff HD3.out
  by_cases hof : e.off = true
  ·have had : Wr.add cf ⟨e, t, ps, its, bl⟩ ⟨ik, ib, ic, iv⟩ b spare = (⟨e, t, ps, its, bl⟩, 0, 3) := by
    unfold Wr.add
    rw [if_neg (by rw [HNO.out]; decide), if_pos hof]
   have HAD2 := Lib.hid had
   rw [hof] at cof
   clear had hof
   go_wp2
   go_ret2
   rw [HAD2.out]
   exact ⟨rfl, ((HFIN.out _ _ HD3.out).up 4).ldrop⟩
  ·have hof2 : e.off = false := by simpa using hof
   have had : Wr.add cf ⟨e, t, ps, its, bl⟩ ⟨ik, ib, ic, iv⟩ b spare = if e1 ≠ 0 then (z1, 0, e1) else if nb = 0 then ({ z1 with its := z1.its ++ [⟨ik, ib, ic, iv⟩] }, 0, 0) else ({ z1 with bl := z1.bl ++ [b], its := z1.its ++ [⟨ik, ib, ic, iv⟩] }, Wr.first cf z1 + (z1.bl.length : Int), 0) := by
    unfold Wr.add
    rw [if_neg (by rw [HNO.out]; decide), if_neg hof]
    rw [show (if It.loaded ⟨ik, ib, ic, iv⟩ = true then 1 else 0 : Nat) = nb from HLD.out, HRM.out]
    dsimp only
    have hq := HLD.out
    unfold nbl at hq
    split
    ·rfl
    ·split
     ·rename_i h1
      rw [if_pos h1] at hq
      rw [if_neg (by omega)]
     ·rename_i h1
      rw [if_neg h1] at hq
      rw [if_pos (by omega)]
   rw [hof2] at cof
   have HAD := Lib.hid had
   clear had hof hof2 HSL HSS HNO
   have c3 := (HD3.out.boxi 0 rfl).cellv 3
   have HD := HD3
   clear HD3
   go_wp2_with fail
   clear c3 c0 cof
   go_cut [65] from 12 (fun s65 wy => s65 = .bool nf ∧ Duo w0 wy p r d e ⟨(X, (XB r u cf ps (.slice A n c) (.slice B m k))) :: u.L cf (t) ((f5, [.int .i64 ik, .int .i64 ib, .int .i64 ic, .int .i64 iv]) :: L), ⟨63, 4, .slice A n c, n, itsV (its)⟩ :: ⟨47, 1, .slice B m k, m, (sl).map slv⟩ :: G, (fun W => Bls W (sl) (bl)) :: F⟩)
   case first =>
    by_cases h6 : n = 6
    ·obtain rfl : nf = true := by
      rw [← HNF.out]
      unfold Wr.fits
      rw [decide_eq_false (by omega)]
      rfl
     have h6b : ((n : Int) == 6) = true := by rw [h6]; rfl
     clear h6
     have HY := Lib.hid HD.out.drew
     clear HD
     refine wp_region_held_drew (S := (fun w' => Kn.Own w' X (XB r u cf ps (.slice A n c) (.slice B m k)))) (by kernel_rfl) (HY.out.boxi 0 rfl) (fun hSw0 => ?_)
     generalize w3.drew = wz at *
     refine Kn.takeS 0 ⟨some 45, _, _, _, _, _⟩ ?_
     refine Kn.takeS 1 ⟨some 46, _, _, _, _, _⟩ ?_
     refine Kn.takeS 2 ⟨some 47, _, _, _, _, _⟩ ?_
     refine Kn.takeS 3 ⟨some 48, _, _, _, _, _⟩ (v := (.slice A n c)) (hy := fun w hSw => by
      have q0 := hSw.cellv 10
      go_simp) ?_
     refine Kn.takeS 4 ⟨some 49, _, _, _, _, _⟩ ?_
     refine Kn.takeS 5 ⟨some 50, _, _, _, _, _⟩ (v := (.bool true)) (hy := fun w hSw => by
      go_simp) ?_
     refine Kn.takeS 6 ⟨some 51, _, _, _, _, _⟩ ?_
     refine Kn.takeN 7 ⟨some 52, _, _, _, _, _⟩ ?_
     refine Kn.takeN 8 ⟨some 53, _, _, _, _, _⟩ ?_
     refine Kn.takeN 9 ⟨some 54, _, _, _, _, _⟩ ?_
     refine Kn.takeN 10 ⟨some 55, _, _, _, _, _⟩ ?_
     refine Kn.takeN 11 ⟨some 56, _, _, _, _, _⟩ ?_
     refine Kn.takeN 12 ⟨some 57, _, _, _, _, _⟩ ?_
     refine Kn.takeN 13 ⟨some 58, _, _, _, _, _⟩ ?_
     refine Kn.takeN 14 ⟨some 59, _, _, _, _, _⟩ ?_
     refine Kn.takeN 15 ⟨some 60, _, _, _, _, _⟩ ?_
     refine Kn.takeN 16 ⟨some 61, _, _, _, _, _⟩ ?_
     refine Kn.takeN 17 ⟨some 62, _, _, _, _, _⟩ ?_
     refine Kn.takeN 18 ⟨some 63, _, _, _, _, _⟩ ?_
     refine Kn.takeN 19 ⟨some 64, _, _, _, _, _⟩ ?_
     refine Kn.takeS 20 ⟨some 65, _, _, _, _, _⟩ ?_
     refine wpAnyH_done (by kernel_rfl) ?_ _
     clear hSw0
     go_wp2
     go_meet
     case rel => exact ⟨rfl, HY.out⟩
    ·have h6b : ((n : Int) == 6) = false := by simp; omega
     by_cases hcd : f1 + 1 + (m : Int) + (nb : Int) > cf.l - 1
     ·obtain rfl : nf = true := by
       rw [← HNF.out]
       unfold Wr.fits behind
       rw [HF1.out, decide_eq_false (p := f1 + 1 + ((m + nb : Nat) : Int) < cf.l) (by omega), Bool.and_false]
       rfl
      clear h6
      have HY := Lib.hid HD.out.drew
      clear HD
      refine wp_region_held_drew (S := (fun w' => Kn.Own w' X (XB r u cf ps (.slice A n c) (.slice B m k)))) (by kernel_rfl) (HY.out.boxi 0 rfl) (fun hSw0 => ?_)
      generalize w3.drew = wz at *
      refine Kn.takeS 0 ⟨some 45, _, _, _, _, _⟩ ?_
      refine Kn.takeS 1 ⟨some 46, _, _, _, _, _⟩ ?_
      refine Kn.takeS 2 ⟨some 47, _, _, _, _, _⟩ ?_
      refine Kn.takeS 3 ⟨some 48, _, _, _, _, _⟩ (v := (.slice A n c)) (hy := fun w hSw => by
       have q0 := hSw.cellv 10
       go_simp) ?_
      refine Kn.takeS 4 ⟨some 49, _, _, _, _, _⟩ ?_
      refine Kn.takeS 5 ⟨some 50, _, _, _, _, _⟩ (v := (.bool false)) (hy := fun w hSw => by
       go_simp) ?_
      refine Kn.takeS 6 ⟨some 51, _, _, _, _, _⟩ ?_
      refine Kn.takeS 7 ⟨some 52, _, _, _, _, _⟩ ?_
      refine Kn.takeS 10 ⟨some 55, _, _, _, _, _⟩ ?_
      refine Kn.takeS 11 ⟨some 56, _, _, _, _, _⟩ ?_
      refine Kn.takeS 12 ⟨some 57, _, _, _, _, _⟩ ?_
      refine Kn.takeS 13 ⟨some 58, _, _, _, _, _⟩ (v := (.slice B m k)) (hy := fun w hSw => by
       have q0 := hSw.cellv 11
       go_simp) ?_
      refine Kn.takeS 14 ⟨some 59, _, _, _, _, _⟩ ?_
      refine Kn.takeS 16 ⟨some 61, _, _, _, _, _⟩ ?_
      refine Kn.takeS 18 ⟨some 63, _, _, _, _, _⟩ ?_
      refine Kn.takeR 8 ⟨some 53, _, _, _, _, _⟩ fun K hK => ?_
      go_simp
      refine (xw_first_any _ X r u cf ps _ _ hSw0).mono ?_
      rintro en wu ⟨rfl, rfl⟩
      rw [HF1.out]
      refine hK.out _ _ hSw0 (fun hSn => ?_)
      clear hK K hSw0
      have hSw0 := hSn
      clear hSn
      refine Kn.takeS 9 ⟨some 54, _, _, _, _, _⟩ ?_
      refine Kn.takeS 15 ⟨some 60, _, _, _, _, _⟩ ?_
      refine Kn.takeS 17 ⟨some 62, _, _, _, _, _⟩ ?_
      refine Kn.takeS 19 ⟨some 64, _, _, _, _, _⟩ (v := (.bool true)) (hy := fun w hSw => by
       have q9 : decide (f1 + 1 + (m : Int) + (nb : Int) > cf.l - 1) = true := decide_eq_true (by omega)
       go_simp) ?_
      refine Kn.takeS 20 ⟨some 65, _, _, _, _, _⟩ ?_
      refine wpAnyH_done (by kernel_rfl) ?_ _
      clear hSw0
      go_wp2
      go_meet
      case rel => exact ⟨rfl, HY.out⟩
     ·obtain rfl : nf = false := by
       rw [← HNF.out]
       unfold Wr.fits behind
       rw [HF1.out, decide_eq_true (p := f1 + 1 + ((m + nb : Nat) : Int) < cf.l) (by omega), decide_eq_true (p := n + 1 ≤ 6) (by omega)]
       rfl
      clear h6
      have HY := Lib.hid HD.out.drew
      clear HD
      refine wp_region_held_drew (S := (fun w' => Kn.Own w' X (XB r u cf ps (.slice A n c) (.slice B m k)))) (by kernel_rfl) (HY.out.boxi 0 rfl) (fun hSw0 => ?_)
      generalize w3.drew = wz at *
      refine Kn.takeS 0 ⟨some 45, _, _, _, _, _⟩ ?_
      refine Kn.takeS 1 ⟨some 46, _, _, _, _, _⟩ ?_
      refine Kn.takeS 2 ⟨some 47, _, _, _, _, _⟩ ?_
      refine Kn.takeS 3 ⟨some 48, _, _, _, _, _⟩ (v := (.slice A n c)) (hy := fun w hSw => by
       have q0 := hSw.cellv 10
       go_simp) ?_
      refine Kn.takeS 4 ⟨some 49, _, _, _, _, _⟩ ?_
      refine Kn.takeS 5 ⟨some 50, _, _, _, _, _⟩ (v := (.bool false)) (hy := fun w hSw => by
       go_simp) ?_
      refine Kn.takeS 6 ⟨some 51, _, _, _, _, _⟩ ?_
      refine Kn.takeS 7 ⟨some 52, _, _, _, _, _⟩ ?_
      refine Kn.takeS 10 ⟨some 55, _, _, _, _, _⟩ ?_
      refine Kn.takeS 11 ⟨some 56, _, _, _, _, _⟩ ?_
      refine Kn.takeS 12 ⟨some 57, _, _, _, _, _⟩ ?_
      refine Kn.takeS 13 ⟨some 58, _, _, _, _, _⟩ (v := (.slice B m k)) (hy := fun w hSw => by
       have q0 := hSw.cellv 11
       go_simp) ?_
      refine Kn.takeS 14 ⟨some 59, _, _, _, _, _⟩ ?_
      refine Kn.takeS 16 ⟨some 61, _, _, _, _, _⟩ ?_
      refine Kn.takeS 18 ⟨some 63, _, _, _, _, _⟩ ?_
      refine Kn.takeR 8 ⟨some 53, _, _, _, _, _⟩ fun K hK => ?_
      go_simp
      refine (xw_first_any _ X r u cf ps _ _ hSw0).mono ?_
      rintro en wu ⟨rfl, rfl⟩
      rw [HF1.out]
      refine hK.out _ _ hSw0 (fun hSn => ?_)
      clear hK K hSw0
      have hSw0 := hSn
      clear hSn
      refine Kn.takeS 9 ⟨some 54, _, _, _, _, _⟩ ?_
      refine Kn.takeS 15 ⟨some 60, _, _, _, _, _⟩ ?_
      refine Kn.takeS 17 ⟨some 62, _, _, _, _, _⟩ ?_
      refine Kn.takeS 19 ⟨some 64, _, _, _, _, _⟩ (v := (.bool false)) (hy := fun w hSw => by
       have q9 : decide (f1 + 1 + (m : Int) + (nb : Int) > cf.l - 1) = false := decide_eq_false (by omega)
       go_simp) ?_
      refine Kn.takeS 20 ⟨some 65, _, _, _, _, _⟩ ?_
      refine wpAnyH_done (by kernel_rfl) ?_ _
      clear hSw0
      go_wp2
      go_meet
      case rel => exact ⟨rfl, HY.out⟩
   case rest =>
    obtain ⟨rfl, hd⟩ := hcut
    have HD1 := Lib.hid hd
    clear hd HD
    go_upto_if 65 with (fail)
    go_cut [] from 12 (fun wy => e1 = 0 ∧ XrIn w0 wy p (RD.up r 4) d X u cf z1 ((f5, [.int .i64 ik, .int .i64 ib, .int .i64 ic, .int .i64 iv]) :: L) G F)
    case first =>
     cases nf with
     | false =>
      have hro := HRO.out
      rw [if_pos rfl] at hro
      obtain ⟨q1, q2⟩ := Prod.mk.inj hro
      have HQ := Lib.hid (And.intro q1 q2)
      clear q1 q2 hro HRO
      go_wp2
      go_meet
      case rel => exact ⟨HQ.out.2, by rw [HQ.out.1]; exact (HFIN.out _ _ HD1.out).up 4⟩
     | true =>
      have hro := HRO.out
      rw [if_neg (by decide)] at hro
      have HRO2 := Lib.hid hro
      clear hro HRO
      have c10 := (HD1.out.boxi 0 rfl).cellv 10
      have c11 := (HD1.out.boxi 0 rfl).cellv 11
      go_wp2_with fail
      refine (xw_first_any _ X r u cf ps _ _ (HD1.out.boxi 0 rfl)).mono ?_
      rintro en wu ⟨rfl, rfl⟩
      rw [HF1.out]
      go_upto_if 73 with (fail)
      go_cut [12] from 13 (fun s12 wy => s12 = .int .i64 o3 ∧ wc = wy)
      case first =>
       by_cases hn0 : n = 0
       ·have ho3 : o3 = f1 := by rw [← HO3.out, if_pos hn0]
        have hnf : ¬ (n : Int) > 0 := by omega
        have HO4 := Lib.hid ho3
        clear ho3 hn0
        go_wp2
        go_meet
        case rel => exact ⟨by rw [HO4.out], rfl⟩
       ·have ho3 : o3 = f1 + 1 + (m : Int) := by rw [← HO3.out, if_neg hn0]
        have hnf : (n : Int) > 0 := by omega
        have HO4 := Lib.hid ho3
        clear ho3 hn0
        go_wp2
        go_meet
        case rel => exact ⟨by rw [HO4.out], rfl⟩
      case rest =>
       obtain ⟨rfl, rfl⟩ := hcut
       clear c10 c11
       have HD2 := HD1
       clear HD1
       cases fj with
       | true =>
        have hro := HRO2.out
        rw [if_pos rfl] at hro
        have HROa := Lib.hid hro
        clear hro HRO2 HFJ
        have hfj2 : ¬ o3 + 1 + (nb : Int) > cf.l - 1 := by have := HJ.out.1 (by trivial); omega
        go_wp2_with fail
        obtain ⟨z2, e2, hem⟩ : ∃ z2 e2, Wr.emit cf ⟨e, t, ps, its, bl⟩ = (z2, e2) := ⟨_, _, rfl⟩
        have ems := emit_s cf ⟨e, t, ps, its, bl⟩ ho.1
        have eml := emit_len cf ⟨e, t, ps, its, bl⟩
        have emo := emit_o1 cf ⟨e, t, ps, its, bl⟩ ho.1
        rw [hem] at ems eml emo
        dsimp only at ems eml emo
        have HEM := Lib.hid hem
        have HES := Lib.hid ems
        have HEL := Lib.hid eml
        have HEO := Lib.hid emo
        clear hem ems eml emo
        refine (xw_emit_any w0 _ p r d X u ⟨e, t, ps, its, bl⟩ cf ((f5, [.int .i64 ik, .int .i64 ib, .int .i64 ic, .int .i64 iv]) :: L) G F (HFIN.out _ _ HD2.out) HC.out HT.out hun hs ho (by dsimp only; omega) (by dsimp only; omega) (by omega)).mono ?_
        rw [HEM.out]
        rintro en w6 ⟨rfl, hd⟩
        have HE := Lib.hid hd
        clear hd HD2
        by_cases he : e2 = 0
        ·subst he
         obtain ⟨q1, q2⟩ := Prod.mk.inj (HROa.out.trans HEM.out)
         have HQ := Lib.hid (And.intro q1 q2)
         clear q1 q2 HROa
         go_wp2
         go_meet
         case rel => exact ⟨HQ.out.2, by rw [HQ.out.1]; exact HE.out.up 2⟩
        ·have hbe : (e2 == 0) = false := beq_eq_false_iff_ne.2 he
         have hbn : (e2 != 0) = true := bne_iff_ne.2 he
         obtain ⟨q1, q2⟩ := Prod.mk.inj (HROa.out.trans HEM.out)
         have had := HAD.out
         rw [if_pos (by rw [q2]; exact he), q1, q2] at had
         have HAD2 := Lib.hid had
         clear had q1 q2 he HROa HAD
         go_wp2
         go_ret2
         rw [HAD2.out]
         exact ⟨rfl, (HE.out.up 2).ldrop⟩
       | false =>
        have hro := HRO2.out
        rw [if_neg (by decide)] at hro
        have hfj2 : o3 + 1 + (nb : Int) > cf.l - 1 := by have := HJ.out.2 (by trivial); omega
        clear HRO2 HFJ
        have HRO3 := Lib.hid hro
        clear hro
        have b0 := HD2.out.boxi 0 rfl
        have c4 := b0.cellv 4
        clear b0
        go_wp2_with fail
        refine (rt_next_any _ u cf t spare (HD2.out.boxi 1 rfl) (HD2.out.boxi 2 rfl) HT.out hun).mono ?_
        rw [HNX.out]
        rintro en w5 ⟨rfl, rfl⟩
        by_cases hnx : 0 ≤ nx
        ·have hnl : ¬ nx < 0 := by omega
         have hro := HRO3.out
         rw [if_pos hnx] at hro
         have HROb := Lib.hid hro
         clear hro HRO3
         go_wp2_with fail
         refine (duo_rgrab nx (HD2.out.permL (L' := u.L cf t ((X, (XB r u cf ps (.slice A n c) (.slice B m k))) :: (f5, [.int .i64 ik, .int .i64 ib, .int .i64 ic, .int .i64 iv]) :: L)) (perm_any (fun c => by simp only [RT.L, List.map_cons, List.sum_cons]; omega))) HT.out hun).mono ?_
         rintro en w6a ⟨rfl, hd⟩
         have HD3 : Hid (Duo w0 w6a p r d e ⟨(X, (XB r u cf ps (.slice A n c) (.slice B m k))) :: u.L cf (t.grab nx) ((f5, [.int .i64 ik, .int .i64 ib, .int .i64 ic, .int .i64 iv]) :: L), ⟨63, 4, .slice A n c, n, itsV (its)⟩ :: ⟨47, 1, .slice B m k, m, (sl).map slv⟩ :: G, (fun W => Bls W (sl) (bl)) :: F⟩) := Lib.hid (hd.permL (perm_any (fun c => by simp only [RT.L, List.map_cons, List.sum_cons]; omega)))
         clear hd HD2 c4
         go_wp2_with fail
         obtain ⟨z2, e2, hem⟩ : ∃ z2 e2, Wr.emit cf ⟨e, (t.grab nx), ps, its, bl⟩ = (z2, e2) := ⟨_, _, rfl⟩
         have ems := emit_s cf ⟨e, (t.grab nx), ps, its, bl⟩ ho.1
         have eml := emit_len cf ⟨e, (t.grab nx), ps, its, bl⟩
         have emo := emit_o1 cf ⟨e, (t.grab nx), ps, its, bl⟩ ho.1
         rw [hem] at ems eml emo
         dsimp only at ems eml emo
         have HEM := Lib.hid hem
         have HES := Lib.hid ems
         have HEL := Lib.hid eml
         have HEO := Lib.hid emo
         clear hem ems eml emo
         refine (xw_emit_any w0 _ p r d X u ⟨e, (t.grab nx), ps, its, bl⟩ cf ((f5, [.int .i64 ik, .int .i64 ib, .int .i64 ic, .int .i64 iv]) :: L) G F (HFIN.out _ _ HD3.out) HC.out (HT.out.grab nx) hun hs ho (by dsimp only; omega) (by dsimp only; omega) (by omega)).mono ?_
         rw [HEM.out]
         rintro en w6 ⟨rfl, hd⟩
         have HE := Lib.hid hd
         clear hd HD3
         by_cases he : e2 = 0
         ·subst he
          obtain ⟨z3, e3, htu⟩ : ∃ z3 e3, Wr.turn cf z2 nx = (z3, e3) := ⟨_, _, rfl⟩
          have hro := HROb.out
          rw [HEM.out, if_neg (fun h => h rfl), htu] at hro
          obtain ⟨q1, q2⟩ := Prod.mk.inj hro
          have HQ := Lib.hid (And.intro q1 q2)
          have HTU := Lib.hid htu
          clear q1 q2 hro htu HROb
          have hos : 1 ≤ z2.p.o := HO1'.out (by trivial) (by trivial) z2 HEM.out
          obtain ⟨s1, s2, s3, s4, s5, s6, s7⟩ := HES.out
          have sl := HEL.out
          have ht2 := s4 u.n (HT.out.grab nx)
          have HT2 := Lib.hid ht2
          clear s4 ht2
          have hbl0 := HBL0.out
          go_wp2_with fail
          refine (xw_turn_any w0 _ p (RD.up r 2) d X u z2 nx cf ((f5, [.int .i64 ik, .int .i64 ib, .int .i64 ic, .int .i64 iv]) :: L) G F HE.out HC.out HT2.out hun (by rw [s1]; exact hs) ⟨hos, by omega⟩ (by omega) (by omega) (by show r.K + 2 ≤ _; omega)).mono ?_
          rw [HTU.out]
          rintro en w8 ⟨rfl, hd⟩
          have HE2 : Hid (XrIn w0 w8 p (RD.up r 4) d X u cf z3 ((f5, [.int .i64 ik, .int .i64 ib, .int .i64 ic, .int .i64 iv]) :: L) G F) := Lib.hid hd
          clear hd HE s1 s2 s3 s5 s6 s7 sl hos
          by_cases he3 : e3 = 0
          ·subst he3
           go_wp2
           go_meet
           case rel => exact ⟨HQ.out.2, by rw [HQ.out.1]; exact HE2.out⟩
          ·have hb3 : (e3 != 0) = true := bne_iff_ne.2 he3
           have had := HAD.out
           rw [if_pos (by rw [HQ.out.2]; exact he3), HQ.out.1, HQ.out.2] at had
           have HAD2 := Lib.hid had
           clear had he3 HAD
           go_wp2
           go_ret2
           rw [HAD2.out]
           exact ⟨rfl, HE2.out.ldrop⟩
         ·have hbe : (e2 == 0) = false := beq_eq_false_iff_ne.2 he
          have hbn : (e2 != 0) = true := bne_iff_ne.2 he
          have hro := HROb.out
          rw [HEM.out, if_pos he] at hro
          obtain ⟨q1, q2⟩ := Prod.mk.inj hro
          have had := HAD.out
          rw [if_pos (by rw [q2]; exact he), q1, q2] at had
          have HAD2 := Lib.hid had
          clear had q1 q2 hro he HROb HAD
          go_wp2
          go_ret2
          rw [HAD2.out]
          exact ⟨rfl, (HE.out.up 2).ldrop⟩
        ·have hnl : nx < 0 := by omega
         have hro := HRO3.out
         rw [if_neg hnx] at hro
         obtain ⟨q1, q2⟩ := Prod.mk.inj hro
         have had := HAD.out
         rw [if_pos (by rw [q2]; decide), q1, q2] at had
         have HAD2 := Lib.hid had
         clear had q1 q2 hro HRO3 HAD
         go_wp2
         go_ret2
         rw [HAD2.out]
         exact ⟨rfl, ((HFIN.out _ _ HD2.out).up 4).ldrop⟩
    case rest =>
     obtain ⟨he1, hd⟩ := hcut
     obtain ⟨e, t1, p1, its1, bl1⟩ := z1
     obtain ⟨A1, c1, B1, k1, sl1, hd⟩ := hd
     have had := HAD.out
     rw [if_neg (fun h => h he1)] at had
     have hrl := HRL.out
     dsimp only at hd had hrl
     obtain ⟨n1, hn1⟩ : ∃ n, its1.length = n := ⟨_, rfl⟩
     obtain ⟨m1, hm1⟩ : ∃ m, bl1.length = m := ⟨_, rfl⟩
     rw [hn1, hm1] at hd hrl
     obtain ⟨rl1, rl2, rl3, rl4⟩ := hrl
     have hn1b : n1 ≤ 20 := by omega
     have hm1b : m1 ≤ 40 := by omega
     have HB : Hid (Duo w0 wc p (RD.up r 4) d e ⟨(X, (XB r u cf p1 (.slice A1 n1 c1) (.slice B1 m1 k1))) :: u.L cf (t1) ((f5, [.int .i64 ik, .int .i64 ib, .int .i64 ic, .int .i64 iv]) :: L), ⟨63, 4, .slice A1 n1 c1, n1, itsV (its1)⟩ :: ⟨47, 1, .slice B1 m1 k1, m1, (sl1).map slv⟩ :: G, (fun W => Bls W (sl1) (bl1)) :: F⟩) := Lib.hid hd
     have HN1 := Lib.hid hn1
     have HM1 := Lib.hid hm1
     have HAD1 := Lib.hid had
     have HLV : Hid ((itsV its1).length = n1 * 4) := Lib.hid (by rw [itsV_length, hn1])
     clear hd had hn1 hm1 he1 HAD HRO HRM HRL HFIN
     go_wp2_with fail
     go_cut [] from 116 (fun wy => ∃ (A9 : Option Addr) (c9 : Nat), Duo w0 wy p (RD.up r 4) d e ⟨(X, (XB r u cf p1 (.slice A9 (n1 + 1) c9) (.slice B1 m1 k1))) :: u.L cf (t1) ((f5, [.int .i64 ik, .int .i64 ib, .int .i64 ic, .int .i64 iv]) :: L), ⟨63, 4, .slice A9 (n1 + 1) c9, (n1 + 1), itsV (its1 ++ [⟨ik, ib, ic, iv⟩])⟩ :: ⟨47, 1, .slice B1 m1 k1, m1, (sl1).map slv⟩ :: G, (fun W => Bls W (sl1) (bl1)) :: F⟩)
     case first =>
      have HY := Lib.hid HB.out.drew
      clear HB
      refine wp_region_held_drew (S := (fun w' => Kn.Own w' f5 [.int .i64 ik, .int .i64 ib, .int .i64 ic, .int .i64 iv])) (by kernel_rfl) (HY.out.boxi 4 rfl) (fun hSw0 => ?_)
      generalize wc.drew = wz at *
      refine Kn.takeS 0 ⟨some 116, _, _, _, _, _⟩ ?_
      refine Kn.takeS 2 ⟨some 118, _, _, _, _, _⟩ ?_
      refine Kn.takeS 3 ⟨some 119, _, _, _, _, _⟩ ?_
      refine Kn.takeS 4 ⟨some 120, _, _, _, _, _⟩ ?_
      refine Kn.takeS 7 ⟨some 123, _, _, _, _, _⟩ (v := (.agg #[.int .i64 ik, .int .i64 ib, .int .i64 ic, .int .i64 iv])) (hy := fun w hSw => by
       obtain ⟨q0, q1, q2, q3⟩ := own4 hSw
       go_simp) ?_
      refine wpAnyH_ready (rs := [1, 5, 8]) (by kernel_rfl) (by simp) ?_
      refine AllReadyH.cons (o := ⟨some 117, _, _, _, _, _⟩) rfl (fun K hK => ?_) ?_
      ·go_simp
       have HYe := Lib.hid (HY.out.gadd ((Only.refl _ _).alloc _) (World.ownsRow_made wz (e := 63) (size := 4) #[] 0 (Nat.le_refl _) (by unfold maxLen; omega) rfl))
       generalize hvz : wz.heap.size = va at *
       generalize hvb : wz.alloc (.cells #[] 63) = vb1 at *
       clear hvb hvz HY
       refine hK.out _ _ (HYe.out.boxi 4 rfl) (fun hSn => ?_)
       clear hK K hSw0
       have hSw0 := hSn
       clear hSn
       refine wpAnyH_ready (rs := [5, 8]) (by kernel_rfl) (by simp) ?_
       refine AllReadyH.cons (o := ⟨some 121, _, _, _, _, _⟩) rfl (fun K hK => ?_) ?_
       ·have q0 := (HYe.out.boxi 0 rfl).cellv 10
        go_simp
        clear q0
        refine hK.out _ _ (HYe.out.boxi 4 rfl) (fun hSn => ?_)
        clear hK K hSw0
        have hSw0 := hSn
        clear hSn
        refine wpAnyH_ready (rs := [6, 8]) (by kernel_rfl) (by simp) ?_
        refine AllReadyH.cons (o := ⟨some 122, _, _, _, _, _⟩) rfl (fun K hK => ?_) ?_
        ·have hbw := HYe.out.only.size
         have hgr := HYe.out.gi 1 rfl
         refine step_append_rowN rfl (.tmp 117) (.tmp 121) 53 rfl w0.heap.size 63 i0 _ 4 32 Tryz.underlying53 hi0 hz0 hz1 hz2 rfl (by decide) (.slice (some ⟨va, 0, none⟩) 0 0) 0 [] rfl (HYe.out.gi 0 rfl) A1 n1 c1 (itsV its1) rfl HLV.out (own_hr hgr) (itsV_one _) (by unfold maxLen; omega) (by omega) hbw ?_
         intro v' vd3 hown hgrow hat
         rw [List.nil_append] at hown
         have hdd := HYe.out.gapp 0 rfl hown hgrow hat
         rw [Nat.zero_add] at hdd
         obtain ⟨A8, c8, rfl⟩ := hdd.gform 0 rfl
         simp only [List.set_cons_zero, List.set_cons_succ] at hdd
         have HYed := Lib.hid hdd
         clear hdd hown hgrow hat hbw hgr HYe
         refine hK.out _ _ (HYed.out.boxi 4 rfl) (fun hSn => ?_)
         clear hK K hSw0
         have hSw0 := hSn
         clear hSn
         refine Kn.takeR 8 ⟨some 124, _, _, _, _, _⟩ fun K hK => ?_
         go_simp
         have HYedb := Lib.hid (HYed.out.newB #[.int .i64 ik, .int .i64 ib, .int .i64 ic, .int .i64 iv] 63 rfl)
         generalize hvz : vd3.heap.size = vz at *
         generalize hvb : vd3.alloc (.cells #[.int .i64 ik, .int .i64 ib, .int .i64 ic, .int .i64 iv] 63) = vb4 at *
         clear hvb hvz HYed
         have HYedbp := Lib.hid (HYedb.out.permL (L' := (X, (XB r u cf p1 (.slice A1 n1 c1) (.slice B1 m1 k1))) :: u.L cf t1 ((f5, [.int .i64 ik, .int .i64 ib, .int .i64 ic, .int .i64 iv]) :: (vz, [.int .i64 ik, .int .i64 ib, .int .i64 ic, .int .i64 iv]) :: L)) (perm_any (fun c => by simp only [RT.L, Array.toList, List.map_cons, List.sum_cons]; omega)))
         clear HYedb
         have HYedb := HYedbp
         clear HYedbp
         refine hK.out _ _ (HYedb.out.boxi 4 rfl) (fun hSn => ?_)
         clear hK K hSw0
         have hSw0 := hSn
         clear hSn
         refine Kn.takeR 9 ⟨some 125, _, _, _, _, _⟩ fun K hK => ?_
         have hbw := HYedb.out.only.size
         have hnw := own4 (HYedb.out.box (x := (vz, [.int .i64 ik, .int .i64 ib, .int .i64 ic, .int .i64 iv])) (by simp [RT.L]))
         refine step_append_rowN rfl (.tmp 122) (.tmp 124) 53 rfl w0.heap.size 63 i0 _ 4 32 Tryz.underlying53 hi0 hz0 hz1 hz2 rfl (by decide) (.slice A8 n1 c8) n1 (itsV its1) rfl (HYedb.out.gi 0 rfl) (some ⟨vz, 0, none⟩) 1 1 (itsV [⟨ik, ib, ic, iv⟩]) rfl rfl (four_hr hnw) (itsV_one _) (by unfold maxLen; omega) (by omega) hbw ?_
         intro v' vd5 hown hgrow hat
         rw [show itsV its1 ++ itsV [⟨ik, ib, ic, iv⟩] = itsV (its1 ++ [⟨ik, ib, ic, iv⟩]) from by simp [itsV]] at hown
         have hdd := HYedb.out.gapp 0 rfl hown hgrow hat
         obtain ⟨A9, c9, rfl⟩ := hdd.gform 0 rfl
         simp only [List.set_cons_zero, List.set_cons_succ] at hdd
         have HYedba := Lib.hid hdd
         clear hdd hown hgrow hat hbw hnw HYedb
         refine hK.out _ _ (HYedba.out.boxi 4 rfl) (fun hSn => ?_)
         clear hK K hSw0
         have hSw0 := hSn
         clear hSn
         refine Kn.takeS 10 ⟨some 126, _, _, _, _, _⟩ ?_
         refine Kn.takeS 11 ⟨some 127, _, _, _, _, _⟩ ?_
         refine Kn.takeR 12 ⟨none, _, _, _, _, _⟩ fun K hK => ?_
         have b1 := HYedba.out.boxi 0 rfl
         have y8 := b1.cellv 10
         have z8 := b1.frozen 10
         have l8 := b1.lt
         clear b1
         go_simp
         have HYedbas := Lib.hid (HYedba.out.put 0 rfl 10 (.slice A9 (n1 + 1) c9))
         clear y8 z8 l8 HYedba
         refine hK.out _ _ (HYedbas.out.boxi 4 rfl) (fun hSn => ?_)
         clear hK K hSw0
         have hSw0 := hSn
         clear hSn
         refine wpAnyH_done (by kernel_rfl) ?_ _
         clear hSw0
         go_wp2
         go_meet
         case rel => exact ⟨A9, c9, add_keep HYedbas.out⟩
        refine AllReadyH.cons (o := ⟨some 124, _, _, _, _, _⟩) rfl (fun K hK => ?_) ?_
        ·go_simp
         have HYeb := Lib.hid (HYe.out.newB #[.int .i64 ik, .int .i64 ib, .int .i64 ic, .int .i64 iv] 63 rfl)
         generalize hvz : vb1.heap.size = vz at *
         generalize hvb : vb1.alloc (.cells #[.int .i64 ik, .int .i64 ib, .int .i64 ic, .int .i64 iv] 63) = vb3 at *
         clear hvb hvz HYe
         have HYebp := Lib.hid (HYeb.out.permL (L' := (X, (XB r u cf p1 (.slice A1 n1 c1) (.slice B1 m1 k1))) :: u.L cf t1 ((f5, [.int .i64 ik, .int .i64 ib, .int .i64 ic, .int .i64 iv]) :: (vz, [.int .i64 ik, .int .i64 ib, .int .i64 ic, .int .i64 iv]) :: L)) (perm_any (fun c => by simp only [RT.L, Array.toList, List.map_cons, List.sum_cons]; omega)))
         clear HYeb
         have HYeb := HYebp
         clear HYebp
         refine hK.out _ _ (HYeb.out.boxi 4 rfl) (fun hSn => ?_)
         clear hK K hSw0
         have hSw0 := hSn
         clear hSn
         refine Kn.takeR 6 ⟨some 122, _, _, _, _, _⟩ fun K hK => ?_
         have hbw := HYeb.out.only.size
         have hgr := HYeb.out.gi 1 rfl
         refine step_append_rowN rfl (.tmp 117) (.tmp 121) 53 rfl w0.heap.size 63 i0 _ 4 32 Tryz.underlying53 hi0 hz0 hz1 hz2 rfl (by decide) (.slice (some ⟨va, 0, none⟩) 0 0) 0 [] rfl (HYeb.out.gi 0 rfl) A1 n1 c1 (itsV its1) rfl HLV.out (own_hr hgr) (itsV_one _) (by unfold maxLen; omega) (by omega) hbw ?_
         intro v' vd4 hown hgrow hat
         rw [List.nil_append] at hown
         have hdd := HYeb.out.gapp 0 rfl hown hgrow hat
         rw [Nat.zero_add] at hdd
         obtain ⟨A8, c8, rfl⟩ := hdd.gform 0 rfl
         simp only [List.set_cons_zero, List.set_cons_succ] at hdd
         have HYebd := Lib.hid hdd
         clear hdd hown hgrow hat hbw hgr HYeb
         refine hK.out _ _ (HYebd.out.boxi 4 rfl) (fun hSn => ?_)
         clear hK K hSw0
         have hSw0 := hSn
         clear hSn
         refine Kn.takeR 9 ⟨some 125, _, _, _, _, _⟩ fun K hK => ?_
         have hbw := HYebd.out.only.size
         have hnw := own4 (HYebd.out.box (x := (vz, [.int .i64 ik, .int .i64 ib, .int .i64 ic, .int .i64 iv])) (by simp [RT.L]))
         refine step_append_rowN rfl (.tmp 122) (.tmp 124) 53 rfl w0.heap.size 63 i0 _ 4 32 Tryz.underlying53 hi0 hz0 hz1 hz2 rfl (by decide) (.slice A8 n1 c8) n1 (itsV its1) rfl (HYebd.out.gi 0 rfl) (some ⟨vz, 0, none⟩) 1 1 (itsV [⟨ik, ib, ic, iv⟩]) rfl rfl (four_hr hnw) (itsV_one _) (by unfold maxLen; omega) (by omega) hbw ?_
         intro v' vd5 hown hgrow hat
         rw [show itsV its1 ++ itsV [⟨ik, ib, ic, iv⟩] = itsV (its1 ++ [⟨ik, ib, ic, iv⟩]) from by simp [itsV]] at hown
         have hdd := HYebd.out.gapp 0 rfl hown hgrow hat
         obtain ⟨A9, c9, rfl⟩ := hdd.gform 0 rfl
         simp only [List.set_cons_zero, List.set_cons_succ] at hdd
         have HYebda := Lib.hid hdd
         clear hdd hown hgrow hat hbw hnw HYebd
         refine hK.out _ _ (HYebda.out.boxi 4 rfl) (fun hSn => ?_)
         clear hK K hSw0
         have hSw0 := hSn
         clear hSn
         refine Kn.takeS 10 ⟨some 126, _, _, _, _, _⟩ ?_
         refine Kn.takeS 11 ⟨some 127, _, _, _, _, _⟩ ?_
         refine Kn.takeR 12 ⟨none, _, _, _, _, _⟩ fun K hK => ?_
         have b1 := HYebda.out.boxi 0 rfl
         have y8 := b1.cellv 10
         have z8 := b1.frozen 10
         have l8 := b1.lt
         clear b1
         go_simp
         have HYebdas := Lib.hid (HYebda.out.put 0 rfl 10 (.slice A9 (n1 + 1) c9))
         clear y8 z8 l8 HYebda
         refine hK.out _ _ (HYebdas.out.boxi 4 rfl) (fun hSn => ?_)
         clear hK K hSw0
         have hSw0 := hSn
         clear hSn
         refine wpAnyH_done (by kernel_rfl) ?_ _
         clear hSw0
         go_wp2
         go_meet
         case rel => exact ⟨A9, c9, add_keep HYebdas.out⟩
        exact AllReadyH.nil
       refine AllReadyH.cons (o := ⟨some 124, _, _, _, _, _⟩) rfl (fun K hK => ?_) ?_
       ·go_simp
        have HYeb := Lib.hid (HYe.out.newB #[.int .i64 ik, .int .i64 ib, .int .i64 ic, .int .i64 iv] 63 rfl)
        generalize hvz : vb1.heap.size = vz at *
        generalize hvb : vb1.alloc (.cells #[.int .i64 ik, .int .i64 ib, .int .i64 ic, .int .i64 iv] 63) = vb2 at *
        clear hvb hvz HYe
        have HYebp := Lib.hid (HYeb.out.permL (L' := (X, (XB r u cf p1 (.slice A1 n1 c1) (.slice B1 m1 k1))) :: u.L cf t1 ((f5, [.int .i64 ik, .int .i64 ib, .int .i64 ic, .int .i64 iv]) :: (vz, [.int .i64 ik, .int .i64 ib, .int .i64 ic, .int .i64 iv]) :: L)) (perm_any (fun c => by simp only [RT.L, Array.toList, List.map_cons, List.sum_cons]; omega)))
        clear HYeb
        have HYeb := HYebp
        clear HYebp
        refine hK.out _ _ (HYeb.out.boxi 4 rfl) (fun hSn => ?_)
        clear hK K hSw0
        have hSw0 := hSn
        clear hSn
        refine Kn.takeR 5 ⟨some 121, _, _, _, _, _⟩ fun K hK => ?_
        have q0 := (HYeb.out.boxi 0 rfl).cellv 10
        go_simp
        clear q0
        refine hK.out _ _ (HYeb.out.boxi 4 rfl) (fun hSn => ?_)
        clear hK K hSw0
        have hSw0 := hSn
        clear hSn
        refine Kn.takeR 6 ⟨some 122, _, _, _, _, _⟩ fun K hK => ?_
        have hbw := HYeb.out.only.size
        have hgr := HYeb.out.gi 1 rfl
        refine step_append_rowN rfl (.tmp 117) (.tmp 121) 53 rfl w0.heap.size 63 i0 _ 4 32 Tryz.underlying53 hi0 hz0 hz1 hz2 rfl (by decide) (.slice (some ⟨va, 0, none⟩) 0 0) 0 [] rfl (HYeb.out.gi 0 rfl) A1 n1 c1 (itsV its1) rfl HLV.out (own_hr hgr) (itsV_one _) (by unfold maxLen; omega) (by omega) hbw ?_
        intro v' vd4 hown hgrow hat
        rw [List.nil_append] at hown
        have hdd := HYeb.out.gapp 0 rfl hown hgrow hat
        rw [Nat.zero_add] at hdd
        obtain ⟨A8, c8, rfl⟩ := hdd.gform 0 rfl
        simp only [List.set_cons_zero, List.set_cons_succ] at hdd
        have HYebd := Lib.hid hdd
        clear hdd hown hgrow hat hbw hgr HYeb
        refine hK.out _ _ (HYebd.out.boxi 4 rfl) (fun hSn => ?_)
        clear hK K hSw0
        have hSw0 := hSn
        clear hSn
        refine Kn.takeR 9 ⟨some 125, _, _, _, _, _⟩ fun K hK => ?_
        have hbw := HYebd.out.only.size
        have hnw := own4 (HYebd.out.box (x := (vz, [.int .i64 ik, .int .i64 ib, .int .i64 ic, .int .i64 iv])) (by simp [RT.L]))
        refine step_append_rowN rfl (.tmp 122) (.tmp 124) 53 rfl w0.heap.size 63 i0 _ 4 32 Tryz.underlying53 hi0 hz0 hz1 hz2 rfl (by decide) (.slice A8 n1 c8) n1 (itsV its1) rfl (HYebd.out.gi 0 rfl) (some ⟨vz, 0, none⟩) 1 1 (itsV [⟨ik, ib, ic, iv⟩]) rfl rfl (four_hr hnw) (itsV_one _) (by unfold maxLen; omega) (by omega) hbw ?_
        intro v' vd5 hown hgrow hat
        rw [show itsV its1 ++ itsV [⟨ik, ib, ic, iv⟩] = itsV (its1 ++ [⟨ik, ib, ic, iv⟩]) from by simp [itsV]] at hown
        have hdd := HYebd.out.gapp 0 rfl hown hgrow hat
        obtain ⟨A9, c9, rfl⟩ := hdd.gform 0 rfl
        simp only [List.set_cons_zero, List.set_cons_succ] at hdd
        have HYebda := Lib.hid hdd
        clear hdd hown hgrow hat hbw hnw HYebd
        refine hK.out _ _ (HYebda.out.boxi 4 rfl) (fun hSn => ?_)
        clear hK K hSw0
        have hSw0 := hSn
        clear hSn
        refine Kn.takeS 10 ⟨some 126, _, _, _, _, _⟩ ?_
        refine Kn.takeS 11 ⟨some 127, _, _, _, _, _⟩ ?_
        refine Kn.takeR 12 ⟨none, _, _, _, _, _⟩ fun K hK => ?_
        have b1 := HYebda.out.boxi 0 rfl
        have y8 := b1.cellv 10
        have z8 := b1.frozen 10
        have l8 := b1.lt
        clear b1
        go_simp
        have HYebdas := Lib.hid (HYebda.out.put 0 rfl 10 (.slice A9 (n1 + 1) c9))
        clear y8 z8 l8 HYebda
        refine hK.out _ _ (HYebdas.out.boxi 4 rfl) (fun hSn => ?_)
        clear hK K hSw0
        have hSw0 := hSn
        clear hSn
        refine wpAnyH_done (by kernel_rfl) ?_ _
        clear hSw0
        go_wp2
        go_meet
        case rel => exact ⟨A9, c9, add_keep HYebdas.out⟩
       exact AllReadyH.nil
      refine AllReadyH.cons (o := ⟨some 121, _, _, _, _, _⟩) rfl (fun K hK => ?_) ?_
      ·have q0 := (HY.out.boxi 0 rfl).cellv 10
       go_simp
       clear q0
       refine hK.out _ _ (HY.out.boxi 4 rfl) (fun hSn => ?_)
       clear hK K hSw0
       have hSw0 := hSn
       clear hSn
       refine wpAnyH_ready (rs := [1, 8]) (by kernel_rfl) (by simp) ?_
       refine AllReadyH.cons (o := ⟨some 117, _, _, _, _, _⟩) rfl (fun K hK => ?_) ?_
       ·go_simp
        have HYe := Lib.hid (HY.out.gadd ((Only.refl _ _).alloc _) (World.ownsRow_made wz (e := 63) (size := 4) #[] 0 (Nat.le_refl _) (by unfold maxLen; omega) rfl))
        generalize hvz : wz.heap.size = va at *
        generalize hvb : wz.alloc (.cells #[] 63) = vb2 at *
        clear hvb hvz HY
        refine hK.out _ _ (HYe.out.boxi 4 rfl) (fun hSn => ?_)
        clear hK K hSw0
        have hSw0 := hSn
        clear hSn
        refine wpAnyH_ready (rs := [6, 8]) (by kernel_rfl) (by simp) ?_
        refine AllReadyH.cons (o := ⟨some 122, _, _, _, _, _⟩) rfl (fun K hK => ?_) ?_
        ·have hbw := HYe.out.only.size
         have hgr := HYe.out.gi 1 rfl
         refine step_append_rowN rfl (.tmp 117) (.tmp 121) 53 rfl w0.heap.size 63 i0 _ 4 32 Tryz.underlying53 hi0 hz0 hz1 hz2 rfl (by decide) (.slice (some ⟨va, 0, none⟩) 0 0) 0 [] rfl (HYe.out.gi 0 rfl) A1 n1 c1 (itsV its1) rfl HLV.out (own_hr hgr) (itsV_one _) (by unfold maxLen; omega) (by omega) hbw ?_
         intro v' vd3 hown hgrow hat
         rw [List.nil_append] at hown
         have hdd := HYe.out.gapp 0 rfl hown hgrow hat
         rw [Nat.zero_add] at hdd
         obtain ⟨A8, c8, rfl⟩ := hdd.gform 0 rfl
         simp only [List.set_cons_zero, List.set_cons_succ] at hdd
         have HYed := Lib.hid hdd
         clear hdd hown hgrow hat hbw hgr HYe
         refine hK.out _ _ (HYed.out.boxi 4 rfl) (fun hSn => ?_)
         clear hK K hSw0
         have hSw0 := hSn
         clear hSn
         refine Kn.takeR 8 ⟨some 124, _, _, _, _, _⟩ fun K hK => ?_
         go_simp
         have HYedb := Lib.hid (HYed.out.newB #[.int .i64 ik, .int .i64 ib, .int .i64 ic, .int .i64 iv] 63 rfl)
         generalize hvz : vd3.heap.size = vz at *
         generalize hvb : vd3.alloc (.cells #[.int .i64 ik, .int .i64 ib, .int .i64 ic, .int .i64 iv] 63) = vb4 at *
         clear hvb hvz HYed
         have HYedbp := Lib.hid (HYedb.out.permL (L' := (X, (XB r u cf p1 (.slice A1 n1 c1) (.slice B1 m1 k1))) :: u.L cf t1 ((f5, [.int .i64 ik, .int .i64 ib, .int .i64 ic, .int .i64 iv]) :: (vz, [.int .i64 ik, .int .i64 ib, .int .i64 ic, .int .i64 iv]) :: L)) (perm_any (fun c => by simp only [RT.L, Array.toList, List.map_cons, List.sum_cons]; omega)))
         clear HYedb
         have HYedb := HYedbp
         clear HYedbp
         refine hK.out _ _ (HYedb.out.boxi 4 rfl) (fun hSn => ?_)
         clear hK K hSw0
         have hSw0 := hSn
         clear hSn
         refine Kn.takeR 9 ⟨some 125, _, _, _, _, _⟩ fun K hK => ?_
         have hbw := HYedb.out.only.size
         have hnw := own4 (HYedb.out.box (x := (vz, [.int .i64 ik, .int .i64 ib, .int .i64 ic, .int .i64 iv])) (by simp [RT.L]))
         refine step_append_rowN rfl (.tmp 122) (.tmp 124) 53 rfl w0.heap.size 63 i0 _ 4 32 Tryz.underlying53 hi0 hz0 hz1 hz2 rfl (by decide) (.slice A8 n1 c8) n1 (itsV its1) rfl (HYedb.out.gi 0 rfl) (some ⟨vz, 0, none⟩) 1 1 (itsV [⟨ik, ib, ic, iv⟩]) rfl rfl (four_hr hnw) (itsV_one _) (by unfold maxLen; omega) (by omega) hbw ?_
         intro v' vd5 hown hgrow hat
         rw [show itsV its1 ++ itsV [⟨ik, ib, ic, iv⟩] = itsV (its1 ++ [⟨ik, ib, ic, iv⟩]) from by simp [itsV]] at hown
         have hdd := HYedb.out.gapp 0 rfl hown hgrow hat
         obtain ⟨A9, c9, rfl⟩ := hdd.gform 0 rfl
         simp only [List.set_cons_zero, List.set_cons_succ] at hdd
         have HYedba := Lib.hid hdd
         clear hdd hown hgrow hat hbw hnw HYedb
         refine hK.out _ _ (HYedba.out.boxi 4 rfl) (fun hSn => ?_)
         clear hK K hSw0
         have hSw0 := hSn
         clear hSn
         refine Kn.takeS 10 ⟨some 126, _, _, _, _, _⟩ ?_
         refine Kn.takeS 11 ⟨some 127, _, _, _, _, _⟩ ?_
         refine Kn.takeR 12 ⟨none, _, _, _, _, _⟩ fun K hK => ?_
         have b1 := HYedba.out.boxi 0 rfl
         have y8 := b1.cellv 10
         have z8 := b1.frozen 10
         have l8 := b1.lt
         clear b1
         go_simp
         have HYedbas := Lib.hid (HYedba.out.put 0 rfl 10 (.slice A9 (n1 + 1) c9))
         clear y8 z8 l8 HYedba
         refine hK.out _ _ (HYedbas.out.boxi 4 rfl) (fun hSn => ?_)
         clear hK K hSw0
         have hSw0 := hSn
         clear hSn
         refine wpAnyH_done (by kernel_rfl) ?_ _
         clear hSw0
         go_wp2
         go_meet
         case rel => exact ⟨A9, c9, add_keep HYedbas.out⟩
        refine AllReadyH.cons (o := ⟨some 124, _, _, _, _, _⟩) rfl (fun K hK => ?_) ?_
        ·go_simp
         have HYeb := Lib.hid (HYe.out.newB #[.int .i64 ik, .int .i64 ib, .int .i64 ic, .int .i64 iv] 63 rfl)
         generalize hvz : vb2.heap.size = vz at *
         generalize hvb : vb2.alloc (.cells #[.int .i64 ik, .int .i64 ib, .int .i64 ic, .int .i64 iv] 63) = vb3 at *
         clear hvb hvz HYe
         have HYebp := Lib.hid (HYeb.out.permL (L' := (X, (XB r u cf p1 (.slice A1 n1 c1) (.slice B1 m1 k1))) :: u.L cf t1 ((f5, [.int .i64 ik, .int .i64 ib, .int .i64 ic, .int .i64 iv]) :: (vz, [.int .i64 ik, .int .i64 ib, .int .i64 ic, .int .i64 iv]) :: L)) (perm_any (fun c => by simp only [RT.L, Array.toList, List.map_cons, List.sum_cons]; omega)))
         clear HYeb
         have HYeb := HYebp
         clear HYebp
         refine hK.out _ _ (HYeb.out.boxi 4 rfl) (fun hSn => ?_)
         clear hK K hSw0
         have hSw0 := hSn
         clear hSn
         refine Kn.takeR 6 ⟨some 122, _, _, _, _, _⟩ fun K hK => ?_
         have hbw := HYeb.out.only.size
         have hgr := HYeb.out.gi 1 rfl
         refine step_append_rowN rfl (.tmp 117) (.tmp 121) 53 rfl w0.heap.size 63 i0 _ 4 32 Tryz.underlying53 hi0 hz0 hz1 hz2 rfl (by decide) (.slice (some ⟨va, 0, none⟩) 0 0) 0 [] rfl (HYeb.out.gi 0 rfl) A1 n1 c1 (itsV its1) rfl HLV.out (own_hr hgr) (itsV_one _) (by unfold maxLen; omega) (by omega) hbw ?_
         intro v' vd4 hown hgrow hat
         rw [List.nil_append] at hown
         have hdd := HYeb.out.gapp 0 rfl hown hgrow hat
         rw [Nat.zero_add] at hdd
         obtain ⟨A8, c8, rfl⟩ := hdd.gform 0 rfl
         simp only [List.set_cons_zero, List.set_cons_succ] at hdd
         have HYebd := Lib.hid hdd
         clear hdd hown hgrow hat hbw hgr HYeb
         refine hK.out _ _ (HYebd.out.boxi 4 rfl) (fun hSn => ?_)
         clear hK K hSw0
         have hSw0 := hSn
         clear hSn
         refine Kn.takeR 9 ⟨some 125, _, _, _, _, _⟩ fun K hK => ?_
         have hbw := HYebd.out.only.size
         have hnw := own4 (HYebd.out.box (x := (vz, [.int .i64 ik, .int .i64 ib, .int .i64 ic, .int .i64 iv])) (by simp [RT.L]))
         refine step_append_rowN rfl (.tmp 122) (.tmp 124) 53 rfl w0.heap.size 63 i0 _ 4 32 Tryz.underlying53 hi0 hz0 hz1 hz2 rfl (by decide) (.slice A8 n1 c8) n1 (itsV its1) rfl (HYebd.out.gi 0 rfl) (some ⟨vz, 0, none⟩) 1 1 (itsV [⟨ik, ib, ic, iv⟩]) rfl rfl (four_hr hnw) (itsV_one _) (by unfold maxLen; omega) (by omega) hbw ?_
         intro v' vd5 hown hgrow hat
         rw [show itsV its1 ++ itsV [⟨ik, ib, ic, iv⟩] = itsV (its1 ++ [⟨ik, ib, ic, iv⟩]) from by simp [itsV]] at hown
         have hdd := HYebd.out.gapp 0 rfl hown hgrow hat
         obtain ⟨A9, c9, rfl⟩ := hdd.gform 0 rfl
         simp only [List.set_cons_zero, List.set_cons_succ] at hdd
         have HYebda := Lib.hid hdd
         clear hdd hown hgrow hat hbw hnw HYebd
         refine hK.out _ _ (HYebda.out.boxi 4 rfl) (fun hSn => ?_)
         clear hK K hSw0
         have hSw0 := hSn
         clear hSn
         refine Kn.takeS 10 ⟨some 126, _, _, _, _, _⟩ ?_
         refine Kn.takeS 11 ⟨some 127, _, _, _, _, _⟩ ?_
         refine Kn.takeR 12 ⟨none, _, _, _, _, _⟩ fun K hK => ?_
         have b1 := HYebda.out.boxi 0 rfl
         have y8 := b1.cellv 10
         have z8 := b1.frozen 10
         have l8 := b1.lt
         clear b1
         go_simp
         have HYebdas := Lib.hid (HYebda.out.put 0 rfl 10 (.slice A9 (n1 + 1) c9))
         clear y8 z8 l8 HYebda
         refine hK.out _ _ (HYebdas.out.boxi 4 rfl) (fun hSn => ?_)
         clear hK K hSw0
         have hSw0 := hSn
         clear hSn
         refine wpAnyH_done (by kernel_rfl) ?_ _
         clear hSw0
         go_wp2
         go_meet
         case rel => exact ⟨A9, c9, add_keep HYebdas.out⟩
        exact AllReadyH.nil
       refine AllReadyH.cons (o := ⟨some 124, _, _, _, _, _⟩) rfl (fun K hK => ?_) ?_
       ·go_simp
        have HYb := Lib.hid (HY.out.newB #[.int .i64 ik, .int .i64 ib, .int .i64 ic, .int .i64 iv] 63 rfl)
        generalize hvz : wz.heap.size = vz at *
        generalize hvb : wz.alloc (.cells #[.int .i64 ik, .int .i64 ib, .int .i64 ic, .int .i64 iv] 63) = vb2 at *
        clear hvb hvz HY
        have HYbp := Lib.hid (HYb.out.permL (L' := (X, (XB r u cf p1 (.slice A1 n1 c1) (.slice B1 m1 k1))) :: u.L cf t1 ((f5, [.int .i64 ik, .int .i64 ib, .int .i64 ic, .int .i64 iv]) :: (vz, [.int .i64 ik, .int .i64 ib, .int .i64 ic, .int .i64 iv]) :: L)) (perm_any (fun c => by simp only [RT.L, Array.toList, List.map_cons, List.sum_cons]; omega)))
        clear HYb
        have HYb := HYbp
        clear HYbp
        refine hK.out _ _ (HYb.out.boxi 4 rfl) (fun hSn => ?_)
        clear hK K hSw0
        have hSw0 := hSn
        clear hSn
        refine Kn.takeR 1 ⟨some 117, _, _, _, _, _⟩ fun K hK => ?_
        go_simp
        have HYbe := Lib.hid (HYb.out.gadd ((Only.refl _ _).alloc _) (World.ownsRow_made vb2 (e := 63) (size := 4) #[] 0 (Nat.le_refl _) (by unfold maxLen; omega) rfl))
        generalize hvz : vb2.heap.size = va at *
        generalize hvb : vb2.alloc (.cells #[] 63) = vb3 at *
        clear hvb hvz HYb
        refine hK.out _ _ (HYbe.out.boxi 4 rfl) (fun hSn => ?_)
        clear hK K hSw0
        have hSw0 := hSn
        clear hSn
        refine Kn.takeR 6 ⟨some 122, _, _, _, _, _⟩ fun K hK => ?_
        have hbw := HYbe.out.only.size
        have hgr := HYbe.out.gi 1 rfl
        refine step_append_rowN rfl (.tmp 117) (.tmp 121) 53 rfl w0.heap.size 63 i0 _ 4 32 Tryz.underlying53 hi0 hz0 hz1 hz2 rfl (by decide) (.slice (some ⟨va, 0, none⟩) 0 0) 0 [] rfl (HYbe.out.gi 0 rfl) A1 n1 c1 (itsV its1) rfl HLV.out (own_hr hgr) (itsV_one _) (by unfold maxLen; omega) (by omega) hbw ?_
        intro v' vd4 hown hgrow hat
        rw [List.nil_append] at hown
        have hdd := HYbe.out.gapp 0 rfl hown hgrow hat
        rw [Nat.zero_add] at hdd
        obtain ⟨A8, c8, rfl⟩ := hdd.gform 0 rfl
        simp only [List.set_cons_zero, List.set_cons_succ] at hdd
        have HYbed := Lib.hid hdd
        clear hdd hown hgrow hat hbw hgr HYbe
        refine hK.out _ _ (HYbed.out.boxi 4 rfl) (fun hSn => ?_)
        clear hK K hSw0
        have hSw0 := hSn
        clear hSn
        refine Kn.takeR 9 ⟨some 125, _, _, _, _, _⟩ fun K hK => ?_
        have hbw := HYbed.out.only.size
        have hnw := own4 (HYbed.out.box (x := (vz, [.int .i64 ik, .int .i64 ib, .int .i64 ic, .int .i64 iv])) (by simp [RT.L]))
        refine step_append_rowN rfl (.tmp 122) (.tmp 124) 53 rfl w0.heap.size 63 i0 _ 4 32 Tryz.underlying53 hi0 hz0 hz1 hz2 rfl (by decide) (.slice A8 n1 c8) n1 (itsV its1) rfl (HYbed.out.gi 0 rfl) (some ⟨vz, 0, none⟩) 1 1 (itsV [⟨ik, ib, ic, iv⟩]) rfl rfl (four_hr hnw) (itsV_one _) (by unfold maxLen; omega) (by omega) hbw ?_
        intro v' vd5 hown hgrow hat
        rw [show itsV its1 ++ itsV [⟨ik, ib, ic, iv⟩] = itsV (its1 ++ [⟨ik, ib, ic, iv⟩]) from by simp [itsV]] at hown
        have hdd := HYbed.out.gapp 0 rfl hown hgrow hat
        obtain ⟨A9, c9, rfl⟩ := hdd.gform 0 rfl
        simp only [List.set_cons_zero, List.set_cons_succ] at hdd
        have HYbeda := Lib.hid hdd
        clear hdd hown hgrow hat hbw hnw HYbed
        refine hK.out _ _ (HYbeda.out.boxi 4 rfl) (fun hSn => ?_)
        clear hK K hSw0
        have hSw0 := hSn
        clear hSn
        refine Kn.takeS 10 ⟨some 126, _, _, _, _, _⟩ ?_
        refine Kn.takeS 11 ⟨some 127, _, _, _, _, _⟩ ?_
        refine Kn.takeR 12 ⟨none, _, _, _, _, _⟩ fun K hK => ?_
        have b1 := HYbeda.out.boxi 0 rfl
        have y8 := b1.cellv 10
        have z8 := b1.frozen 10
        have l8 := b1.lt
        clear b1
        go_simp
        have HYbedas := Lib.hid (HYbeda.out.put 0 rfl 10 (.slice A9 (n1 + 1) c9))
        clear y8 z8 l8 HYbeda
        refine hK.out _ _ (HYbedas.out.boxi 4 rfl) (fun hSn => ?_)
        clear hK K hSw0
        have hSw0 := hSn
        clear hSn
        refine wpAnyH_done (by kernel_rfl) ?_ _
        clear hSw0
        go_wp2
        go_meet
        case rel => exact ⟨A9, c9, add_keep HYbedas.out⟩
       exact AllReadyH.nil
      refine AllReadyH.cons (o := ⟨some 124, _, _, _, _, _⟩) rfl (fun K hK => ?_) ?_
      ·go_simp
       have HYb := Lib.hid (HY.out.newB #[.int .i64 ik, .int .i64 ib, .int .i64 ic, .int .i64 iv] 63 rfl)
       generalize hvz : wz.heap.size = vz at *
       generalize hvb : wz.alloc (.cells #[.int .i64 ik, .int .i64 ib, .int .i64 ic, .int .i64 iv] 63) = vb1 at *
       clear hvb hvz HY
       have HYbp := Lib.hid (HYb.out.permL (L' := (X, (XB r u cf p1 (.slice A1 n1 c1) (.slice B1 m1 k1))) :: u.L cf t1 ((f5, [.int .i64 ik, .int .i64 ib, .int .i64 ic, .int .i64 iv]) :: (vz, [.int .i64 ik, .int .i64 ib, .int .i64 ic, .int .i64 iv]) :: L)) (perm_any (fun c => by simp only [RT.L, Array.toList, List.map_cons, List.sum_cons]; omega)))
       clear HYb
       have HYb := HYbp
       clear HYbp
       refine hK.out _ _ (HYb.out.boxi 4 rfl) (fun hSn => ?_)
       clear hK K hSw0
       have hSw0 := hSn
       clear hSn
       refine wpAnyH_ready (rs := [1, 5]) (by kernel_rfl) (by simp) ?_
       refine AllReadyH.cons (o := ⟨some 117, _, _, _, _, _⟩) rfl (fun K hK => ?_) ?_
       ·go_simp
        have HYbe := Lib.hid (HYb.out.gadd ((Only.refl _ _).alloc _) (World.ownsRow_made vb1 (e := 63) (size := 4) #[] 0 (Nat.le_refl _) (by unfold maxLen; omega) rfl))
        generalize hvz : vb1.heap.size = va at *
        generalize hvb : vb1.alloc (.cells #[] 63) = vb2 at *
        clear hvb hvz HYb
        refine hK.out _ _ (HYbe.out.boxi 4 rfl) (fun hSn => ?_)
        clear hK K hSw0
        have hSw0 := hSn
        clear hSn
        refine Kn.takeR 5 ⟨some 121, _, _, _, _, _⟩ fun K hK => ?_
        have q0 := (HYbe.out.boxi 0 rfl).cellv 10
        go_simp
        clear q0
        refine hK.out _ _ (HYbe.out.boxi 4 rfl) (fun hSn => ?_)
        clear hK K hSw0
        have hSw0 := hSn
        clear hSn
        refine Kn.takeR 6 ⟨some 122, _, _, _, _, _⟩ fun K hK => ?_
        have hbw := HYbe.out.only.size
        have hgr := HYbe.out.gi 1 rfl
        refine step_append_rowN rfl (.tmp 117) (.tmp 121) 53 rfl w0.heap.size 63 i0 _ 4 32 Tryz.underlying53 hi0 hz0 hz1 hz2 rfl (by decide) (.slice (some ⟨va, 0, none⟩) 0 0) 0 [] rfl (HYbe.out.gi 0 rfl) A1 n1 c1 (itsV its1) rfl HLV.out (own_hr hgr) (itsV_one _) (by unfold maxLen; omega) (by omega) hbw ?_
        intro v' vd4 hown hgrow hat
        rw [List.nil_append] at hown
        have hdd := HYbe.out.gapp 0 rfl hown hgrow hat
        rw [Nat.zero_add] at hdd
        obtain ⟨A8, c8, rfl⟩ := hdd.gform 0 rfl
        simp only [List.set_cons_zero, List.set_cons_succ] at hdd
        have HYbed := Lib.hid hdd
        clear hdd hown hgrow hat hbw hgr HYbe
        refine hK.out _ _ (HYbed.out.boxi 4 rfl) (fun hSn => ?_)
        clear hK K hSw0
        have hSw0 := hSn
        clear hSn
        refine Kn.takeR 9 ⟨some 125, _, _, _, _, _⟩ fun K hK => ?_
        have hbw := HYbed.out.only.size
        have hnw := own4 (HYbed.out.box (x := (vz, [.int .i64 ik, .int .i64 ib, .int .i64 ic, .int .i64 iv])) (by simp [RT.L]))
        refine step_append_rowN rfl (.tmp 122) (.tmp 124) 53 rfl w0.heap.size 63 i0 _ 4 32 Tryz.underlying53 hi0 hz0 hz1 hz2 rfl (by decide) (.slice A8 n1 c8) n1 (itsV its1) rfl (HYbed.out.gi 0 rfl) (some ⟨vz, 0, none⟩) 1 1 (itsV [⟨ik, ib, ic, iv⟩]) rfl rfl (four_hr hnw) (itsV_one _) (by unfold maxLen; omega) (by omega) hbw ?_
        intro v' vd5 hown hgrow hat
        rw [show itsV its1 ++ itsV [⟨ik, ib, ic, iv⟩] = itsV (its1 ++ [⟨ik, ib, ic, iv⟩]) from by simp [itsV]] at hown
        have hdd := HYbed.out.gapp 0 rfl hown hgrow hat
        obtain ⟨A9, c9, rfl⟩ := hdd.gform 0 rfl
        simp only [List.set_cons_zero, List.set_cons_succ] at hdd
        have HYbeda := Lib.hid hdd
        clear hdd hown hgrow hat hbw hnw HYbed
        refine hK.out _ _ (HYbeda.out.boxi 4 rfl) (fun hSn => ?_)
        clear hK K hSw0
        have hSw0 := hSn
        clear hSn
        refine Kn.takeS 10 ⟨some 126, _, _, _, _, _⟩ ?_
        refine Kn.takeS 11 ⟨some 127, _, _, _, _, _⟩ ?_
        refine Kn.takeR 12 ⟨none, _, _, _, _, _⟩ fun K hK => ?_
        have b1 := HYbeda.out.boxi 0 rfl
        have y8 := b1.cellv 10
        have z8 := b1.frozen 10
        have l8 := b1.lt
        clear b1
        go_simp
        have HYbedas := Lib.hid (HYbeda.out.put 0 rfl 10 (.slice A9 (n1 + 1) c9))
        clear y8 z8 l8 HYbeda
        refine hK.out _ _ (HYbedas.out.boxi 4 rfl) (fun hSn => ?_)
        clear hK K hSw0
        have hSw0 := hSn
        clear hSn
        refine wpAnyH_done (by kernel_rfl) ?_ _
        clear hSw0
        go_wp2
        go_meet
        case rel => exact ⟨A9, c9, add_keep HYbedas.out⟩
       refine AllReadyH.cons (o := ⟨some 121, _, _, _, _, _⟩) rfl (fun K hK => ?_) ?_
       ·have q0 := (HYb.out.boxi 0 rfl).cellv 10
        go_simp
        clear q0
        refine hK.out _ _ (HYb.out.boxi 4 rfl) (fun hSn => ?_)
        clear hK K hSw0
        have hSw0 := hSn
        clear hSn
        refine Kn.takeR 1 ⟨some 117, _, _, _, _, _⟩ fun K hK => ?_
        go_simp
        have HYbe := Lib.hid (HYb.out.gadd ((Only.refl _ _).alloc _) (World.ownsRow_made vb1 (e := 63) (size := 4) #[] 0 (Nat.le_refl _) (by unfold maxLen; omega) rfl))
        generalize hvz : vb1.heap.size = va at *
        generalize hvb : vb1.alloc (.cells #[] 63) = vb3 at *
        clear hvb hvz HYb
        refine hK.out _ _ (HYbe.out.boxi 4 rfl) (fun hSn => ?_)
        clear hK K hSw0
        have hSw0 := hSn
        clear hSn
        refine Kn.takeR 6 ⟨some 122, _, _, _, _, _⟩ fun K hK => ?_
        have hbw := HYbe.out.only.size
        have hgr := HYbe.out.gi 1 rfl
        refine step_append_rowN rfl (.tmp 117) (.tmp 121) 53 rfl w0.heap.size 63 i0 _ 4 32 Tryz.underlying53 hi0 hz0 hz1 hz2 rfl (by decide) (.slice (some ⟨va, 0, none⟩) 0 0) 0 [] rfl (HYbe.out.gi 0 rfl) A1 n1 c1 (itsV its1) rfl HLV.out (own_hr hgr) (itsV_one _) (by unfold maxLen; omega) (by omega) hbw ?_
        intro v' vd4 hown hgrow hat
        rw [List.nil_append] at hown
        have hdd := HYbe.out.gapp 0 rfl hown hgrow hat
        rw [Nat.zero_add] at hdd
        obtain ⟨A8, c8, rfl⟩ := hdd.gform 0 rfl
        simp only [List.set_cons_zero, List.set_cons_succ] at hdd
        have HYbed := Lib.hid hdd
        clear hdd hown hgrow hat hbw hgr HYbe
        refine hK.out _ _ (HYbed.out.boxi 4 rfl) (fun hSn => ?_)
        clear hK K hSw0
        have hSw0 := hSn
        clear hSn
        refine Kn.takeR 9 ⟨some 125, _, _, _, _, _⟩ fun K hK => ?_
        have hbw := HYbed.out.only.size
        have hnw := own4 (HYbed.out.box (x := (vz, [.int .i64 ik, .int .i64 ib, .int .i64 ic, .int .i64 iv])) (by simp [RT.L]))
        refine step_append_rowN rfl (.tmp 122) (.tmp 124) 53 rfl w0.heap.size 63 i0 _ 4 32 Tryz.underlying53 hi0 hz0 hz1 hz2 rfl (by decide) (.slice A8 n1 c8) n1 (itsV its1) rfl (HYbed.out.gi 0 rfl) (some ⟨vz, 0, none⟩) 1 1 (itsV [⟨ik, ib, ic, iv⟩]) rfl rfl (four_hr hnw) (itsV_one _) (by unfold maxLen; omega) (by omega) hbw ?_
        intro v' vd5 hown hgrow hat
        rw [show itsV its1 ++ itsV [⟨ik, ib, ic, iv⟩] = itsV (its1 ++ [⟨ik, ib, ic, iv⟩]) from by simp [itsV]] at hown
        have hdd := HYbed.out.gapp 0 rfl hown hgrow hat
        obtain ⟨A9, c9, rfl⟩ := hdd.gform 0 rfl
        simp only [List.set_cons_zero, List.set_cons_succ] at hdd
        have HYbeda := Lib.hid hdd
        clear hdd hown hgrow hat hbw hnw HYbed
        refine hK.out _ _ (HYbeda.out.boxi 4 rfl) (fun hSn => ?_)
        clear hK K hSw0
        have hSw0 := hSn
        clear hSn
        refine Kn.takeS 10 ⟨some 126, _, _, _, _, _⟩ ?_
        refine Kn.takeS 11 ⟨some 127, _, _, _, _, _⟩ ?_
        refine Kn.takeR 12 ⟨none, _, _, _, _, _⟩ fun K hK => ?_
        have b1 := HYbeda.out.boxi 0 rfl
        have y8 := b1.cellv 10
        have z8 := b1.frozen 10
        have l8 := b1.lt
        clear b1
        go_simp
        have HYbedas := Lib.hid (HYbeda.out.put 0 rfl 10 (.slice A9 (n1 + 1) c9))
        clear y8 z8 l8 HYbeda
        refine hK.out _ _ (HYbedas.out.boxi 4 rfl) (fun hSn => ?_)
        clear hK K hSw0
        have hSw0 := hSn
        clear hSn
        refine wpAnyH_done (by kernel_rfl) ?_ _
        clear hSw0
        go_wp2
        go_meet
        case rel => exact ⟨A9, c9, add_keep HYbedas.out⟩
       exact AllReadyH.nil
      exact AllReadyH.nil
     case rest =>
      obtain ⟨A9, c9, hd⟩ := hcut
      have HX := Lib.hid hd
      clear hd HB
      have HL1 : Hid ((its1 ++ [(⟨ik, ib, ic, iv⟩ : It)]).length = n1 + 1) := Lib.hid (by rw [List.length_append, HN1.out]; rfl)
      by_cases hb0 : nb = 0
      ·have had := HAD1.out
       rw [if_pos hb0] at had
       have HAD2 := Lib.hid had
       have hbb : ((nb : Int) == 0) = true := by rw [hb0]; rfl
       clear had hb0
       go_wp2
       go_ret2
       rw [HAD2.out]
       exact ⟨rfl, A9, c9, B1, k1, sl1, by dsimp only; rw [HL1.out, HM1.out]; exact xr_drop HX.out⟩
      ·have had := HAD1.out
       rw [if_neg hb0] at had
       have HAD2 := Lib.hid had
       have hbb : ((nb : Int) == 0) = false := by simp; omega
       have hnn : nn = 64 := by rw [HNS.out]; omega
       subst hnn
       clear had hb0
       have HG := Lib.hid (HX.out.gadd ((Only.refl _ _).alloc _) (World.ownsRow_made wc (e := 47) (size := 1) #[] 0 (Nat.le_refl _) (by unfold maxLen; omega) rfl))
       have c11 := (HG.out.boxi 0 rfl).cellv 11
       have HRW := Lib.hid (HG.out.grow 2 rfl)
       have HBS := Lib.hid HG.out.only.size
       clear HX
       go_wp2_with (first | (at_builtin; refine wpList_append_row1 rfl (.tmp 131) (.tmp 135) 54 rfl w0.heap.size 47 i1 _ 24 Tryz.underlying54 hi1 hy0 hy1 hy2 rfl (.slice (some ⟨wc.heap.size, 0, none⟩) 0 0) 0 [] rfl (HG.out.gi 0 rfl) B1 m1 k1 (sl1.map slv) rfl HRW.out (slv_one _) (by unfold maxLen; omega) (by omega) HBS.out ?_; intro v5 w5 hown5 hgrow5 hat5; rw [List.nil_append, Nat.zero_add] at hown5; have hdd := HG.out.gapp 0 rfl hown5 hgrow5 hat5; obtain ⟨A6, c6, rfl⟩ := hdd.gform 0 rfl; simp only [List.set_cons_zero] at hdd; have HA := Lib.hid hdd; clear hdd hown5 hgrow5 hat5 HG HRW HBS c11) | fail)
       refine (part64_own Ab cb b _ (HA.out.fact (f := (fun W => Bys W Ab 64 cb b)) (List.mem_cons_of_mem _ HBY.out))).mono ?_
       rintro en w6 ⟨rfl, hown6, hO6⟩
       have hdd := (HA.out.gadd hO6 hown6).gout
       generalize w5.heap.size = g7 at *
       have HP := Lib.hid hdd
       clear hdd hown6 hO6 HA
       have HQ := Lib.hid (HP.out.alloc (.cells #[.slice (some ⟨g7, 0, none⟩) 64 64] 47))
       have hnr : Row1 (w6.alloc (.cells #[.slice (some ⟨g7, 0, none⟩) 64 64] 47)) (some ⟨w6.heap.size, 0, none⟩) 1 1 ([((some ⟨g7, 0, none⟩ : Option Addr), 64, 64)].map slv) := Row1.of_Own (Own.new w6 #[.slice (some ⟨g7, 0, none⟩) 64 64] 47) rfl (Nat.le_refl _) (by simp [maxLen])
       have HNR := Lib.hid hnr
       have HBS := Lib.hid HQ.out.only.size
       clear hnr HP
       go_wp2_with (first | (at_builtin; refine wpList_append_row1 rfl (.tmp 136) (.tmp 141) 54 rfl w0.heap.size 47 i1 _ 24 Tryz.underlying54 hi1 hy0 hy1 hy2 rfl (.slice A6 m1 c6) m1 (sl1.map slv) rfl (HQ.out.gi 0 rfl) (some ⟨w6.heap.size, 0, none⟩) 1 1 ([((some ⟨g7, 0, none⟩ : Option Addr), 64, 64)].map slv) rfl HNR.out (slv_one _) (by unfold maxLen; omega) (by omega) HBS.out ?_; intro v5 w8 hown5 hgrow5 hat5; rw [← List.map_append] at hown5; have hdd := HQ.out.gapp 0 rfl hown5 hgrow5 hat5; obtain ⟨A7, k7, rfl⟩ := hdd.gform 0 rfl; simp only [List.set_cons_zero] at hdd; have HR := Lib.hid hdd; clear hdd hown5 hgrow5 hat5 HQ HNR HBS; have b1 := HR.out.boxi 0 rfl; have y8 := b1.cellv 11; have z8 := b1.frozen 11; have l8 := b1.lt; clear b1; have HS := Lib.hid (HR.out.put 0 rfl 11 (.slice A7 (m1 + 1) k7)); clear HR) | fail)
       clear y8 z8 l8
       generalize hvs : w8.setCell ⟨X, 11, none⟩ (.slice A7 (m1 + 1) k7) = w9 at *
       clear hvs
       have hS : Duo w0 w9 p (RD.up r 4) d e ⟨(X, (XB r u cf p1 (.slice A9 (n1 + 1) c9) (.slice A7 (m1 + 1) k7))) :: u.L cf t1 ((f5, [.int .i64 ik, .int .i64 ib, .int .i64 ic, .int .i64 iv]) :: L), ⟨47, 1, .slice A7 (m1 + 1) k7, (m1 + 1), (sl1 ++ [((some ⟨g7, 0, none⟩ : Option Addr), 64, 64)]).map slv⟩ :: ⟨63, 4, .slice A9 (n1 + 1) c9, (n1 + 1), itsV (its1 ++ [⟨ik, ib, ic, iv⟩])⟩ :: ⟨47, 1, .slice B1 m1 k1, m1, sl1.map slv⟩ :: G, (fun W => Row1 W (some ⟨g7, 0, none⟩) 64 64 (bvs b)) :: (fun W => Bls W sl1 bl1) :: F⟩ := HS.out
       have hd9 : Duo w0 w9 p (RD.up r 4) d e ⟨(X, (XB r u cf p1 (.slice A9 (n1 + 1) c9) (.slice A7 (m1 + 1) k7))) :: u.L cf (t1) ((f5, [.int .i64 ik, .int .i64 ib, .int .i64 ic, .int .i64 iv]) :: L), ⟨63, 4, .slice A9 (n1 + 1) c9, (n1 + 1), itsV (its1 ++ [⟨ik, ib, ic, iv⟩])⟩ :: ⟨47, 1, .slice A7 (m1 + 1) k7, (m1 + 1), (sl1 ++ [((some ⟨g7, 0, none⟩ : Option Addr), 64, 64)]).map slv⟩ :: G, (fun W => Bls W (sl1 ++ [((some ⟨g7, 0, none⟩ : Option Addr), 64, 64)]) (bl1 ++ [b])) :: F⟩ := ((hS.permG (G' := ⟨47, 1, .slice B1 m1 k1, m1, sl1.map slv⟩ :: ⟨63, 4, .slice A9 (n1 + 1) c9, (n1 + 1), itsV (its1 ++ [⟨ik, ib, ic, iv⟩])⟩ :: ⟨47, 1, .slice A7 (m1 + 1) k7, (m1 + 1), (sl1 ++ [((some ⟨g7, 0, none⟩ : Option Addr), 64, 64)]).map slv⟩ :: G) (perm_any (fun c => by simp only [List.map_cons, List.sum_cons]; omega))).gdrop).impF (fun g hg V hV => (List.mem_cons.1 hg).elim (fun e => by rw [e]; exact (hV (fun W => Bls W sl1 bl1) (by simp)).snoc (B := some ⟨g7, 0, none⟩) (m := 64) (d := 64) (hV (fun W => Row1 W (some ⟨g7, 0, none⟩) 64 64 (bvs b)) List.mem_cons_self)) (fun hg => hV g (List.mem_cons_of_mem _ (List.mem_cons_of_mem _ hg))))
       have HX := Lib.hid hd9
       clear hd9 hS HS
       obtain ⟨s9, hs9⟩ : ∃ x, cf.at_ p1.s = x := ⟨_, rfl⟩
       obtain ⟨f9, hf9⟩ : ∃ x, max p1.o 1 = x := ⟨_, rfl⟩
       have hs9b : -1 ≤ s9 ∧ s9 ≤ 100000 := by rw [← hs9]; exact at_range HC.out _
       have hf9b : 1 ≤ f9 ∧ f9 ≤ 1000 := by omega
       have hfe : Wr.first cf ⟨e, t1, p1, its1, bl1⟩ + (bl1.length : Int) = s9 + f9 + ((m1 : Int) + 1) := by
        rw [HM1.out]
        unfold Wr.first behind
        dsimp only
        omega
       have HFE := Lib.hid hfe
       have HS9 := Lib.hid hs9
       have HF9 := Lib.hid hf9
       have hw8 := IntWalk.i64_in (s9 + f9) (by omega)
       have hw9 := IntWalk.i64_in (s9 + f9 + ((m1 : Int) + 1)) (by omega)
       have HBL1 : Hid ((bl1 ++ [b]).length = m1 + 1) := Lib.hid (by rw [List.length_append, HM1.out]; rfl)
       clear hfe hs9 hf9
       have HY := Lib.hid HX.out.drew
       clear HX
       refine wp_region_held_drew (S := (fun w' => Kn.Own w' X (XB r u cf p1 (.slice A9 (n1 + 1) c9) (.slice A7 (m1 + 1) k7)))) (by kernel_rfl) (HY.out.boxi 0 rfl) (fun hSw0 => ?_)
       generalize w9.drew = wz at *
       refine Kn.takeS 0 ⟨some 145, _, _, _, _, _⟩ ?_
       refine Kn.takeS 1 ⟨some 146, _, _, _, _, _⟩ ?_
       refine Kn.takeS 2 ⟨some 147, _, _, _, _, _⟩ ?_
       refine Kn.takeS 3 ⟨some 148, _, _, _, _, _⟩ (v := (.agg #[.int .i64 cf.b, .int .i64 cf.s, .int .i64 cf.l])) (hy := fun w hSw => by
        have q1 := hSw.cellv 1
        have q2 := hSw.cellv 2
        have q3 := hSw.cellv 3
        go_simp) ?_
       refine Kn.takeS 4 ⟨some 149, _, _, _, _, _⟩ ?_
       refine Kn.takeS 5 ⟨some 150, _, _, _, _, _⟩ ?_
       refine Kn.takeS 6 ⟨some 151, _, _, _, _, _⟩ ?_
       refine Kn.takeS 7 ⟨some 152, _, _, _, _, _⟩ ?_
       refine Kn.takeS 8 ⟨some 153, _, _, _, _, _⟩ (v := (.int .i64 p1.s)) (hy := fun w hSw => by
        have q0 := hSw.cellv 5
        go_simp) ?_
       refine Kn.takeS 10 ⟨some 155, _, _, _, _, _⟩ ?_
       refine Kn.takeS 13 ⟨some 158, _, _, _, _, _⟩ ?_
       refine Kn.takeS 14 ⟨some 159, _, _, _, _, _⟩ ?_
       refine Kn.takeS 15 ⟨some 160, _, _, _, _, _⟩ ?_
       refine Kn.takeS 16 ⟨some 161, _, _, _, _, _⟩ (v := (.slice A7 (m1 + 1) k7)) (hy := fun w hSw => by
        have q0 := hSw.cellv 11
        go_simp) ?_
       refine Kn.takeS 17 ⟨some 162, _, _, _, _, _⟩ ?_
       refine Kn.takeR 9 ⟨some 154, _, _, _, _, _⟩ fun K hK => ?_
       go_simp
       refine (ref_segat_any cf p1.s _ HC.out).mono ?_
       rintro en v2 ⟨rfl, hO⟩
       rw [HS9.out]
       have HYc := Lib.hid (HY.out.keep0 hO)
       clear hO HY
       refine hK.out _ _ (HYc.out.boxi 0 rfl) (fun hSn => ?_)
       clear hK K hSw0
       have hSw0 := hSn
       clear hSn
       refine Kn.takeR 11 ⟨some 156, _, _, _, _, _⟩ fun K hK => ?_
       go_simp
       refine (xw_first_any _ X _ u cf p1 _ _ hSw0).mono ?_
       rintro en v3 ⟨rfl, rfl⟩
       rw [HF9.out]
       refine hK.out _ _ hSw0 (fun hSn => ?_)
       clear hK K hSw0
       have hSw0 := hSn
       clear hSn
       refine Kn.takeS 12 ⟨some 157, _, _, _, _, _⟩ ?_
       refine Kn.takeS 18 ⟨some 163, _, _, _, _, _⟩ ?_
       refine Kn.takeS 19 ⟨some 8, _, _, _, _, _⟩ ?_
       refine Kn.takeS 20 ⟨some 9, _, _, _, _, _⟩ ?_
       refine wpAnyH_done (by kernel_rfl) ?_ _
       clear hSw0
       go_wp2
       go_ret2
       rw [HAD2.out]
       dsimp only
       rw [HFE.out]
       exact ⟨rfl, A9, c9, A7, k7, sl1 ++ [((some ⟨g7, 0, none⟩ : Option Addr), 64, 64)], by dsimp only; rw [HL1.out, HBL1.out]; exact xr_drop HYc.out⟩
 ·have had : Wr.add cf ⟨e, t, ps, its, bl⟩ ⟨ik, ib, ic, iv⟩ b spare = (⟨e, t, ps, its, bl⟩, 0, 1) := by
   unfold Wr.add
   rw [if_pos]
   rw [HSL.out, HNB.out]
   simp only [Bool.and_eq_false_iff, decide_eq_false_iff_not]
   by_cases hm : It.may ⟨ik, ib, ic, iv⟩ = true
   ·by_cases h7 : ik = 7
    ·exact .inl (.inr (fun h => h h7))
    ·exact .inr (fun h => hok ⟨⟨hm, h7⟩, h⟩)
   ·exact .inl (.inl (by simpa using hm))
  have HAD2 := Lib.hid had
  clear had
  by_cases hm : It.may ⟨ik, ib, ic, iv⟩ = true
  ·rw [hm]
   by_cases h7 : ik = 7
   ·subst h7
    clear hok
    go_wp2
    go_ret2
    rw [HAD2.out]
    exact ⟨rfl, ((HFIN.out _ _ HD3.out).up 4).ldrop⟩
   ·have hnn : ¬ nn = ss := fun h => hok ⟨⟨hm, h7⟩, h⟩
    have hn1 : ((nn : Int) != (nb : Int) * 64) = true := by
     have := HSS.out
     simp
     omega
    have h71 : (ik == 7) = false := by simpa using h7
    clear hok h7 hnn
    go_wp2
    go_ret2
    rw [HAD2.out]
    exact ⟨rfl, ((HFIN.out _ _ HD3.out).up 4).ldrop⟩
  ·rw [Bool.not_eq_true] at hm
   rw [hm]
   clear hok
   go_wp2
   go_ret2
   rw [HAD2.out]
   exact ⟨rfl, ((HFIN.out _ _ HD3.out).up 4).ldrop⟩
end Go.Proofs.YtgcfdjcpcclcjaaGreat
namespace Go.Kn
open Go Go.RowKit
structure PR.Ok (x : PR) : Prop where
 n : x.recs.length ≤ 20
 wf : ∀ y ∈ x.recs, y.Wf
 next : (Lit.int .i64 x.next).wf = true
/-- where a log is that is being laid -/
structure LdOk (cf : Cf) (b : Int) (q : Ps) (d : Dk) : Prop where
 ps : PsOk cf q
 o : 1 ≤ q.o
 m : 1 ≤ q.m ∧ q.m ≤ 2097152 + b
 l : 1 ≤ q.l ∧ q.l ≤ 2097152 + b
 p : 0 ≤ q.p ∧ q.p ≤ 4294967295
 lv : d.Live
 hh : d.held = []
theorem LdOk.turn {cf : Cf} (hc : cf.Ok) {b v : Int} {q : Ps} {d : Dk} (h : LdOk cf b q d) (hb : b ≤ 100000) (hv : 0 ≤ v ∧ v ≤ cf.s - 1) : LdOk cf (b + 1) (turnRun cf v true q d).1 (turnRun cf v true q d).2 := by
 have hs := hc.2.1
 obtain ⟨k1, _⟩ := nextR_ok (q := q) (v := v) ⟨h.m.1, by have := h.m.2; omega⟩ ⟨h.l.1, by have := h.l.2; omega⟩ h.p ⟨hv.1, by omega⟩
 have hsum := rcSum_lt2 k1
 unfold turnRun
 rw [if_pos rfl]
 have hl2 := (h.lv.puts (cf.at_ q.s + q.o) (rcBytes (nextR q v))).1
 have hm := h.m
 have hl := h.l
 refine ⟨⟨⟨by show -1000000000000 ≤ q.m ∧ q.m ≤ 1000000000000; omega, by show -1000000000000 ≤ q.l + 1 ∧ q.l + 1 ≤ 1000000000000; omega, by show -1000000000000 ≤ ((rcSum (nextR q v) : Nat) : Int) ∧ ((rcSum (nextR q v) : Nat) : Int) ≤ 1000000000000; omega⟩, hv, by show (0 : Int) ≤ 1 ∧ (1 : Int) ≤ 64; decide⟩, by show (1 : Int) ≤ 1; decide, ⟨hm.1, by show q.m ≤ _; omega⟩, ⟨by show 1 ≤ q.l + 1; omega, by show q.l + 1 ≤ _; omega⟩, ⟨by show 0 ≤ ((rcSum (nextR q v) : Nat) : Int); omega, by show ((rcSum (nextR q v) : Nat) : Int) ≤ _; omega⟩, (hl2.puts _ _).1, (hl2.puts _ _).2⟩
end Go.Kn
namespace Go.Kn
open Go Go.RowKit
section
variable {c : Cf} {s0 : Int} {q0 : Ps}
/-- chain's answer, whatever it takes -/
def chainR (d : Dk) (c : Cf) (p : Ps) : List (Ps × Rc) × Ps × Int := chainG d c ((2147483648 - p.l).toNat + 1) p
theorem Run.told {T : Nat} {sg : Nat → Int} {d : Dk} (hs : Sgs c sg T) (hT : T ≤ 8) {p q' : Ps} {l : List (Ps × Rc)} {Y : Nat} {e : Int} (h : Run c sg T d 1 ⟨p.s, 1, p.l, p.p, p.m⟩ l Y q') (hh : Hd d c ⟨p.s, 0, p.l, p.p, p.m⟩) (hf : follow d c q' = (none, e)) (hl : p.l ≤ 1000) (ho : p.o = 0) :
  chainR d c p = (l, q', e) := by
 have hp := h.pl
 have hlt := hp.2.1.lt
 have hseg := hp.1.seg hs
 have e1 := h.chain hs hf 65 (2147483648 - p.l).toNat (by omega) (by omega)
 obtain ⟨ps, po, pl, pp, pm⟩ := p
 simp only at ho
 subst ho
 have e2 := (hh.scan hs.ok hseg).1
 unfold chainR
 rw [chainG_M, e2]
 exact e1
/-- of a log of which a sector is spoilt just what stands ahead of it is told -/
theorem Run.cut {T : Nat} {sg : Nat → Int} {d d' : Dk} (hs : Sgs c sg T) {q0 q' : Ps} {l : List (Ps × Rc)} {Y : Nat} (h : Run c sg T d 1 q0 l Y q') {k : Nat} (hk : k ≤ l.length) :
  ∃ Yk qk, PlY sg T Yk qk ∧ (∀ x, l[k]? = some x → x.1 = qk) ∧ (k = l.length → qk = q') ∧
   ((∀ z, z < 24 * T → z ≠ Yk → d'.err (Sec c sg z) = d.err (Sec c sg z) ∧ d'.read (Sec c sg z) = d.read (Sec c sg z)) → Run c sg T d' 1 q0 (l.take k) Yk qk) := by
 obtain ⟨Yk, qk, h1, h2, h3⟩ := h.split k hk
 have hp := h1.pl
 refine ⟨Yk, qk, hp.2.1, h3, fun e => ?_, fun ha => h1.agr (fun y a b => ha y (by have := hp.2.1.lt; omega) (by omega))⟩
 subst e
 rw [List.drop_length] at h2
 cases h2
 rfl
end
end Go.Kn
namespace Go.Kn
open Go Go.RowKit
/-- cells of a slice that begins its block -/
def Cel (W : World) (A : Option Addr) (n c : Nat) (xs : List Value) : Prop := n ≤ c ∧ c ≤ maxLen ∧ (0 < n → ∃ g, A = some ⟨g, 0, none⟩ ∧ ∀ j u, xs[j]? = some u → W.cell? ⟨g, j, none⟩ = some u)
theorem Cel.fc {w : World} {M : Nat → Prop} {A : Option Addr} {n c : Nat} {xs : List Value} (h : Cel w A n c xs) (hm : ∀ a, A = some a → ¬ M a.block) : Fc w M (fun W => Cel W A n c xs) := fun W hW => ⟨h.1, h.2.1, fun hn => by
 obtain ⟨g, e, hc⟩ := h.2.2 hn
 exact ⟨g, e, fun j u hj => fc_cell (hc j u hj) (show ¬ M g from hm ⟨g, 0, none⟩ e) W hW⟩⟩
structure Prx where
 pr : PR
 s : Option Addr × Nat × Nat
 ss : List (Option Addr × Nat × Nat)
def Prx.one (x : Prx) : List Value := [slv x.s, .int .i64 x.pr.next, .bool x.pr.lost]
def Prx.fct (x : Prx) : World → Prop := fun W => Krs W x.s.1 x.s.2.1 x.s.2.2 x.pr.recs x.ss
end Go.Kn
namespace Go.Kn
open Go Go.RowKit
theorem own_fc {w0 w : World} {e sz n c : Nat} {A : Option Addr} {xs : List Value} (h : w.ownsRow w0.heap.size e sz (.slice A n c) n xs) : Fc w (fun j => j < w0.heap.size) (fun W => Cel W A n c xs) := by
 have hr : Cel w A n c xs := cells_owns h
 refine hr.fc (fun a ha hm => ?_)
 rcases h.2 with ⟨e1, _⟩ | ⟨g, cap, cur, e1, hb, _⟩
 ·injection e1 with e2 _ _
  rw [ha] at e2
  cases e2
 ·injection e1 with e2 _ _
  rw [ha] at e2
  injection e2 with e3
  subst e3
  exact absurd hm (Nat.not_lt.2 hb)
theorem usV_snoc (l : List Us) (x : Us) : usV (l ++ [x]) = usV l ++ [.int .i64 x.st, .int .i64 x.sp] := by simp [usV, usOne]
theorem usV_take {l : List Us} {j : Nat} (hj : j < l.length) : usV (l.take (j + 1)) = usV (l.take j) ++ [.int .i64 l[j].st, .int .i64 l[j].sp] := by
 rw [List.take_succ_eq_append_getElem hj, usV_snoc]
theorem usV_one (l : List Us) : ∀ u ∈ usV l, u.oneCell' = true := by
 intro u hu
 simp only [usV, List.mem_flatMap] at hu
 obtain ⟨i, _, hi⟩ := hu
 simp [usOne] at hi
 rcases hi with rfl | rfl <;> rfl
theorem cel_us {W : World} {A : Option Addr} {n c : Nat} {l : List Us} (h : Cel W A n c (usV l)) (hn : 0 < n) : ∃ g, A = some ⟨g, 0, none⟩ ∧ ∀ j (hj : j < l.length), W.cell? ⟨g, j * 2, none⟩ = some (.int .i64 l[j].st) ∧ W.cell? ⟨g, j * 2 + 1, none⟩ = some (.int .i64 l[j].sp) := by
 obtain ⟨g, rfl, hc⟩ := h.2.2 hn
 exact ⟨g, rfl, fun j hj => ⟨hc _ _ (usV_get l j 0 hj (by decide)), hc _ _ (usV_get l j 1 hj (by decide))⟩⟩
/-- a slice of uses that is told -/
def UsSays (w : World) (l : List Us) (en : Ending) (w' : World) : Prop := ∃ A c, en = .returned (.slice A l.length c) ∧ Fc w' (fun j => j < w.heap.size) (fun W => Cel W A l.length c (usV l)) ∧ Only [] w w'
end Go.Kn
namespace Go.Proofs.YtgcfdjcpcclcjaaGreat
open Go Go.RowKit Go.Kn
set_option maxRecDepth 100000 in
/-- slices.Clone of uses -/
theorem clone_us_any (g n : Nat) (l : List Us) (w : World) (h : Kn.Own w g (usV l)) (hl : l.length = n) (hb : n ≤ 1000) :
  Calls Tryz.prog 177 #[.slice (some ⟨g, 0, none⟩) n n] w (UsSays w l) := by
 obtain ⟨i0, hi, hz0, hz1, hz2⟩ := info_parts infoUse15
 have hnil := fun (w : World) => Lib.run_eql_slice_nil (P := Tryz.prog) w 200 208 (some ⟨g, 0, none⟩) n n 0 0 Tryz.underlying200
 have hc : ∀ j u, (usV l)[j]? = some u → (w.alloc (.cells #[] 208)).cell? ⟨g, j, none⟩ = some u := fun j u hj => by
  obtain ⟨hj1, hj2⟩ := List.getElem?_eq_some_iff.1 hj
  exact ((h.alloc (.cells #[] 208)).cell j hj1).trans (congrArg some hj2)
 have hL : (usV l).length = n * 2 := by rw [usV_len, hl]
 have HC := Lib.hid hc
 have HL := Lib.hid hL
 have HL0 := Lib.hid hl
 clear hc hL hl h
 go_enter Tryz.func177, Tryz.ntmps177
 go_wp2_with (first | (at_builtin; refine wpList_append_rowN rfl (.tmp 5) (.tmp 6) 200 rfl w.heap.size 208 i0 _ 2 16 Tryz.underlying200 hi hz0 hz1 hz2 rfl (by decide) _ 0 [] rfl (World.ownsRow_made w #[] 0 (Nat.le_refl _) (by unfold maxLen; omega) rfl) (some ⟨g, 0, none⟩) n n (usV l) rfl HL.out (fun _ => ⟨g, rfl, HC.out⟩) (usV_one l) (by unfold maxLen; omega) (by omega) (by simp) ?_; intro v1 w1 hown hgrow hat))
 go_ret
 have hO : Only [] w w1 := ((Only.refl _ _).alloc _).grown hgrow (by intro k hk; injection hk with hk; right; rw [← hk]; exact Nat.le_refl _)
 simp only [Nat.zero_add, List.nil_append] at hown
 have hl := HL0.out
 rcases hown.2 with ⟨rfl, h0⟩ | ⟨g', cap, cur, rfl, hb', hh, hn, hm, hs, ht⟩
 ·subst hl
  exact ⟨none, 0, by rw [h0]; rfl, by rw [h0]; rw [h0] at hown; exact own_fc hown, hO⟩
 ·subst hl
  exact ⟨_, cap, rfl, own_fc hown, hO⟩
set_option maxRecDepth 100000 in
theorem us_uses_any (w : World) (q : TD) (t : Tb) (hT : Kn.Own w q.T q.box) (hu : Kn.Own w q.u (usV t.us)) (ht : t.Ok q.n) (hn : q.n ≤ 1000) :
  Calls Tryz.prog 133 #[.pointer (some ⟨q.T, 0, none⟩), .bool false] w (UsSays w t.us) := by
 have HU := Lib.hid hu
 have c1 : w.cell? ⟨q.T, 1, none⟩ = some (.slice (some ⟨q.u, 0, none⟩) q.n q.n) := hT.cellv 1
 have HL := Lib.hid ht.u
 clear hT hu ht
 go_enter Tryz.func133, Tryz.ntmps133
 go_wp2_with fail
 refine (clone_us_any q.u q.n t.us w HU.out HL.out hn).mono ?_
 rintro en w1 ⟨A, c, rfl, hf, hO⟩
 rw [HL.out] at hf ⊢
 have HF := Lib.hid hf
 have HO := Lib.hid hO
 clear hf hO c1
 go_wp2_with fail
 go_loopg [16] q.n (fun r s16 wr => ∃ j : Nat, j + r = q.n ∧ s16 = .int .i64 (j : Int) ∧ w1 = wr)
 case atStart => exact ⟨0, by omega, rfl, rfl⟩
 obtain ⟨j, hj, rfl, rfl⟩ := hrel
 by_cases hlt : j < q.n
 ·have hlt2 : (j : Int) < (q.n : Int) := by omega
  go_wp2
  go_roundg (gk - 1)
  case measure => omega
  case rel => exact ⟨j + 1, by omega, by go_num, rfl⟩
 ·obtain rfl : j = q.n := by omega
  go_wp2
  go_ret
  exact ⟨A, c, by rw [HL.out]; rfl, by rw [HL.out]; exact HF.out, HO.out⟩
set_option maxRecDepth 100000 in
set_option maxHeartbeats 4000000 in
theorem rt_told_any (w : World) (q : RT) (cf : Cf) (t : Tb) (hT : Kn.Own w q.T (q.box cf)) (hu : Kn.Own w q.u (usV t.us)) (ht : t.Ok q.n) (hn : q.n ≤ 1000) :
  Calls Tryz.prog 134 #[.pointer (some ⟨q.T, 0, none⟩), .bool false] w (UsSays w t.us) := by
 obtain ⟨i0, hi0, hz0, hz1, hz2⟩ := info_parts infoUse15
 have HT := Lib.hid hT
 have HU := Lib.hid hu
 have HL := Lib.hid ht.u
 have HW := Lib.hid ((Wc.start w).gnew 208 2)
 clear hT hu ht
 go_enter Tryz.func134, Tryz.ntmps134
 go_wp2_with fail
 go_loopg [5, 6] q.n (fun r s5 s6 wr => ∃ (j : Nat) (A : Option Addr) (c : Nat), j + r = q.n ∧ s5 = .slice A j c ∧ s6 = .int .i64 (j : Int) ∧ Wc w wr [] [⟨208, 2, .slice A j c, j, usV (t.us.take j)⟩] [])
 case atStart => exact ⟨0, none, 0, by omega, rfl, rfl, by rw [List.take_zero]; exact HW.out⟩
 obtain ⟨j, A, c, hj, rfl, rfl, hd⟩ := hrel
 have HD := Lib.hid hd
 clear hd
 have c3 : wr.cell? ⟨q.T, 3, none⟩ = some (.slice (some ⟨q.u, 0, none⟩) q.n q.n) := (HT.out.keep (HD.out.only) (by simp)).cellv 3
 by_cases hlt : j < q.n
 ·have hjl : j < t.us.length := by rw [HL.out]; exact hlt
  obtain ⟨p0, p1⟩ := us_cell (HU.out.keep HD.out.only (by simp)) hjl
  have htk := usV_take hjl
  obtain ⟨⟨s, x⟩, hs⟩ : ∃ u, t.us[j] = u := ⟨_, rfl⟩
  rw [hs] at p0 p1 htk
  dsimp only at p0 p1 htk
  have HTK := Lib.hid htk
  have hlt2 : (j : Int) < (q.n : Int) := by omega
  have H1 := Lib.hid (HD.out.newB #[.int .i64 s, .int .i64 x] 208 (b := wr.heap.size) rfl)
  have HAL := Lib.hid (H1.out.alloc (.cells #[.int .i64 s, .int .i64 x] 208))
  have HBS := Lib.hid HAL.out.only.size
  have hsz : (wr.alloc (.cells #[.int .i64 s, .int .i64 x] 208)).heap.size = wr.heap.size + 1 := by simp
  have hnw := (news_new (wr.alloc (.cells #[.int .i64 s, .int .i64 x] 208)) #[.int .i64 s, .int .i64 x] 208 (by simp [maxLen]))
  rw [hsz] at hnw
  have HNW := Lib.hid hnw
  clear hnw hsz
  have HON : Hid (∀ v ∈ ([.int .i64 s, .int .i64 x] : List Value), v.oneCell' = true) := Lib.hid (by intro v hv; simp at hv; rcases hv with rfl | rfl <;> rfl)
  clear hs htk
  go_wp2_with (first
   | (at_builtin; refine wpList_append_own_at _ rfl (.tmp 41) (.tmp 43) 200 rfl w.heap.size 208 i0 _ 2 16 Tryz.underlying200 hi0 hz0 hz1 hz2 rfl (by decide) (.slice A j c) j (usV (t.us.take j)) rfl (HAL.out.gi 0 rfl) ⟨wr.heap.size + 1, 0, none⟩ 1 1 [.int .i64 s, .int .i64 x] rfl rfl HNW.out HON.out (by unfold maxLen; omega) (by omega) HBS.out ?_; intro v5 w5 hown5 hgrow5 _ hat5; rw [← HTK.out] at hown5; have hdd := HAL.out.gapp 0 rfl hown5 hgrow5 hat5; obtain ⟨A6, c6, rfl⟩ := hdd.gform 0 rfl; simp only [List.set_cons_zero] at hdd; have HE := Lib.hid hdd; clear hdd hown5 hgrow5 hat5 HAL HNW HON HBS)
   | fail)
  go_roundg (gk - 1)
  case measure => omega
  case rel => exact ⟨j + 1, A6, c6, by omega, rfl, by go_num, HE.out.ldrop⟩
 ·obtain rfl : j = q.n := by omega
  have hd := HD.out
  rw [List.take_of_length_le (by rw [HL.out]; exact Nat.le_refl _)] at hd
  have HE := Lib.hid hd
  clear hd
  go_wp2
  go_ret
  exact ⟨A, c, by rw [HL.out]; rfl, by rw [HL.out]; exact own_fc (HE.out.gi 0 rfl), HE.out.only⟩
set_option maxRecDepth 100000 in
set_option maxHeartbeats 4000000 in
theorem alike_us_any (A : Option Addr) (n c : Nat) (l : List Us) (B : Option Addr) (d : Nat) (w : World) (hx : Cel w A n c (usV l)) (hy : Cel w B n d (usV l)) (hl : l.length = n) :
  Calls Tryz.prog 132 #[.slice A n c, .slice B n d] w fun e w' => e = .returned (.bool true) ∧ Only [] w w' := by
 have hcm := hx.2.1
 have hcl := hx.1
 unfold maxLen at hcm
 have HX := Lib.hid hx
 have HY := Lib.hid hy
 have HLX := Lib.hid hl
 clear hx hy hl
 go_enter Tryz.func132, Tryz.ntmps132
 go_wp2_with fail
 go_loopg [5] n (fun r i wr => ∃ j : Nat, j + r = n ∧ i = .int .i64 j ∧ (∃ k, wr = w.drewN k))
 case atStart => exact ⟨0, by omega, rfl, ⟨0, rfl⟩⟩
 obtain ⟨j, hj, rfl, ⟨k, rfl⟩⟩ := hrel
 by_cases hlt : j < n
 ·have hjx : j < l.length := by rw [HLX.out]; exact hlt
  obtain ⟨ga, rfl, hca⟩ := cel_us HX.out (by omega)
  obtain ⟨gb, rfl, hcb⟩ := cel_us HY.out (by omega)
  obtain ⟨p0, p1⟩ := hca j hjx
  obtain ⟨q0, q1⟩ := hcb j hjx
  clear hca hcb
  have hlt2 : (j : Int) < (n : Int) := by omega
  have hge : 0 ≤ (j : Int) := by omega
  have htn : ((j : Int)).toNat = j := by omega
  have hgd := Tryz.eqGuardType208
  generalize l[j].st = x0 at *
  generalize l[j].sp = x1 at *
  go_wp2_with fail
  go_quiet (fail)
  go_wp2
  go_roundg (gk - 1)
  case measure => omega
  case rel => exact ⟨j + 1, by omega, by go_num, ⟨_, rfl⟩⟩
 ·obtain rfl : j = n := by omega
  go_wp2
  go_ret
  exact ⟨rfl, (Only.refl _ _).drewN k⟩
end Go.Proofs.YtgcfdjcpcclcjaaGreat
namespace Go.Proofs.YtgcfdjcpcclcjaaGreat
open Go Go.RowKit Go.Kn
theorem RdOwn.says {w w' : World} {b : List UInt8} {err : Int} {en : Ending} (h : RdOwn w b err en w') : RdSays w b err en w' := by
 obtain ⟨v, n, rfl, ho, hO⟩ := h
 obtain ⟨A, c, rfl⟩ : ∃ A c, v = .slice A n c := by
  rcases ho.2 with ⟨hv, h0⟩ | ⟨g, cap, cur, hv, _⟩
  ·exact ⟨Option.none, 0, by rw [hv, h0]⟩
  ·exact ⟨_, cap, hv⟩
 obtain ⟨h1, h2⟩ := Row1.of_owns ho
 exact ⟨A, n, c, rfl, Row1.fc h1 (fun hn a ha hm => absurd hm (Nat.not_lt.2 (h2 hn a ha))), hO⟩
set_option maxRecDepth 100000 in
set_option maxHeartbeats 8000000 in
theorem xw_read_any (w0 w : World) (p : PD) (r : RD) (d : Dk) (X : Nat) (u : RT) (y : Wr) (a : Int) (cf : Cf) (L : List (Nat × List Value)) (G : List Gs) (F : List (World → Prop)) (h : XrIn w0 w p r d X u cf y L G F) (hc : cf.Ok) (hs : 0 ≤ y.p.s ∧ y.p.s ≤ cf.s - 1) (ho : 0 ≤ y.p.o ∧ y.p.o ≤ 64) (hb : y.bl.length ≤ 20) (hf : ∀ b ∈ y.bl, b.length = 64) (hh : y.d.held.length ≤ 1000000) (haw : (Lit.int .i64 a).wf = true) :
  Calls Tryz.prog 47 #[.pointer (some ⟨X, 0, none⟩), .int .i64 a] w (RdSays w (y.rd cf a).1 (y.rd cf a).2) := by
 obtain ⟨e, t, ps, its, bl⟩ := y
 obtain ⟨A, c, B, k, sl, h⟩ := h
 dsimp only at h hs ho hb hf hh
 obtain ⟨m, hm⟩ : ∃ m, bl.length = m := ⟨_, rfl⟩
 obtain ⟨m0, hm0⟩ : ∃ m, its.length = m := ⟨_, rfl⟩
 rw [hm, hm0] at h
 obtain ⟨s0, hs0⟩ : ∃ x, cf.at_ ps.s = x := ⟨_, rfl⟩
 obtain ⟨f0, hf0⟩ : ∃ x, max ps.o 1 = x := ⟨_, rfl⟩
 have hat := at_range hc ps.s
 have hs0b : 0 ≤ s0 ∧ s0 ≤ 100000 := by have := (Cf.sec cf hc ps.s hs.1 hs.2).1; omega
 have hf0b : 1 ≤ f0 ∧ f0 ≤ 64 := by omega
 have hab : -9223372036854775808 ≤ a ∧ a ≤ 9223372036854775807 := by simpa [Lit.wf, IntKind.min, IntKind.max, IntKind.signed, IntKind.bits] using haw
 have hfx : Wr.first cf ⟨e, t, ps, its, bl⟩ = s0 + (f0 + 1) := by
  unfold Wr.first behind
  dsimp only
  omega
 have hhit : ∀ j : Nat, j < m → a = s0 + f0 + 1 + (j : Int) → Wr.rd cf ⟨e, t, ps, its, bl⟩ a = (bl.getD j [], 0) := by
  intro j hj ha
  unfold Wr.rd
  rw [hfx]
  dsimp only
  rw [if_pos (by omega), show (a - (s0 + (f0 + 1))).toNat = j from by omega]
 have hmiss : (¬ (0 < a ∧ 1 ≤ a - s0 - f0 ∧ a - s0 - f0 ≤ (m : Int))) → Wr.rd cf ⟨e, t, ps, its, bl⟩ a = (e.read a, e.err a) := by
  intro hj
  unfold Wr.rd
  rw [hfx]
  dsimp only
  rw [if_neg]
  intro hq
  exact hj (by omega)
 have HD := Lib.hid h
 have HC := Lib.hid hc
 have HM := Lib.hid hm
 have HHIT := Lib.hid hhit
 have HMISS := Lib.hid hmiss
 have HF := Lib.hid hf
 have HS0 := Lib.hid hs0
 have HF0 := Lib.hid hf0
 obtain ⟨hs01, hs02⟩ := hs0b
 obtain ⟨hf01, hf02⟩ := hf0b
 obtain ⟨ha1, ha2⟩ := hab
 clear h hc hm hhit hmiss hfx hat hf hs0 hf0 hm0 haw
 by_cases hpa : 0 < a
 ·have hw1 := IntWalk.i64_in (a - s0) (by omega)
  have hw2 := IntWalk.i64_in (a - s0 - f0) (by omega)
  go_enter Tryz.func47, Tryz.ntmps47
  go_wp2_with fail
  have HY := Lib.hid HD.out.drew
  clear HD
  refine wp_region_held_drew (S := (fun w' => Kn.Own w' X (XB r u cf ps (.slice A m0 c) (.slice B m k)))) (by kernel_rfl) (HY.out.boxi 0 rfl) (fun hSw0 => ?_)
  have HOW : Hid (Only [] w w.drew) := Lib.hid (Only.refl _ _).drew
  generalize w.drew = wz at *
  refine Kn.takeS 0 ⟨some 7, _, _, _, _, _⟩ ?_
  refine Kn.takeS 1 ⟨some 8, _, _, _, _, _⟩ ?_
  refine Kn.takeS 2 ⟨some 9, _, _, _, _, _⟩ ?_
  refine Kn.takeS 3 ⟨some 10, _, _, _, _, _⟩ ?_
  refine Kn.takeS 4 ⟨some 11, _, _, _, _, _⟩ (v := (.agg #[.int .i64 cf.b, .int .i64 cf.s, .int .i64 cf.l])) (hy := fun w hSw => by
   have q1 := hSw.cellv 1
   have q2 := hSw.cellv 2
   have q3 := hSw.cellv 3
   go_simp) ?_
  refine Kn.takeS 5 ⟨some 12, _, _, _, _, _⟩ ?_
  refine Kn.takeS 6 ⟨some 13, _, _, _, _, _⟩ ?_
  refine Kn.takeS 7 ⟨some 14, _, _, _, _, _⟩ ?_
  refine Kn.takeS 8 ⟨some 15, _, _, _, _, _⟩ ?_
  refine Kn.takeS 9 ⟨some 16, _, _, _, _, _⟩ (v := (.int .i64 ps.s)) (hy := fun w hSw => by
   have q0 := hSw.cellv 5
   go_simp) ?_
  refine Kn.takeS 12 ⟨some 19, _, _, _, _, _⟩ ?_
  refine Kn.takeR 10 ⟨some 17, _, _, _, _, _⟩ fun K hK => ?_
  go_simp
  refine (ref_segat_any cf ps.s _ HC.out).mono ?_
  rintro en v2 ⟨rfl, hO⟩
  rw [HS0.out]
  have HYc := Lib.hid (HY.out.keep0 hO)
  have HOV : Hid (Only [] w v2) := Lib.hid (HOW.out.trans' hO)
  clear hO HY
  refine hK.out _ _ (HYc.out.boxi 0 rfl) (fun hSn => ?_)
  clear hK K hSw0
  have hSw0 := hSn
  clear hSn
  refine Kn.takeS 11 ⟨some 18, _, _, _, _, _⟩ ?_
  refine Kn.takeR 13 ⟨some 20, _, _, _, _, _⟩ fun K hK => ?_
  go_simp
  refine (xw_first_any _ X _ u cf ps _ _ hSw0).mono ?_
  rintro en v3 ⟨rfl, rfl⟩
  rw [HF0.out]
  refine hK.out _ _ hSw0 (fun hSn => ?_)
  clear hK K hSw0
  have hSw0 := hSn
  clear hSn
  refine Kn.takeS 14 ⟨some 21, _, _, _, _, _⟩ ?_
  refine Kn.takeS 15 ⟨some 6, _, _, _, _, _⟩ ?_
  refine wpAnyH_done (by kernel_rfl) ?_ _
  clear hSw0
  have HX : Hid (Duo w0 v2 p r d e ⟨(X, (XB r u cf ps (.slice A m0 c) (.slice B m k))) :: u.L cf t L, ⟨63, 4, .slice A m0 c, m0, itsV its⟩ :: ⟨47, 1, .slice B m k, m, sl.map slv⟩ :: G, (fun W => Bls W sl bl) :: F⟩) := Lib.hid HYc.out
  clear HYc
  have HO : Hid (Only [] w v2) := Lib.hid HOV.out
  clear HOV
  by_cases hk : 1 ≤ a - s0 - f0 ∧ a - s0 - f0 ≤ (m : Int)
  ·obtain ⟨j, hjk⟩ : ∃ j : Nat, a = s0 + f0 + 1 + (j : Int) := ⟨(a - s0 - f0 - 1).toNat, by omega⟩
   have hjm : j < m := by omega
   have hrd := HHIT.out j hjm hjk
   have hkk : a - s0 - f0 = (j : Int) + 1 := by omega
   rw [hkk]
   clear hk hw1 hw2 hkk hjk
   have HRD := Lib.hid hrd
   clear hrd
   have c11 := (HX.out.boxi 0 rfl).cellv 11
   have hbls : Bls v2 sl bl := HX.out.fact (f := fun W => Bls W sl bl) List.mem_cons_self
   have hjl : j < bl.length := by rw [HM.out]; exact hjm
   have hsl : j < sl.length := by rw [hbls.1]; exact hjl
   obtain ⟨g, o, hB, hcell⟩ := (HX.out.grow 1 rfl).at_ (by omega)
   have cj := hcell j (by rw [List.length_map]; exact hsl)
   rw [List.getElem_map] at cj
   have hby := hbls.2 j hsl hjl
   obtain ⟨⟨s1, s2, s3⟩, hs1⟩ : ∃ s, sl[j] = s := ⟨_, rfl⟩
   rw [hs1] at cj hby
   obtain ⟨bj, hbj⟩ : ∃ b, bl[j] = b := ⟨_, rfl⟩
   rw [hbj] at hby
   have hb64 : bj.length = 64 := by rw [← hbj]; exact HF.out _ (List.getElem_mem hjl)
   have hgd : bl.getD j [] = bj := by rw [List.getD_eq_getElem?_getD, List.getElem?_eq_getElem hjl, hbj]; rfl
   replace cj : v2.cell? ⟨g, o + j, none⟩ = some (.slice s1 s2 s3) := cj
   have hs2 : s2 = 64 := by have h1 := hby.len; rw [bvs_length] at h1; exact h1.symm.trans hb64
   subst hs2
   dsimp only at hby
   have HBY := Lib.hid hby
   have HGD := Lib.hid hgd
   have H64 := Lib.hid hb64
   subst hB
   clear hcell hbls hs1 hbj hby hb64 hgd
   have hw3 := IntWalk.i64_in ((j : Int) + 1 - 1) (by omega)
   have q1 : decide ((j : Int) + 1 ≥ 1) = true := decide_eq_true (by omega)
   have q2 : decide ((j : Int) + 1 ≤ (m : Int)) = true := decide_eq_true (by omega)
   go_wp2_with fail
   refine (part64_own s1 s3 bj _ HBY.out).mono ?_
   rintro en w3 ⟨rfl, hown, hO3⟩
   have HFC := Lib.hid (RdSays.later (w0 := w) (RdOwn.says (b := bj) (err := 0) ⟨_, 64, rfl, hown, hO3⟩) HO.out)
   clear hown hO3
   go_wp2
   go_ret2
   rw [HRD.out, HGD.out]
   exact HFC.out
  ·by_cases hk1 : 1 ≤ a - s0 - f0
   ·have hk2 : ¬ a - s0 - f0 ≤ (m : Int) := fun h => hk ⟨hk1, h⟩
    have c11 := (HX.out.boxi 0 rfl).cellv 11
    have c0 := (HX.out.boxi 0 rfl).cellv 0
    have hno : ¬ (0 < a ∧ 1 ≤ a - s0 - f0 ∧ a - s0 - f0 ≤ (m : Int)) := by omega
    have hrd := HMISS.out hno
    have HRD := Lib.hid hrd
    clear hrd hno
    go_wp2_with fail
    obtain ⟨c9, hF, hP, back⟩ := HX.out.ofR
    refine (rk_read_own w0 _ r e c9 a hP hh).mono ?_
    rintro en w3 hrs
    obtain ⟨A7, n7, c7, rfl, hfc, hO3⟩ := hrs.says
    have HFC := Lib.hid (RdSays.later (w0 := w) (b := e.read a) (er := e.err a) (en := .returned (.tuple #[.slice A7 n7 c7, .int .i64 (e.err a)])) ⟨A7, n7, c7, rfl, hfc, hO3⟩ HO.out)
    clear hF hP back hfc hO3 c0 hrs
    go_wp2
    go_ret2
    rw [HRD.out]
    exact HFC.out
   ·have c0 := (HX.out.boxi 0 rfl).cellv 0
    have hno : ¬ (0 < a ∧ 1 ≤ a - s0 - f0 ∧ a - s0 - f0 ≤ (m : Int)) := by omega
    have hrd := HMISS.out hno
    have HRD := Lib.hid hrd
    clear hrd hno
    go_wp2_with fail
    obtain ⟨c9, hF, hP, back⟩ := HX.out.ofR
    refine (rk_read_own w0 _ r e c9 a hP hh).mono ?_
    rintro en w3 hrs
    obtain ⟨A7, n7, c7, rfl, hfc, hO3⟩ := hrs.says
    have HFC := Lib.hid (RdSays.later (w0 := w) (b := e.read a) (er := e.err a) (en := .returned (.tuple #[.slice A7 n7 c7, .int .i64 (e.err a)])) ⟨A7, n7, c7, rfl, hfc, hO3⟩ HO.out)
    clear hF hP back hfc hO3 c0 hrs
    go_wp2
    go_ret2
    rw [HRD.out]
    exact HFC.out
 ·go_enter Tryz.func47, Tryz.ntmps47
  go_wp2_with fail
  have HY := Lib.hid HD.out.drew
  clear HD
  refine wp_region_held_drew (S := (fun w' => Kn.Own w' X (XB r u cf ps (.slice A m0 c) (.slice B m k)))) (by kernel_rfl) (HY.out.boxi 0 rfl) (fun hSw0 => ?_)
  have HOW : Hid (Only [] w w.drew) := Lib.hid (Only.refl _ _).drew
  generalize w.drew = wz at *
  refine Kn.takeS 0 ⟨some 7, _, _, _, _, _⟩ ?_
  refine Kn.takeS 1 ⟨some 8, _, _, _, _, _⟩ ?_
  refine Kn.takeS 2 ⟨some 9, _, _, _, _, _⟩ ?_
  refine Kn.takeS 3 ⟨some 10, _, _, _, _, _⟩ ?_
  refine Kn.takeS 4 ⟨some 11, _, _, _, _, _⟩ (v := (.agg #[.int .i64 cf.b, .int .i64 cf.s, .int .i64 cf.l])) (hy := fun w hSw => by
   have q1 := hSw.cellv 1
   have q2 := hSw.cellv 2
   have q3 := hSw.cellv 3
   go_simp) ?_
  refine Kn.takeS 5 ⟨some 12, _, _, _, _, _⟩ ?_
  refine Kn.takeS 6 ⟨some 13, _, _, _, _, _⟩ ?_
  refine Kn.takeS 7 ⟨some 14, _, _, _, _, _⟩ ?_
  refine Kn.takeS 8 ⟨some 15, _, _, _, _, _⟩ ?_
  refine Kn.takeS 9 ⟨some 16, _, _, _, _, _⟩ (v := (.int .i64 ps.s)) (hy := fun w hSw => by
   have q0 := hSw.cellv 5
   go_simp) ?_
  refine Kn.takeS 12 ⟨some 19, _, _, _, _, _⟩ ?_
  refine Kn.takeR 10 ⟨some 17, _, _, _, _, _⟩ fun K hK => ?_
  go_simp
  refine (ref_segat_any cf ps.s _ HC.out).mono ?_
  rintro en v2 ⟨rfl, hO⟩
  rw [HS0.out]
  have HYc := Lib.hid (HY.out.keep0 hO)
  have HOV : Hid (Only [] w v2) := Lib.hid (HOW.out.trans' hO)
  clear hO HY
  refine hK.out _ _ (HYc.out.boxi 0 rfl) (fun hSn => ?_)
  clear hK K hSw0
  have hSw0 := hSn
  clear hSn
  refine Kn.takeS 11 ⟨some 18, _, _, _, _, _⟩ ?_
  refine Kn.takeR 13 ⟨some 20, _, _, _, _, _⟩ fun K hK => ?_
  go_simp
  refine (xw_first_any _ X _ u cf ps _ _ hSw0).mono ?_
  rintro en v3 ⟨rfl, rfl⟩
  rw [HF0.out]
  refine hK.out _ _ hSw0 (fun hSn => ?_)
  clear hK K hSw0
  have hSw0 := hSn
  clear hSn
  refine Kn.takeS 14 ⟨some 21, _, _, _, _, _⟩ ?_
  refine Kn.takeS 15 ⟨some 6, _, _, _, _, _⟩ ?_
  refine wpAnyH_done (by kernel_rfl) ?_ _
  clear hSw0
  have HX : Hid (Duo w0 v2 p r d e ⟨(X, (XB r u cf ps (.slice A m0 c) (.slice B m k))) :: u.L cf t L, ⟨63, 4, .slice A m0 c, m0, itsV its⟩ :: ⟨47, 1, .slice B m k, m, sl.map slv⟩ :: G, (fun W => Bls W sl bl) :: F⟩) := Lib.hid HYc.out
  clear HYc
  have HO : Hid (Only [] w v2) := Lib.hid HOV.out
  clear HOV
  have c0 := (HX.out.boxi 0 rfl).cellv 0
  have hno : ¬ (0 < a ∧ 1 ≤ a - s0 - f0 ∧ a - s0 - f0 ≤ (m : Int)) := by omega
  have hrd := HMISS.out hno
  have HRD := Lib.hid hrd
  clear hrd hno
  go_wp2_with fail
  obtain ⟨c9, hF, hP, back⟩ := HX.out.ofR
  refine (rk_read_own w0 _ r e c9 a hP hh).mono ?_
  rintro en w3 hrs
  obtain ⟨A7, n7, c7, rfl, hfc, hO3⟩ := hrs.says
  have HFC := Lib.hid (RdSays.later (w0 := w) (b := e.read a) (er := e.err a) (en := .returned (.tuple #[.slice A7 n7 c7, .int .i64 (e.err a)])) ⟨A7, n7, c7, rfl, hfc, hO3⟩ HO.out)
  clear hF hP back hfc hO3 c0 hrs
  go_wp2
  go_ret2
  rw [HRD.out]
  exact HFC.out
end Go.Proofs.YtgcfdjcpcclcjaaGreat
namespace Go.Kn
open Go Go.RowKit
theorem Dk.Ok.fused {d : Dk} (h : d.Ok) {n : Int} (hn : n ≤ 9223372036854775807) : (d.fused n).Ok := ⟨h.n, h.f, h.s, h.h, by show -1 ≤ max n (-1) ∧ max n (-1) ≤ 9223372036854775807; omega⟩
end Go.Kn
namespace Go.Proofs.YtgcfdjcpcclcjaaGreat
open Go Go.RowKit Go.Kn
set_option maxRecDepth 100000 in
theorem duo_fuse {w0 w : World} {p : PD} {r : RD} {d e : Dk} {c : Fr3} (h : Duo w0 w p r d e c) (n : Int) (hn : n ≤ 9223372036854775807) :
  Calls Tryz.prog 49 #[.pointer (some ⟨p.D, 0, none⟩), .int .i64 n] w fun en w' => en = .returned (.tuple #[]) ∧ Duo w0 w' p r (d.fused n) e c := by
 obtain ⟨c1, hF, hP, back⟩ := h.ofP
 obtain ⟨v, hm⟩ := hP.mem
 have hb := hm.boxi 0 (p := p.D) (cs := p.box v d) rfl
 have c4 : w.cell? ⟨p.D, 4, none⟩ = some (.int .i64 d.fuse) := hb.cellv 4
 have f4 := hb.frozen 4
 have hlt := hb.lt
 have hE : Duo w0 (w.setCell ⟨p.D, 4, none⟩ (.int .i64 (max n (-1)))) p r (d.fused n) e c := back _ _ ⟨hP.ok.fused hn, hP.N, hP.hs, hP.hn, hP.hf, v, hm.put 0 (p := p.D) (cs := p.box v d) rfl 4 (.int .i64 (max n (-1)))⟩
 have HE := Lib.hid hE
 clear hE hm hb hP back h hF
 by_cases h0 : -1 ≤ n
 ·have e1 : max n (-1) = n := by omega
  rw [e1] at HE
  clear e1
  go_enter Tryz.func49, Tryz.ntmps49
  go_wp2
  refine bodyPost_end (results_none rfl _ _ _) rfl ⟨rfl, ?_⟩
  exact HE.out
 ·have e1 : max n (-1) = -1 := by omega
  rw [e1] at HE
  clear e1
  go_enter Tryz.func49, Tryz.ntmps49
  go_wp2
  refine bodyPost_end (results_none rfl _ _ _) rfl ⟨rfl, ?_⟩
  exact HE.out
set_option maxRecDepth 100000 in
theorem duo_rfuse {w0 w : World} {p : PD} {r : RD} {d e : Dk} {c : Fr3} (h : Duo w0 w p r d e c) (n : Int) (hn : n ≤ 9223372036854775807) :
  Calls Tryz.prog 50 #[.pointer (some ⟨r.M, 0, none⟩), .int .i64 n] w fun en w' => en = .returned (.tuple #[]) ∧ Duo w0 w' p r d (e.fused n) c := by
 obtain ⟨c1, hF, hP, back⟩ := h.ofR
 obtain ⟨v, lv, kk, ls, sl, hs, hl, hm⟩ := hP.mem
 have hb := hm.boxi 0 (p := r.M) (cs := r.box v lv e) rfl
 have c3 : w.cell? ⟨r.M, 3, none⟩ = some (.int .i64 e.fuse) := hb.cellv 3
 have f3 := hb.frozen 3
 have hlt := hb.lt
 have hE : ∀ W' : World, Wc w0 W' (r.L v lv sl (e.fused n) c1.L) (⟨175, 2, v, e.held.length, heldR e.held hs⟩ :: ⟨47, 1, lv, kk.val, ls⟩ :: c1.G) ((fun W => Bls W sl e.safe) :: (fun W => Bls W hs (e.held.map (·.2))) :: c1.F) → Duo w0 W' p r d (e.fused n) c := fun W' hW => back _ _ ⟨hP.ok.fused hn, hP.N, hP.hs, hP.hf, v, lv, kk, ls, sl, hs, hl, hW⟩
 have H1 := hm.put 0 (p := r.M) (cs := r.box v lv e) rfl 3 (.int .i64 n)
 by_cases h0 : n < 0
 ·have e1 : max n (-1) = -1 := by omega
  have HE := Lib.hid (hE _ (by
   have := H1.put 0 (p := r.M) rfl 3 (.int .i64 (-1))
   unfold Dk.fused
   rw [e1]
   exact this))
  clear hE hm hb hP back h hF H1 e1
  go_enter Tryz.func50, Tryz.ntmps50
  go_wp2
  refine bodyPost_end (results_none rfl _ _ _) rfl ⟨rfl, ?_⟩
  exact HE.out
 ·have e1 : max n (-1) = n := by omega
  have HE := Lib.hid (hE _ (by
   unfold Dk.fused
   rw [e1]
   exact H1))
  clear hE hm hb hP back h hF H1 e1
  go_enter Tryz.func50, Tryz.ntmps50
  go_wp2
  refine bodyPost_end (results_none rfl _ _ _) rfl ⟨rfl, ?_⟩
  exact HE.out
theorem duo_sectors {w0 w : World} {p : PD} {r : RD} {d e : Dk} {c : Fr3} (h : Duo w0 w p r d e c) :
  Calls Tryz.prog 136 #[.pointer (some ⟨p.D, 0, none⟩)] w fun en w' => en = .returned (.int .i64 (p.N : Nat)) ∧ w = w' := by
 obtain ⟨c1, hF, hP, back⟩ := h.ofP
 obtain ⟨v, hm⟩ := hP.mem
 have c6 : w.cell? ⟨p.D, 1, none⟩ = some (.slice (some ⟨p.n, 0, none⟩) p.N p.cn) := (hm.boxi 0 (p := p.D) (cs := p.box v d) rfl).cellv 1
 clear hm back hP h hF
 go_enter Tryz.func136, Tryz.ntmps136
 go_wp2
 go_ret
 exact ⟨rfl, rfl⟩
/-- what the reference's disk shows -/
theorem duo_rcells {w0 w : World} {p : PD} {r : RD} {d e : Dk} {c : Fr3} (h : Duo w0 w p r d e c) : w.cell? ⟨r.M, 0, none⟩ = some (.slice (some ⟨r.s, 0, none⟩) r.N r.cs) ∧ (∃ A k, w.cell? ⟨r.M, 1, none⟩ = some (.slice A e.held.length k)) ∧ w.cell? ⟨r.M, 4, none⟩ = some (.bool e.off) ∧ w.cell? ⟨r.M, 5, none⟩ = some (.int .i64 e.acts) := by
 obtain ⟨c1, hF, hP, back⟩ := h.ofR
 obtain ⟨v, lv, kk, ls, sl, hs, hl, hm⟩ := hP.mem
 obtain ⟨A, cc, rfl⟩ := hm.gform 0 rfl
 have hb := hm.boxi 0 (p := r.M) (cs := r.box (.slice A e.held.length cc) lv e) rfl
 exact ⟨hb.cellv 0, ⟨A, cc, hb.cellv 1⟩, hb.cellv 4, hb.cellv 5⟩
end Go.Proofs.YtgcfdjcpcclcjaaGreat
namespace Go.Kn
open Go Go.RowKit
open Go.Proofs.YtgcfdjcpcclcjaaGreat (beginW_s writeW_s)
/-- bounds of a writer -/
structure Bw (c : Cf) (n : Nat) (L : Int) (H : Nat) (z : Wr) : Prop where
 ok : z.t.Ok n
 s : 0 ≤ z.p.s ∧ z.p.s ≤ c.s - 1
 o : 0 ≤ z.p.o ∧ z.p.o ≤ c.l - 1
 l : 0 ≤ z.p.l ∧ z.p.l ≤ L
 held : z.d.held.length ≤ H
 six : z.its.length ≤ 6
 bi : z.bl.length ≤ z.its.length
 f64 : ∀ b ∈ z.bl, b.length = 64
 fit : z.its = [] ∨ behind z.p.o z.bl.length ≤ c.l - 1
variable {c : Cf} {n : Nat} {L : Int} {H : Nat} {z : Wr}
theorem Bw.mono {L' : Int} {H' : Nat} (h : Bw c n L H z) (h1 : L ≤ L') (h2 : H ≤ H') : Bw c n L' H' z :=
 ⟨h.ok, h.s, h.o, ⟨h.l.1, Int.le_trans h.l.2 h1⟩, Nat.le_trans h.held h2, h.six, h.bi, h.f64, h.fit⟩
theorem beginW_oo (d : Dk) (c : Cf) (q : Ps) : ((beginW d c q).2.1.o = q.o) ∨ (q.o ≤ 0 ∧ (beginW d c q).2.1.o = 1) := by
 unfold beginW
 split
 ·exact .inl rfl
 ·rename_i h
  split
  ·exact .inl rfl
  ·split
   ·exact .inr ⟨by omega, rfl⟩
   ·exact .inl rfl
theorem beginW_o0 (d : Dk) (c : Cf) (q : Ps) (h : (beginW d c q).2.2 = 0) : 1 ≤ (beginW d c q).2.1.o := by
 unfold beginW at h ⊢
 split at h
 ·rename_i h1
  rw [if_pos h1]
  show 1 ≤ q.o
  omega
 ·rename_i h1
  rw [if_neg h1]
  split at h
  ·exact absurd (show (1 : Int) = 0 from h) (by decide)
  ·rename_i b hb
   split at h
   ·rename_i h2
    rw [if_pos h2]
    exact Int.le_refl _
   ·rename_i h2
    exact absurd h h2
theorem writeW_oo (d : Dk) (t : Tb) (c : Cf) (q : Ps) (its : List It) (bl : List (List UInt8)) : ((writeW d t c q its bl).2.2.2 ≠ 0 ∧ (writeW d t c q its bl).2.2.1 = q) ∨ ((writeW d t c q its bl).2.2.2 = 0 ∧ (writeW d t c q its bl).2.2.1.o = behind q.o bl.length) := by
 unfold writeW
 split
 ·exact .inl ⟨by show (1 : Int) ≠ 0; decide, rfl⟩
 ·split
  ·exact .inr ⟨rfl, rfl⟩
  ·rename_i h
   exact .inl ⟨h, rfl⟩
theorem emit_b (hc : c.Ok) (h : Bw c n L H z) : Bw c n (L + 1) (H + 8) (z.emit c).1 ∧ ((z.emit c).2 = 0 → (z.emit c).1.its = [] ∧ (z.emit c).1.bl = [] ∧ (z.emit c).1.p.o = (if z.its = [] then z.p.o else behind z.p.o z.bl.length)) := by
 have hcl := hc.2.2
 obtain ⟨d, t, ps, its, bl⟩ := z
 unfold Wr.emit
 by_cases h1 : d.off = true
 ·rw [if_pos h1]
  exact ⟨h.mono (by omega) (by omega), fun h => absurd (show (3 : Int) = 0 from h) (by decide)⟩
 rw [if_neg h1]
 by_cases h2 : its = []
 ·rw [if_pos h2]
  refine ⟨h.mono (by omega) (by omega), fun _ => ⟨h2, ?_, (if_pos h2).symm⟩⟩
  have := h.bi
  subst h2
  exact List.eq_nil_of_length_eq_zero (by simpa using this)
 rw [if_neg h2, begin_W]
 have b1 := beginW_s d c ps
 have b2 := beginW_oo d c ps
 have b3 := beginW_o0 d c ps
 have q1 := h.s
 have q2 := h.o
 have q3 := h.l
 have q4 := h.held
 have q5 := h.fit.resolve_left h2
 dsimp only at q1 q2 q3 q4 q5 ⊢
 obtain ⟨d1, p1, e1, hb⟩ : ∃ d1 p1 e1, beginW d c ps = (d1, p1, e1) := ⟨_, _, _, rfl⟩
 rw [hb] at b1 b2 b3 ⊢
 dsimp only at b1 b2 b3 ⊢
 obtain ⟨b11, b12, _, b14⟩ := b1
 have bo : behind p1.o bl.length = behind ps.o bl.length := by
  unfold behind
  omega
 have po : 0 ≤ p1.o ∧ p1.o ≤ c.l - 1 := by omega
 by_cases he : e1 ≠ 0
 ·rw [if_pos he]
  refine ⟨⟨h.ok, ?_, po, ?_, ?_, h.six, h.bi, h.f64, .inr ?_⟩, fun h => absurd h he⟩
  ·show 0 ≤ p1.s ∧ p1.s ≤ _
   omega
  ·show 0 ≤ p1.l ∧ p1.l ≤ _
   omega
  ·show d1.held.length ≤ _
   omega
  ·show behind p1.o bl.length ≤ _
   omega
 rw [if_neg he, write_W]
 have w1 := writeW_s d1 t c p1 its bl
 have w2 := writeW_oo d1 t c p1 its bl
 have b4 := b3 (by simpa using he)
 dsimp only at w1 w2 ⊢
 obtain ⟨d2, t2, p2, e2, hw⟩ : ∃ d2 t2 p2 e2, writeW d1 t c p1 its bl = (d2, t2, p2, e2) := ⟨_, _, _, _, rfl⟩
 rw [hw] at w1 w2 ⊢
 dsimp only at w1 w2 ⊢
 obtain ⟨w11, w12, w13, w14, w15⟩ := w1
 by_cases he2 : e2 ≠ 0
 ·rw [if_pos he2]
  have w3 : p2 = p1 := by
   rcases w2 with w2 | w2
   ·exact w2.2
   ·exact absurd w2.1 he2
  subst w3
  refine ⟨⟨w14 _ h.ok, ?_, po, ?_, ?_, h.six, h.bi, h.f64, .inr ?_⟩, fun h => absurd h he2⟩
  ·show 0 ≤ p2.s ∧ p2.s ≤ _
   omega
  ·show 0 ≤ p2.l ∧ p2.l ≤ _
   omega
  ·show d2.held.length ≤ _
   omega
  ·show behind p2.o bl.length ≤ _
   omega
 ·rw [if_neg he2]
  have w3 : p2.o = behind ps.o bl.length := by
   rcases w2 with w2 | w2
   ·exact absurd w2.1 he2
   ·rw [w2.2, bo]
  have hbp : 1 ≤ behind ps.o bl.length := by unfold behind; omega
  refine ⟨⟨w14 _ h.ok, ?_, ?_, ?_, ?_, Nat.zero_le _, Nat.le_refl _, fun b hb => (by cases hb), .inl rfl⟩, fun _ => ⟨rfl, rfl, ?_⟩⟩
  ·show 0 ≤ p2.s ∧ p2.s ≤ _
   omega
  ·show 0 ≤ p2.o ∧ p2.o ≤ _
   omega
  ·show 0 ≤ p2.l ∧ p2.l ≤ _
   omega
  ·show d2.held.length ≤ _
   omega
  ·rw [if_neg h2]
   exact w3
theorem turn_b (hc : c.Ok) (h : Bw c n L H z) (hi : z.its = []) (hb : z.bl = []) {s : Int} (hs : 0 ≤ s ∧ s ≤ c.s - 1) : Bw c n (L + 1) (H + 8) (z.turn c s).1 ∧ (z.turn c s).1.its = [] ∧ (z.turn c s).1.bl = [] ∧ ((z.turn c s).2 = 0 → (z.turn c s).1.p.o = 1) := by
 have hcl := hc.2.2
 obtain ⟨d, t, ps, its, bl⟩ := z
 dsimp only at hi hb
 subst hi hb
 have q1 := h.s
 have q2 := h.o
 have q3 := h.l
 have q4 := h.held
 dsimp only at q1 q2 q3 q4
 unfold Wr.turn
 rw [write_W]
 have w1 := writeW_s d t c ps [⟨7, 0, 0, s⟩] []
 have w2 := writeW_oo d t c ps [⟨7, 0, 0, s⟩] []
 dsimp only at w1 w2 ⊢
 obtain ⟨d2, t2, p2, e2, hw⟩ : ∃ d2 t2 p2 e2, writeW d t c ps [⟨7, 0, 0, s⟩] [] = (d2, t2, p2, e2) := ⟨_, _, _, _, rfl⟩
 rw [hw] at w1 w2 ⊢
 dsimp only at w1 w2 ⊢
 obtain ⟨w11, w12, w13, w14, w15⟩ := w1
 by_cases he2 : e2 ≠ 0
 ·rw [if_pos he2]
  have w3 : p2 = ps := by
   rcases w2 with w2 | w2
   ·exact w2.2
   ·exact absurd w2.1 he2
  subst w3
  refine ⟨⟨w14 _ h.ok, q1, q2, ?_, ?_, Nat.zero_le _, Nat.le_refl _, fun b hb => (by cases hb), .inl rfl⟩, rfl, rfl, fun h => absurd h he2⟩
  ·show 0 ≤ p2.l ∧ p2.l ≤ _
   omega
  ·show d2.held.length ≤ _
   omega
 ·rw [if_neg he2, begin_W]
  dsimp only
  have b1 := beginW_s d2 c ⟨s, 0, p2.l, p2.p, p2.m⟩
  have b2 := beginW_oo d2 c ⟨s, 0, p2.l, p2.p, p2.m⟩
  have b3 := beginW_o0 d2 c ⟨s, 0, p2.l, p2.p, p2.m⟩
  obtain ⟨d1, p1, e1, hb⟩ : ∃ d1 p1 e1, beginW d2 c ⟨s, 0, p2.l, p2.p, p2.m⟩ = (d1, p1, e1) := ⟨_, _, _, rfl⟩
  rw [hb] at b1 b2 b3 ⊢
  dsimp only at b1 b2 b3 ⊢
  obtain ⟨b11, b12, _, b14⟩ := b1
  refine ⟨⟨(w14 _ h.ok).shut _, ?_, ?_, ?_, ?_, Nat.zero_le _, Nat.le_refl _, fun b hb => (by cases hb), .inl rfl⟩, rfl, rfl, fun h => ?_⟩
  ·show 0 ≤ p1.s ∧ p1.s ≤ _
   omega
  ·show 0 ≤ p1.o ∧ p1.o ≤ _
   omega
  ·show 0 ≤ p1.l ∧ p1.l ≤ _
   omega
  ·show d1.held.length ≤ _
   omega
  ·have := b3 h
   show p1.o = 1
   omega
theorem room_b (hc : c.Ok) (hn : c.s = (n : Int)) (h : Bw c n L H z) {nb : Nat} (hb : nb ≤ 1) (sp : Bool) : Bw c n (L + 2) (H + 16) (z.room c nb sp).1 ∧ ((z.room c nb sp).2 = 0 → (z.room c nb sp).1.its.length + 1 ≤ 6 ∧ behind (z.room c nb sp).1.p.o ((z.room c nb sp).1.bl.length + nb) < c.l) := by
 have hcl := hc.2.2
 have fi : ∀ (o : Int) (i b : Nat), Wr.fits c o i b = true → i ≤ 6 ∧ behind o b < c.l := fun o i b h => by
  unfold Wr.fits at h
  simpa using h
 unfold Wr.room
 by_cases h1 : Wr.fits c z.p.o (z.its.length + 1) (z.bl.length + nb) = true
 ·rw [if_pos h1]
  exact ⟨h.mono (by omega) (by omega), fun _ => fi _ _ _ h1⟩
 rw [if_neg h1]
 by_cases h2 : Wr.fits c (if z.its = [] then z.p.o else behind z.p.o z.bl.length) 1 nb = true
 ·rw [if_pos h2]
  obtain ⟨e1, e2⟩ := emit_b hc h
  refine ⟨e1.mono (by omega) (by omega), fun h0 => ?_⟩
  obtain ⟨e3, e4, e5⟩ := e2 h0
  rw [e3, e4, e5]
  exact ⟨by decide, by rw [show ([] : List (List UInt8)).length + nb = nb from Nat.zero_add _]; exact (fi _ _ _ h2).2⟩
 rw [if_neg h2]
 by_cases h3 : z.t.takes sp = true ∧ Tb.idx z.t.us ≠ -1
 ·rw [if_pos h3]
  have hk := idx_range z.t.us
  have hu := h.ok.u
  have hg : Bw c n L H { z with t := z.t.grab (Tb.idx z.t.us) } := ⟨h.ok.grab _, h.s, h.o, h.l, h.held, h.six, h.bi, h.f64, h.fit⟩
  obtain ⟨e1, e2⟩ := emit_b hc hg
  by_cases h4 : (Wr.emit c { z with t := z.t.grab (Tb.idx z.t.us) }).2 ≠ 0
  ·rw [if_pos h4]
   exact ⟨e1.mono (by omega) (by omega), fun h => absurd h h4⟩
  ·rw [if_neg h4]
   obtain ⟨e3, e4, e5⟩ := e2 (by simpa using h4)
   obtain ⟨t1, t2, t3, t4⟩ := turn_b hc e1 e3 e4 (s := Tb.idx z.t.us) (by omega)
   refine ⟨t1.mono (by omega) (by omega), fun h0 => ?_⟩
   rw [t2, t3, t4 h0]
   refine ⟨by decide, ?_⟩
   unfold behind
   simp
   omega
 ·rw [if_neg h3]
  exact ⟨h.mono (by omega) (by omega), fun h => absurd (show (6 : Int) = 0 from h) (by decide)⟩
theorem add_b (hc : c.Ok) (hn : c.s = (n : Int)) (h : Bw c n L H z) (i : It) (b : List UInt8) (sp : Bool) : Bw c n (L + 2) (H + 16) (z.add c i b sp).1 := by
 unfold Wr.add
 by_cases h1 : (i.may && decide (i.k ≠ 7) && decide (b.length = (if i.loaded = true then 64 else 0))) = false
 ·rw [if_pos h1]
  exact h.mono (by omega) (by omega)
 rw [if_neg h1]
 by_cases h2 : z.d.off = true
 ·rw [if_pos h2]
  exact h.mono (by omega) (by omega)
 rw [if_neg h2]
 obtain ⟨r1, r2⟩ := room_b hc hn h (nb := if i.loaded = true then 1 else 0) (by split <;> omega) sp
 obtain ⟨y, e, hr⟩ : ∃ y e, z.room c (if i.loaded = true then 1 else 0) sp = (y, e) := ⟨_, _, rfl⟩
 rw [hr] at r1 r2 ⊢
 dsimp only at r1 r2 ⊢
 by_cases h3 : e ≠ 0
 ·rw [if_pos h3]
  exact r1
 rw [if_neg h3]
 obtain ⟨f1, f2⟩ := r2 (by simpa using h3)
 have hbl : i.loaded = true → b.length = 64 := fun hl => by
  rw [if_pos hl] at h1
  have h1 : ¬ (i.may && decide (i.k ≠ 7) && decide (b.length = 64)) = false := h1
  rw [Bool.not_eq_false, Bool.and_eq_true] at h1
  simpa using h1.2
 have hbi := r1.bi
 by_cases h4 : i.loaded = true
 ·rw [if_pos h4]
  rw [if_pos h4] at f2
  refine ⟨r1.ok, r1.s, r1.o, r1.l, r1.held, ?_, ?_, ?_, .inr ?_⟩
  ·show (y.its ++ [i]).length ≤ 6
   rw [List.length_append]
   exact f1
  ·show (y.bl ++ [b]).length ≤ (y.its ++ [i]).length
   rw [List.length_append, List.length_append]
   exact Nat.add_le_add_right hbi 1
  ·intro x hx
   rcases List.mem_append.1 hx with hx | hx
   ·exact r1.f64 x hx
   ·rw [List.mem_singleton] at hx
    rw [hx]
    exact hbl h4
  ·show behind y.p.o (y.bl ++ [b]).length ≤ c.l - 1
   rw [List.length_append]
   exact Int.le_sub_one_of_lt f2
 ·rw [if_neg h4]
  rw [if_neg h4] at f2
  refine ⟨r1.ok, r1.s, r1.o, r1.l, r1.held, ?_, ?_, r1.f64, .inr ?_⟩
  ·show (y.its ++ [i]).length ≤ 6
   rw [List.length_append]
   exact f1
  ·show y.bl.length ≤ (y.its ++ [i]).length
   rw [List.length_append]
   exact Nat.le_succ_of_le hbi
  ·exact Int.le_sub_one_of_lt f2
theorem Bw.fused {x : Int} (h : Bw c n L H z) : Bw c n L H { z with d := z.d.fused x } := ⟨h.ok, h.s, h.o, h.l, h.held, h.six, h.bi, h.f64, h.fit⟩
end Go.Kn
namespace Go.Proofs.YtgcfdjcpcclcjaaGreat
open Go Go.RowKit Go.Kn
/-- the box of both writers -/
def ZBx (p : PD) (r : RD) (gb : Nat) (c : Cf) (q : TD) (u : RT) (w x : Value) : List Value := [.pointer (some ⟨p.D, 0, none⟩), .pointer (some ⟨r.M, 0, none⟩), .pointer (some ⟨gb, 0, none⟩), .int .i64 c.b, .int .i64 c.s, .int .i64 c.l, .pointer (some ⟨q.T, 0, none⟩), .pointer (some ⟨u.T, 0, none⟩), w, x]
/-- what made leaves -/
def MdIn (w0 w' : World) (p : PD) (r : RD) (gb : Nat) (cf : Cf) (q : TD) (u : RT) (Z : Nat) (N : Nat) (t : Tb) (ps : Ps) (fr : Fr3) : Bool → Prop
 | true => ∃ W X, WrIn w0 w' p r (Dk.new N) W gb q ⟨Dk.new N, t, ps, [], []⟩ ((Z, ZBx p r gb cf q u (.pointer (some ⟨W, 0, none⟩)) (.pointer (some ⟨X, 0, none⟩))) :: (X, XB r u cf ps (.slice none 0 0) (.slice none 0 0)) :: u.L cf t fr.L) fr.G ((fun W => GeoAt W gb cf.b cf.s cf.l) :: fr.F)
 | false => Duo w0 w' p r (Dk.new N) (Dk.new N) ⟨(Z, ZBx p r gb cf q u (.pointer none) (.pointer none)) :: q.L t (u.L cf t fr.L), fr.G, (fun W => GeoAt W gb cf.b cf.s cf.l) :: fr.F⟩
def MdSays (w0 : World) (cf : Cf) (n : Nat) (ps : Ps) (busy : List Int) (fr : Fr3) (en : Ending) (w' : World) : Prop :=
 ∃ (p : PD) (r : RD) (gb : Nat) (q : TD) (u : RT) (Z : Nat), en = .returned (.tuple #[.pointer (some ⟨Z, 0, none⟩), .bool true]) ∧ q.n = n ∧ u.n = n ∧ p.N = cf.sectors.toNat ∧ (r.N = cf.sectors.toNat ∧ r.K = 0) ∧ MdIn w0 w' p r gb cf q u Z cf.sectors.toNat (tbMade n cf ps.s busy) ps fr (posMay cf.s cf.l ps.s ps.o ps.l ps.p ps.m)
set_option maxRecDepth 100000 in
set_option maxHeartbeats 16000000 in
theorem made_any (w0 w : World) (cf : Cf) (ps : Ps) (A : Option Addr) (m c : Nat) (busy : List Int) (fr : Fr3) (n : Nat) (h : Wc w0 w fr.L fr.G fr.F) (hc : cf.Ok) (hn : cf.s = (n : Int)) (hb : (fun W => Ins W A m c busy) ∈ fr.F) (hm : m ≤ 1000) (hwf : (Lit.int .i64 ps.s).wf = true) (hbw : ∀ x ∈ busy, (Lit.int .i64 x).wf = true) :
  Calls Tryz.prog 40 #[.agg #[.int .i64 cf.b, .int .i64 cf.s, .int .i64 cf.l], .agg #[.int .i64 ps.s, .int .i64 ps.o, .int .i64 ps.l, .int .i64 ps.p, .int .i64 ps.m], .slice A m c] w (MdSays w0 cf n ps busy fr) := by
 have hs1 : (w.alloc (.cells #[.int .i64 cf.b, .int .i64 cf.s, .int .i64 cf.l] 25)).heap.size = w.heap.size + 1 := by simp
 have H := Lib.hid ((h.newB #[.int .i64 cf.b, .int .i64 cf.s, .int .i64 cf.l] 25 rfl).newB #[.int .i64 ps.s, .int .i64 ps.o, .int .i64 ps.l, .int .i64 ps.p, .int .i64 ps.m] 32 hs1)
 obtain ⟨g1, g2, g3⟩ := Cf.sec cf hc 0 (by decide) (by have := hc.2.1; omega)
 have hl := hc.2.2
 have hs8 := hc.2.1
 have HC := Lib.hid hc
 have HNZ := Lib.hid hn
 have HB := Lib.hid hb
 have HWF := Lib.hid hwf
 have HBW := Lib.hid hbw
 obtain ⟨N, hN⟩ : ∃ n : Nat, cf.sectors.toNat = n := ⟨_, rfl⟩
 have hsn : cf.sectors = (N : Int) := by omega
 have hbl : busy.length = m := by
  have := (h.fact _ hb).len
  rwa [ivs, List.length_map] at this
 have HBL := Lib.hid hbl
 have HN := Lib.hid hN
 have HSN := Lib.hid hsn
 obtain ⟨hn1, hn2⟩ : 1 ≤ N ∧ N ≤ 4096 := by omega
 have hn32 : n ≤ 32 := by omega
 clear h hc hN hsn g1 g2 g3 hn hb hwf hbw hbl
 go_enter Tryz.func40, Tryz.ntmps40
 go_wp2_with fail
 (try rw [hs1])
 generalize hz : (w.alloc (.cells #[.int .i64 cf.b, .int .i64 cf.s, .int .i64 cf.l] 25)).alloc (.cells #[.int .i64 ps.s, .int .i64 ps.o, .int .i64 ps.l, .int .i64 ps.p, .int .i64 ps.m] 32) = w1 at *
 generalize w.heap.size = f3 at *
 generalize f3 + 1 = f4 at *
 clear hz hs1
 refine (geom_new_any cf.b cf.s cf.l _ HC.out).mono ?_
 rintro en w2 ⟨gb, rfl, hgb, hgeo, hO⟩
 have hfc : Fc w2 (fun k => k < w1.heap.size) (fun W => GeoAt W gb cf.b cf.s cf.l) := fc_geo hgeo (by omega)
 have HW := Lib.hid (H.out.addFc hO hfc)
 clear hgb hgeo hO hfc H
 obtain ⟨e0, e1, e2⟩ := own3 (HW.out.boxi 1 rfl)
 go_wp2_with fail
 refine (ref_sectors_any cf _ HC.out).mono ?_
 rintro en w4 ⟨rfl, hO⟩
 rw [HSN.out]
 have HW2 := Lib.hid (HW.out.keep0 hO)
 clear hO HW e0 e1 e2
 go_wp2_with fail
 refine (kit_two_any w0 w4 N ⟨(f4, [.int .i64 ps.s, .int .i64 ps.o, .int .i64 ps.l, .int .i64 ps.p, .int .i64 ps.m]) :: (f3, [.int .i64 cf.b, .int .i64 cf.s, .int .i64 cf.l]) :: fr.L, fr.G, (fun W => GeoAt W gb cf.b cf.s cf.l) :: fr.F⟩ HW2.out hn1 hn2).mono ?_
 rintro en w3 ⟨p, r, rfl, hpn, hrn, hd⟩
 have HD := Lib.hid hd
 have HPN := Lib.hid (hpn.trans HN.out.symm)
 have HRN := Lib.hid (⟨hrn.1.trans HN.out.symm, hrn.2⟩ : r.N = cf.sectors.toNat ∧ r.K = 0)
 clear hd HW2 hpn hrn
 go_wp2_with fail
 have HY := Lib.hid HD.out.drew
 clear HD
 refine wp_region_held_drew (S := (fun w' => Kn.Own w' f3 [.int .i64 cf.b, .int .i64 cf.s, .int .i64 cf.l])) (by kernel_rfl) (HY.out.boxi 1 rfl) (fun hSw0 => ?_)
 generalize w3.drew = wz at *
 refine Kn.takeS 0 ⟨some 38, _, _, _, _, _⟩ ?_
 refine Kn.takeS 1 ⟨some 39, _, _, _, _, _⟩ ?_
 refine Kn.takeS 2 ⟨some 40, _, _, _, _, _⟩ ?_
 refine Kn.takeS 3 ⟨some 41, _, _, _, _, _⟩ (v := (.agg #[.int .i64 cf.b, .int .i64 cf.s, .int .i64 cf.l])) (hy := fun w hSw => by
  obtain ⟨q0, q1, q2⟩ := own3 hSw
  go_simp) ?_
 refine Kn.takeS 4 ⟨some 42, _, _, _, _, _⟩ ?_
 refine Kn.takeS 6 ⟨some 44, _, _, _, _, _⟩ (v := (.agg #[.int .i64 cf.b, .int .i64 cf.s, .int .i64 cf.l])) (hy := fun w hSw => by
  obtain ⟨q0, q1, q2⟩ := own3 hSw
  go_simp) ?_
 refine Kn.takeR 5 ⟨some 43, _, _, _, _, _⟩ fun K hK => ?_
 go_simp
 refine (us_new_any w0 _ p r _ _ gb cf _ _ _ HY.out List.mem_cons_self HC.out).mono ?_
 rintro en wq ⟨q, rfl, hqn, hd⟩
 have HQN := Lib.hid hqn
 have HYq := Lib.hid hd
 clear hd hqn HY
 refine hK.out _ _ (HYq.out.boxi 4 rfl) (fun hSn => ?_)
 clear hK K hSw0
 have hSw0 := hSn
 clear hSn
 refine Kn.takeR 7 ⟨some 45, _, _, _, _, _⟩ fun K hK => ?_
 go_simp
 refine (rt_new_any w0 _ p r _ _ cf _ _ _ HYq.out HC.out).mono ?_
 rintro en wu ⟨u, rfl, hun, hd⟩
 have HUN := Lib.hid hun
 have HYqu := Lib.hid hd
 clear hd hun HYq
 refine hK.out _ _ (HYqu.out.boxi 7 rfl) (fun hSn => ?_)
 clear hK K hSw0
 have hSw0 := hSn
 clear hSn
 refine Kn.takeS 8 ⟨some 46, _, _, _, _, _⟩ ?_
 refine Kn.takeR 9 ⟨some 47, _, _, _, _, _⟩ fun K hK => ?_
 go_simp
 have HYquz := Lib.hid (HYqu.out.newB #[.pointer (some ⟨p.D, 0, none⟩), .pointer (some ⟨r.M, 0, none⟩), .pointer (some ⟨gb, 0, none⟩), .int .i64 cf.b, .int .i64 cf.s, .int .i64 cf.l, .pointer (some ⟨q.T, 0, none⟩), .pointer (some ⟨u.T, 0, none⟩), .pointer none, .pointer none] 95 (b := wu.heap.size) rfl)
 clear HYqu
 generalize hvz : wu.heap.size = Z at *
 generalize hvb : wu.alloc (.cells #[.pointer (some ⟨p.D, 0, none⟩), .pointer (some ⟨r.M, 0, none⟩), .pointer (some ⟨gb, 0, none⟩), .int .i64 cf.b, .int .i64 cf.s, .int .i64 cf.l, .pointer (some ⟨q.T, 0, none⟩), .pointer (some ⟨u.T, 0, none⟩), .pointer none, .pointer none] 95) = vz at *
 clear hvb hvz
 refine hK.out _ _ (HYquz.out.boxi 8 rfl) (fun hSn => ?_)
 clear hK K hSw0
 have hSw0 := hSn
 clear hSn
 refine Kn.takeS 10 ⟨some 13, _, _, _, _, _⟩ ?_
 refine wpAnyH_done (by kernel_rfl) ?_ _
 clear hSw0
 have hqe : q.n = n := by have := HQN.out; have := HNZ.out; omega
 have hue : u.n = n := by have := HUN.out; have := HNZ.out; omega
 have hqn : q.n ≤ 1000 := by omega
 have hun : u.n ≤ 1000 := by omega
 have hz0 : Duo w0 vz p r (Dk.new N) (Dk.new N) ⟨(Z, (ZBx p r gb cf q u (.pointer none) (.pointer none))) :: _, _, _⟩ := HYquz.out
 rw [hqe, hue] at hz0
 have HZ : Hid (Duo w0 vz p r (Dk.new N) (Dk.new N) ⟨q.L (Tb.new n) (u.L cf (Tb.new n) ((Z, (ZBx p r gb cf q u (.pointer none) (.pointer none))) :: (f4, [.int .i64 ps.s, .int .i64 ps.o, .int .i64 ps.l, .int .i64 ps.p, .int .i64 ps.m]) :: (f3, [.int .i64 cf.b, .int .i64 cf.s, .int .i64 cf.l]) :: fr.L)), fr.G, (fun W => GeoAt W gb cf.b cf.s cf.l) :: fr.F⟩) := Lib.hid (hz0.permL (perm_any (fun c => by simp only [TD.L, RT.L, List.map_cons, List.sum_cons]; omega)))
 clear HQN HUN
 have HQN := Lib.hid hqe
 have HUN := Lib.hid hue
 have HTO : Hid (∀ k, k = n → (Tb.new n).Ok k) := Lib.hid (fun k hk => by rw [hk]; exact Tb.new_ok n)
 clear hz0 hqe hue HYquz
 have HTO0 := HTO
 clear HTO
 have HTO := Lib.hid (HTO0.out q.n HQN.out)
 have c6 := (HZ.out.boxi 6 rfl).cellv 6
 go_wp2_with fail
 clear c6
 have HY := Lib.hid HZ.out.drew
 clear HZ
 refine wp_region_held_drew (S := (fun w' => Kn.Own w' Z (ZBx p r gb cf q u (.pointer none) (.pointer none)) ∧ Kn.Own w' f4 [.int .i64 ps.s, .int .i64 ps.o, .int .i64 ps.l, .int .i64 ps.p, .int .i64 ps.m] ∧ Kn.Own w' f3 [.int .i64 cf.b, .int .i64 cf.s, .int .i64 cf.l])) (by kernel_rfl) ⟨HY.out.boxi 6 rfl, HY.out.boxi 7 rfl, HY.out.boxi 8 rfl⟩ (fun hSw0 => ?_)
 generalize vz.drew = wz at *
 refine Kn.takeS 0 ⟨some 53, _, _, _, _, _⟩ ?_
 refine Kn.takeS 1 ⟨some 54, _, _, _, _, _⟩ ?_
 refine Kn.takeS 2 ⟨some 55, _, _, _, _, _⟩ ?_
 refine Kn.takeS 3 ⟨some 56, _, _, _, _, _⟩ (v := (.pointer (some ⟨q.T, 0, none⟩))) (hy := fun w hSw => by
  have q0 := hSw.1.cellv 6
  go_simp) ?_
 refine Kn.takeS 4 ⟨some 57, _, _, _, _, _⟩ ?_
 refine Kn.takeS 5 ⟨some 58, _, _, _, _, _⟩ (v := (.int .i64 ps.s)) (hy := fun w hSw => by
  have q0 := hSw.2.1.cellv 0
  go_simp) ?_
 refine Kn.takeS 6 ⟨some 59, _, _, _, _, _⟩ ?_
 refine Kn.takeS 7 ⟨some 60, _, _, _, _, _⟩ (v := (.int .i64 cf.s)) (hy := fun w hSw => by
  have q0 := hSw.2.2.cellv 1
  go_simp) ?_
 refine Kn.takeR 8 ⟨some 61, _, _, _, _, _⟩ fun K hK => ?_
 go_simp
 refine (round_any ps.s cf.s _ HWF.out (by omega) (by omega)).mono ?_
 rintro en wu ⟨rfl, rfl⟩
 refine hK.out _ _ hSw0 (fun hSn => ?_)
 clear hK K hSw0
 have hSw0 := hSn
 clear hSn
 refine Kn.takeR 9 ⟨some 62, _, _, _, _, _⟩ fun K hK => ?_
 go_simp
 refine (duo_grab (ps.s % cf.s) HY.out HTO.out hqn).mono ?_
 rintro en wg ⟨rfl, hd⟩
 have HYg := Lib.hid hd
 clear hd HY
 refine hK.out _ _ ⟨HYg.out.boxi 6 rfl, HYg.out.boxi 7 rfl, HYg.out.boxi 8 rfl⟩ (fun hSn => ?_)
 clear hK K hSw0
 have hSw0 := hSn
 clear hSn
 refine wpAnyH_done (by kernel_rfl) ?_ _
 clear hSw0 HTO
 have HTO := Lib.hid (HTO0.out u.n HUN.out)
 go_wp2_with fail
 have HX := Lib.hid HYg.out.drew
 clear HYg
 refine wp_region_held_drew (S := (fun w' => Kn.Own w' Z (ZBx p r gb cf q u (.pointer none) (.pointer none)) ∧ Kn.Own w' f4 [.int .i64 ps.s, .int .i64 ps.o, .int .i64 ps.l, .int .i64 ps.p, .int .i64 ps.m] ∧ Kn.Own w' f3 [.int .i64 cf.b, .int .i64 cf.s, .int .i64 cf.l])) (by kernel_rfl) ⟨HX.out.boxi 6 rfl, HX.out.boxi 7 rfl, HX.out.boxi 8 rfl⟩ (fun hSw0 => ?_)
 generalize wg.drew = wy at *
 refine Kn.takeS 0 ⟨some 63, _, _, _, _, _⟩ ?_
 refine Kn.takeS 1 ⟨some 64, _, _, _, _, _⟩ ?_
 refine Kn.takeS 2 ⟨some 65, _, _, _, _, _⟩ ?_
 refine Kn.takeS 3 ⟨some 66, _, _, _, _, _⟩ (v := (.pointer (some ⟨u.T, 0, none⟩))) (hy := fun w hSw => by
  have q0 := hSw.1.cellv 7
  go_simp) ?_
 refine Kn.takeS 4 ⟨some 67, _, _, _, _, _⟩ ?_
 refine Kn.takeS 5 ⟨some 68, _, _, _, _, _⟩ (v := (.int .i64 ps.s)) (hy := fun w hSw => by
  have q0 := hSw.2.1.cellv 0
  go_simp) ?_
 refine Kn.takeS 6 ⟨some 69, _, _, _, _, _⟩ ?_
 refine Kn.takeS 7 ⟨some 70, _, _, _, _, _⟩ (v := (.int .i64 cf.s)) (hy := fun w hSw => by
  have q0 := hSw.2.2.cellv 1
  go_simp) ?_
 refine Kn.takeR 8 ⟨some 71, _, _, _, _, _⟩ fun K hK => ?_
 go_simp
 refine (round_any ps.s cf.s _ HWF.out (by omega) (by omega)).mono ?_
 rintro en wu ⟨rfl, rfl⟩
 refine hK.out _ _ hSw0 (fun hSn => ?_)
 clear hK K hSw0
 have hSw0 := hSn
 clear hSn
 refine Kn.takeR 9 ⟨some 72, _, _, _, _, _⟩ fun K hK => ?_
 go_simp
 refine (duo_rgrab (ps.s % cf.s) (HX.out.permL (L' := u.L cf (Tb.new n) (q.L ((Tb.new n).grab (ps.s % cf.s)) ((Z, (ZBx p r gb cf q u (.pointer none) (.pointer none))) :: (f4, [.int .i64 ps.s, .int .i64 ps.o, .int .i64 ps.l, .int .i64 ps.p, .int .i64 ps.m]) :: (f3, [.int .i64 cf.b, .int .i64 cf.s, .int .i64 cf.l]) :: fr.L))) (perm_any (fun c => by simp only [TD.L, RT.L, List.map_cons, List.sum_cons]; omega))) HTO.out hun).mono ?_
 rintro en wg ⟨rfl, hd⟩
 have HXg : Hid (Duo w0 wg p r (Dk.new N) (Dk.new N) ⟨q.L ((Tb.new n).grab (ps.s % cf.s)) (u.L cf ((Tb.new n).grab (ps.s % cf.s)) ((Z, (ZBx p r gb cf q u (.pointer none) (.pointer none))) :: (f4, [.int .i64 ps.s, .int .i64 ps.o, .int .i64 ps.l, .int .i64 ps.p, .int .i64 ps.m]) :: (f3, [.int .i64 cf.b, .int .i64 cf.s, .int .i64 cf.l]) :: fr.L)), fr.G, (fun W => GeoAt W gb cf.b cf.s cf.l) :: fr.F⟩) := Lib.hid (hd.permL (perm_any (fun c => by simp only [TD.L, RT.L, List.map_cons, List.sum_cons]; omega)))
 clear hd HX
 refine hK.out _ _ ⟨HXg.out.boxi 6 rfl, HXg.out.boxi 7 rfl, HXg.out.boxi 8 rfl⟩ (fun hSn => ?_)
 clear hK K hSw0
 have hSw0 := hSn
 clear hSn
 refine wpAnyH_done (by kernel_rfl) ?_ _
 clear hSw0 HTO
 go_wp2_with fail
 go_loopg [14] m (fun rr s14 wr => ∃ (j : Nat) (tj : Tb), j + rr = m ∧ s14 = .int .i64 (j : Int) ∧ tj = (busy.take j).foldl (tbStep cf.s ps.s) ((Tb.new n).grab (ps.s % cf.s)) ∧ Duo w0 wr p r (Dk.new N) (Dk.new N) ⟨q.L (tj) (u.L cf (tj) ((Z, (ZBx p r gb cf q u (.pointer none) (.pointer none))) :: (f4, [.int .i64 ps.s, .int .i64 ps.o, .int .i64 ps.l, .int .i64 ps.p, .int .i64 ps.m]) :: (f3, [.int .i64 cf.b, .int .i64 cf.s, .int .i64 cf.l]) :: fr.L)), fr.G, (fun W => GeoAt W gb cf.b cf.s cf.l) :: fr.F⟩)
 case atStart => exact ⟨0, _, by omega, rfl, rfl, HXg.out⟩
 obtain ⟨j, tj, hj, rfl, htj, hd⟩ := hrel
 have HR := Lib.hid hd
 have HTJ := Lib.hid htj
 have htok : tj.Ok n := by rw [htj]; exact tbFold_ok _ _ _ _ ((Tb.new_ok n).grab _)
 have HTK := Lib.hid htok
 clear hd htj htok HXg
 by_cases hlt : j < m
 ·have hjl : j < busy.length := by rw [HBL.out]; exact hlt
  have hlt2 : (j : Int) < (m : Int) := by omega
  obtain ⟨x, hx⟩ : ∃ x, busy[j] = x := ⟨_, rfl⟩
  have HXW := Lib.hid (HBW.out x (by rw [← hx]; exact List.getElem_mem hjl))
  obtain ⟨g, o, hA, hc0⟩ := (HR.out.fact (f := (fun W => Ins W A m c busy)) (List.mem_cons_of_mem _ HB.out)).at_ (by omega)
  have HCX : Hid (∀ V : World, Ins V A m c busy → V.cell? ⟨g, o + j, none⟩ = some (.int .i64 x)) := Lib.hid (fun V hV => by
   obtain ⟨g2, o2, hA2, hc2⟩ := hV.at_ (by omega)
   rw [hA] at hA2
   injection hA2 with hA2
   injection hA2 with e1 e2
   subst e1 e2
   have := hc2 j (by rw [ivs, List.length_map]; exact hjl)
   rw [this, ← hx]
   simp [ivs])
  have hst : (busy.take (j + 1)).foldl (tbStep cf.s ps.s) ((Tb.new n).grab (ps.s % cf.s)) = tbStep cf.s ps.s tj x := by
   rw [List.take_succ_eq_append_getElem hjl, List.foldl_append, ← HTJ.out, hx]
   rfl
  have HST := Lib.hid hst
  have HR0 := HR
  clear hx hc0 hst
  subst hA
  go_wp2_with fail
  have HY := Lib.hid HR.out.drew
  clear HR
  refine wp_region_held_drew (S := (fun w' => w'.cell? ⟨g, o + j, none⟩ = some (.int .i64 x) ∧ Kn.Own w' f3 [.int .i64 cf.b, .int .i64 cf.s, .int .i64 cf.l])) (by kernel_rfl) ⟨HCX.out _ ((HR0.out.keep0 (Only.refl _ _).drew).fact (f := (fun W => Ins W (some ⟨g, o, none⟩) m c busy)) (List.mem_cons_of_mem _ HB.out)), HY.out.boxi 8 rfl⟩ (fun hSw0 => ?_)
  generalize wr.drew = wz at *
  refine Kn.takeS 0 ⟨some 79, _, _, _, _, _⟩ ?_
  refine Kn.takeS 1 ⟨some 80, _, _, _, _, _⟩ ?_
  refine Kn.takeS 2 ⟨some 81, _, _, _, _, _⟩ ?_
  refine Kn.takeS 3 ⟨some 82, _, _, _, _, _⟩ (v := (.int .i64 x)) (hy := fun w hSw => by
   have q0 := hSw.1
   go_simp) ?_
  refine Kn.takeS 4 ⟨some 83, _, _, _, _, _⟩ ?_
  refine Kn.takeS 5 ⟨some 84, _, _, _, _, _⟩ (v := (.int .i64 cf.s)) (hy := fun w hSw => by
   have q0 := hSw.2.cellv 1
   go_simp) ?_
  refine Kn.takeR 6 ⟨some 85, _, _, _, _, _⟩ fun K hK => ?_
  go_simp
  refine (round_any x cf.s _ HXW.out (by omega) (by omega)).mono ?_
  rintro en wu ⟨rfl, rfl⟩
  refine hK.out _ _ hSw0 (fun hSn => ?_)
  clear hK K hSw0
  have hSw0 := hSn
  clear hSn
  refine Kn.takeS 7 ⟨some 15, _, _, _, _, _⟩ ?_
  refine wpAnyH_done (by kernel_rfl) ?_ _
  clear hSw0 HR0
  have HQK : Hid (tj.Ok q.n) := Lib.hid (by rw [HQN.out]; exact HTK.out)
  have HUK : Hid (tj.Ok u.n) := Lib.hid (by rw [HUN.out]; exact HTK.out)
  have c6 := (HY.out.boxi 6 rfl).cellv 6
  go_wp2_with fail
  refine (duo_grab (x % cf.s) HY.out HQK.out hqn).mono ?_
  rintro en w5 ⟨rfl, hd⟩
  have HG1 := Lib.hid (hd.permL (L' := u.L cf tj (q.L (tj.grab (x % cf.s)) ((Z, (ZBx p r gb cf q u (.pointer none) (.pointer none))) :: (f4, [.int .i64 ps.s, .int .i64 ps.o, .int .i64 ps.l, .int .i64 ps.p, .int .i64 ps.m]) :: (f3, [.int .i64 cf.b, .int .i64 cf.s, .int .i64 cf.l]) :: fr.L))) (perm_any (fun c => by simp only [TD.L, RT.L, List.map_cons, List.sum_cons]; omega)))
  have c7 := (HG1.out.boxi 6 rfl).cellv 7
  clear hd c6 HY
  go_wp2_with fail
  refine (duo_rgrab (x % cf.s) HG1.out HUK.out hun).mono ?_
  rintro en w6 ⟨rfl, hd⟩
  have HG2 := Lib.hid (hd.permL (L' := q.L (tj.grab (x % cf.s)) (u.L cf (tj.grab (x % cf.s)) ((Z, (ZBx p r gb cf q u (.pointer none) (.pointer none))) :: (f4, [.int .i64 ps.s, .int .i64 ps.o, .int .i64 ps.l, .int .i64 ps.p, .int .i64 ps.m]) :: (f3, [.int .i64 cf.b, .int .i64 cf.s, .int .i64 cf.l]) :: fr.L))) (perm_any (fun c => by simp only [TD.L, RT.L, List.map_cons, List.sum_cons]; omega)))
  have c0 := (HG2.out.boxi 7 rfl).cellv 0
  clear hd c7 HG1
  by_cases hk : x % cf.s = ps.s
  ·have hstep : tbStep cf.s ps.s tj x = tj.grab (x % cf.s) := if_pos hk
   have hne : (x % cf.s != ps.s) = false := by simp [hk]
   have HSTP := Lib.hid hstep
   obtain ⟨y, hy⟩ : ∃ y, x % cf.s = y := ⟨_, rfl⟩
   rw [hy] at hne HG2 HSTP ⊢
   clear hstep hk hy
   go_wp2
   go_roundg (gk - 1)
   case measure => omega
   case rel => exact ⟨j + 1, _, by omega, by go_num, rfl, by rw [HST.out, HSTP.out]; exact HG2.out⟩
  ·have hstep : tbStep cf.s ps.s tj x = (tj.grab (x % cf.s)).shut (x % cf.s) := if_neg hk
   have hne : (x % cf.s != ps.s) = true := by rw [bne_iff_ne]; exact hk
   have HSTP := Lib.hid hstep
   have c6 := (HG2.out.boxi 6 rfl).cellv 6
   obtain ⟨y, hy⟩ : ∃ y, x % cf.s = y := ⟨_, rfl⟩
   have HGQ : Hid ((tj.grab (x % cf.s)).Ok q.n) := Lib.hid (HQK.out.grab _)
   have HGU : Hid ((tj.grab (x % cf.s)).Ok u.n) := Lib.hid (HUK.out.grab _)
   rw [hy] at hne HG2 HSTP HGQ HGU ⊢
   clear hstep hk hy
   go_wp2_with fail
   obtain ⟨L0, G0, F0, hw7, back⟩ := HG2.out.fr
   refine (us_seal_any w0 _ q (tj.grab y) y _ _ _ hw7 HGQ.out hqn).mono ?_
   rintro en w7 ⟨rfl, h7⟩
   have HG3 : Hid (Duo w0 w7 p r (Dk.new N) (Dk.new N) ⟨u.L cf (tj.grab y) (q.L ((tj.grab y).shut y) ((Z, (ZBx p r gb cf q u (.pointer none) (.pointer none))) :: (f4, [.int .i64 ps.s, .int .i64 ps.o, .int .i64 ps.l, .int .i64 ps.p, .int .i64 ps.m]) :: (f3, [.int .i64 cf.b, .int .i64 cf.s, .int .i64 cf.l]) :: fr.L)), fr.G, (fun W => GeoAt W gb cf.b cf.s cf.l) :: fr.F⟩) := Lib.hid ((back w7 ⟨q.L ((tj.grab y).shut y) (u.L cf (tj.grab y) ((Z, (ZBx p r gb cf q u (.pointer none) (.pointer none))) :: (f4, [.int .i64 ps.s, .int .i64 ps.o, .int .i64 ps.l, .int .i64 ps.p, .int .i64 ps.m]) :: (f3, [.int .i64 cf.b, .int .i64 cf.s, .int .i64 cf.l]) :: fr.L)), fr.G, (fun W => GeoAt W gb cf.b cf.s cf.l) :: fr.F⟩ h7).permL (perm_any (fun c => by simp only [TD.L, RT.L, List.map_cons, List.sum_cons]; omega)))
   have c7 := (HG3.out.boxi 6 rfl).cellv 7
   clear h7 hw7 back c6 c0 HG2
   go_wp2_with fail
   refine (duo_rseal y HG3.out HGU.out hun).mono ?_
   rintro en w8 ⟨rfl, hd⟩
   have HG4 : Hid (Duo w0 w8 p r (Dk.new N) (Dk.new N) ⟨q.L ((tj.grab y).shut y) (u.L cf ((tj.grab y).shut y) ((Z, (ZBx p r gb cf q u (.pointer none) (.pointer none))) :: (f4, [.int .i64 ps.s, .int .i64 ps.o, .int .i64 ps.l, .int .i64 ps.p, .int .i64 ps.m]) :: (f3, [.int .i64 cf.b, .int .i64 cf.s, .int .i64 cf.l]) :: fr.L)), fr.G, (fun W => GeoAt W gb cf.b cf.s cf.l) :: fr.F⟩) := Lib.hid (hd.permL (perm_any (fun c => by simp only [TD.L, RT.L, List.map_cons, List.sum_cons]; omega)))
   clear hd c7 HG3
   go_wp2
   go_roundg (gk - 1)
   case measure => omega
   case rel => exact ⟨j + 1, _, by omega, by go_num, rfl, by rw [HST.out, HSTP.out]; exact HG4.out⟩
 ·obtain rfl : j = m := by omega
  have hte : tj = tbMade n cf ps.s busy := by rw [HTJ.out, List.take_of_length_le (by rw [HBL.out]; exact Nat.le_refl _)]; rfl
  obtain ⟨TT, hTT⟩ : ∃ T, tbMade n cf ps.s busy = T := ⟨_, rfl⟩
  rw [hte, hTT] at HR
  have HL := HR
  have HTT := Lib.hid hTT
  have HNE : Hid (cf.sectors.toNat = N ∧ tbMade n cf ps.s busy = TT) := Lib.hid ⟨HN.out, hTT⟩
  obtain ⟨mb, hmb⟩ : ∃ x, posMay cf.s cf.l ps.s ps.o ps.l ps.p ps.m = x := ⟨_, rfl⟩
  have HMB := Lib.hid hmb
  clear hte hTT hmb HTJ HTK HR
  go_wp2_with fail
  cases mb with
  | true =>
   have HY := Lib.hid HL.out.drew
   clear HL
   refine wp_region_held_drew (S := (fun w' => w'.cell? ⟨Z, 6, none⟩ = some (.pointer (some ⟨q.T, 0, none⟩)) ∧ Kn.Own w' f4 [.int .i64 ps.s, .int .i64 ps.o, .int .i64 ps.l, .int .i64 ps.p, .int .i64 ps.m])) (by kernel_rfl) ⟨(HY.out.boxi 6 rfl).cellv 6, HY.out.boxi 7 rfl⟩ (fun hSw0 => ?_)
   generalize wr.drew = wz at *
   refine Kn.takeS 0 ⟨some 114, _, _, _, _, _⟩ ?_
   refine Kn.takeS 1 ⟨some 115, _, _, _, _, _⟩ ?_
   refine Kn.takeS 2 ⟨some 116, _, _, _, _, _⟩ ?_
   refine Kn.takeS 3 ⟨some 117, _, _, _, _, _⟩ ?_
   refine Kn.takeS 4 ⟨some 118, _, _, _, _, _⟩ ?_
   refine Kn.takeS 5 ⟨some 119, _, _, _, _, _⟩ ?_
   refine Kn.takeS 6 ⟨some 120, _, _, _, _, _⟩ (v := (.pointer (some ⟨q.T, 0, none⟩))) (hy := fun w hSw => by
    have q0 := hSw.1
    go_simp) ?_
   refine Kn.takeS 7 ⟨some 121, _, _, _, _, _⟩ (v := (.agg #[.int .i64 ps.s, .int .i64 ps.o, .int .i64 ps.l, .int .i64 ps.p, .int .i64 ps.m])) (hy := fun w hSw => by
    obtain ⟨q0, q1, q2, q3, q4⟩ := own5 hSw.2
    go_simp) ?_
   refine Kn.takeR 8 ⟨some 122, _, _, _, _, _⟩ fun K hK => ?_
   go_simp
   refine (wr_new_any w0 _ p r _ _ gb q _ ps cf _ _ _ HY.out List.mem_cons_self HC.out).mono ?_
   rw [HMB.out]
   rintro en ww ⟨W, rfl, A9, c9, B9, k9, sl9, hd⟩
   have HYw : Hid (Duo w0 ww p r (Dk.new N) (Dk.new N) ⟨(W, WB p.D gb q.T ps (.slice A9 0 c9) (.slice B9 0 k9)) :: q.L (TT) (u.L cf (TT) ((Z, (ZBx p r gb cf q u (.pointer none) (.pointer none))) :: (f4, [.int .i64 ps.s, .int .i64 ps.o, .int .i64 ps.l, .int .i64 ps.p, .int .i64 ps.m]) :: (f3, [.int .i64 cf.b, .int .i64 cf.s, .int .i64 cf.l]) :: fr.L)), ⟨63, 4, .slice A9 0 c9, 0, itsV []⟩ :: ⟨47, 1, .slice B9 0 k9, 0, sl9.map slv⟩ :: fr.G, (fun W => Bls W sl9 []) :: (fun W => GeoAt W gb cf.b cf.s cf.l) :: fr.F⟩) := Lib.hid hd
   clear hd HY
   refine hK.out _ _ ⟨(HYw.out.boxi 7 rfl).cellv 6, HYw.out.boxi 8 rfl⟩ (fun hSn => ?_)
   clear hK K hSw0
   have hSw0 := hSn
   clear hSn
   refine Kn.takeS 9 ⟨some 123, _, _, _, _, _⟩ ?_
   refine Kn.takeS 10 ⟨some 124, _, _, _, _, _⟩ ?_
   refine Kn.takeR 11 ⟨none, _, _, _, _, _⟩ fun K hK => ?_
   have b1 := HYw.out.boxi 7 rfl
   have y9 := b1.cellv 8
   have z9 := b1.frozen 8
   have l9 := b1.lt
   clear b1
   go_simp
   have HYws := Lib.hid (HYw.out.put 7 rfl 8 (.pointer (some ⟨W, 0, none⟩)))
   clear y9 z9 l9 HYw
   refine hK.out _ _ ⟨(HYws.out.boxi 7 rfl).cellv 6, HYws.out.boxi 8 rfl⟩ (fun hSn => ?_)
   clear hK K hSw0
   have hSw0 := hSn
   clear hSn
   refine wpAnyH_done (by kernel_rfl) ?_ _
   clear hSw0
   generalize (ww.setCell ⟨Z, 8, none⟩ (.pointer (some ⟨W, 0, none⟩))) = w8 at *
   go_wp2_with fail
   have HV := Lib.hid HYws.out.drew
   clear HYws
   refine wp_region_held_drew (S := (fun w' => w'.cell? ⟨Z, 7, none⟩ = some (.pointer (some ⟨u.T, 0, none⟩)) ∧ Kn.Own w' f4 [.int .i64 ps.s, .int .i64 ps.o, .int .i64 ps.l, .int .i64 ps.p, .int .i64 ps.m] ∧ Kn.Own w' f3 [.int .i64 cf.b, .int .i64 cf.s, .int .i64 cf.l])) (by kernel_rfl) ⟨(HV.out.boxi 7 rfl).cellv 7, HV.out.boxi 8 rfl, HV.out.boxi 9 rfl⟩ (fun hSw0 => ?_)
   generalize w8.drew = wv at *
   refine Kn.takeS 0 ⟨some 125, _, _, _, _, _⟩ ?_
   refine Kn.takeS 1 ⟨some 126, _, _, _, _, _⟩ ?_
   refine Kn.takeS 2 ⟨some 127, _, _, _, _, _⟩ (v := (.agg #[.int .i64 cf.b, .int .i64 cf.s, .int .i64 cf.l])) (hy := fun w hSw => by
    obtain ⟨q0, q1, q2⟩ := own3 hSw.2.2
    go_simp) ?_
   refine Kn.takeS 3 ⟨some 128, _, _, _, _, _⟩ ?_
   refine Kn.takeS 4 ⟨some 129, _, _, _, _, _⟩ ?_
   refine Kn.takeS 5 ⟨some 130, _, _, _, _, _⟩ ?_
   refine Kn.takeS 6 ⟨some 131, _, _, _, _, _⟩ (v := (.pointer (some ⟨u.T, 0, none⟩))) (hy := fun w hSw => by
    have q0 := hSw.1
    go_simp) ?_
   refine Kn.takeS 7 ⟨some 132, _, _, _, _, _⟩ (v := (.agg #[.int .i64 ps.s, .int .i64 ps.o, .int .i64 ps.l, .int .i64 ps.p, .int .i64 ps.m])) (hy := fun w hSw => by
    obtain ⟨q0, q1, q2, q3, q4⟩ := own5 hSw.2.1
    go_simp) ?_
   refine Kn.takeR 8 ⟨some 133, _, _, _, _, _⟩ fun K hK => ?_
   go_simp
   refine (rw_new_any w0 _ p r _ _ u ps cf _ _ _ HV.out HC.out).mono ?_
   rw [HMB.out]
   rintro en wx ⟨X, rfl, hd⟩
   have HVx := Lib.hid hd
   clear hd HV
   refine hK.out _ _ ⟨(HVx.out.boxi 8 rfl).cellv 7, HVx.out.boxi 9 rfl, HVx.out.boxi 10 rfl⟩ (fun hSn => ?_)
   clear hK K hSw0
   have hSw0 := hSn
   clear hSn
   refine Kn.takeS 9 ⟨some 134, _, _, _, _, _⟩ ?_
   refine Kn.takeS 10 ⟨some 135, _, _, _, _, _⟩ ?_
   refine Kn.takeR 11 ⟨none, _, _, _, _, _⟩ fun K hK => ?_
   have b1 := HVx.out.boxi 8 rfl
   have y9 := b1.cellv 9
   have z9 := b1.frozen 9
   have l9 := b1.lt
   clear b1
   go_simp
   have HVxs := Lib.hid (HVx.out.put 8 rfl 9 (.pointer (some ⟨X, 0, none⟩)))
   clear y9 z9 l9 HVx
   refine hK.out _ _ ⟨(HVxs.out.boxi 8 rfl).cellv 7, HVxs.out.boxi 9 rfl, HVxs.out.boxi 10 rfl⟩ (fun hSn => ?_)
   clear hK K hSw0
   have hSw0 := hSn
   clear hSn
   refine wpAnyH_done (by kernel_rfl) ?_ _
   clear hSw0
   go_wp2
   refine bodyPost_ret (v := .tuple #[.pointer (some ⟨Z, 0, none⟩), .bool true]) (by kernel_rfl) rfl ?_
   refine ⟨p, r, gb, q, u, Z, rfl, HQN.out, HUN.out, HPN.out, HRN.out, ?_⟩
   rw [HMB.out, HNE.out.1, HNE.out.2]
   refine ⟨W, X, A9, c9, B9, k9, sl9, ?_⟩
   have hx := HVxs.out
   dsimp only [List.length_nil]
   refine Duo.ldrop (x := (f4, [.int .i64 ps.s, .int .i64 ps.o, .int .i64 ps.l, .int .i64 ps.p, .int .i64 ps.m])) (Duo.ldrop (x := (f3, [.int .i64 cf.b, .int .i64 cf.s, .int .i64 cf.l])) (Duo.permL hx ?_))
   exact (perm_any (fun c => by simp only [TD.L, RT.L, ZBx, List.set_cons_succ, List.set_cons_zero, List.map_cons, List.sum_cons]; omega))
  | false =>
   have HY := Lib.hid HL.out.drew
   clear HL
   refine wp_region_held_drew (S := (fun w' => w'.cell? ⟨Z, 6, none⟩ = some (.pointer (some ⟨q.T, 0, none⟩)) ∧ Kn.Own w' f4 [.int .i64 ps.s, .int .i64 ps.o, .int .i64 ps.l, .int .i64 ps.p, .int .i64 ps.m])) (by kernel_rfl) ⟨(HY.out.boxi 6 rfl).cellv 6, HY.out.boxi 7 rfl⟩ (fun hSw0 => ?_)
   generalize wr.drew = wz at *
   refine Kn.takeS 0 ⟨some 114, _, _, _, _, _⟩ ?_
   refine Kn.takeS 1 ⟨some 115, _, _, _, _, _⟩ ?_
   refine Kn.takeS 2 ⟨some 116, _, _, _, _, _⟩ ?_
   refine Kn.takeS 3 ⟨some 117, _, _, _, _, _⟩ ?_
   refine Kn.takeS 4 ⟨some 118, _, _, _, _, _⟩ ?_
   refine Kn.takeS 5 ⟨some 119, _, _, _, _, _⟩ ?_
   refine Kn.takeS 6 ⟨some 120, _, _, _, _, _⟩ (v := (.pointer (some ⟨q.T, 0, none⟩))) (hy := fun w hSw => by
    have q0 := hSw.1
    go_simp) ?_
   refine Kn.takeS 7 ⟨some 121, _, _, _, _, _⟩ (v := (.agg #[.int .i64 ps.s, .int .i64 ps.o, .int .i64 ps.l, .int .i64 ps.p, .int .i64 ps.m])) (hy := fun w hSw => by
    obtain ⟨q0, q1, q2, q3, q4⟩ := own5 hSw.2
    go_simp) ?_
   refine Kn.takeR 8 ⟨some 122, _, _, _, _, _⟩ fun K hK => ?_
   go_simp
   refine (wr_new_any w0 _ p r _ _ gb q _ ps cf _ _ _ HY.out List.mem_cons_self HC.out).mono ?_
   rw [HMB.out]
   rintro en ww ⟨rfl, hd⟩
   have HYw : Hid (Duo w0 ww p r (Dk.new N) (Dk.new N) ⟨q.L (TT) (u.L cf (TT) ((Z, (ZBx p r gb cf q u (.pointer none) (.pointer none))) :: (f4, [.int .i64 ps.s, .int .i64 ps.o, .int .i64 ps.l, .int .i64 ps.p, .int .i64 ps.m]) :: (f3, [.int .i64 cf.b, .int .i64 cf.s, .int .i64 cf.l]) :: fr.L)), fr.G, (fun W => GeoAt W gb cf.b cf.s cf.l) :: fr.F⟩) := Lib.hid hd
   clear hd HY
   refine hK.out _ _ ⟨(HYw.out.boxi 6 rfl).cellv 6, HYw.out.boxi 7 rfl⟩ (fun hSn => ?_)
   clear hK K hSw0
   have hSw0 := hSn
   clear hSn
   refine Kn.takeS 9 ⟨some 123, _, _, _, _, _⟩ ?_
   refine Kn.takeS 10 ⟨some 124, _, _, _, _, _⟩ ?_
   refine Kn.takeR 11 ⟨none, _, _, _, _, _⟩ fun K hK => ?_
   have b1 := HYw.out.boxi 6 rfl
   have y9 := b1.cellv 8
   have z9 := b1.frozen 8
   have l9 := b1.lt
   clear b1
   go_simp
   have HYws := Lib.hid (HYw.out.put 6 rfl 8 (.pointer none))
   clear y9 z9 l9 HYw
   refine hK.out _ _ ⟨(HYws.out.boxi 6 rfl).cellv 6, HYws.out.boxi 7 rfl⟩ (fun hSn => ?_)
   clear hK K hSw0
   have hSw0 := hSn
   clear hSn
   refine wpAnyH_done (by kernel_rfl) ?_ _
   clear hSw0
   generalize (ww.setCell ⟨Z, 8, none⟩ (.pointer none)) = w8 at *
   go_wp2_with fail
   have HV := Lib.hid HYws.out.drew
   clear HYws
   refine wp_region_held_drew (S := (fun w' => w'.cell? ⟨Z, 7, none⟩ = some (.pointer (some ⟨u.T, 0, none⟩)) ∧ Kn.Own w' f4 [.int .i64 ps.s, .int .i64 ps.o, .int .i64 ps.l, .int .i64 ps.p, .int .i64 ps.m] ∧ Kn.Own w' f3 [.int .i64 cf.b, .int .i64 cf.s, .int .i64 cf.l])) (by kernel_rfl) ⟨(HV.out.boxi 6 rfl).cellv 7, HV.out.boxi 7 rfl, HV.out.boxi 8 rfl⟩ (fun hSw0 => ?_)
   generalize w8.drew = wv at *
   refine Kn.takeS 0 ⟨some 125, _, _, _, _, _⟩ ?_
   refine Kn.takeS 1 ⟨some 126, _, _, _, _, _⟩ ?_
   refine Kn.takeS 2 ⟨some 127, _, _, _, _, _⟩ (v := (.agg #[.int .i64 cf.b, .int .i64 cf.s, .int .i64 cf.l])) (hy := fun w hSw => by
    obtain ⟨q0, q1, q2⟩ := own3 hSw.2.2
    go_simp) ?_
   refine Kn.takeS 3 ⟨some 128, _, _, _, _, _⟩ ?_
   refine Kn.takeS 4 ⟨some 129, _, _, _, _, _⟩ ?_
   refine Kn.takeS 5 ⟨some 130, _, _, _, _, _⟩ ?_
   refine Kn.takeS 6 ⟨some 131, _, _, _, _, _⟩ (v := (.pointer (some ⟨u.T, 0, none⟩))) (hy := fun w hSw => by
    have q0 := hSw.1
    go_simp) ?_
   refine Kn.takeS 7 ⟨some 132, _, _, _, _, _⟩ (v := (.agg #[.int .i64 ps.s, .int .i64 ps.o, .int .i64 ps.l, .int .i64 ps.p, .int .i64 ps.m])) (hy := fun w hSw => by
    obtain ⟨q0, q1, q2, q3, q4⟩ := own5 hSw.2.1
    go_simp) ?_
   refine Kn.takeR 8 ⟨some 133, _, _, _, _, _⟩ fun K hK => ?_
   go_simp
   refine (rw_new_any w0 _ p r _ _ u ps cf _ _ _ HV.out HC.out).mono ?_
   rw [HMB.out]
   rintro en wx ⟨rfl, hd⟩
   have HVx := Lib.hid hd
   clear hd HV
   refine hK.out _ _ ⟨(HVx.out.boxi 6 rfl).cellv 7, HVx.out.boxi 7 rfl, HVx.out.boxi 8 rfl⟩ (fun hSn => ?_)
   clear hK K hSw0
   have hSw0 := hSn
   clear hSn
   refine Kn.takeS 9 ⟨some 134, _, _, _, _, _⟩ ?_
   refine Kn.takeS 10 ⟨some 135, _, _, _, _, _⟩ ?_
   refine Kn.takeR 11 ⟨none, _, _, _, _, _⟩ fun K hK => ?_
   have b1 := HVx.out.boxi 6 rfl
   have y9 := b1.cellv 9
   have z9 := b1.frozen 9
   have l9 := b1.lt
   clear b1
   go_simp
   have HVxs := Lib.hid (HVx.out.put 6 rfl 9 (.pointer none))
   clear y9 z9 l9 HVx
   refine hK.out _ _ ⟨(HVxs.out.boxi 6 rfl).cellv 7, HVxs.out.boxi 7 rfl, HVxs.out.boxi 8 rfl⟩ (fun hSn => ?_)
   clear hK K hSw0
   have hSw0 := hSn
   clear hSn
   refine wpAnyH_done (by kernel_rfl) ?_ _
   clear hSw0
   go_wp2
   refine bodyPost_ret (v := .tuple #[.pointer (some ⟨Z, 0, none⟩), .bool true]) (by kernel_rfl) rfl ?_
   refine ⟨p, r, gb, q, u, Z, rfl, HQN.out, HUN.out, HPN.out, HRN.out, ?_⟩
   rw [HMB.out, HNE.out.1, HNE.out.2]
   have hx := HVxs.out
   refine Duo.ldrop (x := (f4, [.int .i64 ps.s, .int .i64 ps.o, .int .i64 ps.l, .int .i64 ps.p, .int .i64 ps.m])) (Duo.ldrop (x := (f3, [.int .i64 cf.b, .int .i64 cf.s, .int .i64 cf.l])) (Duo.permL hx ?_))
   exact (perm_any (fun c => by simp only [TD.L, RT.L, ZBx, List.set_cons_succ, List.set_cons_zero, List.map_cons, List.sum_cons]; omega))
end Go.Proofs.YtgcfdjcpcclcjaaGreat
namespace Go.Proofs.YtgcfdjcpcclcjaaGreat
open Go Go.RowKit Go.Kn
/-- where all of it lies -/
structure Yp where
 p : PD
 r : RD
 W : Nat
 X : Nat
 gb : Nat
 q : TD
 u : RT
 Z : Nat
 cf : Cf
def Yp.box (k : Yp) : List Value := ZBx k.p k.r k.gb k.cf k.q k.u (.pointer (some ⟨k.W, 0, none⟩)) (.pointer (some ⟨k.X, 0, none⟩))
def Yp.up (k : Yp) (n : Nat) : Yp := { k with r := RD.up k.r n }
def YG (A : Option Addr) (c : Nat) (its : List It) (B : Option Addr) (m : Nat) (sl : List (Option Addr × Nat × Nat)) (bl : List (List UInt8)) (G : List Gs) : List Gs := ⟨63, 4, .slice A its.length c, its.length, itsV its⟩ :: ⟨47, 1, .slice B bl.length m, bl.length, sl.map slv⟩ :: G
def YF (k : Yp) (F : List (World → Prop)) : List (World → Prop) := (fun W => GeoAt W k.gb k.cf.b k.cf.s k.cf.l) :: F
/-- the program's writer at z, the reference's at y -/
def YY (w0 w : World) (k : Yp) (z y : Wr) (L : List (Nat × List Value)) (G : List Gs) (F : List (World → Prop)) : Prop :=
 ∃ (A : Option Addr) (c : Nat) (B : Option Addr) (m : Nat) (sl : List (Option Addr × Nat × Nat)) (A' : Option Addr) (c' : Nat) (B' : Option Addr) (m' : Nat) (sl' : List (Option Addr × Nat × Nat)),
  Duo w0 w k.p k.r z.d y.d ⟨(k.W, WB k.p.D k.gb k.q.T z.p (.slice A z.its.length c) (.slice B z.bl.length m)) :: k.q.L z.t ((k.X, XB k.r k.u k.cf y.p (.slice A' y.its.length c') (.slice B' y.bl.length m')) :: k.u.L k.cf y.t ((k.Z, k.box) :: L)),
   YG A c z.its B m sl z.bl (YG A' c' y.its B' m' sl' y.bl G), (fun W => Bls W sl z.bl) :: (fun W => Bls W sl' y.bl) :: YF k F⟩
section
variable {w0 w w' : World} {k : Yp} {z y : Wr} {L : List (Nat × List Value)} {G : List Gs} {F : List (World → Prop)}
theorem YY.ofW (h : YY w0 w k z y L G F) : ∃ L1 G1 F1, (fun W => GeoAt W k.gb k.cf.b k.cf.s k.cf.l) ∈ F1 ∧ (∀ f ∈ F, f ∈ F1) ∧ WrIn w0 w k.p k.r y.d k.W k.gb k.q z L1 G1 F1 ∧ ∀ w' z', WrIn w0 w' k.p k.r y.d k.W k.gb k.q z' L1 G1 F1 → YY w0 w' k z' y L G F := by
 obtain ⟨A, c, B, m, sl, A', c', B', m', sl', h⟩ := h
 refine ⟨_, _, (fun W => Bls W sl' y.bl) :: YF k F, by simp [YF], fun f hf => by simp [YF, hf], ⟨A, c, B, m, sl, h⟩, fun w' z' h' => ?_⟩
 obtain ⟨A, c, B, m, sl, h'⟩ := h'
 exact ⟨A, c, B, m, sl, A', c', B', m', sl', h'⟩
theorem YY.ofX (h : YY w0 w k z y L G F) : ∃ L1 G1 F1, (∀ f ∈ F, f ∈ F1) ∧ XrIn w0 w k.p k.r z.d k.X k.u k.cf y L1 G1 F1 ∧ ∀ w' y' n, XrIn w0 w' k.p (RD.up k.r n) z.d k.X k.u k.cf y' L1 G1 F1 → YY w0 w' (k.up n) z y' L G F := by
 obtain ⟨A, c, B, m, sl, A', c', B', m', sl', h⟩ := h
 refine ⟨(k.W, WB k.p.D k.gb k.q.T z.p (.slice A z.its.length c) (.slice B z.bl.length m)) :: k.q.L z.t ((k.Z, k.box) :: L), YG A c z.its B m sl z.bl G, (fun W => Bls W sl z.bl) :: YF k F, fun f hf => by simp [YF, hf], ⟨A', c', B', m', sl', ?_⟩, fun w' y' n h' => ?_⟩
 ·refine Duo.subF (Duo.permG (h.permL (perm_any (fun c => by simp only [TD.L, RT.L, List.map_cons, List.sum_cons]; omega))) (G' := ⟨63, 4, .slice A' y.its.length c', y.its.length, itsV y.its⟩ :: ⟨47, 1, .slice B' y.bl.length m', y.bl.length, sl'.map slv⟩ :: YG A c z.its B m sl z.bl G) ?_) ?_
  ·exact (List.perm_append_comm (l₁ := [_, _]) (l₂ := [_, _])).append_right G
  ·intro f hf
   simp only [List.mem_cons] at hf ⊢
   rcases hf with hf | hf | hf <;> simp [hf]
 ·obtain ⟨A', c', B', m', sl', h'⟩ := h'
  have h2 := h'.permL (L' := (k.W, WB k.p.D k.gb k.q.T z.p (.slice A z.its.length c) (.slice B z.bl.length m)) :: k.q.L z.t ((k.X, XB (RD.up k.r n) k.u k.cf y'.p (.slice A' y'.its.length c') (.slice B' y'.bl.length m')) :: k.u.L k.cf y'.t ((k.Z, k.box) :: L))) (perm_any (fun c => by simp only [TD.L, RT.L, List.map_cons, List.sum_cons]; omega))
  have h3 := Duo.permG h2 (G' := YG A c z.its B m sl z.bl (YG A' c' y'.its B' m' sl' y'.bl G)) ((List.perm_append_comm (l₁ := [_, _]) (l₂ := [_, _])).append_right G)
  have h4 := Duo.subF h3 (F' := (fun W => Bls W sl z.bl) :: (fun W => Bls W sl' y'.bl) :: YF k F) (fun f hf => by
   simp only [List.mem_cons] at hf ⊢
   rcases hf with hf | hf | hf <;> simp [hf])
  exact ⟨A, c, B, m, sl, A', c', B', m', sl', h4⟩
theorem YY.duo (h : YY w0 w k z y L G F) : ∃ L' L'' G' F', Duo w0 w k.p k.r z.d y.d ⟨(k.W, L') :: k.q.L z.t ((k.X, L'') :: k.u.L k.cf y.t ((k.Z, k.box) :: L)), G', F'⟩ := by
 obtain ⟨A, c, B, m, sl, A', c', B', m', sl', h⟩ := h
 exact ⟨_, _, _, _, h⟩
theorem YY.only (h : YY w0 w k z y L G F) : Only [] w0 w := by
 obtain ⟨_, _, _, _, h⟩ := h.duo
 exact h.only
theorem YY.keep0 (h : YY w0 w k z y L G F) (hO : Only [] w w') : YY w0 w' k z y L G F := by
 obtain ⟨A, c, B, m, sl, A', c', B', m', sl', h⟩ := h
 exact ⟨A, c, B, m, sl, A', c', B', m', sl', h.keep0 hO⟩
theorem YY.drew (h : YY w0 w k z y L G F) : YY w0 w.drew k z y L G F := h.keep0 (Only.refl _ _).drew
theorem YY.zbox (h : YY w0 w k z y L G F) : Kn.Own w k.Z k.box := by
 obtain ⟨_, _, _, _, h⟩ := h.duo
 exact h.boxi 8 rfl
theorem YY.box (h : YY w0 w k z y L G F) {x : Nat × List Value} (hx : x ∈ L) : Kn.Own w x.1 x.2 := by
 obtain ⟨_, _, _, _, h⟩ := h.duo
 exact h.box (x := x) (by unfold TD.L RT.L; simp [hx])
theorem YY.fact (h : YY w0 w k z y L G F) {f : World → Prop} (hf : f ∈ F) : f w := by
 obtain ⟨A, c, B, m, sl, A', c', B', m', sl', h⟩ := h
 exact h.fact (by simp [YF, hf])
theorem YY.newB (h : YY w0 w k z y L G F) (cs : Array Value) (t : TypeId) {b : Nat} (hb : w.heap.size = b) : YY w0 (w.alloc (.cells cs t)) k z y ((b, cs.toList) :: L) G F := by
 obtain ⟨A, c, B, m, sl, A', c', B', m', sl', h⟩ := h
 exact ⟨A, c, B, m, sl, A', c', B', m', sl', (h.newB cs t hb).permL (perm_any (fun c => by simp only [TD.L, RT.L, List.map_cons, List.sum_cons]; omega))⟩
theorem YY.ldrop {x : Nat × List Value} (h : YY w0 w k z y (x :: L) G F) : YY w0 w k z y L G F := by
 obtain ⟨A, c, B, m, sl, A', c', B', m', sl', h⟩ := h
 exact ⟨A, c, B, m, sl, A', c', B', m', sl', Duo.ldrop (x := x) (h.permL (perm_any (fun c => by simp only [TD.L, RT.L, List.map_cons, List.sum_cons]; omega)))⟩
theorem YY.addFc (h : YY w0 w k z y L G F) (hO : Only [] w w') {f : World → Prop} (hf : Fc w' (fun j => j < w.heap.size) f) : YY w0 w' k z y L G (f :: F) := by
 obtain ⟨A, c, B, m, sl, A', c', B', m', sl', h⟩ := h
 refine ⟨A, c, B, m, sl, A', c', B', m', sl', (h.addFc hO hf).subF fun g hg => ?_⟩
 simp only [YF, List.mem_cons] at hg ⊢
 rcases hg with h | h | h | h | h <;> simp [h]
theorem YY.subF (h : YY w0 w k z y L G F) {F' : List (World → Prop)} (hF : ∀ f ∈ F', f ∈ F) : YY w0 w k z y L G F' := by
 obtain ⟨A, c, B, m, sl, A', c', B', m', sl', h⟩ := h
 refine ⟨A, c, B, m, sl, A', c', B', m', sl', h.subF fun g hg => ?_⟩
 simp only [YF, List.mem_cons] at hg ⊢
 rcases hg with h | h | h | h
 ·exact .inl h
 ·exact .inr (.inl h)
 ·exact .inr (.inr (.inl h))
 ·exact .inr (.inr (.inr (hF _ h)))
theorem YY.fdrop {f : World → Prop} (h : YY w0 w k z y L G (f :: F)) : YY w0 w k z y L G F := h.subF fun g hg => List.mem_cons_of_mem _ hg
/-- what the walk asks of both -/
structure By (k : Yp) (i : Nat) (z : Wr) : Prop where
 b : Bw k.cf k.q.n (1073741824 + 2 * (i : Int)) (16 * i) z
 ok : k.cf.Ok
 s : k.cf.s = (k.q.n : Int)
 u : k.u.n = k.q.n
 n : k.q.n ≤ 1000
 le : i ≤ 100
 K : k.r.K ≤ 4 * i
theorem yy_add {i : Nat} {x : It} (h : YY w0 w k z y L G F) (hb : By k i z) {Ab : Option Addr} {n cb : Nat} {b : List UInt8} (sp : Bool) (hby : (fun W => Bys W Ab n cb b) ∈ F) (hn : n ≤ 100000) :
  Calls Tryz.prog 42 #[.pointer (some ⟨k.W, 0, none⟩), .agg #[.int .i64 x.k, .int .i64 x.b, .int .i64 x.c, .int .i64 x.v], .slice Ab n cb, .bool sp] w fun en w' => en = .returned (.tuple #[.int .i64 (z.add k.cf x b sp).2.1, .int .i64 (z.add k.cf x b sp).2.2]) ∧ YY w0 w' k (z.add k.cf x b sp).1 y L G F := by
 obtain ⟨L1, G1, F1, hg, hF, h1, back⟩ := h.ofW
 have hc := hb.ok.2.2
 have b1 := hb.b.o
 have b2 := hb.b.l
 have b3 := hb.b.held
 have b4 := hb.b.six
 have b5 := hb.b.bi
 have b6 := hb.le
 refine (wr_add_any w0 w k.p k.r y.d k.W k.gb k.q z x.k x.b x.c x.v Ab n cb b sp k.cf L1 G1 F1 h1 hg (hF _ hby) hb.ok hb.b.ok hb.n hb.b.s (by omega) (by omega) (by omega) (by omega) (by omega) (by omega)).mono ?_
 rintro en w1 ⟨rfl, h2⟩
 exact ⟨rfl, back _ _ h2⟩
theorem yy_xadd {i : Nat} {x : It} (h : YY w0 w k z y L G F) (hb : By k i y) {Ab : Option Addr} {n cb : Nat} {b : List UInt8} (sp : Bool) (hby : (fun W => Bys W Ab n cb b) ∈ F) (hn : n ≤ 100000) :
  Calls Tryz.prog 43 #[.pointer (some ⟨k.X, 0, none⟩), .agg #[.int .i64 x.k, .int .i64 x.b, .int .i64 x.c, .int .i64 x.v], .slice Ab n cb, .bool sp] w fun en w' => en = .returned (.tuple #[.int .i64 (y.add k.cf x b sp).2.1, .int .i64 (y.add k.cf x b sp).2.2]) ∧ YY w0 w' (k.up 4) z (y.add k.cf x b sp).1 L G F := by
 obtain ⟨L1, G1, F1, hF, h1, back⟩ := h.ofX
 have hc := hb.ok.2.2
 have b1 := hb.b.o
 have b2 := hb.b.l
 have b3 := hb.b.held
 have b4 := hb.b.six
 have b5 := hb.b.bi
 have b6 := hb.le
 have b7 := hb.K
 have b8 := hb.u
 have b9 := hb.n
 refine (xw_add_any w0 w k.p k.r z.d k.X k.u y x.k x.b x.c x.v Ab n cb b sp k.cf L1 G1 F1 h1 (hF _ hby) hb.ok (by rw [b8]; exact hb.b.ok) (by omega) hb.b.s (by omega) (by omega) (by omega) (by omega) (by omega) (by omega) (by omega)).mono ?_
 rintro en w1 ⟨rfl, h2⟩
 exact ⟨rfl, back _ _ 4 h2⟩
theorem yy_emit {i : Nat} (h : YY w0 w k z y L G F) (hb : By k i z) :
  Calls Tryz.prog 44 #[.pointer (some ⟨k.W, 0, none⟩)] w fun en w' => en = .returned (.int .i64 (z.emit k.cf).2) ∧ YY w0 w' k (z.emit k.cf).1 y L G F := by
 obtain ⟨L1, G1, F1, hg, hF, h1, back⟩ := h.ofW
 have hc := hb.ok.2.2
 have b1 := hb.b.o
 have b2 := hb.b.l
 have b3 := hb.b.held
 have b4 := hb.b.six
 have b6 := hb.le
 refine (wr_emit_any w0 w k.p k.r y.d k.W k.gb k.q z k.cf L1 G1 F1 h1 hg hb.ok hb.b.ok hb.n hb.b.s (by omega) (by omega) (by omega)).mono ?_
 rintro en w1 ⟨rfl, h2⟩
 exact ⟨rfl, back _ _ h2⟩
theorem yy_xemit {i : Nat} (h : YY w0 w k z y L G F) (hb : By k i y) :
  Calls Tryz.prog 45 #[.pointer (some ⟨k.X, 0, none⟩)] w fun en w' => en = .returned (.int .i64 (y.emit k.cf).2) ∧ YY w0 w' (k.up 2) z (y.emit k.cf).1 L G F := by
 obtain ⟨L1, G1, F1, hF, h1, back⟩ := h.ofX
 have hc := hb.ok.2.2
 have b1 := hb.b.o
 have b2 := hb.b.l
 have b3 := hb.b.held
 have b6 := hb.le
 have b7 := hb.K
 have b8 := hb.u
 have b9 := hb.n
 refine (xw_emit_any w0 w k.p k.r z.d k.X k.u y k.cf L1 G1 F1 h1 hb.ok (by rw [b8]; exact hb.b.ok) (by omega) hb.b.s (by omega) (by omega) (by omega) (by omega)).mono ?_
 rintro en w1 ⟨rfl, h2⟩
 exact ⟨rfl, back _ _ 2 h2⟩
theorem yy_read {i : Nat} (h : YY w0 w k z y L G F) (hb : By k i z) (a : Int) :
  Calls Tryz.prog 46 #[.pointer (some ⟨k.W, 0, none⟩), .int .i64 a] w (RdSays w (z.rd k.cf a).1 (z.rd k.cf a).2) := by
 obtain ⟨L1, G1, F1, hg, hF, h1, back⟩ := h.ofW
 have hc := hb.ok.2.2
 have b1 := hb.b.o
 have b4 := hb.b.six
 have b5 := hb.b.bi
 exact wr_read_any w0 w k.p k.r _ k.W k.gb k.q z a k.cf _ _ _ h1 hg hb.ok (by omega) (by omega) hb.b.f64
theorem yy_xread {i : Nat} (h : YY w0 w k z y L G F) (hb : By k i y) (a : Int) (haw : (Lit.int .i64 a).wf = true) :
  Calls Tryz.prog 47 #[.pointer (some ⟨k.X, 0, none⟩), .int .i64 a] w (RdSays w (y.rd k.cf a).1 (y.rd k.cf a).2) := by
 obtain ⟨L1, G1, F1, hF, h1, back⟩ := h.ofX
 have hc := hb.ok.2.2
 have b1 := hb.b.o
 have b3 := hb.b.held
 have b4 := hb.b.six
 have b5 := hb.b.bi
 have b6 := hb.le
 exact xw_read_any w0 w k.p k.r _ k.X k.u y a k.cf _ _ _ h1 hb.ok hb.b.s (by omega) (by omega) hb.b.f64 (by omega) haw
theorem YY.dk (h : YY w0 w k z y L G F) : ∃ c, Duo w0 w k.p k.r z.d y.d c ∧ ∀ w' d' e', Duo w0 w' k.p k.r d' e' c → YY w0 w' k { z with d := d' } { y with d := e' } L G F := by
 obtain ⟨A, c, B, m, sl, A', c', B', m', sl', h⟩ := h
 exact ⟨_, h, fun w' d' e' h' => ⟨A, c, B, m, sl, A', c', B', m', sl', h'⟩⟩
theorem yy_fuse (h : YY w0 w k z y L G F) (a : Int) (ha : a ≤ 9223372036854775807) :
  Calls Tryz.prog 49 #[.pointer (some ⟨k.p.D, 0, none⟩), .int .i64 a] w fun en w' => en = .returned (.tuple #[]) ∧ YY w0 w' k { z with d := z.d.fused a } y L G F := by
 obtain ⟨c, h1, back⟩ := h.dk
 refine (duo_fuse h1 a ha).mono ?_
 rintro en w1 ⟨rfl, h2⟩
 exact ⟨rfl, back _ _ _ h2⟩
theorem yy_xfuse (h : YY w0 w k z y L G F) (a : Int) (ha : a ≤ 9223372036854775807) :
  Calls Tryz.prog 50 #[.pointer (some ⟨k.r.M, 0, none⟩), .int .i64 a] w fun en w' => en = .returned (.tuple #[]) ∧ YY w0 w' k z { y with d := y.d.fused a } L G F := by
 obtain ⟨c, h1, back⟩ := h.dk
 refine (duo_rfuse h1 a ha).mono ?_
 rintro en w1 ⟨rfl, h2⟩
 exact ⟨rfl, back _ _ _ h2⟩
end
end Go.Proofs.YtgcfdjcpcclcjaaGreat
namespace Go.Kn
open Go Go.RowKit
def fillAt (x : Int) (k : Nat) : UInt8 := UInt8.ofNat ((x % 256).toNat + k)
/-- 64 bytes that begin with a number and count on -/
def fillB (x : Int) : List UInt8 := (List.range 64).map (fillAt x)
def fillP (x : Int) (t : Nat) : List UInt8 := (List.range 64).map fun k => if k < t then fillAt x k else 0
theorem fillP_zero (x : Int) : fillP x 0 = List.replicate 64 0 := by
 unfold fillP
 simp only [Nat.not_lt_zero, if_false]
 rfl
theorem fillP_full (x : Int) : fillP x 64 = fillB x := by
 unfold fillP fillB
 apply List.map_congr_left
 intro k hk
 rw [if_pos (List.mem_range.1 hk)]
@[simp] theorem fillP_length (x : Int) (t : Nat) : (fillP x t).length = 64 := by simp [fillP]
theorem fillP_get (x : Int) (t i : Nat) (h : i < (fillP x t).length) : (fillP x t)[i] = if i < t then fillAt x i else 0 := by simp [fillP]
theorem fillP_set (x : Int) (t : Nat) (ht : t < 64) : (fillP x t).set t (fillAt x t) = fillP x (t + 1) := by
 apply List.ext_getElem
 ·simp
 ·intro i h1 h2
  rw [List.getElem_set, fillP_get, fillP_get]
  by_cases h : t = i
  ·subst h
   rw [if_pos rfl, if_pos (by omega)]
  ·rw [if_neg h]
   by_cases h3 : i < t
   ·rw [if_pos h3, if_pos (by omega)]
   ·rw [if_neg h3, if_neg (by omega)]
theorem fill_wrap (x : Int) (t : Nat) : IntKind.u8.wrap ((x % 256 + (t : Int)) % 256) = ((fillAt x t).toNat : Int) := by
 unfold fillAt
 rw [UInt8.toNat_ofNat']
 simp [IntKind.wrap, IntKind.signed, IntKind.bits]
 omega
end Go.Kn
namespace Go.Proofs.YtgcfdjcpcclcjaaGreat
open Go Go.RowKit Go.Kn
set_option maxRecDepth 100000 in
set_option maxHeartbeats 4000000 in
theorem fill_any (x : Int) (w : World) (hx : (Lit.int .i64 x).wf = true) :
  Calls Tryz.prog 108 #[.int .i64 x] w fun e w' => ∃ g, e = .returned (.slice (some ⟨g, 0, none⟩) 64 64) ∧ w.heap.size ≤ g ∧ Kn.Own w' g (bvs (fillB x)) ∧ Only [] w w' := by
 have hmk : ∀ w : World, (Instr.makeSlice 47 (.int .i64 64) (.int .i64 64)).run Tryz.prog w = .ok (.slice (some ⟨w.heap.size, 0, none⟩) 64 64) (w.alloc (.cells (bvs (List.replicate 64 0)).toArray 5)) := make_bys 64 (by decide)
 have HX := Lib.hid hx
 clear hx
 go_enter Tryz.func108, Tryz.ntmps108
 go_wp2_with fail
 have h0 : Kn.Own (w.alloc (.cells (bvs (List.replicate 64 0)).toArray 5)) w.heap.size (bvs (fillP x 0)) := by
  rw [fillP_zero]
  exact Own.new w (bvs (List.replicate 64 0)).toArray 5
 have HO0 := Lib.hid ((Only.refl [] w).alloc (.cells (bvs (List.replicate 64 0)).toArray 5))
 have HW0 := Lib.hid h0
 clear h0 hmk
 go_loopg [4] 64 (fun r i wr => ∃ t : Nat, t + r = 64 ∧ i = .int .i64 t ∧ Kn.Own wr w.heap.size (bvs (fillP x t)) ∧ Only [] w wr)
 case atStart => exact ⟨0, by omega, rfl, HW0.out, HO0.out⟩
 obtain ⟨t, ht, rfl, hown, hO⟩ := hrel
 have HO := Lib.hid hO
 have HOWN := Lib.hid hown
 clear hO hown
 by_cases ht64 : t < 64
 ·have q0 := HOWN.out.cell t (by simpa using ht64)
  have f0 := HOWN.out.frozen t
  have hst := HOWN.out.set t (.int .u8 ((fillAt x t).toNat : Int))
  have hse : (bvs (fillP x t)).set t (.int .u8 ((fillAt x t).toNat : Int)) = bvs (fillP x (t + 1)) := by
   rw [← fillP_set x t ht64, bvs, bvs, List.map_set]
  rw [hse] at hst
  have HST := Lib.hid hst
  have hwr := fill_wrap x t
  generalize (bvs (fillP x t))[t] = old at *
  generalize (fillAt x t).toNat = cc at *
  clear hst hse
  have hx1 : (t : Int) < 64 := by omega
  have hx0 : 0 ≤ (t : Int) := by omega
  have htt : ((t : Int)).toNat = t := by omega
  have hm0 : 0 ≤ x % 256 := Int.emod_nonneg _ (by decide)
  have hm1 : x % 256 < 256 := Int.emod_lt_of_pos _ (by decide)
  generalize hmm : x % 256 = m at *
  have HMM := Lib.hid hmm
  clear hmm
  go_wp2_with fail
  refine (round_any x 256 _ HX.out (by decide) (by decide)).mono ?_
  rintro e w' ⟨rfl, rfl⟩
  rw [HMM.out]
  go_wp2_with fail
  have hwf : (Lit.int .i64 (m + (t : Int))).wf = true := by simp [Lit.wf, IntKind.min, IntKind.max, IntKind.signed, IntKind.bits]; omega
  refine (round_any (m + (t : Int)) 256 _ hwf (by decide) (by decide)).mono ?_
  rintro e w' ⟨rfl, rfl⟩
  clear hwf
  go_wp2_with fail
  go_roundg (gk - 1)
  case measure => omega
  case rel => exact ⟨t + 1, by omega, by go_num, HST.out, HO.out.set (.inr (Nat.le_refl _)) _⟩
 ·obtain rfl : t = 64 := by omega
  have hown := HOWN.out
  rw [fillP_full] at hown
  have HF := Lib.hid hown
  go_wp2
  go_ret
  exact ⟨_, rfl, Nat.le_refl _, HF.out, HO.out⟩
end Go.Proofs.YtgcfdjcpcclcjaaGreat
namespace Go.Kn
open Go Go.RowKit
/-- a device of eight short segments -/
def c8 : Cf := ⟨8, 8, 24⟩
theorem c8ok : c8.Ok := ⟨by decide, by decide, by decide⟩
theorem Hw.start {c : Cf} (hc : c.Ok) {p : Ps} (t : Tb) (hp : posMay c.s c.l p.s p.o p.l p.p p.m = true) : Hw c ⟨Dk.new c.sectors.toNat, t, p, [], []⟩ := by
 obtain ⟨g1, g2, g3⟩ := Cf.sec c hc 0 (by decide) (by have := hc.2.1; omega)
 have hl := hc.2.2
 unfold posMay at hp
 simp only [Bool.and_eq_true, decide_eq_true_eq] at hp
 obtain ⟨h1, h2, h3, h4, h5⟩ := hp
 exact { cok := hc, rdy := Rdy.new (by omega) (by omega), len := by simp [Dk.new]; omega, s := h1, o := h2, l := h3.1, pp := h5, m := h4, may := rfl, k7 := by simp, ld := rfl, f64 := rfl, six := by simp, fit := .inl rfl }
def absAdd (o n : Nat) : Option (Nat × Nat) :=
 if n + 1 ≤ 6 ∧ max o 1 + n + 2 < 24 then some (o, n + 1)
 else if max (if n = 0 then o else max o 1 + 1 + n) 1 + 2 < 24 then some ((if n = 0 then o else max o 1 + 1 + n), 1)
 else none
def absEmit (o n : Nat) : Nat × Nat := if n = 0 then (o, n) else (max o 1 + 1 + n, 0)
structure SpI (o n m : Nat) (z : Wr) : Prop where
 h : Hw c8 z
 s : z.p.s = 0
 po : z.p.o = (o : Int)
 ni : z.its.length = n
 bn : z.bl.length = n
 l : z.p.l ≤ 1 + (m : Int)
 held : z.d.held.length ≤ 9 * m
 st : z.t.sts = [1, 2, 2, 2, 2, 2, 0, 0]
 ok : z.t.Ok 8
def spIt (x : Int) : It := ⟨1, x, 0, 0⟩
section
variable {o n m : Nat} {z : Wr} {x : Int} {b : List UInt8}
theorem spIt_may (hx : 0 ≤ x ∧ x ≤ 63) : (spIt x).may = true := (may_k 1 x 0 0).2 (.inl ⟨.inl rfl, hx, rfl, rfl⟩)
theorem spIt_ld (hx : 0 ≤ x ∧ x ≤ 63) : (spIt x).loaded = true := by
 unfold It.loaded
 rw [spIt_may hx]
 rfl
theorem sp_vok (hx : 0 ≤ x ∧ x ≤ 63) (hb : b.length = 64) : Wr.vok (spIt x) b := ⟨spIt_may hx, by show (1 : Int) ≠ 7; decide, by rw [spIt_ld hx, if_pos rfl]; exact hb⟩
theorem SpI.free (h : SpI o n m z) : z.t.free = 2 := by
 rw [free_sts, h.st]
 rfl
theorem SpI.emit (h : SpI o n m z) (hm : m ≤ 200) : (z.emit c8).2 = 0 ∧ SpI (absEmit o n).1 (absEmit o n).2 (m + 1) (z.emit c8).1 := by
 have hlm := h.l
 have hhm := h.held
 unfold absEmit
 by_cases hn : z.its = []
 ·have h0 : n = 0 := by rw [← h.ni, hn]; rfl
  rw [h.h.emit0 hn, if_pos h0]
  exact ⟨rfl, { h := h.h, s := h.s, po := h.po, ni := h.ni, bn := h.bn, l := by push_cast; omega, held := by show z.d.held.length ≤ _; omega, st := h.st, ok := h.ok }⟩
 ·have hne : n ≠ 0 := fun e => hn (List.length_eq_zero_iff.1 (by rw [h.ni, e]))
  obtain ⟨d, e1, e2, e3, e4, _⟩ := h.h.emit (by omega) hn
  have hr := rcSum_lt2 (h.h.recMay (by omega) hn)
  have hll := h.h.l
  have hob := h.h.o.1
  have hfit := h.h.fit.resolve_left hn
  have h6 := h.h.six
  have hbn := h.bn
  have hnn := h.ni
  have ho := h.po
  rw [e1, if_neg hne]
  refine ⟨rfl, { h := { cok := h.h.cok, rdy := e2, len := e3, s := h.h.s, o := ⟨by show 0 ≤ behind _ _; unfold behind; omega, hfit⟩, l := by show 1 ≤ z.p.l + 1; omega, pp := ⟨by show (0 : Int) ≤ (rcSum _ : Nat); omega, by show ((rcSum _ : Nat) : Int) ≤ _; omega⟩, m := h.h.m, may := rfl, k7 := by simp, ld := rfl, f64 := rfl, six := by simp, fit := .inl rfl }, s := h.s, po := ?_, ni := rfl, bn := rfl, l := by show z.p.l + 1 ≤ _; push_cast; omega, held := ?_, st := (sts_touch _ _ _).trans h.st, ok := h.ok.touch _ _ }⟩
  ·show behind z.p.o z.bl.length = _
   unfold behind
   rw [ho, hbn]
   push_cast
   omega
  ·show d.held.length ≤ _
   rw [e4]
   split <;> omega
theorem add_turn_ok {z y w : Wr} {k : Int} (h : Hw c8 z) (hok : z.t.Ok 8) (y1 : y = { z with t := z.t.grab k } ∧ z.its = [] ∨ z.its ≠ [] ∧ Wr.emit c8 { z with t := z.t.grab k } = (y, 0)) (x8 : w.t = (y.t.touch y.p.s y.p.l).shut y.p.s) : w.t.Ok 8 := by
 have hy8 : y.t.Ok 8 := by
  rcases y1 with ⟨rfl, _⟩ | ⟨hn, e⟩
  ·exact hok.grab _
  ·have := (Go.Proofs.YtgcfdjcpcclcjaaGreat.emit_s c8 { z with t := z.t.grab k } h.o.1).2.2.2.1 8 (hok.grab _)
   rw [e] at this
   exact this
 rw [x8]
 exact (hy8.touch _ _).shut _
theorem SpI.add (h : SpI o n m z) (hm : m ≤ 200) (hx : 0 ≤ x ∧ x ≤ 63) (hb : b.length = 64) :
  (absAdd o n = none ∧ z.add c8 (spIt x) b false = (z, 0, 6) ∧ ∃ y, z.add c8 (spIt x) b true = (y, Wr.at_ c8 { y with its := [], bl := [] } (spIt x), 0) ∧ y.t.free = 1 ∧ y.p.s ≠ 0 ∧ y.its.length = 1 ∧ y.t.Ok 8) ∨
   ∃ o' n', absAdd o n = some (o', n') ∧ (z.add c8 (spIt x) b false).2.2 = 0 ∧ SpI o' n' (m + 1) (z.add c8 (spIt x) b false).1 := by
 have hv := sp_vok hx hb
 have hnb : nbl (spIt x) = 1 := by unfold nbl; rw [spIt_ld hx]; rfl
 have hlm := h.l
 have hhm := h.held
 have hll := h.h.l
 have hob := h.h.o.1
 have hbn := h.bn
 have hnn := h.ni
 have ho := h.po
 have h6 := h.h.six
 have hput : ∀ y : Wr, (y.put (spIt x) b).its = y.its ++ [spIt x] ∧ (y.put (spIt x) b).bl = y.bl ++ [b] := by
  intro y
  unfold Wr.put
  rw [spIt_ld hx]
  exact ⟨rfl, rfl⟩
 have hbh : ∀ k : Nat, behind z.p.o k = ((max o 1 + 1 + k : Nat) : Int) := by
  intro k
  unfold behind
  rw [ho]
  push_cast
  omega
 have hcl : c8.l = 24 := rfl
 by_cases h1 : z.its.length + 1 ≤ 6 ∧ behind z.p.o (z.bl.length + nbl (spIt x)) < c8.l
 ·have ha : absAdd o n = some (o, n + 1) := by
   unfold absAdd
   rw [if_pos]
   obtain ⟨a1, a2⟩ := h1
   rw [hbh, hnb, hcl] at a2
   omega
  obtain ⟨e1, e2⟩ := add_fit (sp := false) h.h hv h1.1 h1.2
  refine .inr ⟨o, n + 1, ha, by rw [e1], ?_⟩
  rw [e1]
  obtain ⟨p1, p2⟩ := hput z
  exact { h := e2, s := h.s, po := h.po, ni := by rw [p1]; simp [hnn], bn := by rw [p2]; simp [hbn], l := by show z.p.l ≤ _; push_cast; omega, held := by show z.d.held.length ≤ _; omega, st := h.st, ok := h.ok }
 ·have hA : ¬ (n + 1 ≤ 6 ∧ max o 1 + n + 2 < 24) := by
   intro hh
   apply h1
   rw [hbh, hnb, hcl]
   omega
  by_cases hn : z.its = []
  ·have h0 : n = 0 := by rw [← hnn, hn]; rfl
   have hz0 : z.its.length = 0 := by omega
   have h2 : ¬ behind (if z.its = [] then z.p.o else behind z.p.o z.bl.length) (nbl (spIt x)) < c8.l := by
    rw [if_pos hn, hnb, hbh, hcl]
    omega
   refine .inl ⟨?_, add_none h.h hv h1 h2 (by unfold Tb.takes; rw [h.free]; rfl), ?_⟩
   ·unfold absAdd
    rw [if_neg hA, if_neg (by rw [if_pos h0]; omega)]
   ·have hidx : Tb.idx z.t.us = ((6 : Nat) : Int) := by
     rw [idx_sts, show z.t.us.map Us.st = _ from h.st]
     rfl
    obtain ⟨y, w, y1, y2, y3, y4, y5, y6, y7, y8, y9, x1, x2, x3, x4, x5, x6, x7, x8, x9, x10, x11⟩ := add_turn (sp := true) h.h hv (by omega) h1 h2 rfl hidx (by decide)
    obtain ⟨p1, p2⟩ := hput w
    have hg6 : (z.t.grab ((6 : Nat) : Int)).sts = [1, 2, 2, 2, 2, 2, 1, 0] := by
     rw [sts_grab (by rw [h.st]; decide), h.st]
     rfl
    refine ⟨w.put (spIt x) b, ?_, ?_, ?_, ?_, add_turn_ok h.h h.ok y1 x8⟩
    ·rw [x10]
     show _ = (_, Wr.at_ c8 ⟨w.d, w.t, w.p, [], []⟩ (spIt x), 0)
     have hw : w = ⟨w.d, w.t, w.p, [], []⟩ := by
      obtain ⟨wd, wt, wp, wi, wb⟩ := w
      simp only at x3 x4
      subst x3 x4
      rfl
     rw [← hw]
    ·show w.t.free = 1
     rw [free_sts, x8]
     have hs0 : y.p.s = 0 := y7.trans h.s
     rw [hs0, sts_shut (by rw [sts_touch, y8, hg6]; decide), sts_touch, y8, hg6]
     rfl
    ·show w.p.s ≠ 0
     rw [x6]
     decide
    ·rw [p1, x3]
     rfl
  ·have hne : n ≠ 0 := fun e => hn (List.length_eq_zero_iff.1 (by rw [hnn, e]))
   by_cases h2 : behind (behind z.p.o z.bl.length) (nbl (spIt x)) < c8.l
   ·obtain ⟨y, e0, e1, e2, e3, e4, e5⟩ := add_emit (sp := false) h.h hv (by omega) h1 hn h2
    obtain ⟨f1, f2⟩ := h.emit hm
    rw [e0] at f2
    have hE : absEmit o n = (max o 1 + 1 + n, 0) := by unfold absEmit; rw [if_neg hne]
    rw [hE] at f2
    refine .inr ⟨max o 1 + 1 + n, 1, ?_, by rw [e4], ?_⟩
    ·unfold absAdd
     rw [if_neg hA, if_pos, if_neg hne]
     rw [if_neg hne]
     rw [hbh, hnb, hcl, hbn] at h2
     unfold behind at h2
     omega
    ·rw [e4]
     obtain ⟨p1, p2⟩ := hput y
     exact { h := e5, s := f2.s, po := f2.po, ni := by rw [p1, e2]; rfl, bn := by rw [p2, e3]; rfl, l := f2.l, held := f2.held, st := f2.st, ok := f2.ok }
   ·have h2' : ¬ behind (if z.its = [] then z.p.o else behind z.p.o z.bl.length) (nbl (spIt x)) < c8.l := by
     rw [if_neg hn]
     exact h2
    refine .inl ⟨?_, add_none h.h hv h1 h2' (by unfold Tb.takes; rw [h.free]; rfl), ?_⟩
    ·unfold absAdd
     rw [if_neg hA, if_neg]
     rw [if_neg hne]
     rw [hbh, hnb, hcl, hbn] at h2
     unfold behind at h2
     omega
    ·have hidx : Tb.idx z.t.us = ((6 : Nat) : Int) := by
      rw [idx_sts, show z.t.us.map Us.st = _ from h.st]
      rfl
     obtain ⟨y, w, y1, y2, y3, y4, y5, y6, y7, y8, y9, x1, x2, x3, x4, x5, x6, x7, x8, x9, x10, x11⟩ := add_turn (sp := true) h.h hv (by omega) h1 h2' rfl hidx (by decide)
     obtain ⟨p1, p2⟩ := hput w
     have hg6 : (z.t.grab ((6 : Nat) : Int)).sts = [1, 2, 2, 2, 2, 2, 1, 0] := by
      rw [sts_grab (by rw [h.st]; decide), h.st]
      rfl
     refine ⟨w.put (spIt x) b, ?_, ?_, ?_, ?_, add_turn_ok h.h h.ok y1 x8⟩
     ·rw [x10]
      show _ = (_, Wr.at_ c8 ⟨w.d, w.t, w.p, [], []⟩ (spIt x), 0)
      have hw : w = ⟨w.d, w.t, w.p, [], []⟩ := by
       obtain ⟨wd, wt, wp, wi, wb⟩ := w
       simp only at x3 x4
       subst x3 x4
       rfl
      rw [← hw]
     ·show w.t.free = 1
      rw [free_sts, x8]
      have hs0 : y.p.s = 0 := y7.trans h.s
      rw [hs0, sts_shut (by rw [sts_touch, y8, hg6]; decide), sts_touch, y8, hg6]
      rfl
     ·show w.p.s ≠ 0
      rw [x6]
      decide
     ·rw [p1, x3]
      rfl
end
end Go.Kn
