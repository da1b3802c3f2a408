/- WrB, ChnB, WrC, DkW, DuK, WrD, UsB, DkO, WrE, WrF, WrG: joined by pack.py, without what the claim does not use. -/
import Derived.Test.YtgcfdjcpcclcjaaGreatWriterPlaysD
set_option linter.unusedVariables false
set_option linter.unusedSimpArgs false
namespace Go.Kn
open Go Go.RowKit
/-- the head of the place's segment, if none stands there: the disk, the place, the error -/
def beginW (d : Dk) (c : Cf) (q : Ps) : Dk × Ps × Int :=
 if 0 < q.o then (d, q, 0)
 else match encHead q.head with
  | none => (d, q, 1)
  | some b => if (d.write (c.at_ q.s) b).2 = 0 then ((d.write (c.at_ q.s) b).1, ⟨q.s, 1, q.l, q.p, q.m⟩, 0) else ((d.write (c.at_ q.s) b).1, q, (d.write (c.at_ q.s) b).2)
theorem begin_W (c : Cf) (w : Wr) : w.begin_ c = ({ w with d := (beginW w.d c w.p).1, p := (beginW w.d c w.p).2.1 }, (beginW w.d c w.p).2.2) := by
 unfold Wr.begin_ beginW
 split
 ·rfl
 ·cases encHead w.p.head with
  | none => rfl
  | some b =>
   simp only
   split <;> rfl
theorem encOwn_none {w w' : World} {e : Ending} (h : EncOwn w none e w') : e = .returned (.tuple #[.slice none 0 0, .int .i64 1]) ∧ Only [] w w' := by
 rcases h with ⟨_, h⟩ | ⟨_, _, _, h, _⟩
 ·exact h
 ·cases h
end Go.Kn
namespace Go.Proofs.YtgcfdjcpcclcjaaGreat
open Go Go.RowKit Go.Kn
set_option maxRecDepth 100000 in
set_option maxHeartbeats 8000000 in
theorem wr_begin_any (w0 w : World) (p : PD) (r : RD) (d e : Dk) (W gb T : Nat) (q : Ps) (vi vb : Value) (cf : Cf) (L : List (Nat × List Value)) (G : List Gs) (F : List (World → Prop)) (h : Duo w0 w p r d e ⟨(W, (WB p.D gb T q vi vb)) :: L, G, F⟩) (hg : (fun W => GeoAt W gb cf.b cf.s cf.l) ∈ F) (hc : cf.Ok) (hh : d.held.length ≤ 1000000) :
  Calls Tryz.prog 127 #[.pointer (some ⟨W, 0, none⟩)] w fun en w' => en = .returned (.int .i64 (beginW d cf q).2.2) ∧ Duo w0 w' p r (beginW d cf q).1 e ⟨(W, WB p.D gb T (beginW d cf q).2.1 vi vb) :: L, G, F⟩ := by
 have HD := Lib.hid h
 have HG := Lib.hid hg
 have HC := Lib.hid hc
 have HHH := Lib.hid hh
 have c4 := (h.boxi 0 rfl).cellv 4
 have lt := (h.boxi 0 rfl).lt
 clear h hg hc hh
 by_cases ho : 0 < q.o
 ·have ho2 : q.o > 0 := ho
  have hbg : beginW d cf q = (d, q, 0) := if_pos ho
  have HBG := Lib.hid hbg
  clear hbg
  go_enter Tryz.func127, Tryz.ntmps127
  go_wp2
  go_ret
  rw [HBG.out]
  exact ⟨rfl, HD.out⟩
 ·have ho2 : ¬ q.o > 0 := ho
  have HO : Hid (¬ 0 < q.o) := Lib.hid ho
  clear ho
  cases hen : encHead q.head with
  | none =>
   have HEN := Lib.hid hen
   clear hen
   go_enter Tryz.func127, Tryz.ntmps127
   go_wp2_with fail
   clear c4
   have HY := Lib.hid HD.out.drew
   clear HD
   refine wp_region_held_drew (S := (fun w' => Kn.Own w' W (WB p.D gb T q vi vb))) (by kernel_rfl) (HY.out.box (x := (W, (WB p.D gb T q vi vb))) List.mem_cons_self) (fun hSw0 => ?_)
   generalize w.drew = wz at *
   refine Kn.takeS 0 ⟨some 13, _, _, _, _, _⟩ ?_
   refine Kn.takeS 1 ⟨some 14, _, _, _, _, _⟩ ?_
   refine Kn.takeS 2 ⟨some 15, _, _, _, _, _⟩ ?_
   refine Kn.takeS 3 ⟨some 16, _, _, _, _, _⟩ ?_
   refine Kn.takeS 4 ⟨some 17, _, _, _, _, _⟩ (v := (.int .i64 q.s)) (hy := fun w hSw => by
    have q0 := hSw.cellv 3
    go_simp) ?_
   refine Kn.takeS 5 ⟨some 18, _, _, _, _, _⟩ ?_
   refine Kn.takeS 6 ⟨some 19, _, _, _, _, _⟩ ?_
   refine Kn.takeS 7 ⟨some 20, _, _, _, _, _⟩ ?_
   refine Kn.takeS 8 ⟨some 21, _, _, _, _, _⟩ ?_
   refine Kn.takeS 9 ⟨some 22, _, _, _, _, _⟩ (v := (.int .i64 q.m)) (hy := fun w hSw => by
    have q0 := hSw.cellv 7
    go_simp) ?_
   refine Kn.takeS 10 ⟨some 23, _, _, _, _, _⟩ ?_
   refine Kn.takeS 11 ⟨some 24, _, _, _, _, _⟩ ?_
   refine Kn.takeS 12 ⟨some 25, _, _, _, _, _⟩ ?_
   refine Kn.takeS 13 ⟨some 26, _, _, _, _, _⟩ ?_
   refine Kn.takeS 14 ⟨some 27, _, _, _, _, _⟩ (v := (.int .i64 q.l)) (hy := fun w hSw => by
    have q0 := hSw.cellv 5
    go_simp) ?_
   refine Kn.takeS 15 ⟨some 28, _, _, _, _, _⟩ ?_
   refine Kn.takeS 16 ⟨some 29, _, _, _, _, _⟩ ?_
   refine Kn.takeS 17 ⟨some 30, _, _, _, _, _⟩ ?_
   refine Kn.takeS 18 ⟨some 31, _, _, _, _, _⟩ ?_
   refine Kn.takeS 19 ⟨some 32, _, _, _, _, _⟩ (v := (.int .i64 q.p)) (hy := fun w hSw => by
    have q0 := hSw.cellv 6
    go_simp) ?_
   refine Kn.takeS 20 ⟨some 33, _, _, _, _, _⟩ ?_
   refine Kn.takeR 21 ⟨some 34, _, _, _, _, _⟩ fun K hK => ?_
   go_simp
   refine (head_enc_own q.s q.m q.l q.p _).mono ?_
   rintro en w2 hen
   rw [show (⟨q.s, q.m, q.l, q.p⟩ : It) = q.head from rfl, HEN.out] at hen
   obtain ⟨rfl, hO⟩ := encOwn_none hen
   have HY2 := Lib.hid (HY.out.keep0 hO)
   clear hen hO HY
   refine hK.out _ _ (HY2.out.box (x := (W, (WB p.D gb T q vi vb))) List.mem_cons_self) (fun hSn => ?_)
   clear hK K hSw0
   have hSw0 := hSn
   clear hSn
   refine Kn.takeS 22 ⟨some 12, _, _, _, _, _⟩ ?_
   refine Kn.takeS 23 ⟨some 35, _, _, _, _, _⟩ ?_
   refine Kn.takeS 24 ⟨some 36, _, _, _, _, _⟩ ?_
   refine Kn.takeS 25 ⟨some 3, _, _, _, _, _⟩ ?_
   refine Kn.takeS 26 ⟨some 4, _, _, _, _, _⟩ ?_
   refine wpAnyH_done (by kernel_rfl) ?_ _
   clear hSw0
   have hbg : beginW d cf q = (d, q, 1) := by unfold beginW; rw [if_neg (by have := HO.out; omega), HEN.out]
   have HBG := Lib.hid hbg
   clear hbg
   go_wp2
   go_ret
   rw [HBG.out]
   exact ⟨rfl, HY2.out⟩
  | some b =>
   have HEN := Lib.hid hen
   obtain ⟨d2, er, hwr⟩ : ∃ d2 er, d.write (cf.at_ q.s) b = (d2, er) := ⟨_, _, rfl⟩
   have HWR := Lib.hid hwr
   clear hen hwr
   go_enter Tryz.func127, Tryz.ntmps127
   go_wp2_with fail
   clear c4
   have HY := Lib.hid HD.out.drew
   clear HD
   refine wp_region_held_drew (S := (fun w' => Kn.Own w' W (WB p.D gb T q vi vb))) (by kernel_rfl) (HY.out.box (x := (W, (WB p.D gb T q vi vb))) List.mem_cons_self) (fun hSw0 => ?_)
   generalize w.drew = wz at *
   refine Kn.takeS 0 ⟨some 13, _, _, _, _, _⟩ ?_
   refine Kn.takeS 1 ⟨some 14, _, _, _, _, _⟩ ?_
   refine Kn.takeS 2 ⟨some 15, _, _, _, _, _⟩ ?_
   refine Kn.takeS 3 ⟨some 16, _, _, _, _, _⟩ ?_
   refine Kn.takeS 4 ⟨some 17, _, _, _, _, _⟩ (v := (.int .i64 q.s)) (hy := fun w hSw => by
    have q0 := hSw.cellv 3
    go_simp) ?_
   refine Kn.takeS 5 ⟨some 18, _, _, _, _, _⟩ ?_
   refine Kn.takeS 6 ⟨some 19, _, _, _, _, _⟩ ?_
   refine Kn.takeS 7 ⟨some 20, _, _, _, _, _⟩ ?_
   refine Kn.takeS 8 ⟨some 21, _, _, _, _, _⟩ ?_
   refine Kn.takeS 9 ⟨some 22, _, _, _, _, _⟩ (v := (.int .i64 q.m)) (hy := fun w hSw => by
    have q0 := hSw.cellv 7
    go_simp) ?_
   refine Kn.takeS 10 ⟨some 23, _, _, _, _, _⟩ ?_
   refine Kn.takeS 11 ⟨some 24, _, _, _, _, _⟩ ?_
   refine Kn.takeS 12 ⟨some 25, _, _, _, _, _⟩ ?_
   refine Kn.takeS 13 ⟨some 26, _, _, _, _, _⟩ ?_
   refine Kn.takeS 14 ⟨some 27, _, _, _, _, _⟩ (v := (.int .i64 q.l)) (hy := fun w hSw => by
    have q0 := hSw.cellv 5
    go_simp) ?_
   refine Kn.takeS 15 ⟨some 28, _, _, _, _, _⟩ ?_
   refine Kn.takeS 16 ⟨some 29, _, _, _, _, _⟩ ?_
   refine Kn.takeS 17 ⟨some 30, _, _, _, _, _⟩ ?_
   refine Kn.takeS 18 ⟨some 31, _, _, _, _, _⟩ ?_
   refine Kn.takeS 19 ⟨some 32, _, _, _, _, _⟩ (v := (.int .i64 q.p)) (hy := fun w hSw => by
    have q0 := hSw.cellv 6
    go_simp) ?_
   refine Kn.takeS 20 ⟨some 33, _, _, _, _, _⟩ ?_
   refine Kn.takeR 21 ⟨some 34, _, _, _, _, _⟩ fun K hK => ?_
   go_simp
   refine (head_enc_own q.s q.m q.l q.p _).mono ?_
   rintro en w2 hen
   rw [show (⟨q.s, q.m, q.l, q.p⟩ : It) = q.head from rfl, HEN.out] at hen
   obtain ⟨g2, c2, rfl, hbc, hcm2, hg2, hown, hO⟩ := encOwn_some hen
   have HY2 := Lib.hid (HY.out.addFc hO (f := fun W => Bys W (some ⟨g2, 0, none⟩) b.length c2 b) (Row1.fc (Row1.of_Own hown (by rw [bvs_length]) hbc hcm2) (fun _ a ha => by injection ha with ha; subst ha; exact Nat.not_lt.2 hg2)))
   clear hen hbc hcm2 hg2 hown hO HY
   refine hK.out _ _ (HY2.out.box (x := (W, (WB p.D gb T q vi vb))) List.mem_cons_self) (fun hSn => ?_)
   clear hK K hSw0
   have hSw0 := hSn
   clear hSn
   refine Kn.takeS 22 ⟨some 12, _, _, _, _, _⟩ ?_
   refine Kn.takeS 23 ⟨some 35, _, _, _, _, _⟩ ?_
   refine Kn.takeS 24 ⟨some 36, _, _, _, _, _⟩ ?_
   refine Kn.takeS 25 ⟨some 3, _, _, _, _, _⟩ ?_
   refine Kn.takeS 26 ⟨some 4, _, _, _, _, _⟩ ?_
   refine wpAnyH_done (by kernel_rfl) ?_ _
   clear hSw0
   go_wp2_with fail
   have HZ := Lib.hid HY2.out.drew
   clear HY2
   refine wp_region_held_drew (S := (fun w' => Kn.Own w' W (WB p.D gb T q vi vb))) (by kernel_rfl) (HZ.out.box (x := (W, (WB p.D gb T q vi vb))) List.mem_cons_self) (fun hSw0 => ?_)
   generalize w2.drew = wy at *
   refine Kn.takeS 0 ⟨some 40, _, _, _, _, _⟩ ?_
   refine Kn.takeS 1 ⟨some 41, _, _, _, _, _⟩ ?_
   refine Kn.takeS 2 ⟨some 42, _, _, _, _, _⟩ ?_
   refine Kn.takeS 3 ⟨some 43, _, _, _, _, _⟩ (v := (.pointer (some ⟨p.D, 0, none⟩))) (hy := fun w hSw => by
    have q0 := hSw.cellv 0
    go_simp) ?_
   refine Kn.takeS 4 ⟨some 44, _, _, _, _, _⟩ ?_
   refine Kn.takeS 5 ⟨some 45, _, _, _, _, _⟩ ?_
   refine Kn.takeS 6 ⟨some 46, _, _, _, _, _⟩ ?_
   refine Kn.takeS 7 ⟨some 47, _, _, _, _, _⟩ (v := (.pointer (some ⟨gb, 0, none⟩))) (hy := fun w hSw => by
    have q0 := hSw.cellv 1
    go_simp) ?_
   refine Kn.takeS 8 ⟨some 48, _, _, _, _, _⟩ ?_
   refine Kn.takeS 9 ⟨some 49, _, _, _, _, _⟩ ?_
   refine Kn.takeS 10 ⟨some 50, _, _, _, _, _⟩ ?_
   refine Kn.takeS 11 ⟨some 51, _, _, _, _, _⟩ ?_
   refine Kn.takeS 12 ⟨some 52, _, _, _, _, _⟩ (v := (.int .i64 q.s)) (hy := fun w hSw => by
    have q0 := hSw.cellv 3
    go_simp) ?_
   refine Kn.takeS 14 ⟨some 54, _, _, _, _, _⟩ ?_
   refine Kn.takeR 13 ⟨some 53, _, _, _, _, _⟩ fun K hK => ?_
   go_simp
   refine (geom_seg_any gb cf q.s _ (HZ.out.fact (f := (fun W => GeoAt W gb cf.b cf.s cf.l)) (List.mem_cons_of_mem _ HG.out)) HC.out).mono ?_
   rintro en w3 ⟨rfl, hO⟩
   have HZ2 := Lib.hid (HZ.out.keep0 hO)
   clear hO HZ
   refine hK.out _ _ (HZ2.out.box (x := (W, (WB p.D gb T q vi vb))) List.mem_cons_self) (fun hSn => ?_)
   clear hK K hSw0
   have hSw0 := hSn
   clear hSn
   refine Kn.takeR 15 ⟨some 55, _, _, _, _, _⟩ fun K hK => ?_
   go_simp
   refine (duo_write HZ2.out (cf.at_ q.s) (some ⟨g2, 0, none⟩) b.length c2 b List.mem_cons_self HHH.out).mono ?_
   rw [HWR.out]
   rintro en w4 ⟨rfl, hd⟩
   have HZ3 := Lib.hid (Duo.subF hd (F' := F) (fun f hf => List.mem_cons_of_mem _ hf))
   clear hd HZ2
   refine hK.out _ _ (HZ3.out.box (x := (W, (WB p.D gb T q vi vb))) List.mem_cons_self) (fun hSn => ?_)
   clear hK K hSw0
   have hSw0 := hSn
   clear hSn
   refine Kn.takeS 16 ⟨some 5, _, _, _, _, _⟩ ?_
   refine wpAnyH_done (by kernel_rfl) ?_ _
   clear hSw0
   by_cases he : er = 0
   ·subst he
    have b1 := HZ3.out.boxi 0 rfl
    have y0 := b1.frozen 4
    have y1 := b1.cellv 4
    have yl := b1.lt
    have HE := Lib.hid (HZ3.out.put 0 rfl 4 (.int .i64 1))
    have hbg : beginW d cf q = (d2, ⟨q.s, 1, q.l, q.p, q.m⟩, 0) := by unfold beginW; rw [if_neg (by have := HO.out; omega), HEN.out]; simp only; rw [HWR.out]; rfl
    have HBG := Lib.hid hbg
    clear hbg b1
    go_wp2
    go_ret
    rw [HBG.out]
    exact ⟨rfl, HE.out⟩
   ·have heb : (er != 0) = true := by rw [bne_iff_ne]; exact he
    have hbg : beginW d cf q = (d2, q, er) := by unfold beginW; rw [if_neg (by have := HO.out; omega), HEN.out]; simp only; rw [HWR.out, if_neg he]
    have HBG := Lib.hid hbg
    clear hbg
    go_wp2
    go_ret
    rw [HBG.out]
    exact ⟨rfl, HZ3.out⟩
end Go.Proofs.YtgcfdjcpcclcjaaGreat
namespace Go.Kn
open Go Go.RowKit
def Marks (B : Nat) (Ds : List Nat) (W : World) : Prop := (∀ D ∈ Ds, B ≤ D ∧ W.heap[D]? = some (.deferred (some []))) ∧ Ds.Nodup
theorem Marks.kb {B C : Nat} {Ds : List Nat} {X Y : World} (h : Marks B Ds X) (hk : Kb C X Y) (hC : ∀ D ∈ Ds, D < C) : Marks B Ds Y := ⟨fun D hD => ⟨(h.1 D hD).1, hk.keep D _ (hC D hD) (h.1 D hD).2 rfl⟩, h.2⟩
theorem Marks.lt {B : Nat} {Ds : List Nat} {X : World} (h : Marks B Ds X) : ∀ D ∈ Ds, D < X.heap.size := fun D hD => lt_of_obj (h.1 D hD).2
theorem Marks.cons {B D : Nat} {Ds : List Nat} {X : World} (h : Marks B Ds X) (hB : B ≤ D) (hD : ∀ E ∈ Ds, E < D) (hK : X.heap[D]? = some (.deferred (some []))) : Marks B (D :: Ds) X :=
 ⟨fun E hE => (List.mem_cons.1 hE).elim (fun e => by rw [e]; exact ⟨hB, hK⟩) (h.1 E), List.nodup_cons.2 ⟨fun hm => Nat.lt_irrefl _ (hD D hm), h.2⟩⟩
def postM (R : Exit → Act → World → Prop) : Exit → Act → World → Prop
 | .normal, a, w => R .normal a w
 | .ret, a, w => R .ret a w
 | _, _, _ => False
theorem callsIn_of_wp_post {n : Nat} {P : Program} {f : FuncId} {fn : Func} {c : Code} {args : Array Value} {w : World} {R : Ending → World → Prop} (hf : P.funcs[f]? = some fn) (hb : fn.body = some c)
  (h : c.wpIn Fence.wide n P (postM (bodyPostM Fence.wide n P fn R)) { tmps := args ++ Array.replicate (fn.ntmps - args.size) undef, defers := [] } w) : CallsIn Fence.wide n P f args w R := by
 refine callsIn_of_wp_marks hf hb trivial (wpIn_mono h ?_) rfl
 intro e a w h
 cases e <;> first | exact h | exact h.elim
theorem not_letsOut_then {K : Act → World → Prop} {Q : Exit → Act → World → Prop} (h : ¬ LetsOut Q) : ¬ LetsOut (Exit.then K Q) := fun ⟨a, w, hq⟩ => h ⟨a, w, hq⟩
theorem wpIn_named {F : Fence} {n : Nat} {P : Program} {c : Code} {Q : Exit → Act → World → Prop} {a : Act} {w : World} (h : ∀ a0, a0 = a → c.wpIn F n P Q a0 w) : c.wpIn F n P Q a w := h a rfl
theorem not_letsOut_postW {α : Type} {B : Nat} {w0 : World} {φ : Fr3} {J : Option Code → List α → Fr3 → World → Prop} {xs : List α} {W : World} {id : Nat} : ¬ LetsOut (Exit.inBlock id (postW B w0 φ J xs W)) := by
 rintro ⟨a, w, h⟩
 exact h
theorem perm_any {α : Type} {A B : List α} (h : ∀ (c : α → Nat), (A.map c).sum = (B.map c).sum) : A.Perm B := by
 classical
 rw [List.perm_iff_count]
 intro a
 have h1 := h (fun x => if x = a then 1 else 0)
 have e : ∀ l : List α, (l.map fun x => if x = a then 1 else 0).sum = l.count a := by
  intro l
  induction l with
  | nil => rfl
  | cons x l ih => rw [List.map_cons, List.sum_cons, ih, List.count_cons, Nat.add_comm]; simp
 rw [e, e] at h1
 exact h1
/-- what the loop has behind some records of a segment: where it goes on, and whether in another one -/
def OnSt (d : Dk) (cf : Cf) (pre : List Fnd) (e : Ps) (more : Bool) : Prop :=
 (pre = [] ∧ more = false) ∨ ∃ pre' x q', pre = pre' ++ [x] ∧ follow d cf x.p = (some (x.r, q'), 0) ∧ e = (onP cf x.r q').1 ∧ more = (onP cf x.r q').2
theorem OnSt.done {d : Dk} {cf : Cf} {xs : List Fnd} {q e : Ps} {more : Bool} (h : OnSt d cf xs e more) (hx : xs.map Fnd.pr = (scanR d cf false q).1) :
  (more = true ∧ ∃ v, nextIn cf (scanR d cf false q).1 = some v ∧ e = turnP (scanR d cf false q).2.1 v) ∨ (more = false ∧ nextIn cf (scanR d cf false q).1 = none) := by
 rcases h with ⟨rfl, rfl⟩ | ⟨pre', x, q', rfl, hf, rfl, rfl⟩
 ·exact .inr ⟨rfl, by rw [← hx]; rfl⟩
 ·rw [List.map_append] at hx
  obtain ⟨g1, g2⟩ := scanR_last hx.symm
  have g3 : (some (x.r, q'), (0 : Int)) = (some (x.r, (scanR d cf false q).2.1), 0) := hf.symm.trans g1
  injection g3 with g3
  injection g3 with g3
  injection g3 with _ g3
  rw [← g3, ← hx]
  show (_ ∧ ∃ v, nextIn cf (pre'.map Fnd.pr ++ [x.pr]) = some v ∧ _) ∨ (_ ∧ nextIn cf (pre'.map Fnd.pr ++ [x.pr]) = none)
  rw [nextIn_snoc]
  show (_ ∧ ∃ v, (nextOf x.r).filter _ = some v ∧ _) ∨ (_ ∧ (nextOf x.r).filter _ = none)
  unfold onP
  cases hn : (nextOf x.r).filter fun v => decide (v ≤ cf.s - 1) with
  | none => exact .inr ⟨rfl, rfl⟩
  | some v => exact .inl ⟨rfl, v, rfl, rfl⟩
theorem OnSt.snoc {d : Dk} {cf : Cf} {pre : List Fnd} {x : Fnd} {e q : Ps} {more : Bool} (h : OnSt d cf (pre ++ [x]) e more) (hf : follow d cf x.p = (some (x.r, q), 0)) : e = (onP cf x.r q).1 ∧ more = (onP cf x.r q).2 := by
 rcases h with ⟨h, _⟩ | ⟨pre', x', q', h, hf', he, hm⟩
 ·simp at h
 ·obtain ⟨_, h⟩ := List.append_inj' h rfl
  injection h with h
  subst h
  rw [hf] at hf'
  injection hf' with h1
  injection h1 with h1
  injection h1 with _ h1
  subst h1
  exact ⟨he, hm⟩
end Go.Kn
namespace Go.Kn
open Go Go.RowKit
theorem run_slice3 {P : Program} (w : World) (t e : TypeId) (ht : P.underlying t = some (.slice e)) (hs : (P.info? e).map (·.size) = some 1) (g len cap l h m : Nat) (li hi : Int) (kl kh km : IntKind) (e1 : li = l) (e2 : hi = h) (hl : l < h) (hh : h ≤ cap) (hm : h - l = m) :
  (Instr.slice t (.slice (some ⟨g, 0, none⟩) len cap) (some (.int kl li)) (some (.int kh hi)) (some (.int km hi))).run P w = .ok (.slice (some ⟨g, l, none⟩) m m) w := by
 subst e1 e2 hm
 have hne : ¬ (h - l = 0) := by omega
 cases hq : P.info? e with
 | none => simp [hq] at hs
 | some i =>
  simp [hq] at hs
  have hle : l ≤ h := by omega
  have hne2 : h ≠ l := by omega
  simp [Instr.slice, Instr.sliceBounds, Instr.sliceBound, run_underlying ht, sizeOf, typeInfo, hq, asIntOf, hle, hh, hs, hne, hne2, Addr.add]
  intro h0
  exact h0.symm
end Go.Kn
namespace Go.Proofs.YtgcfdjcpcclcjaaGreat
open Go Go.RowKit Go.Kn Go.Shelf
attribute [local go_sem] Oper.semAt_some
def chEnc (g : Nat) (i : Nat) : Array Value := #[.slice (some ⟨g, 64 * i, none⟩) 64 64]
set_option maxRecDepth 100000 in
set_option maxHeartbeats 8000000 in
theorem chunk_seq (w0 W : World) (b1 b2 g m c k : Nat) (L : List (Nat × List Value)) (G : List Gs) (F : List (World → Prop)) (n : Nat) (hn : 1 ≤ n) (hm : m = 64 * k) (hmc : m ≤ c) (hk : k ≤ 100)
  (hb1 : (b1, [.slice (some ⟨g, 0, none⟩) m c]) ∈ L) (hb2 : (b2, [.int .i64 64]) ∈ L) :
  SeqW Fence.wide n Tryz.prog 206 #[.pointer (some ⟨b1, 0, none⟩), .pointer (some ⟨b2, 0, none⟩)] (chEnc g) (fun pre x φ => φ = ⟨L, G, F⟩ ∧ x = pre.length ∧ x < k ∧ pre = List.range x) (fun xs φ => φ = ⟨L, G, F⟩ ∧ xs = List.range k) (fun pre φ => φ = ⟨L, G, F⟩ ∧ ∃ j, j < k ∧ pre = List.range (j + 1)) (k + 1) w0 W ⟨L, G, F⟩ := by
 intro l J c0 hJc hY hJ0 hA
 have hA' : Wc w0 W (L ++ c0.L) (G ++ c0.G) (F ++ c0.F) := hA
 have HA := Lib.hid hA'
 have HB1 := Lib.hid hb1
 have HB2 := Lib.hid hb2
 have HJC := Lib.hid hJc
 have HYY := Lib.hid hY
 clear hA hA' hb1 hb2 hJc hY
 refine callsIn_of_wp Tryz.func206 rfl trivial ?_ rfl
 simp only [Tryz.ntmps206, List.size_toArray, List.length_cons, List.length_nil, Nat.reduceAdd, Nat.reduceSub, Array.replicate_succ, Array.replicate_zero, List.push_toArray, List.append_toArray, List.nil_append, List.cons_append]
 gi_wp2_with fail
 gi_loopg [4] k (fun gr t4 wr => ∃ (j x : Nat) (co : Fr3), j + gr = k ∧ x = 64 * j ∧ t4 = .int .i64 (x : Int) ∧ Wc w0 wr (L ++ co.L) (G ++ co.G) (F ++ co.F) ∧ J none (List.range j) co wr ∧ W.heap.size ≤ wr.heap.size)
 case atStart => exact ⟨0, 0, c0, by omega, rfl, rfl, HA.out, hJ0, Nat.le_refl _⟩
 clear HA hJ0
 obtain ⟨j, x, co, hj, hx, rfl, hw, hJp, hsz⟩ := hrel
 have HW := Lib.hid hw
 have HJP := Lib.hid hJp
 clear hw hJp
 have c1 := own1 (HW.out.own _ (List.mem_append_left _ HB1.out))
 have c2 := own1 (HW.out.own _ (List.mem_append_left _ HB2.out))
 by_cases hlt : j < k
 ·have hlm : (x : Int) < (m : Int) := by omega
  obtain ⟨r, hr⟩ : ∃ r, m - x = r := ⟨_, rfl⟩
  obtain ⟨y, hy⟩ : ∃ y, x + 64 = y := ⟨_, rfl⟩
  have hr64 : ¬ (r : Int) < 64 := by omega
  have hwy : IntKind.i64.wrap ((x : Int) + 64) = (y : Int) := by rw [show (x : Int) + 64 = (y : Int) from by omega]; exact IntWalk.i64_in _ (by omega)
  have hs1 : ∀ w : World, (Instr.slice 47 (.slice (some ⟨g, 0, none⟩) m c) (some (.int .i64 (x : Int))) none none).run Tryz.prog w = .ok (.slice (cutA (some ⟨g, 0, none⟩) c x) r (c - x)) w := fun w => run_slice1_lo w _ _ Tryz.underlying47 (by kernel_rfl) _ m c (x : Int) x r .i64 rfl (by omega) hr
  have hs3 : ∀ w : World, (Instr.slice 47 (.slice (some ⟨g, 0, none⟩) m c) (some (.int .i64 (x : Int))) (some (.int .i64 (y : Int))) (some (.int .i64 (y : Int)))).run Tryz.prog w = .ok (.slice (some ⟨g, x, none⟩) 64 64) w := fun w => run_slice3 w _ _ Tryz.underlying47 (by kernel_rfl) g m c x y 64 (x : Int) (y : Int) .i64 .i64 .i64 rfl rfl (by omega) (by omega) (by omega)
  have HX := Lib.hid hx
  have HM := Lib.hid hm
  have HY0 := Lib.hid hy
  clear hx hm hr hy
  gi_wp2_with fail
  clear c1 c2
  have HY := Lib.hid HW.out.drew
  refine wpIn_wide.2 (wp_region_held_drew (S := (fun w' => w'.cell? ⟨b1, 0, none⟩ = some (.slice (some ⟨g, 0, none⟩) m c) ∧ w'.cell? ⟨b2, 0, none⟩ = some (.int .i64 64))) (by kernel_rfl) ⟨own1 (HY.out.own _ (List.mem_append_left _ HB1.out)), own1 (HY.out.own _ (List.mem_append_left _ HB2.out))⟩ (fun hSw0 => ?_))
  have hkb : Kb W.heap.size wr wr.drew := Kb.of_only (S := []) ((Only.refl _ _).drew) (by simp)
  have hsd : wr.heap.size ≤ wr.drew.heap.size := Nat.le_refl _
  generalize wr.drew = wz at *
  refine Kn.takeS 0 ⟨some 13, _, _, _, _, _⟩ (v := (.int .i64 64)) (hy := fun w hSw => by
   have q0 := hSw.2
   go_simp) ?_
  refine Kn.takeS 1 ⟨some 14, _, _, _, _, _⟩ (v := (.slice (some ⟨g, 0, none⟩) m c)) (hy := fun w hSw => by
   have q0 := hSw.1
   go_simp) ?_
  refine Kn.takeS 2 ⟨some 15, _, _, _, _, _⟩ ?_
  refine Kn.takeS 3 ⟨some 16, _, _, _, _, _⟩ ?_
  refine Kn.takeS 4 ⟨some 17, _, _, _, _, _⟩ ?_
  refine Kn.takeS 5 ⟨some 18, _, _, _, _, _⟩ ?_
  refine Kn.takeS 6 ⟨some 5, _, _, _, _, _⟩ ?_
  refine wpAnyH_done (by kernel_rfl) ?_ _
  clear hSw0 HW
  have hjz : J none (List.range j) co wz := HJC.out _ _ _ _ _ HJP.out hkb
  have hsz2 : W.heap.size ≤ wz.heap.size := (Nat.le_trans hsz hsd)
  obtain ⟨fn, tmps, assign, body, hyd, hR⟩ := HYY.out (List.range j) j ⟨L, G, F⟩ co wz ⟨rfl, by simp, hlt, rfl⟩ hjz HY.out hsz2 (by simp; omega)
  have he : chEnc g j = #[.slice (some ⟨g, x, none⟩) 64 64] := by unfold chEnc; rw [HX.out]
  rw [he] at hyd
  have c1 := own1 (HY.out.own _ (List.mem_append_left _ HB1.out))
  clear hjz he
  gi_wp2_with fail
  refine hR.mono ?_
  rintro e2 W' ⟨c', hA', hkf, ⟨rfl, hj'⟩ | ⟨rfl, cd, hj'⟩⟩
  ·have HW' : Hid (Wc w0 W' (L ++ c'.L) (G ++ c'.G) (F ++ c'.F)) := Lib.hid hA'
   have hsw : W.heap.size ≤ W'.heap.size := Nat.le_trans hsz2 hkf.size
   have HJ' : Hid (J none (List.range (j + 1)) c' W') := Lib.hid (by rw [List.range_succ]; exact hj')
   have c2 := own1 (HW'.out.own _ (List.mem_append_left _ HB2.out))
   clear hA' hj' hkf hR hyd c1
   gi_wp2_with fail
   gi_roundg (gk - 1)
   case measure => omega
   case rel => exact ⟨j + 1, y, c', by omega, by rw [← HY0.out, HX.out]; omega, rfl, HW'.out, HJ'.out, hsw⟩
  ·have hsw : W.heap.size ≤ W'.heap.size := Nat.le_trans hsz2 hkf.size
   have HJ' : Hid (J (some cd) (List.range (j + 1)) c' W') := Lib.hid (by rw [List.range_succ]; exact hj')
   have HA' := Lib.hid hA'
   clear hj' hkf hA' hR hyd c1
   gi_wp2_with fail
   exact bodyPost_ret (results_none rfl _ _ _) rfl ⟨⟨_, rfl⟩, hsw, ⟨L, G, F⟩, c', HA'.out, .inr ⟨_, cd, ⟨rfl, j, hlt, rfl⟩, HJ'.out⟩⟩
 ·obtain rfl : j = k := by omega
  have hlm : ¬ (x : Int) < (m : Int) := by omega
  have HX := Lib.hid hx
  have HM := Lib.hid hm
  clear hx hm
  gi_wp2_with fail
  exact bodyPost_end (results_none rfl _ _ _) rfl ⟨⟨_, rfl⟩, hsz, ⟨L, G, F⟩, co, HW.out, .inl ⟨_, ⟨rfl, rfl⟩, HJP.out⟩⟩
end Go.Proofs.YtgcfdjcpcclcjaaGreat
namespace Go.Proofs.YtgcfdjcpcclcjaaGreat
open Go Go.RowKit Go.Kn
structure DsK (wb w0 w : World) (p : PD) (d : Dk) (c : Fr3) : Prop where
 ok : d.Ok
 N : d.safe.length = p.N
 hs : p.N ≤ p.cs
 hn : p.N ≤ p.cn
 hf : p.N ≤ p.cf
 mem : ∃ v, Wk w0 wb w (p.L v d c.L) (⟨158, 65, v, d.held.length, heldV d.held⟩ :: c.G) c.F
theorem DsK.toDsk {wb w0 w : World} {p : PD} {d : Dk} {c : Fr3} (h : DsK wb w0 w p d c) : Dsk w0 w p d c := ⟨h.ok, h.N, h.hs, h.hn, h.hf, by obtain ⟨v, hm⟩ := h.mem; exact ⟨v, hm.toWc⟩⟩
theorem DsK.start {w0 w : World} {p : PD} {d : Dk} {c : Fr3} (h : Dsk w0 w p d c) : DsK w w0 w p d c := ⟨h.ok, h.N, h.hs, h.hn, h.hf, by obtain ⟨v, hm⟩ := h.mem; exact ⟨v, Wk.start hm⟩⟩
theorem DsK.kb {wb w0 w : World} {p : PD} {d : Dk} {c : Fr3} (h : DsK wb w0 w p d c) : Kb wb.heap.size wb w := by obtain ⟨v, hm⟩ := h.mem; exact hm.kb
theorem DsK.gone1 {wb w0 w : World} {p : PD} {d : Dk} {c : Fr3} (h : DsK wb w0 w p d c) (hg : d.gone = true) :
  DsK wb w0 ((w.setCell ⟨p.D, 5, none⟩ (.int .i64 (wrap64 (d.acts + 1)))).setCell ⟨p.D, 6, none⟩ (.bool true)) p d.act c := by
 obtain ⟨v, hm⟩ := h.mem
 have h1 := ((hm.put 0 (p := p.D) (cs := p.box v d) rfl 5 (.int .i64 (wrap64 (d.acts + 1)))).put 0 rfl 6 (.bool true))
 refine ⟨h.ok.act, h.N, h.hs, h.hn, h.hf, v, ?_⟩
 have e : p.L v d.act c.L = (p.D, [.slice (some ⟨p.s, 0, none⟩) p.N p.cs, .slice (some ⟨p.n, 0, none⟩) p.N p.cn, v, .slice (some ⟨p.f, 0, none⟩) p.N p.cf, .int .i64 d.fuse, .int .i64 (wrap64 (d.acts + 1)), .bool true]) :: (p.s, flat d.safe) :: (p.n, flat d.now) :: (p.f, bls d.faults) :: c.L := by
  simp only [PD.L, PD.box, Dk.act, hg, if_true, Dk.tick, Dk.now]
 rw [e]
 exact h1
theorem DsK.gone0 {wb w0 w : World} {p : PD} {d : Dk} {c : Fr3} (h : DsK wb w0 w p d c) (hg : d.gone = false) {m : Int} (hm : m = max (d.fuse - 1) (-1)) :
  DsK wb w0 (((w.setCell ⟨p.D, 5, none⟩ (.int .i64 (wrap64 (d.acts + 1)))).setCell ⟨p.D, 6, none⟩ (.bool false)).setCell ⟨p.D, 4, none⟩ (.int .i64 m)) p d.act c := by
 subst hm
 obtain ⟨v, hm⟩ := h.mem
 have h1 := ((hm.put 0 (p := p.D) (cs := p.box v d) rfl 5 (.int .i64 (wrap64 (d.acts + 1)))).put 0 rfl 6 (.bool false)).put 0 rfl 4 (.int .i64 (max (d.fuse - 1) (-1)))
 refine ⟨h.ok.act, h.N, h.hs, h.hn, h.hf, v, ?_⟩
 have e : p.L v d.act c.L = (p.D, [.slice (some ⟨p.s, 0, none⟩) p.N p.cs, .slice (some ⟨p.n, 0, none⟩) p.N p.cn, v, .slice (some ⟨p.f, 0, none⟩) p.N p.cf, .int .i64 (max (d.fuse - 1) (-1)), .int .i64 (wrap64 (d.acts + 1)), .bool false]) :: (p.s, flat d.safe) :: (p.n, flat d.now) :: (p.f, bls d.faults) :: c.L := by
  simp only [PD.L, PD.box, Dk.act, hg, Bool.false_eq_true, if_false, Dk.tick, Dk.now]
 rw [e]
 exact h1
theorem dk_act_kb (wb w0 w : World) (p : PD) (d : Dk) (c : Fr3) (h : DsK wb w0 w p d c) :
  Calls Tryz.prog 85 #[.pointer (some ⟨p.D, 0, none⟩)] w fun e w' => e = .returned (.int .i64 (if d.gone = true then 3 else 0)) ∧ DsK wb w0 w' p d.act c := by
 obtain ⟨v, hm⟩ := h.mem
 have hb := hm.boxi 0 (p := p.D) (cs := p.box v d) rfl
 have c4 := hb.cell 4 (by simp [PD.box])
 have c5 := hb.cell 5 (by simp [PD.box])
 have c6 := hb.cell 6 (by simp [PD.box])
 have f4 := hb.frozen 4
 have f5 := hb.frozen 5
 have f6 := hb.frozen 6
 simp only [PD.box, List.getElem_cons_zero, List.getElem_cons_succ] at c4 c5 c6
 have hu := h.ok.u
 have hlt := hb.lt
 obtain ⟨hu1, hu2⟩ := hu
 clear hm hb
 by_cases hg : d.gone = true
 ·refine (show Calls _ _ _ _ (fun e w' => e = .returned (.int .i64 3) ∧ DsK wb w0 w' p d.act c) from ?_).mono (fun e w' h => by rw [if_pos hg]; exact h)
  have H := Lib.hid (DsK.gone1 h hg)
  clear h
  unfold Dk.gone at hg
  by_cases ho : d.off = true
  ·rw [ho] at c6
   clear hg ho
   go_enter Tryz.func85, Tryz.ntmps85
   go_wp2
   go_ret
   exact ⟨rfl, H.out⟩
  ·rw [Bool.not_eq_true] at ho
   have hf : d.fuse = 0 := by rw [ho] at hg; simpa using hg
   rw [ho] at c6
   rw [hf] at c4
   clear hg ho hf hu1 hu2
   go_enter Tryz.func85, Tryz.ntmps85
   go_wp2
   go_ret
   exact ⟨rfl, H.out⟩
 ·refine (show Calls _ _ _ _ (fun e w' => e = .returned (.int .i64 0) ∧ DsK wb w0 w' p d.act c) from ?_).mono (fun e w' h => by rw [if_neg hg]; exact h)
  rw [Bool.not_eq_true] at hg
  have H := Lib.hid (fun m hm => DsK.gone0 h hg (m := m) hm)
  clear h
  unfold Dk.gone at hg
  rw [Bool.or_eq_false_iff] at hg
  obtain ⟨ho, hf⟩ := hg
  rw [ho] at c6
  have hf : ¬ d.fuse = 0 := by simpa using hf
  clear ho
  by_cases hz : 0 ≤ d.fuse
  ·have hz1 : decide (-1 ≤ d.fuse - 1) = true := by simp; omega
   go_enter Tryz.func85, Tryz.ntmps85
   go_wp2
   all_goals (first | (exfalso; omega) | skip)
   go_ret
   exact ⟨rfl, H.out _ (by omega)⟩
  ·go_enter Tryz.func85, Tryz.ntmps85
   go_wp2
   all_goals (first | (exfalso; omega) | skip)
   go_ret
   exact ⟨rfl, H.out _ (by omega)⟩
theorem DsK.app {wb w0 w w' : World} {p : PD} {d : Dk} {c : Fr3} {v v' : Value} {a : Int} {b : List UInt8} (hm : Wk w0 wb w (p.L v d.act c.L) (⟨158, 65, v, d.held.length, heldV d.held⟩ :: c.G) c.F)
  (hown : w'.ownsRow w0.heap.size 158 65 v' (d.held.length + 1) (heldV d.held ++ (.int .i64 a :: bvs b))) (hg : w.grownBy w' v.ownBlock) (hat : v'.ownBlock = v.ownBlock ∨ v'.ownBlock = some w.heap.size) (ha : 0 ≤ a) :
  Wk w0 wb (w'.setCell ⟨p.D, 2, none⟩ v') ((p.D, p.box v' d.act) :: (p.s, flat d.safe) :: (p.n, flat d.now) :: (p.f, bls d.faults) :: c.L) (⟨158, 65, v', (d.held ++ [(a.toNat, b)]).length, heldV (d.held ++ [(a.toNat, b)])⟩ :: c.G) c.F := by
 have h1 := hm.gapp 0 rfl hown hg hat
 have h2 := h1.put 0 (p := p.D) (cs := p.box v d.act) rfl 2 v'
 have e : heldV (d.held ++ [(a.toNat, b)]) = heldV d.held ++ (.int .i64 a :: bvs b) := by rw [heldV_snoc, show ((a.toNat : Nat) : Int) = a from by omega]
 rw [e, List.length_append]
 exact h2
theorem DsK.wroteMk {wb w0 w w' : World} {p : PD} {d : Dk} {c : Fr3} {v : Value} {k : Nat} {b : List UInt8} (h : DsK wb w0 w p d c) (hh : d.has k = true) (hb : b.length = 64)
  (hm : Wk w0 wb w' ((p.D, p.box v d.act) :: (p.s, flat d.safe) :: (p.n, flat (d.now.set k b)) :: (p.f, bls d.faults) :: c.L) (⟨158, 65, v, (d.held ++ [((k : Int).toNat, b)]).length, heldV (d.held ++ [((k : Int).toNat, b)])⟩ :: c.G) c.F) :
  DsK wb w0 w' p (d.wrote k b) c := by
 refine ⟨h.ok.wrote hh hb, h.N, h.hs, h.hn, h.hf, v, ?_⟩
 have e : (d.wrote k b).now = d.now.set k b := Dk.now_wrote d k b
 unfold PD.L
 rw [e]
 exact hm
set_option maxRecDepth 100000 in
set_option maxHeartbeats 4000000 in
theorem dk_write_kb (wb w0 w : World) (p : PD) (d : Dk) (c : Fr3) (a : Int) (A : Option Addr) (n cc : Nat) (b : List UInt8) (h : DsK wb w0 w p d c) (hb : (fun W => Bys W A n cc b) ∈ c.F) (hh : d.held.length ≤ 1000000) :
  Calls Tryz.prog 24 #[.pointer (some ⟨p.D, 0, none⟩), .int .i64 a, .slice A n cc] w fun e w' => e = .returned (.int .i64 (d.write a b).2) ∧ DsK wb w0 w' p (d.write a b).1 c := by
 have hbl : b.length = n := by
  obtain ⟨v, hm⟩ := h.mem
  have := (hm.fact _ hb).len
  rwa [bvs_length] at this
 by_cases hok : d.has a = true ∧ b.length = 64
 ·obtain ⟨ho1, ho2⟩ := hok
  obtain rfl : n = 64 := by omega
  by_cases hg : d.gone = true
  ·have e : d.write a b = (d.act, 3) := by unfold Dk.write; simp [ho1, ho2, hg]
   rw [e]
   have H := Lib.hid h
   have HG := Lib.hid hg
   have HO := Lib.hid ho1
   clear h hbl ho2 ho1 hg e
   go_enter Tryz.func24, Tryz.ntmps24
   go_wp2_with fail
   refine (dk_has_any w0 w p d c a H.out.toDsk).mono ?_
   rintro e w1 ⟨rfl, rfl⟩
   rw [HO.out]
   go_wp2_with fail
   refine (dk_act_kb wb w0 w p d c H.out).mono ?_
   rintro e w1 ⟨rfl, h1⟩
   rw [if_pos HG.out]
   have H1 := Lib.hid h1
   clear h1
   go_wp2
   go_ret
   exact ⟨rfl, H1.out⟩
  ·have e : d.write a b = (d.wrote a b, 0) := by unfold Dk.write; simp [ho1, ho2, hg]
   rw [e]
   have hN := h.N
   have hn := h.ok.n
   have hr : 0 ≤ a ∧ a < (p.N : Int) := by unfold Dk.has at ho1; simp only [decide_eq_true_eq] at ho1; omega
   obtain ⟨k, rfl⟩ : ∃ k : Nat, a = k := ⟨a.toNat, by omega⟩
   have hkN : k < p.N := by omega
   have H := Lib.hid h
   have HG := Lib.hid hg
   have HO := Lib.hid ho1
   have HB := Lib.hid hb
   have HN := Lib.hid hN
   have HL := Lib.hid ho2
   clear h hbl ho2 ho1 hg e hb hN hn
   go_enter Tryz.func24, Tryz.ntmps24
   go_wp2_with fail
   refine (dk_has_any w0 w p d c k H.out.toDsk).mono ?_
   rintro e w1 ⟨rfl, rfl⟩
   rw [HO.out]
   go_wp2_with fail
   refine (dk_act_kb wb w0 w p d c H.out).mono ?_
   rintro e w1 ⟨rfl, h1⟩
   rw [if_neg HG.out]
   obtain ⟨v, hm⟩ := h1.mem
   have hbx := hm.boxi 0 (p := p.D) (cs := p.box v d.act) rfl
   have c2 := hbx.cell 2 (by simp [PD.box])
   have c1 := hbx.cell 1 (by simp [PD.box])
   simp only [PD.box, List.getElem_cons_zero, List.getElem_cons_succ] at c1 c2
   have hby := hm.fact _ HB.out
   obtain ⟨g, o, rfl, _⟩ := hby.at_ (by omega)
   have hbw := build_write k b HL.out
   obtain ⟨ar, har⟩ : ∃ ar, (bvs b).toArray = ar := ⟨_, rfl⟩
   obtain ⟨ar2, har2⟩ : ∃ ar, (Value.int .i64 (k : Int) :: bvs b).toArray = ar := ⟨_, rfl⟩
   simp only [har, har2] at hbw
   have HBW := Lib.hid hbw
   have HAR := Lib.hid har
   have HAR2 := Lib.hid har2
   have har3 : ar2.toList = Value.int .i64 (k : Int) :: bvs b := by rw [← har2]
   have HAR3 := Lib.hid har3
   have hdl : d.act.held.length = d.held.length := rfl
   have hde : heldV d.act.held = heldV d.held := rfl
   rw [hdl, hde] at hm
   have HM := Lib.hid hm
   have hfl : (flat d.now).length = 64 * p.N := by rw [flat_length _ H.out.ok.now64, Dk.now_length, HN.out]
   have HFL := Lib.hid hfl
   have hfs := flat_set d.now H.out.ok.now64 k b (by rw [Dk.now_length, HN.out]; exact hkN) HL.out
   have HFS := Lib.hid hfs
   clear hfl hfs
   obtain ⟨i0, z0, hi0, hz0, hz1, hz2, hz3⟩ := write_parts
   have hone : ∀ u ∈ (Value.int .i64 (k : Int) :: bvs b), u.oneCell' = true := by
    intro u hu
    rcases List.mem_cons.1 hu with rfl | hu
    ·rfl
    ·exact bvs_one _ u hu
   have HON := Lib.hid hone
   have HD7 := Lib.hid HM.out.drew
   clear har har2 har3 hbw hm hbx hby h1 hdl hde hone HM c1 c2
   go_wp2_with fail
   refine wp_region_held_drew (S := fun w' => w'.cell? ⟨p.D, 1, none⟩ = some (.slice (some ⟨p.n, 0, none⟩) p.N p.cn) ∧ Bys w' (some ⟨g, o, none⟩) 64 cc b) (by kernel_rfl) ⟨by simpa [PD.box] using (HD7.out.boxi 0 (p := p.D) rfl).cell 1 (by simp [PD.box]), HD7.out.fact _ HB.out⟩ (fun hSw0 => ?_)
   generalize w1.drew = ws at *
   refine Kn.takeS 0 ⟨some 22, _, _, _, _, _⟩ ?_
   refine Kn.takeS 1 ⟨some 23, _, _, _, _, _⟩ ?_
   refine Kn.takeS 2 ⟨some 24, _, _, _, _, _⟩ ?_
   refine Kn.takeS 3 ⟨some 25, _, _, _, _, _⟩ ?_
   refine Kn.takeS 5 ⟨some 27, _, _, _, _, _⟩ ?_
   refine Kn.takeS 6 ⟨some 28, _, _, _, _, _⟩ ?_
   refine Kn.takeS 7 ⟨some 29, _, _, _, _, _⟩ (v := (.pointer (some ⟨g, o, none⟩))) (hy := fun w hSw => by
    exact exec_arr rfl rfl (arr_at (some ⟨g, o, none⟩) cc w)) ?_
   refine Kn.takeS 8 ⟨some 30, _, _, _, _, _⟩ (v := (.agg ar)) (hy := fun w hSw => by
    have hld := load_bytes hSw.2
    rw [HAR.out] at hld
    exact exec_load rfl rfl hld) ?_
   refine Kn.takeS 9 ⟨some 31, _, _, _, _, _⟩ (v := (.agg ar2)) (hy := fun w hSw => by
    exact exec_build (vs := #[(0, .int .i64 (k : Int)), (1, .agg ar)]) rfl (by kernel_rfl) (HBW.out w)) ?_
   refine wpAnyH_ready (rs := [4, 10]) (by kernel_rfl) (by simp) ?_
   refine AllReadyH.cons (o := ⟨some 26, _, _, _, _, _⟩) rfl (fun K hK => ?_) ?_
   ·have yq := (HD7.out.boxi 0 (p := p.D) rfl).cell 2 (by simp [PD.box])
    simp only [PD.box, List.getElem_cons_zero, List.getElem_cons_succ] at yq
    go_simp
    clear yq
    refine hK.out _ _ ⟨by simpa [PD.box] using (HD7.out.boxi 0 (p := p.D) rfl).cell 1 (by simp [PD.box]), HD7.out.fact _ HB.out⟩ (fun hSn => ?_)
    clear hK K hSw0
    have hSw0 := hSn
    clear hSn
    refine Kn.takeR 10 ⟨some 32, _, _, _, _, _⟩ fun K hK => ?_
    refine step_bslice_write rfl (.tmp 31) rfl (.int .i64 (k : Int) :: bvs b) (by simp [HL.out]) (by rw [HAR2.out]; rfl) ?_
    rw [HAR2.out]
    have HDb := Lib.hid (HD7.out.alloc (.cells ar2 158))
    have hnw := news_new ws ar2 158 (by rw [HAR3.out]; simp [HL.out, maxLen])
    rw [HAR3.out] at hnw
    have HNW := Lib.hid hnw
    clear hnw
    generalize hvz : ws.heap.size = vz at *
    generalize hvb : ws.alloc (.cells ar2 158) = vb at *
    clear hvb hvz
    refine hK.out _ _ ⟨by simpa [PD.box] using (HDb.out.boxi 0 (p := p.D) rfl).cell 1 (by simp [PD.box]), HDb.out.fact _ HB.out⟩ (fun hSn => ?_)
    clear hK K hSw0
    have hSw0 := hSn
    clear hSn
    refine Kn.takeR 11 ⟨some 33, _, _, _, _, _⟩ fun K hK => ?_
    have hbw := HDb.out.only.size
    refine step_append_own rfl (.tmp 26) (.tmp 32) 151 rfl w0.heap.size 158 i0 z0 65 72 Tryz.underlying151 hi0 hz0 hz1 hz2 hz3 (by decide) v d.held.length (heldV d.held) rfl (HDb.out.gi 0 rfl) ⟨vz, 0, none⟩ 1 1 (.int .i64 (k : Int) :: bvs b) rfl (by simp [HL.out]) HNW.out HON.out (by unfold maxLen; omega) (by omega) hbw ?_
    intro v5 w5 hown hgrow hat
    have hdd := HDb.out.gapp 0 rfl hown hgrow hat
    obtain ⟨A5, c5, rfl⟩ := hdd.gform 0 rfl
    have HDd := Lib.hid hdd
    have HDx := Lib.hid (DsK.app HDb.out hown hgrow hat (by omega))
    clear hdd hown hgrow hat hbw
    simp only [List.set_cons_zero] at HDd
    refine hK.out _ _ ⟨by simpa [PD.box] using (HDd.out.boxi 0 (p := p.D) rfl).cell 1 (by simp [PD.box]), HDd.out.fact _ HB.out⟩ (fun hSn => ?_)
    clear hK K hSw0
    have hSw0 := hSn
    clear hSn
    refine Kn.takeS 12 ⟨some 34, _, _, _, _, _⟩ ?_
    refine Kn.takeS 13 ⟨some 35, _, _, _, _, _⟩ ?_
    refine Kn.takeR 14 ⟨none, _, _, _, _, _⟩ fun K hK => ?_
    have hxb := HDd.out.boxi 0 (p := p.D) rfl
    have yq := hxb.cell 2 (by simp [PD.box])
    simp only [PD.box, List.getElem_cons_zero, List.getElem_cons_succ] at yq
    have fq := hxb.frozen 2
    go_simp
    clear yq fq hxb
    refine hK.out _ _ ⟨by simpa [PD.box] using (HDx.out.boxi 0 (p := p.D) rfl).cell 1 (by simp [PD.box]), HDx.out.fact _ HB.out⟩ (fun hSn => ?_)
    clear hK K hSw0
    have hSw0 := hSn
    clear hSn
    refine wpAnyH_done (by kernel_rfl) ?_ _
    clear hSw0 HDd
    have HDy := Lib.hid HDx.out.drew
    clear HDx
    go_wp2_with fail
    refine wp_region_held_drew (S := fun w' => w'.cell? ⟨p.D, 1, none⟩ = some (.slice (some ⟨p.n, 0, none⟩) p.N p.cn) ∧ Bys w' (some ⟨g, o, none⟩) 64 cc b) (by kernel_rfl) ⟨by simpa [PD.box] using (HDy.out.boxi 0 (p := p.D) rfl).cell 1 (by simp [PD.box]), HDy.out.fact _ HB.out⟩ (fun hSw0 => ?_)
    generalize (w5.setCell ⟨p.D, 2, none⟩ (.slice A5 (d.held.length + 1) c5)).drew = wt at *
    refine Kn.takeS 0 ⟨some 36, _, _, _, _, _⟩ ?_
    refine Kn.takeS 1 ⟨some 37, _, _, _, _, _⟩ ?_
    refine Kn.takeS 2 ⟨some 38, _, _, _, _, _⟩ ?_
    refine Kn.takeS 3 ⟨some 39, _, _, _, _, _⟩ ?_
    refine Kn.takeS 4 ⟨some 40, _, _, _, _, _⟩ ?_
    refine Kn.takeS 5 ⟨some 41, _, _, _, _, _⟩ ?_
    refine Kn.takeS 6 ⟨some 42, _, _, _, _, _⟩ (v := (.pointer (some ⟨g, o, none⟩))) (hy := fun w hSw => by
     exact exec_arr rfl rfl (arr_at (some ⟨g, o, none⟩) cc w)) ?_
    refine Kn.takeS 7 ⟨some 43, _, _, _, _, _⟩ (v := (.agg ar)) (hy := fun w hSw => by
     have hld := load_bytes hSw.2
     rw [HAR.out] at hld
     exact exec_load rfl rfl hld) ?_
    refine Kn.takeS 8 ⟨some 44, _, _, _, _, _⟩ (v := (.pointer (some ⟨p.n, 64 * k, none⟩))) (hy := fun w hSw => by
     exact exec_index rfl rfl rfl (idx_block p.n p.N p.cn k hkN w)) ?_
    refine Kn.takeR 9 ⟨none, _, _, _, _, _⟩ fun K hK => ?_
    refine step_store_part rfl 156 (.tmp 44) (.tmp 43) rfl p.n (64 * k) (flat d.now) (bvs b) (by rw [bvs_length, HL.out]; exact size_block) rfl (by rw [HAR.out]; rfl) (HDy.out.boxi 2 rfl) (by rw [bvs_length, HL.out, HFL.out]; omega) (bvs_one _) ?_
    intro w6 hown hO6
    rw [bvs_length, HL.out, ← HFS.out] at hown
    have HDz := Lib.hid (HDy.out.call1 2 rfl hown hO6)
    clear hown hO6 HDy
    refine hK.out _ _ ⟨by simpa [PD.box] using (HDz.out.boxi 0 (p := p.D) rfl).cell 1 (by simp [PD.box]), HDz.out.fact _ HB.out⟩ (fun hSn => ?_)
    clear hK K hSw0
    have hSw0 := hSn
    clear hSn
    refine wpAnyH_done (by kernel_rfl) ?_ _
    clear hSw0
    have HE := Lib.hid (H.out.wroteMk HO.out HL.out HDz.out)
    clear HDz
    go_wp2
    go_ret
    exact ⟨rfl, HE.out⟩
   refine AllReadyH.cons (o := ⟨some 32, _, _, _, _, _⟩) rfl (fun K hK => ?_) ?_
   ·refine step_bslice_write rfl (.tmp 31) rfl (.int .i64 (k : Int) :: bvs b) (by simp [HL.out]) (by rw [HAR2.out]; rfl) ?_
    rw [HAR2.out]
    have HDb := Lib.hid (HD7.out.alloc (.cells ar2 158))
    have hnw := news_new ws ar2 158 (by rw [HAR3.out]; simp [HL.out, maxLen])
    rw [HAR3.out] at hnw
    have HNW := Lib.hid hnw
    clear hnw
    generalize hvz : ws.heap.size = vz at *
    generalize hvb : ws.alloc (.cells ar2 158) = vb at *
    clear hvb hvz
    refine hK.out _ _ ⟨by simpa [PD.box] using (HDb.out.boxi 0 (p := p.D) rfl).cell 1 (by simp [PD.box]), HDb.out.fact _ HB.out⟩ (fun hSn => ?_)
    clear hK K hSw0
    have hSw0 := hSn
    clear hSn
    refine Kn.takeR 4 ⟨some 26, _, _, _, _, _⟩ fun K hK => ?_
    have yq := (HDb.out.boxi 0 (p := p.D) rfl).cell 2 (by simp [PD.box])
    simp only [PD.box, List.getElem_cons_zero, List.getElem_cons_succ] at yq
    go_simp
    clear yq
    refine hK.out _ _ ⟨by simpa [PD.box] using (HDb.out.boxi 0 (p := p.D) rfl).cell 1 (by simp [PD.box]), HDb.out.fact _ HB.out⟩ (fun hSn => ?_)
    clear hK K hSw0
    have hSw0 := hSn
    clear hSn
    refine Kn.takeR 11 ⟨some 33, _, _, _, _, _⟩ fun K hK => ?_
    have hbw := HDb.out.only.size
    refine step_append_own rfl (.tmp 26) (.tmp 32) 151 rfl w0.heap.size 158 i0 z0 65 72 Tryz.underlying151 hi0 hz0 hz1 hz2 hz3 (by decide) v d.held.length (heldV d.held) rfl (HDb.out.gi 0 rfl) ⟨vz, 0, none⟩ 1 1 (.int .i64 (k : Int) :: bvs b) rfl (by simp [HL.out]) HNW.out HON.out (by unfold maxLen; omega) (by omega) hbw ?_
    intro v5 w5 hown hgrow hat
    have hdd := HDb.out.gapp 0 rfl hown hgrow hat
    obtain ⟨A5, c5, rfl⟩ := hdd.gform 0 rfl
    have HDd := Lib.hid hdd
    have HDx := Lib.hid (DsK.app HDb.out hown hgrow hat (by omega))
    clear hdd hown hgrow hat hbw
    simp only [List.set_cons_zero] at HDd
    refine hK.out _ _ ⟨by simpa [PD.box] using (HDd.out.boxi 0 (p := p.D) rfl).cell 1 (by simp [PD.box]), HDd.out.fact _ HB.out⟩ (fun hSn => ?_)
    clear hK K hSw0
    have hSw0 := hSn
    clear hSn
    refine Kn.takeS 12 ⟨some 34, _, _, _, _, _⟩ ?_
    refine Kn.takeS 13 ⟨some 35, _, _, _, _, _⟩ ?_
    refine Kn.takeR 14 ⟨none, _, _, _, _, _⟩ fun K hK => ?_
    have hxb := HDd.out.boxi 0 (p := p.D) rfl
    have yq := hxb.cell 2 (by simp [PD.box])
    simp only [PD.box, List.getElem_cons_zero, List.getElem_cons_succ] at yq
    have fq := hxb.frozen 2
    go_simp
    clear yq fq hxb
    refine hK.out _ _ ⟨by simpa [PD.box] using (HDx.out.boxi 0 (p := p.D) rfl).cell 1 (by simp [PD.box]), HDx.out.fact _ HB.out⟩ (fun hSn => ?_)
    clear hK K hSw0
    have hSw0 := hSn
    clear hSn
    refine wpAnyH_done (by kernel_rfl) ?_ _
    clear hSw0 HDd
    have HDy := Lib.hid HDx.out.drew
    clear HDx
    go_wp2_with fail
    refine wp_region_held_drew (S := fun w' => w'.cell? ⟨p.D, 1, none⟩ = some (.slice (some ⟨p.n, 0, none⟩) p.N p.cn) ∧ Bys w' (some ⟨g, o, none⟩) 64 cc b) (by kernel_rfl) ⟨by simpa [PD.box] using (HDy.out.boxi 0 (p := p.D) rfl).cell 1 (by simp [PD.box]), HDy.out.fact _ HB.out⟩ (fun hSw0 => ?_)
    generalize (w5.setCell ⟨p.D, 2, none⟩ (.slice A5 (d.held.length + 1) c5)).drew = wt at *
    refine Kn.takeS 0 ⟨some 36, _, _, _, _, _⟩ ?_
    refine Kn.takeS 1 ⟨some 37, _, _, _, _, _⟩ ?_
    refine Kn.takeS 2 ⟨some 38, _, _, _, _, _⟩ ?_
    refine Kn.takeS 3 ⟨some 39, _, _, _, _, _⟩ ?_
    refine Kn.takeS 4 ⟨some 40, _, _, _, _, _⟩ ?_
    refine Kn.takeS 5 ⟨some 41, _, _, _, _, _⟩ ?_
    refine Kn.takeS 6 ⟨some 42, _, _, _, _, _⟩ (v := (.pointer (some ⟨g, o, none⟩))) (hy := fun w hSw => by
     exact exec_arr rfl rfl (arr_at (some ⟨g, o, none⟩) cc w)) ?_
    refine Kn.takeS 7 ⟨some 43, _, _, _, _, _⟩ (v := (.agg ar)) (hy := fun w hSw => by
     have hld := load_bytes hSw.2
     rw [HAR.out] at hld
     exact exec_load rfl rfl hld) ?_
    refine Kn.takeS 8 ⟨some 44, _, _, _, _, _⟩ (v := (.pointer (some ⟨p.n, 64 * k, none⟩))) (hy := fun w hSw => by
     exact exec_index rfl rfl rfl (idx_block p.n p.N p.cn k hkN w)) ?_
    refine Kn.takeR 9 ⟨none, _, _, _, _, _⟩ fun K hK => ?_
    refine step_store_part rfl 156 (.tmp 44) (.tmp 43) rfl p.n (64 * k) (flat d.now) (bvs b) (by rw [bvs_length, HL.out]; exact size_block) rfl (by rw [HAR.out]; rfl) (HDy.out.boxi 2 rfl) (by rw [bvs_length, HL.out, HFL.out]; omega) (bvs_one _) ?_
    intro w6 hown hO6
    rw [bvs_length, HL.out, ← HFS.out] at hown
    have HDz := Lib.hid (HDy.out.call1 2 rfl hown hO6)
    clear hown hO6 HDy
    refine hK.out _ _ ⟨by simpa [PD.box] using (HDz.out.boxi 0 (p := p.D) rfl).cell 1 (by simp [PD.box]), HDz.out.fact _ HB.out⟩ (fun hSn => ?_)
    clear hK K hSw0
    have hSw0 := hSn
    clear hSn
    refine wpAnyH_done (by kernel_rfl) ?_ _
    clear hSw0
    have HE := Lib.hid (H.out.wroteMk HO.out HL.out HDz.out)
    clear HDz
    go_wp2
    go_ret
    exact ⟨rfl, HE.out⟩
   exact AllReadyH.nil
 ·have e : d.write a b = (d, 1) := by
   unfold Dk.write
   rw [if_neg]
   simp only [Bool.and_eq_true, decide_eq_true_eq]
   exact hok
  rw [e]
  have H := Lib.hid h
  by_cases ho1 : d.has a = true
  ·have hn : ((n : Int) == 64) = false := by
    have : ¬ n = 64 := fun h => hok ⟨ho1, by omega⟩
    simp; omega
   have hn2 : ((n : Int) != 64) = true := by simpa using hn
   have HO := Lib.hid ho1
   clear h hbl hok ho1 e
   go_enter Tryz.func24, Tryz.ntmps24
   go_wp2_with fail
   refine (dk_has_any w0 w p d c a H.out.toDsk).mono ?_
   rintro e w1 ⟨rfl, rfl⟩
   rw [HO.out]
   go_wp2
   go_ret
   exact ⟨rfl, H.out⟩
  ·rw [Bool.not_eq_true] at ho1
   have HO := Lib.hid ho1
   clear h hbl hok ho1 e
   go_enter Tryz.func24, Tryz.ntmps24
   go_wp2_with fail
   refine (dk_has_any w0 w p d c a H.out.toDsk).mono ?_
   rintro e w1 ⟨rfl, rfl⟩
   rw [HO.out]
   go_wp2
   go_ret
   exact ⟨rfl, H.out⟩
theorem duo_write_kb {w0 w : World} {p : PD} {r : RD} {d e : Dk} {c : Fr3} (h : Duo w0 w p r d e c) (a : Int) (A : Option Addr) (n cc : Nat) (b : List UInt8) (hb : (fun W => Bys W A n cc b) ∈ c.F) (hh : d.held.length ≤ 1000000) :
  Calls Tryz.prog 24 #[.pointer (some ⟨p.D, 0, none⟩), .int .i64 a, .slice A n cc] w fun en w' => en = .returned (.int .i64 (d.write a b).2) ∧ Duo w0 w' p r (d.write a b).1 e c ∧ Kb w.heap.size w w' := by
 obtain ⟨c1, hF, hP, back⟩ := h.ofP
 refine (dk_write_kb w w0 w p d c1 a A n cc b (DsK.start hP) (hF _ hb) hh).mono ?_
 rintro en w1 ⟨rfl, h1⟩
 exact ⟨rfl, back _ _ h1.toDsk, h1.kb⟩
end Go.Proofs.YtgcfdjcpcclcjaaGreat
namespace Go.Kn
open Go Go.RowKit
theorem seqW_cons (x : List UInt8) (xs : List (List UInt8)) (d : Dk) (a : Int) : seqW d a (x :: xs) = if (d.write a x).2 = 0 then seqW (d.write a x).1 (a + 1) xs else d.write a x := rfl
theorem seqW_ok : ∀ (xs ys : List (List UInt8)) (d d' : Dk) (a : Int), seqW d a xs = (d', 0) → seqW d a (xs ++ ys) = seqW d' (a + xs.length) ys
 | [], ys, d, d', a, h => by
  injection h with h1
  subst h1
  simp
 | x :: xs, ys, d, d', a, h => by
  rw [seqW_cons] at h
  rw [List.cons_append, seqW_cons]
  by_cases he : (d.write a x).2 = 0
  ·rw [if_pos he] at h ⊢
   rw [seqW_ok xs ys _ _ _ h, show a + 1 + (xs.length : Int) = a + ((x :: xs).length : Int) from by rw [List.length_cons]; omega]
  ·rw [if_neg he] at h
   rw [h] at he
   exact absurd rfl he
theorem seqW_err (x : List UInt8) (xs : List (List UInt8)) (d : Dk) (a : Int) (h : (d.write a x).2 ≠ 0) : seqW d a (x :: xs) = d.write a x := by
 rw [seqW_cons, if_neg h]
theorem seqW_go (x : List UInt8) (xs : List (List UInt8)) (d d' : Dk) (a : Int) (h : d.write a x = (d', 0)) : seqW d a (x :: xs) = seqW d' (a + 1) xs := by
 rw [seqW_cons, h, if_pos rfl]
theorem write_held (d : Dk) (a : Int) (b : List UInt8) : (d.write a b).1.held.length ≤ d.held.length + 1 := by
 unfold Dk.write
 split
 ·split
  ·exact Nat.le_succ _
  ·show (d.held ++ [_]).length ≤ _
   simp
 ·exact Nat.le_succ _
theorem seqW_held : ∀ (xs : List (List UInt8)) (d : Dk) (a : Int), (seqW d a xs).1.held.length ≤ d.held.length + xs.length
 | [], d, a => Nat.le_refl _
 | x :: xs, d, a => by
  rw [seqW_cons]
  have h1 := write_held d a x
  split
  ·have h2 := seqW_held xs (d.write a x).1 (a + 1)
   rw [List.length_cons]
   omega
  ·rw [List.length_cons]
   omega
theorem rows64_len (b : List UInt8) (n : Nat) : (rows64 b n).length = n := by unfold rows64; simp
theorem rows64_get (b : List UInt8) (n i : Nat) (h : i < (rows64 b n).length) : (rows64 b n)[i] = (b.drop (64 * i)).take 64 := by
 have hn : i < n := by rwa [rows64_len] at h
 have h1 : (rows64 b n)[i]? = some ((b.drop (64 * i)).take 64) := by
  unfold rows64
  rw [List.getElem?_map, List.getElem?_range hn]
  rfl
 rw [List.getElem?_eq_getElem h] at h1
 exact Option.some.inj h1
theorem rows64_split (b : List UInt8) (n i : Nat) (h : i < n) : rows64 b n = (rows64 b n).take i ++ ((b.drop (64 * i)).take 64) :: (rows64 b n).drop (i + 1) := by
 have hl : i < (rows64 b n).length := by rw [rows64_len]; exact h
 have h1 := (List.take_append_drop i (rows64 b n)).symm
 rw [List.drop_eq_getElem_cons hl] at h1
 have h2 : (rows64 b n)[i] = (b.drop (64 * i)).take 64 := rows64_get b n i hl
 rw [h2] at h1
 exact h1
theorem rows64_take (b : List UInt8) (n i : Nat) (h : i < n) : (rows64 b n).take (i + 1) = (rows64 b n).take i ++ [(b.drop (64 * i)).take 64] := by
 have hl : i < (rows64 b n).length := by rw [rows64_len]; exact h
 rw [List.take_succ_eq_append_getElem hl]
 have h2 : (rows64 b n)[i] = (b.drop (64 * i)).take 64 := rows64_get b n i hl
 rw [h2]
end Go.Kn
namespace Go.Proofs.YtgcfdjcpcclcjaaGreat
open Go Go.RowKit Go.Kn
theorem Bys.chunk0 {w : World} {g n c i : Nat} {b : List UInt8} (h : Bys w (some ⟨g, 0, none⟩) n c b) (hi : 64 * i + 64 ≤ n) : Bys w (some ⟨g, 64 * i, none⟩) 64 64 ((b.drop (64 * i)).take 64) := by
 have h1 := Bys.chunk h hi
 rw [cutA_at (n := n) (by omega) h.le] at h1
 exact ⟨h1.len, Nat.le_refl _, by decide, h1.at_⟩
structure DuK (wb w0 w : World) (p : PD) (r : RD) (d e : Dk) (c : Fr3) : Prop extends Duo w0 w p r d e c where
 kb : Kb wb.heap.size wb w
section
variable {wb w0 w w' : World} {p : PD} {r : RD} {d d' e e' : Dk} {c c' : Fr3} {L L' : List (Nat × List Value)} {G : List Gs} {F : List (World → Prop)}
theorem DuK.start (h : Duo w0 w p r d e c) : DuK w w0 w p r d e c := ⟨h, Kb.refl _ _⟩
theorem DuK.sz (h : DuK wb w0 w p r d e c) : wb.heap.size ≤ w.heap.size := h.kb.size
theorem DuK.same (h : DuK wb w0 w p r d e c) (g : Duo w0 w p r d e c') : DuK wb w0 w p r d e c' := ⟨g, h.kb⟩
theorem DuK.to (h : DuK wb w0 w p r d e c) (g : Duo w0 w' p r d' e' c') (hk : Kb w.heap.size w w') : DuK wb w0 w' p r d' e' c' := ⟨g, h.kb.trans (hk.mono h.kb.size)⟩
theorem DuK.keep0 (h : DuK wb w0 w p r d e c) (hO : Only [] w w') : DuK wb w0 w' p r d e c := h.to (h.toDuo.keep0 hO) (kb_only0 hO)
theorem DuK.drew (h : DuK wb w0 w p r d e c) : DuK wb w0 w.drew p r d e c := h.keep0 (Only.refl _ _).drew
theorem DuK.newB (h : DuK wb w0 w p r d e c) (cs : Array Value) (t : TypeId) {b : Nat} (hb : w.heap.size = b) : DuK wb w0 (w.alloc (.cells cs t)) p r d e ⟨(b, cs.toList) :: c.L, c.G, c.F⟩ := h.to (h.toDuo.newB cs t hb) (kb_only0 ((Only.refl _ _).alloc _))
theorem DuK.put (h : DuK wb w0 w p r d e ⟨L, G, F⟩) (i : Nat) {b : Nat} {cs : List Value} (hi : L[i]? = some (b, cs)) (j : Nat) (u : Value) : DuK wb w0 (w.setCell ⟨b, j, none⟩ u) p r d e ⟨L.set i (b, cs.set j u), G, F⟩ :=
 h.to (h.toDuo.put i hi j u) (Kb.of_only ((Only.refl [b] w).set (.inl (by simp)) u) (by
  intro k hk o hq
  rw [List.mem_singleton] at hk
  subst hk
  exact (h.toDuo.boxi i (x := (_, cs)) hi).isCells o hq))
theorem DuK.permL (h : DuK wb w0 w p r d e ⟨L, G, F⟩) (hL : L.Perm L') : DuK wb w0 w p r d e ⟨L', G, F⟩ := h.same (h.toDuo.permL hL)
theorem DuK.ldrop {x : Nat × List Value} (h : DuK wb w0 w p r d e ⟨x :: L, G, F⟩) : DuK wb w0 w p r d e ⟨L, G, F⟩ := h.same h.toDuo.ldrop
theorem Duo.putObj (h : Duo w0 w p r d e c) {D : Nat} {o : Obj} (o' : Obj) (hD : w.heap[D]? = some o) (ho : o.isCells = false) (hw : w0.heap.size ≤ D) : Duo w0 (w.putObj D o') p r d e c := by
 obtain ⟨L0, G0, F0, hm, back⟩ := h.fr
 exact back _ c (hm.putObj o' hD ho hw)
end
set_option maxHeartbeats 4000000 in
theorem us_touch_kb (wb w0 w : World) (p : TD) (t : Tb) (s x : Int) (L : List (Nat × List Value)) (G : List Gs) (F : List (World → Prop)) (hw : Wk w0 wb w (p.L t L) G F) (ht : t.Ok p.n) (hn : p.n ≤ 1000) :
  Calls Tryz.prog 174 #[.pointer (some ⟨p.T, 0, none⟩), .int .i64 s, .int .i64 x] w fun e w' => e = .returned (.tuple #[]) ∧ Wk w0 wb w' (p.L (t.touch s x) L) G F := by
 have HW := Lib.hid hw
 have HO := Lib.hid ht
 clear hw ht
 have HT : Hid (Kn.Own w p.T p.box) := Lib.hid (HW.out.boxi 0 rfl)
 have c1 : w.cell? ⟨p.T, 1, none⟩ = some (.slice (some ⟨p.u, 0, none⟩) p.n p.n) := HT.out.cellv 1
 have lt := HT.out.lt
 by_cases hs : 0 ≤ s ∧ s < (p.n : Int)
 ·obtain ⟨s, rfl⟩ : ∃ k : Nat, s = k := ⟨s.toNat, by omega⟩
  have hsl : s < t.us.length := by rw [HO.out.u]; omega
  have c0 := (us_cell (HW.out.boxi 1 rfl) hsl).2
  have z0 := (HW.out.boxi 1 rfl).frozen (s * 2 + 1)
  have l0 := (HW.out.boxi 1 rfl).lt
  have hsn : (s : Int) < (p.n : Int) := hs.2
  have hd := decide_eq_true hs
  have hgr : t.has (s : Int) = true := by rw [tb_has HO.out, hd]
  have HGR := Lib.hid hgr
  clear hgr hs
  go_enter Tryz.func174, Tryz.ntmps174
  go_wp2_with fail
  refine (us_has_any _ p s HT.out hn).mono ?_
  rintro e w2 ⟨rfl, rfl⟩
  rw [hd]
  have no : ¬ (0 ≤ x ∧ x ≤ 2147483647) → t.touch (s : Int) x = t := fun h => by unfold Tb.touch; rw [decide_eq_false h, Bool.and_false]; simp
  have HNO := Lib.hid no
  clear no
  by_cases h0 : 0 ≤ x
  ·by_cases h1 : x ≤ 2147483647
   ·have hgb : t.touch (s : Int) x = ⟨t.us.set s ⟨t.us[s].st, x⟩, t.live⟩ := by unfold Tb.touch; rw [HGR.out, decide_eq_true ⟨h0, h1⟩, if_pos (by rfl), us_get hsl, Int.toNat_natCast]
    have hu1 : (usV t.us).set (s * 2 + 1) (.int .i64 x) = usV (t.us.set s ⟨t.us[s].st, x⟩) := usV_set t.us s 1 ⟨t.us[s].st, x⟩ _ hsl (by decide) (by rw [List.getD_eq_getElem?_getD, List.getElem?_eq_getElem hsl]; rfl)
    have hf := HW.out.put 1 rfl (s * 2 + 1) (.int .i64 x)
    simp only [List.set_cons_zero, List.set_cons_succ, hu1] at hf
    have HF := Lib.hid hf
    have HGB := Lib.hid hgb
    clear hgb hu1 hf
    go_wp2
    refine bodyPost_end (results_none rfl _ _ _) rfl ⟨rfl, ?_⟩
    rw [HGB.out]
    exact HF.out
   ·go_wp2
    refine bodyPost_end (results_none rfl _ _ _) rfl ⟨rfl, ?_⟩
    rw [HNO.out (by omega)]
    exact HW.out
  ·go_wp2
   refine bodyPost_end (results_none rfl _ _ _) rfl ⟨rfl, ?_⟩
   rw [HNO.out (by omega)]
   exact HW.out
 ·have hd := decide_eq_false hs
  have hgb : t.touch s x = t := by unfold Tb.touch; rw [tb_has HO.out, hd]; simp
  have HGB := Lib.hid hgb
  clear hgb hs
  go_enter Tryz.func174, Tryz.ntmps174
  go_wp2_with fail
  refine (us_has_any _ p s HT.out hn).mono ?_
  rintro e w2 ⟨rfl, rfl⟩
  rw [hd]
  go_wp2
  refine bodyPost_end (results_none rfl _ _ _) rfl ⟨rfl, ?_⟩
  rw [HGB.out]
  exact HW.out
theorem duo_touch_kb {wb w0 w : World} {p : PD} {r : RD} {d e : Dk} {q : TD} {t : Tb} {L : List (Nat × List Value)} {G : List Gs} {F : List (World → Prop)} (s x : Int) (h : DuK wb w0 w p r d e ⟨q.L t L, G, F⟩) (ht : t.Ok q.n) (hn : q.n ≤ 1000) :
  Calls Tryz.prog 174 #[.pointer (some ⟨q.T, 0, none⟩), .int .i64 s, .int .i64 x] w fun en w' => en = .returned (.tuple #[]) ∧ DuK wb w0 w' p r d e ⟨q.L (t.touch s x) L, G, F⟩ := by
 obtain ⟨L0, G0, F0, hw, back⟩ := h.toDuo.fr
 refine (us_touch_kb w w0 w q t s x (L ++ L0) (G ++ G0) (F ++ F0) (Wk.start hw) ht hn).mono ?_
 rintro en w1 ⟨rfl, h1⟩
 exact ⟨rfl, h.to (back w1 ⟨q.L (t.touch s x) L, G, F⟩ h1.toWc) h1.kb⟩
/-- a frame that the way back to both disks is known of -/
def WrBack (w0 : World) (p : PD) (r : RD) (d e : Dk) (L : List (Nat × List Value)) (G : List Gs) (F : List (World → Prop)) (c : Fr3) : Prop := ∃ L0 G0 F0, c = ⟨L ++ L0, G ++ G0, F ++ F0⟩ ∧ ∀ w' (c' : Fr3), Wc w0 w' (c'.L ++ L0) (c'.G ++ G0) (c'.F ++ F0) → Duo w0 w' p r d e c'
theorem Duo.at3 {w0 w : World} {p : PD} {r : RD} {d e : Dk} {X L : List (Nat × List Value)} {G : List Gs} {F : List (World → Prop)} (h : Duo w0 w p r d e ⟨X ++ L, G, F⟩) : ∃ c, WrBack w0 p r d e L G F c ∧ At3 w0 w ⟨X, [], []⟩ c := by
 obtain ⟨L0, G0, F0, hw, back⟩ := h.fr
 refine ⟨⟨L ++ L0, G ++ G0, F ++ F0⟩, ⟨L0, G0, F0, rfl, back⟩, ?_⟩
 show Wc w0 w (X ++ (L ++ L0)) ([] ++ (G ++ G0)) ([] ++ (F ++ F0))
 have : Wc w0 w ((X ++ L) ++ L0) (G ++ G0) (F ++ F0) := hw
 rw [List.append_assoc] at this
 exact this
theorem WrBack.duo {w0 w : World} {p : PD} {r : RD} {d e : Dk} {X L : List (Nat × List Value)} {G : List Gs} {F : List (World → Prop)} {c : Fr3} (hb : WrBack w0 p r d e L G F c) (ha : At3 w0 w ⟨X, [], []⟩ c) : Duo w0 w p r d e ⟨X ++ L, G, F⟩ := by
 obtain ⟨L0, G0, F0, rfl, back⟩ := hb
 refine back w ⟨X ++ L, G, F⟩ ?_
 have : Wc w0 w (X ++ (L ++ L0)) ([] ++ (G ++ G0)) ([] ++ (F ++ F0)) := ha
 show Wc w0 w ((X ++ L) ++ L0) (G ++ G0) (F ++ F0)
 rw [List.append_assoc]
 exact this
end Go.Proofs.YtgcfdjcpcclcjaaGreat
namespace Go.Kn
open Go Go.RowKit
/-- a record at the place: the disk, the table, the place, the error -/
def writeW (d : Dk) (t : Tb) (c : Cf) (q : Ps) (its : List It) (bl : List (List UInt8)) : Dk × Tb × Ps × Int :=
 match encRc ⟨q.m, q.l, q.p, its, bl⟩ with
 | none => (d, t, q, 1)
 | some (b, s) =>
  if (seqW d (c.at_ q.s + q.o) (rows64 b (b.length / 64))).2 = 0 then ((seqW d (c.at_ q.s + q.o) (rows64 b (b.length / 64))).1, t.touch q.s q.l, ⟨q.s, behind q.o bl.length, q.l + 1, (s : Nat), q.m⟩, 0)
  else ((seqW d (c.at_ q.s + q.o) (rows64 b (b.length / 64))).1, t, q, (seqW d (c.at_ q.s + q.o) (rows64 b (b.length / 64))).2)
theorem write_W (c : Cf) (w : Wr) (its : List It) (bl : List (List UInt8)) : w.write c its bl = ({ w with d := (writeW w.d w.t c w.p its bl).1, t := (writeW w.d w.t c w.p its bl).2.1, p := (writeW w.d w.t c w.p its bl).2.2.1 }, (writeW w.d w.t c w.p its bl).2.2.2) := by
 unfold Wr.write writeW
 cases encRc ⟨w.p.m, w.p.l, w.p.p, its, bl⟩ with
 | none => rfl
 | some x =>
  obtain ⟨b, s⟩ := x
  simp only
  split <;> rfl
end Go.Kn
namespace Go.Proofs.YtgcfdjcpcclcjaaGreat
open Go Go.RowKit Go.Kn Go.Shelf
attribute [local go_sem] Oper.semAt_some
/-- what the range over a record's rows keeps -/
def WrJ (w0 : World) (p : PD) (r : RD) (d e : Dk) (a0 : Int) (rows : List (List UInt8)) (f10 f6 : Nat) (L : List (Nat × List Value)) (G : List Gs) (F : List (World → Prop)) : Option Code → List Nat → Fr3 → World → Prop
 | none, pre, c, _ => ∃ d', seqW d a0 (rows.take pre.length) = (d', 0) ∧ WrBack w0 p r d' e ((f10, [.int .i64 (a0 + (pre.length : Int))]) :: (f6, [.int .i64 0]) :: L) G F c
 | some cd, _, c, _ => cd = .ret ∧ ∃ d' er v, er ≠ 0 ∧ seqW d a0 rows = (d', er) ∧ WrBack w0 p r d' e ((f10, [v]) :: (f6, [.int .i64 er]) :: L) G F c
set_option maxRecDepth 100000 in
set_option maxHeartbeats 16000000 in
theorem wr_write_any (w0 w : World) (p : PD) (r : RD) (d e : Dk) (W gb : Nat) (q : TD) (t : Tb) (ps : Ps) (vi vb : Value) (cf : Cf) (its : List It) (bl : List (List UInt8)) (A B : Option Addr) (na ca nb cb : Nat) (L : List (Nat × List Value)) (G : List Gs) (F : List (World → Prop))
  (h : Duo w0 w p r d e ⟨(W, (WB p.D gb q.T ps vi vb)) :: q.L t L, G, F⟩) (hg : (fun W => GeoAt W gb cf.b cf.s cf.l) ∈ F) (hc : cf.Ok) (ht : t.Ok q.n) (hqn : q.n ≤ 1000) (hi : Its w A na ca its) (hj : Blks w B nb cb bl) (hs : 0 ≤ ps.s ∧ ps.s ≤ cf.s - 1) (ho : 0 ≤ ps.o ∧ ps.o ≤ 100) (hl : -1000000000000 ≤ ps.l ∧ ps.l ≤ 1000000000000) (hh : d.held.length ≤ 900000) :
  Calls Tryz.prog 128 #[.pointer (some ⟨W, 0, none⟩), .slice A na ca, .slice B nb cb] w fun en w' => en = .returned (.int .i64 (writeW d t cf ps its bl).2.2.2) ∧ Duo w0 w' p r (writeW d t cf ps its bl).1 e ⟨(W, WB p.D gb q.T (writeW d t cf ps its bl).2.2.1 vi vb) :: q.L (writeW d t cf ps its bl).2.1 L, G, F⟩ := by
 have hres : Tryz.f128.results = #[.cell 6 48] := by kernel_rfl
 have HRES := Lib.hid hres
 have HG := Lib.hid hg
 have HC := Lib.hid hc
 have HT := Lib.hid ht
 have HI : Hid (∀ W', Only [] w W' → Its W' A na ca its) := Lib.hid (fun W' hO => hi.keep0 hO)
 have HJ : Hid (∀ W', Only [] w W' → Blks W' B nb cb bl) := Lib.hid (fun W' hO => hj.keep0 hO)
 have HNB := Lib.hid hj.len
 obtain ⟨s1, s2, s3⟩ := Cf.sec cf hc ps.s hs.1 hs.2
 have hcl := hc.2.2
 obtain ⟨a0, ha0⟩ : ∃ a, cf.at_ ps.s + ps.o = a := ⟨_, rfl⟩
 have hw0 : IntKind.i64.wrap (cf.at_ ps.s + ps.o) = a0 := by rw [ha0]; exact IntWalk.i64_in _ (by omega)
 have ha0b : 0 ≤ a0 ∧ a0 ≤ 100000 := by omega
 have HA0 := Lib.hid ha0
 have HHH := Lib.hid hh
 have hwl : IntKind.i64.wrap (ps.l + 1) = ps.l + 1 := IntWalk.i64_in _ (by omega)
 have hs1 : (w.alloc (.cells #[.pointer (some ⟨W, 0, none⟩)] 92)).heap.size = w.heap.size + 1 := by simp
 have H := Lib.hid ((h.newB #[.pointer (some ⟨W, 0, none⟩)] 92 rfl).newB #[.int .i64 0] 48 hs1)
 have hO1 : Only [] w (((w.alloc (.cells #[.pointer (some ⟨W, 0, none⟩)] 92)).alloc (.cells #[.int .i64 0] 48)).drew) := (((Only.refl _ _).alloc _).alloc _).drew
 have HO1 := Lib.hid hO1
 clear h hres hg hc ht hi hj ha0 hh hO1
 refine (callsIn_wide (n := 6)).1 (callsIn_of_wp_post Tryz.func128 rfl ?_)
 simp only [Tryz.ntmps128, List.size_toArray, List.length_cons, List.length_nil, Nat.reduceAdd, Nat.reduceSub, Array.replicate_succ, Array.replicate_zero, List.push_toArray, List.append_toArray, List.nil_append, List.cons_append]
 refine wpIn_wide.2 ?_
 go_upto_region 1 with (fail)
 (try rw [hs1])
 generalize hz : (w.alloc (.cells #[.pointer (some ⟨W, 0, none⟩)] 92)).alloc (.cells #[.int .i64 0] 48) = w1 at *
 clear hz hs1
 generalize w.heap.size = f3 at *
 generalize f3 + 1 = f6 at *
 cases hen : encRc ⟨ps.m, ps.l, ps.p, its, bl⟩ with
 | none =>
  have HEN := Lib.hid hen
  have hww : writeW d t cf ps its bl = (d, t, ps, 1) := by unfold writeW; rw [hen]
  have HWW := Lib.hid hww
  clear hen hww
  have HY := Lib.hid H.out.drew
  clear H
  refine wp_region_held_drew (S := (fun w' => w'.cell? ⟨f3, 0, none⟩ = some (.pointer (some ⟨W, 0, none⟩)) ∧ Kn.Own w' W (WB p.D gb q.T ps vi vb))) (by kernel_rfl) ⟨own1 (HY.out.boxi 1 rfl), HY.out.boxi 2 rfl⟩ (fun hSw0 => ?_)
  generalize w1.drew = wz at *
  refine Kn.takeS 0 ⟨some 14, _, _, _, _, _⟩ (hQ := fun _ _ _ h => h.elim) (v := (.pointer (some ⟨W, 0, none⟩))) (hy := fun w hSw => by
   have q0 := hSw.1
   go_simp) ?_
  refine Kn.takeS 1 ⟨some 15, _, _, _, _, _⟩ (hQ := fun _ _ _ h => h.elim) ?_
  refine Kn.takeS 2 ⟨some 16, _, _, _, _, _⟩ (hQ := fun _ _ _ h => h.elim) ?_
  refine Kn.takeS 3 ⟨some 17, _, _, _, _, _⟩ (hQ := fun _ _ _ h => h.elim) ?_
  refine Kn.takeS 4 ⟨some 18, _, _, _, _, _⟩ (hQ := fun _ _ _ h => h.elim) (v := (.int .i64 ps.m)) (hy := fun w hSw => by
   have q0 := hSw.2.cellv 7
   go_simp) ?_
  refine Kn.takeS 5 ⟨some 19, _, _, _, _, _⟩ (hQ := fun _ _ _ h => h.elim) (v := (.pointer (some ⟨W, 0, none⟩))) (hy := fun w hSw => by
   have q0 := hSw.1
   go_simp) ?_
  refine Kn.takeS 6 ⟨some 20, _, _, _, _, _⟩ (hQ := fun _ _ _ h => h.elim) ?_
  refine Kn.takeS 7 ⟨some 21, _, _, _, _, _⟩ (hQ := fun _ _ _ h => h.elim) ?_
  refine Kn.takeS 8 ⟨some 22, _, _, _, _, _⟩ (hQ := fun _ _ _ h => h.elim) ?_
  refine Kn.takeS 9 ⟨some 23, _, _, _, _, _⟩ (hQ := fun _ _ _ h => h.elim) (v := (.int .i64 ps.l)) (hy := fun w hSw => by
   have q0 := hSw.2.cellv 5
   go_simp) ?_
  refine Kn.takeS 10 ⟨some 24, _, _, _, _, _⟩ (hQ := fun _ _ _ h => h.elim) (v := (.pointer (some ⟨W, 0, none⟩))) (hy := fun w hSw => by
   have q0 := hSw.1
   go_simp) ?_
  refine Kn.takeS 11 ⟨some 25, _, _, _, _, _⟩ (hQ := fun _ _ _ h => h.elim) ?_
  refine Kn.takeS 12 ⟨some 26, _, _, _, _, _⟩ (hQ := fun _ _ _ h => h.elim) ?_
  refine Kn.takeS 13 ⟨some 27, _, _, _, _, _⟩ (hQ := fun _ _ _ h => h.elim) ?_
  refine Kn.takeS 14 ⟨some 28, _, _, _, _, _⟩ (hQ := fun _ _ _ h => h.elim) (v := (.int .i64 ps.p)) (hy := fun w hSw => by
   have q0 := hSw.2.cellv 6
   go_simp) ?_
  refine Kn.takeS 15 ⟨some 29, _, _, _, _, _⟩ (hQ := fun _ _ _ h => h.elim) ?_
  refine Kn.takeS 16 ⟨some 30, _, _, _, _, _⟩ (hQ := fun _ _ _ h => h.elim) ?_
  refine Kn.takeS 17 ⟨some 31, _, _, _, _, _⟩ (hQ := fun _ _ _ h => h.elim) ?_
  refine Kn.takeR 18 ⟨some 32, _, _, _, _, _⟩ fun K hK => ?_
  go_simp
  refine (rec_enc_any ps.m ps.l ps.p A na ca its B nb cb bl _ (HI.out _ HO1.out) (HJ.out _ HO1.out)).mono ?_
  rintro en w2 hen
  rw [HEN.out] at hen
  obtain ⟨rfl, hO⟩ := EncRc.of_none hen
  have HY2 := Lib.hid (HY.out.keep0 hO)
  clear hen hO HY
  refine hK.out _ _ ⟨own1 (HY2.out.boxi 1 rfl), HY2.out.boxi 2 rfl⟩ (fun hSn => ?_)
  clear hK K hSw0
  have hSw0 := hSn
  clear hSn
  refine Kn.takeS 19 ⟨some 13, _, _, _, _, _⟩ (hQ := fun _ _ _ h => h.elim) ?_
  refine Kn.takeS 20 ⟨some 33, _, _, _, _, _⟩ (hQ := fun _ _ _ h => h.elim) ?_
  refine Kn.takeS 21 ⟨some 34, _, _, _, _, _⟩ (hQ := fun _ _ _ h => h.elim) ?_
  refine Kn.takeS 22 ⟨some 35, _, _, _, _, _⟩ (hQ := fun _ _ _ h => h.elim) ?_
  refine Kn.takeS 23 ⟨some 7, _, _, _, _, _⟩ (hQ := fun _ _ _ h => h.elim) ?_
  refine Kn.takeS 24 ⟨some 8, _, _, _, _, _⟩ (hQ := fun _ _ _ h => h.elim) ?_
  refine Kn.takeS 25 ⟨some 9, _, _, _, _, _⟩ (hQ := fun _ _ _ h => h.elim) ?_
  refine wpAnyH_done (by kernel_rfl) ?_ _
  clear hSw0
  have b6 := HY2.out.boxi 0 rfl
  have y0 := b6.cellv 0
  have z0 := b6.frozen 0
  have l0 := b6.lt
  have HE := Lib.hid ((HY2.out.put 0 rfl 0 (.int .i64 1)).ldrop.ldrop)
  clear b6
  go_wp2
  refine ⟨.int .i64 1, ?_, ?_⟩
  ·simp only [results, HRES.out]
   go_simp
  ·rw [HWW.out]; exact ⟨rfl, HE.out⟩
 | some x =>
  obtain ⟨b, sm⟩ := x
  have HEN := Lib.hid hen
  obtain ⟨hq1, hq2, hsm, hb64, hb6, hq3⟩ := enc_some hen
  have hb64' : b.length = 64 * (1 + bl.length) := hb64
  have hb6' : bl.length ≤ 6 := hb6
  obtain ⟨N, hN⟩ : ∃ N, b.length = N := ⟨_, rfl⟩
  obtain ⟨K, hK0⟩ : ∃ K, 1 + bl.length = K := ⟨_, rfl⟩
  have hNK : N = 64 * K := by omega
  have hK7 : 1 ≤ K ∧ K ≤ 7 := by omega
  have hdiv : b.length / 64 = K := by omega
  obtain ⟨d2, er, hsq⟩ : ∃ d2 er, seqW d a0 (rows64 b K) = (d2, er) := ⟨_, _, rfl⟩
  have HSQ := Lib.hid hsq
  have hww : writeW d t cf ps its bl = if er = 0 then (d2, t.touch ps.s ps.l, ⟨ps.s, behind ps.o bl.length, ps.l + 1, (sm : Nat), ps.m⟩, 0) else (d2, t, ps, er) := by
   unfold writeW
   rw [hen]
   simp only
   rw [hdiv, HA0.out, hsq]
  have HWW := Lib.hid hww
  have HSM := Lib.hid hsm
  have HN := Lib.hid hN
  have HNK := Lib.hid hNK
  have HKK := Lib.hid hK0
  obtain ⟨hK1, hK7⟩ := hK7
  clear hq1 hq2 hq3 hen hsm hb64 hb6 hb64' hb6' hN hNK hK0 hdiv hsq hww
  have HY := Lib.hid H.out.drew
  clear H
  refine wp_region_held_drew (S := (fun w' => w'.cell? ⟨f3, 0, none⟩ = some (.pointer (some ⟨W, 0, none⟩)) ∧ Kn.Own w' W (WB p.D gb q.T ps vi vb))) (by kernel_rfl) ⟨own1 (HY.out.boxi 1 rfl), HY.out.boxi 2 rfl⟩ (fun hSw0 => ?_)
  generalize w1.drew = wz at *
  refine Kn.takeS 0 ⟨some 14, _, _, _, _, _⟩ (hQ := fun _ _ _ h => h.elim) (v := (.pointer (some ⟨W, 0, none⟩))) (hy := fun w hSw => by
   have q0 := hSw.1
   go_simp) ?_
  refine Kn.takeS 1 ⟨some 15, _, _, _, _, _⟩ (hQ := fun _ _ _ h => h.elim) ?_
  refine Kn.takeS 2 ⟨some 16, _, _, _, _, _⟩ (hQ := fun _ _ _ h => h.elim) ?_
  refine Kn.takeS 3 ⟨some 17, _, _, _, _, _⟩ (hQ := fun _ _ _ h => h.elim) ?_
  refine Kn.takeS 4 ⟨some 18, _, _, _, _, _⟩ (hQ := fun _ _ _ h => h.elim) (v := (.int .i64 ps.m)) (hy := fun w hSw => by
   have q0 := hSw.2.cellv 7
   go_simp) ?_
  refine Kn.takeS 5 ⟨some 19, _, _, _, _, _⟩ (hQ := fun _ _ _ h => h.elim) (v := (.pointer (some ⟨W, 0, none⟩))) (hy := fun w hSw => by
   have q0 := hSw.1
   go_simp) ?_
  refine Kn.takeS 6 ⟨some 20, _, _, _, _, _⟩ (hQ := fun _ _ _ h => h.elim) ?_
  refine Kn.takeS 7 ⟨some 21, _, _, _, _, _⟩ (hQ := fun _ _ _ h => h.elim) ?_
  refine Kn.takeS 8 ⟨some 22, _, _, _, _, _⟩ (hQ := fun _ _ _ h => h.elim) ?_
  refine Kn.takeS 9 ⟨some 23, _, _, _, _, _⟩ (hQ := fun _ _ _ h => h.elim) (v := (.int .i64 ps.l)) (hy := fun w hSw => by
   have q0 := hSw.2.cellv 5
   go_simp) ?_
  refine Kn.takeS 10 ⟨some 24, _, _, _, _, _⟩ (hQ := fun _ _ _ h => h.elim) (v := (.pointer (some ⟨W, 0, none⟩))) (hy := fun w hSw => by
   have q0 := hSw.1
   go_simp) ?_
  refine Kn.takeS 11 ⟨some 25, _, _, _, _, _⟩ (hQ := fun _ _ _ h => h.elim) ?_
  refine Kn.takeS 12 ⟨some 26, _, _, _, _, _⟩ (hQ := fun _ _ _ h => h.elim) ?_
  refine Kn.takeS 13 ⟨some 27, _, _, _, _, _⟩ (hQ := fun _ _ _ h => h.elim) ?_
  refine Kn.takeS 14 ⟨some 28, _, _, _, _, _⟩ (hQ := fun _ _ _ h => h.elim) (v := (.int .i64 ps.p)) (hy := fun w hSw => by
   have q0 := hSw.2.cellv 6
   go_simp) ?_
  refine Kn.takeS 15 ⟨some 29, _, _, _, _, _⟩ (hQ := fun _ _ _ h => h.elim) ?_
  refine Kn.takeS 16 ⟨some 30, _, _, _, _, _⟩ (hQ := fun _ _ _ h => h.elim) ?_
  refine Kn.takeS 17 ⟨some 31, _, _, _, _, _⟩ (hQ := fun _ _ _ h => h.elim) ?_
  refine Kn.takeR 18 ⟨some 32, _, _, _, _, _⟩ fun K hK => ?_
  go_simp
  refine (rec_enc_any ps.m ps.l ps.p A na ca its B nb cb bl _ (HI.out _ HO1.out) (HJ.out _ HO1.out)).mono ?_
  rintro en w2 hen
  rw [HEN.out] at hen
  obtain ⟨g2, c2, rfl, hbc, hcm2, hg2, hown, hO⟩ := EncRc.of_some hen
  rw [HN.out] at hbc ⊢
  have HY2 := Lib.hid (HY.out.addFc hO (f := (fun W => Bys W (some ⟨g2, 0, none⟩) N c2 b)) (Row1.fc (Row1.of_Own hown (by rw [bvs_length, HN.out]) hbc hcm2) (fun _ a ha => by injection ha with ha; subst ha; exact Nat.not_lt.2 hg2)))
  have HBC := Lib.hid hbc
  clear hen hbc hcm2 hg2 hown hO HY HO1
  refine hK.out _ _ ⟨own1 (HY2.out.boxi 1 rfl), HY2.out.boxi 2 rfl⟩ (fun hSn => ?_)
  clear hK K hSw0
  have hSw0 := hSn
  clear hSn
  refine Kn.takeS 19 ⟨some 13, _, _, _, _, _⟩ (hQ := fun _ _ _ h => h.elim) ?_
  refine Kn.takeS 20 ⟨some 33, _, _, _, _, _⟩ (hQ := fun _ _ _ h => h.elim) ?_
  refine Kn.takeS 21 ⟨some 34, _, _, _, _, _⟩ (hQ := fun _ _ _ h => h.elim) ?_
  refine Kn.takeS 22 ⟨some 35, _, _, _, _, _⟩ (hQ := fun _ _ _ h => h.elim) ?_
  refine Kn.takeS 23 ⟨some 7, _, _, _, _, _⟩ (hQ := fun _ _ _ h => h.elim) ?_
  refine Kn.takeS 24 ⟨some 8, _, _, _, _, _⟩ (hQ := fun _ _ _ h => h.elim) ?_
  refine Kn.takeS 25 ⟨some 9, _, _, _, _, _⟩ (hQ := fun _ _ _ h => h.elim) ?_
  refine wpAnyH_done (by kernel_rfl) ?_ _
  clear hSw0
  go_wp2_with fail
  go_cut [10] from 13 (fun s10 wy => ∃ f10 : Nat, s10 = .pointer (some ⟨f10, 0, none⟩) ∧ Duo w0 wy p r d e ⟨(f10, [.int .i64 a0]) :: (f6, [.int .i64 0]) :: (f3, [.pointer (some ⟨W, 0, none⟩)]) :: (W, (WB p.D gb q.T ps vi vb)) :: (q.L t L), G, (fun W => Bys W (some ⟨g2, 0, none⟩) N c2 b) :: F⟩)
  case first =>
   have HZ := Lib.hid HY2.out.drew
   clear HY2
   refine wp_region_held_drew (S := (fun w' => w'.cell? ⟨f3, 0, none⟩ = some (.pointer (some ⟨W, 0, none⟩)) ∧ Kn.Own w' W (WB p.D gb q.T ps vi vb))) (by kernel_rfl) ⟨own1 (HZ.out.boxi 1 rfl), HZ.out.boxi 2 rfl⟩ (fun hSw0 => ?_)
   generalize w2.drew = wy2 at *
   refine Kn.takeS 0 ⟨some 39, _, _, _, _, _⟩ (hQ := fun _ _ _ h => h.elim) (v := (.pointer (some ⟨W, 0, none⟩))) (hy := fun w hSw => by
    have q0 := hSw.1
    go_simp) ?_
   refine Kn.takeS 1 ⟨some 40, _, _, _, _, _⟩ (hQ := fun _ _ _ h => h.elim) ?_
   refine Kn.takeS 2 ⟨some 41, _, _, _, _, _⟩ (hQ := fun _ _ _ h => h.elim) ?_
   refine Kn.takeS 3 ⟨some 42, _, _, _, _, _⟩ (hQ := fun _ _ _ h => h.elim) (v := (.pointer (some ⟨gb, 0, none⟩))) (hy := fun w hSw => by
    have q0 := hSw.2.cellv 1
    go_simp) ?_
   refine Kn.takeS 4 ⟨some 43, _, _, _, _, _⟩ (hQ := fun _ _ _ h => h.elim) (v := (.pointer (some ⟨W, 0, none⟩))) (hy := fun w hSw => by
    have q0 := hSw.1
    go_simp) ?_
   refine Kn.takeS 5 ⟨some 44, _, _, _, _, _⟩ (hQ := fun _ _ _ h => h.elim) ?_
   refine Kn.takeS 6 ⟨some 45, _, _, _, _, _⟩ (hQ := fun _ _ _ h => h.elim) ?_
   refine Kn.takeS 7 ⟨some 46, _, _, _, _, _⟩ (hQ := fun _ _ _ h => h.elim) ?_
   refine Kn.takeS 8 ⟨some 47, _, _, _, _, _⟩ (hQ := fun _ _ _ h => h.elim) (v := (.int .i64 ps.s)) (hy := fun w hSw => by
    have q0 := hSw.2.cellv 3
    go_simp) ?_
   refine Kn.takeS 10 ⟨some 49, _, _, _, _, _⟩ (hQ := fun _ _ _ h => h.elim) (v := (.pointer (some ⟨W, 0, none⟩))) (hy := fun w hSw => by
    have q0 := hSw.1
    go_simp) ?_
   refine Kn.takeS 11 ⟨some 50, _, _, _, _, _⟩ (hQ := fun _ _ _ h => h.elim) ?_
   refine Kn.takeS 12 ⟨some 51, _, _, _, _, _⟩ (hQ := fun _ _ _ h => h.elim) ?_
   refine Kn.takeS 13 ⟨some 52, _, _, _, _, _⟩ (hQ := fun _ _ _ h => h.elim) ?_
   refine Kn.takeS 14 ⟨some 53, _, _, _, _, _⟩ (hQ := fun _ _ _ h => h.elim) (v := (.int .i64 ps.o)) (hy := fun w hSw => by
    have q0 := hSw.2.cellv 4
    go_simp) ?_
   refine wpAnyH_ready (rs := [9, 16]) (by kernel_rfl) (by simp) ?_
   refine AllReadyH.cons (o := ⟨some 48, _, _, _, _, _⟩) rfl (fun K hK => ?_) ?_
   ·go_simp
    refine (geom_seg_any gb cf ps.s _ (HZ.out.fact (f := (fun W => GeoAt W gb cf.b cf.s cf.l)) (List.mem_cons_of_mem _ HG.out)) HC.out).mono ?_
    rintro en wg ⟨rfl, hO⟩
    have HZc := Lib.hid (HZ.out.keep0 hO)
    clear hO HZ
    refine hK.out _ _ ⟨own1 (HZc.out.boxi 1 rfl), HZc.out.boxi 2 rfl⟩ (fun hSn => ?_)
    clear hK K hSw0
    have hSw0 := hSn
    clear hSn
    refine Kn.takeS 15 ⟨some 54, _, _, _, _, _⟩ (hQ := fun _ _ _ h => h.elim) ?_
    refine Kn.takeR 16 ⟨some 10, _, _, _, _, _⟩ fun K hK => ?_
    go_simp
    have HZca := Lib.hid (HZc.out.newB #[.int .i64 0] 3 rfl)
    clear HZc
    generalize hvb : wg.alloc (.cells #[.int .i64 0] 3) = wv at *
    generalize wg.heap.size = f10 at *
    clear hvb
    refine hK.out _ _ ⟨own1 (HZca.out.boxi 2 rfl), HZca.out.boxi 3 rfl⟩ (fun hSn => ?_)
    clear hK K hSw0
    have hSw0 := hSn
    clear hSn
    refine Kn.takeR 17 ⟨none, _, _, _, _, _⟩ fun K hK => ?_
    have b6 := HZca.out.boxi 0 rfl
    have y0 := b6.cellv 0
    have z0 := b6.frozen 0
    have l0 := b6.lt
    clear b6
    go_simp
    have HZcas := Lib.hid (HZca.out.put 0 rfl 0 (.int .i64 a0))
    clear HZca y0 z0 l0
    refine hK.out _ _ ⟨own1 (HZcas.out.boxi 2 rfl), HZcas.out.boxi 3 rfl⟩ (fun hSn => ?_)
    clear hK K hSw0
    have hSw0 := hSn
    clear hSn
    refine wpAnyH_done (by kernel_rfl) ?_ _
    clear hSw0
    go_wp2
    go_meet
    case rel => exact ⟨f10, rfl, HZcas.out⟩
   refine AllReadyH.cons (o := ⟨some 10, _, _, _, _, _⟩) rfl (fun K hK => ?_) ?_
   ·go_simp
    have HZa := Lib.hid (HZ.out.newB #[.int .i64 0] 3 rfl)
    clear HZ
    generalize hvb : wy2.alloc (.cells #[.int .i64 0] 3) = wv at *
    generalize wy2.heap.size = f10 at *
    clear hvb
    refine hK.out _ _ ⟨own1 (HZa.out.boxi 2 rfl), HZa.out.boxi 3 rfl⟩ (fun hSn => ?_)
    clear hK K hSw0
    have hSw0 := hSn
    clear hSn
    refine Kn.takeR 9 ⟨some 48, _, _, _, _, _⟩ fun K hK => ?_
    go_simp
    refine (geom_seg_any gb cf ps.s _ (HZa.out.fact (f := (fun W => GeoAt W gb cf.b cf.s cf.l)) (List.mem_cons_of_mem _ HG.out)) HC.out).mono ?_
    rintro en wg ⟨rfl, hO⟩
    have HZac := Lib.hid (HZa.out.keep0 hO)
    clear hO HZa
    refine hK.out _ _ ⟨own1 (HZac.out.boxi 2 rfl), HZac.out.boxi 3 rfl⟩ (fun hSn => ?_)
    clear hK K hSw0
    have hSw0 := hSn
    clear hSn
    refine Kn.takeS 15 ⟨some 54, _, _, _, _, _⟩ (hQ := fun _ _ _ h => h.elim) ?_
    refine Kn.takeR 17 ⟨none, _, _, _, _, _⟩ fun K hK => ?_
    have b6 := HZac.out.boxi 0 rfl
    have y0 := b6.cellv 0
    have z0 := b6.frozen 0
    have l0 := b6.lt
    clear b6
    go_simp
    have HZacs := Lib.hid (HZac.out.put 0 rfl 0 (.int .i64 a0))
    clear HZac y0 z0 l0
    refine hK.out _ _ ⟨own1 (HZacs.out.boxi 2 rfl), HZacs.out.boxi 3 rfl⟩ (fun hSn => ?_)
    clear hK K hSw0
    have hSw0 := hSn
    clear hSn
    refine wpAnyH_done (by kernel_rfl) ?_ _
    clear hSw0
    go_wp2
    go_meet
    case rel => exact ⟨f10, rfl, HZacs.out⟩
   exact AllReadyH.nil
  case rest =>
   obtain ⟨f10, rfl, hd⟩ := hcut
   have HD1 := Lib.hid hd
   clear hd HY2
   go_wp2_with fail
   refine (chunk_any (some ⟨g2, 0, none⟩) N c2 _).mono ?_
   rintro en wd ⟨rfl, rfl⟩
   go_wp2_with fail
   have hs2 : (wc.alloc (.cells #[.slice (some ⟨g2, 0, none⟩) N c2] 47)).heap.size = wc.heap.size + 1 := by simp
   have HD2 := Lib.hid ((HD1.out.newB #[.slice (some ⟨g2, 0, none⟩) N c2] 47 rfl).newB #[.int .i64 64] 3 hs2)
   clear HD1
   generalize hz : (wc.alloc (.cells #[.slice (some ⟨g2, 0, none⟩) N c2] 47)).alloc (.cells #[.int .i64 64] 3) = wd at *
   generalize wc.heap.size = b1 at *
   generalize b1 + 1 = b2 at *
   clear hz hs2
   obtain ⟨c0, hb0, hat0⟩ := Duo.at3 (X := [(b2, [.int .i64 64]), (b1, [.slice (some ⟨g2, 0, none⟩) N c2])]) (L := (f10, [.int .i64 a0]) :: (f6, [.int .i64 0]) :: ((f3, [.pointer (some ⟨W, 0, none⟩)]) :: (W, (WB p.D gb q.T ps vi vb)) :: (q.L t L))) HD2.out
   have hw0d := HD2.out.only.size
   have HB0 := Lib.hid hb0
   have HAT0 := Lib.hid hat0
   clear hb0 hat0 HD2
   refine (wpIn_wide (n := 6)).1 ?_
   refine wpIn_named (fun aa haa => ?_)
   have HAA := Lib.hid haa
   clear haa
   refine wpIn_rangeFunc_W (F := Fence.wide) (n := 6) rfl (by decide) (gf := 206) (lb := #[.pointer (some ⟨b1, 0, none⟩), .pointer (some ⟨b2, 0, none⟩)]) (by rw [HAA.out]; rfl) trivial (enters_of Tryz.func206 (by kernel_rfl) rfl)
    (c0 := c0) (fun W1 _ => chunk_seq w0 W1 b1 b2 g2 N c2 K [(b2, [.int .i64 64]), (b1, [.slice (some ⟨g2, 0, none⟩) N c2])] [] [] (6 - 1) (by decide) HNK.out HBC.out (by omega) (by simp) (by simp)) (fun _ => rfl)
    (WrJ w0 p r d e a0 (rows64 b K) f10 f6 ((f3, [.pointer (some ⟨W, 0, none⟩)]) :: (W, (WB p.D gb q.T ps vi vb)) :: (q.L t L)) G ((fun W => Bys W (some ⟨g2, 0, none⟩) N c2 b) :: F)) (fun pre x a cc V => (WrJ w0 p r d e a0 (rows64 b K) f10 f6 ((f3, [.pointer (some ⟨W, 0, none⟩)]) :: (W, (WB p.D gb q.T ps vi vb)) :: (q.L t L)) G ((fun W => Bys W (some ⟨g2, 0, none⟩) N c2 b) :: F)) none pre cc V ∧ a = { tmps := (aa.tmps.setIfInBounds 57 (.slice (some ⟨g2, 64 * x, none⟩) 64 64)).setIfInBounds 11 (.slice (some ⟨g2, 64 * x, none⟩) 64 64), defers := [] }) ?hJ ?hJm ⟨d, rfl, by simpa using HB0.out⟩ HAT0.out ?assign ?body ?done ?stop
   case hJ =>
    rintro (_ | cd) xs cc X Y h hb
    ·exact h
    ·exact h
   case hJm =>
    rintro pre x a cc X Y ⟨h, ha⟩ hb
    exact ⟨h, ha⟩
   case assign =>
    rintro lr pre x φ cc W1 KK hpre hj hat hsz hlen hK
    have HJ1 := Lib.hid hj
    have HAT := Lib.hid hat
    clear hj hat hpre HB0 HAT0
    simp only [chEnc]
    rw [HAA.out]
    gi_wp2
    exact hK _ _ _ (KeepsFrom.refl _ _) HAT.out ⟨HJ1.out, by rw [HAA.out]; rfl⟩
   case body =>
    rintro lr pre x φ cc a' W1 ⟨rfl, hx, hxk, hpre⟩ ⟨⟨dx, hsq, hbk⟩, rfl⟩ hat hsz hlen
    rw [← hx] at hsq hbk
    obtain ⟨ax, hax⟩ : ∃ v, a0 + (x : Int) = v := ⟨_, rfl⟩
    rw [hax] at hbk
    have haxb : 0 ≤ ax ∧ ax ≤ 100010 := by omega
    have hwx : IntKind.i64.wrap (ax + 1) = ax + 1 := IntWalk.i64_in _ (by omega)
    have HAX := Lib.hid hax
    have HF : Hid (DuK W1 w0 W1 p r dx e ⟨(b2, [.int .i64 64]) :: (b1, [.slice (some ⟨g2, 0, none⟩) N c2]) :: (f10, [.int .i64 ax]) :: (f6, [.int .i64 0]) :: ((f3, [.pointer (some ⟨W, 0, none⟩)]) :: (W, (WB p.D gb q.T ps vi vb)) :: (q.L t L)), G, ((fun W => Bys W (some ⟨g2, 0, none⟩) N c2 b) :: F)⟩) := Lib.hid (DuK.start (hbk.duo hat))
    have hhl : dx.held.length ≤ d.held.length + 7 := by
     have h1 := seqW_held ((rows64 b K).take x) d a0
     rw [hsq] at h1
     have h2 : ((rows64 b K).take x).length ≤ x := by rw [List.length_take]; omega
     have h3 : dx.held.length ≤ d.held.length + ((rows64 b K).take x).length := h1
     omega
    have HHL := Lib.hid hhl
    have HSX := Lib.hid hsq
    have HX := Lib.hid hx
    obtain ⟨d3, er, hwr⟩ : ∃ d3 er, dx.write ax ((b.drop (64 * x)).take 64) = (d3, er) := ⟨_, _, rfl⟩
    have HWR := Lib.hid hwr
    clear hsq hbk hat hax hhl hx hwr HB0 HAT0 hpre
    rw [HAA.out]
    clear HAA
    refine wpIn_block ?_
    gi_upto_region 7 with (fail)
    have HY := Lib.hid HF.out.drew
    clear HF
    refine wpIn_region_held_drew (S := (fun w' => w'.cell? ⟨f3, 0, none⟩ = some (.pointer (some ⟨W, 0, none⟩)) ∧ w'.cell? ⟨W, 0, none⟩ = some (.pointer (some ⟨p.D, 0, none⟩)) ∧ w'.cell? ⟨f10, 0, none⟩ = some (.int .i64 ax))) (by repeat (first | exact not_letsOut_postW | apply not_letsOut_then)) (plainOps_spec (by kernel_rfl)) (by kernel_rfl) ⟨own1 (HY.out.boxi 4 rfl), (HY.out.boxi 5 rfl).cellv 0, own1 (HY.out.boxi 2 rfl)⟩ (fun hSw0 => ?_)
    generalize W1.drew = wz at *
    refine Kn.takeS 0 ⟨some 58, _, _, _, _, _⟩ (hQ := fun _ _ _ h => h.elim) (v := (.pointer (some ⟨W, 0, none⟩))) (hy := fun w hSw => by
     have q0 := hSw.1
     go_simp) ?_
    refine Kn.takeS 1 ⟨some 59, _, _, _, _, _⟩ (hQ := fun _ _ _ h => h.elim) ?_
    refine Kn.takeS 2 ⟨some 60, _, _, _, _, _⟩ (hQ := fun _ _ _ h => h.elim) ?_
    refine Kn.takeS 3 ⟨some 61, _, _, _, _, _⟩ (hQ := fun _ _ _ h => h.elim) (v := (.pointer (some ⟨p.D, 0, none⟩))) (hy := fun w hSw => by
     have q0 := hSw.2.1
     go_simp) ?_
    refine Kn.takeS 4 ⟨some 62, _, _, _, _, _⟩ (hQ := fun _ _ _ h => h.elim) (v := (.int .i64 ax)) (hy := fun w hSw => by
     have q0 := hSw.2.2
     go_simp) ?_
    refine Kn.takeS 5 ⟨some 63, _, _, _, _, _⟩ (hQ := fun _ _ _ h => h.elim) ?_
    refine Kn.takeR 6 ⟨some 64, _, _, _, _, _⟩ fun K hK => ?_
    go_simp
    refine (duo_write_kb (HY.out.toDuo.imp (f1 := (fun W => Bys W (some ⟨g2, 0, none⟩) N c2 b)) (f := fun W => Bys W (some ⟨g2, 64 * x, none⟩) 64 64 ((b.drop (64 * x)).take 64)) List.mem_cons_self (fun W h => Bys.chunk0 h (by have := HNK.out; omega))) ax _ 64 64 ((b.drop (64 * x)).take 64) List.mem_cons_self (by have := HHL.out; have := HHH.out; omega)).mono ?_
    rw [HWR.out]
    rintro en v1 ⟨rfl, hd, hkb⟩
    have HZ := Lib.hid (HY.out.to (hd.subF (F' := ((fun W => Bys W (some ⟨g2, 0, none⟩) N c2 b) :: F)) (fun f hf => List.mem_cons_of_mem _ hf)) hkb)
    clear hd hkb HY
    refine hK.out _ _ ⟨own1 (HZ.out.boxi 4 rfl), (HZ.out.boxi 5 rfl).cellv 0, own1 (HZ.out.boxi 2 rfl)⟩ (fun hSn => ?_)
    clear hK K hSw0
    have hSw0 := hSn
    clear hSn
    refine Kn.takeS 7 ⟨some 12, _, _, _, _, _⟩ (hQ := fun _ _ _ h => h.elim) ?_
    refine wpAnyH_done (by kernel_rfl) ?_ _
    clear hSw0
    have hsnoc : seqW d a0 ((rows64 b K).take x ++ [((b.drop (64 * x)).take 64)]) = (d3, er) := by
     rw [seqW_ok _ _ _ _ _ HSX.out, List.length_take, rows64_len, show min x K = x from by omega, HAX.out]
     by_cases he : er = 0
     ·rw [seqW_go _ _ _ _ _ (HWR.out.trans (by rw [he])), he]; rfl
     ·rw [seqW_err _ _ _ _ (by rw [HWR.out]; exact he), HWR.out]
    have HSN := Lib.hid hsnoc
    clear hsnoc
    by_cases he : er = 0
    ·subst he
     have b10 := HZ.out.boxi 2 rfl
     have y0 := b10.cellv 0
     have z0 := b10.frozen 0
     have l0 := b10.lt
     have HE := Lib.hid (HZ.out.put 2 rfl 0 (.int .i64 (ax + 1)))
     clear b10
     gi_wp2
     obtain ⟨cc2, hb2, hat2⟩ := Duo.at3 (X := [(b2, [.int .i64 64]), (b1, [.slice (some ⟨g2, 0, none⟩) N c2])]) (L := (f10, [.int .i64 (ax + 1)]) :: (f6, [.int .i64 0]) :: ((f3, [.pointer (some ⟨W, 0, none⟩)]) :: (W, (WB p.D gb q.T ps vi vb)) :: (q.L t L))) HE.out.toDuo
     refine ⟨kf_of_kb HE.out.kb, cc2, hat2, d3, ?_, ?_⟩
     ·rw [List.length_append, List.length_singleton, ← HX.out, rows64_take b K x hxk]
      exact HSN.out
     ·have e1 : a0 + ((pre ++ [x]).length : Int) = ax + 1 := by have := HAX.out; have := HX.out; simp; omega
      rw [e1]
      exact hb2
    ·have heb : (er != 0) = true := by rw [bne_iff_ne]; exact he
     have b10 := HZ.out.boxi 3 rfl
     have y0 := b10.cellv 0
     have z0 := b10.frozen 0
     have l0 := b10.lt
     have HE := Lib.hid (HZ.out.put 3 rfl 0 (.int .i64 er))
     clear b10
     gi_wp2
     obtain ⟨cc2, hb2, hat2⟩ := Duo.at3 (X := [(b2, [.int .i64 64]), (b1, [.slice (some ⟨g2, 0, none⟩) N c2])]) (L := (f10, [.int .i64 ax]) :: (f6, [.int .i64 er]) :: ((f3, [.pointer (some ⟨W, 0, none⟩)]) :: (W, (WB p.D gb q.T ps vi vb)) :: (q.L t L))) HE.out.toDuo
     refine ⟨kf_of_kb HE.out.kb, cc2, hat2, rfl, d3, er, .int .i64 ax, he, ?_, hb2⟩
     rw [rows64_split b K x hxk, seqW_ok _ _ _ _ _ HSX.out, List.length_take, rows64_len, show min x K = x from by omega, HAX.out, seqW_err _ _ _ _ (by rw [HWR.out]; exact he), HWR.out]
   case done =>
    rintro D xs φ cc W2 hD ⟨rfl, hxs⟩ ⟨dx, hsq, hbk⟩ hat hK hsz
    have hxl : xs.length = K := by rw [hxs]; simp
    rw [hxl, List.take_of_length_le (by rw [rows64_len]; exact Nat.le_refl _), HSQ.out] at hsq
    obtain ⟨rfl, rfl⟩ := Prod.mk.inj hsq
    obtain ⟨ax, hax⟩ : ∃ v, a0 + (xs.length : Int) = v := ⟨_, rfl⟩
    rw [hax] at hbk
    have HQ : Hid (DuK W2 w0 W2 p r d2 e ⟨(f6, [.int .i64 0]) :: (f10, [.int .i64 ax]) :: (f3, [.pointer (some ⟨W, 0, none⟩)]) :: (W, WB p.D gb q.T ps vi vb) :: q.L (t) L, G, ((fun W => Bys W (some ⟨g2, 0, none⟩) N c2 b) :: F)⟩) := Lib.hid (((DuK.start (hbk.duo hat)).ldrop.ldrop).permL (List.Perm.swap _ _ _))
    have HKK2 := Lib.hid hK
    have HWD : Hid (w0.heap.size ≤ D) := Lib.hid (Nat.le_trans hw0d hD)
    have hww2 : writeW d t cf ps its bl = (d2, t.touch ps.s ps.l, ⟨ps.s, behind ps.o bl.length, ps.l + 1, (sm : Nat), ps.m⟩, 0) := by rw [HWW.out, if_pos rfl]
    have HW2 := Lib.hid hww2
    clear hat hbk hK hsq hww2 HWW HB0 HAT0
    rw [HAA.out]
    clear HAA
    go_upto_region 11 with (fail)
    have HE := Lib.hid HQ.out.drew
    clear HQ
    refine wp_region_held_drew (S := (fun w' => w'.cell? ⟨f3, 0, none⟩ = some (.pointer (some ⟨W, 0, none⟩)) ∧ Kn.Own w' W (WB p.D gb q.T ps vi vb))) (by kernel_rfl) ⟨own1 (HE.out.boxi 2 rfl), HE.out.boxi 3 rfl⟩ (fun hSw0 => ?_)
    generalize W2.drew = wz at *
    refine Kn.takeS 0 ⟨some 70, _, _, _, _, _⟩ (hQ := fun _ _ _ h => h.elim) (v := (.pointer (some ⟨W, 0, none⟩))) (hy := fun w hSw => by
     have q0 := hSw.1
     go_simp) ?_
    refine Kn.takeS 1 ⟨some 71, _, _, _, _, _⟩ (hQ := fun _ _ _ h => h.elim) ?_
    refine Kn.takeS 2 ⟨some 72, _, _, _, _, _⟩ (hQ := fun _ _ _ h => h.elim) ?_
    refine Kn.takeS 3 ⟨some 73, _, _, _, _, _⟩ (hQ := fun _ _ _ h => h.elim) (v := (.pointer (some ⟨q.T, 0, none⟩))) (hy := fun w hSw => by
     have q0 := hSw.2.cellv 2
     go_simp) ?_
    refine Kn.takeS 4 ⟨some 74, _, _, _, _, _⟩ (hQ := fun _ _ _ h => h.elim) (v := (.pointer (some ⟨W, 0, none⟩))) (hy := fun w hSw => by
     have q0 := hSw.1
     go_simp) ?_
    refine Kn.takeS 5 ⟨some 75, _, _, _, _, _⟩ (hQ := fun _ _ _ h => h.elim) ?_
    refine Kn.takeS 6 ⟨some 76, _, _, _, _, _⟩ (hQ := fun _ _ _ h => h.elim) ?_
    refine Kn.takeS 7 ⟨some 77, _, _, _, _, _⟩ (hQ := fun _ _ _ h => h.elim) ?_
    refine Kn.takeS 8 ⟨some 78, _, _, _, _, _⟩ (hQ := fun _ _ _ h => h.elim) (v := (.int .i64 ps.s)) (hy := fun w hSw => by
     have q0 := hSw.2.cellv 3
     go_simp) ?_
    refine Kn.takeS 9 ⟨some 79, _, _, _, _, _⟩ (hQ := fun _ _ _ h => h.elim) (v := (.pointer (some ⟨W, 0, none⟩))) (hy := fun w hSw => by
     have q0 := hSw.1
     go_simp) ?_
    refine Kn.takeS 10 ⟨some 80, _, _, _, _, _⟩ (hQ := fun _ _ _ h => h.elim) ?_
    refine Kn.takeS 11 ⟨some 81, _, _, _, _, _⟩ (hQ := fun _ _ _ h => h.elim) ?_
    refine Kn.takeS 12 ⟨some 82, _, _, _, _, _⟩ (hQ := fun _ _ _ h => h.elim) ?_
    refine Kn.takeS 13 ⟨some 83, _, _, _, _, _⟩ (hQ := fun _ _ _ h => h.elim) (v := (.int .i64 ps.l)) (hy := fun w hSw => by
     have q0 := hSw.2.cellv 5
     go_simp) ?_
    refine Kn.takeR 14 ⟨some 84, _, _, _, _, _⟩ fun K hK => ?_
    go_simp
    have hpm := HE.out.permL (L' := q.L t ((f10, [.int .i64 ax]) :: (f6, [.int .i64 0]) :: (f3, [.pointer (some ⟨W, 0, none⟩)]) :: (W, (WB p.D gb q.T ps vi vb)) :: L)) (perm_any (fun c => by simp only [TD.L, List.map_cons, List.map_append, List.sum_cons, List.sum_append, List.cons_append, List.map_nil, List.sum_nil] <;> omega))
    refine (duo_touch_kb ps.s ps.l hpm HT.out hqn).mono ?_
    rintro en v1 ⟨rfl, hd⟩
    have HE1 : Hid (DuK W2 w0 v1 p r d2 e ⟨(f6, [.int .i64 0]) :: (f10, [.int .i64 ax]) :: (f3, [.pointer (some ⟨W, 0, none⟩)]) :: (W, WB p.D gb q.T ps vi vb) :: q.L (t.touch ps.s ps.l) L, G, ((fun W => Bys W (some ⟨g2, 0, none⟩) N c2 b) :: F)⟩) := Lib.hid (hd.permL (perm_any (fun c => by simp only [TD.L, List.map_cons, List.map_append, List.sum_cons, List.sum_append, List.cons_append, List.map_nil, List.sum_nil] <;> omega)))
    clear hd hpm HE
    refine hK.out _ _ ⟨own1 (HE1.out.boxi 2 rfl), HE1.out.boxi 3 rfl⟩ (fun hSn => ?_)
    clear hK K hSw0
    have hSw0 := hSn
    clear hSn
    refine wpAnyH_done (by kernel_rfl) ?_ _
    clear hSw0
    go_upto_region 12 with (fail)
    have HE2 := Lib.hid HE1.out.drew
    clear HE1
    refine wp_region_held_drew (S := (fun w' => w'.cell? ⟨f3, 0, none⟩ = some (.pointer (some ⟨W, 0, none⟩)))) (by kernel_rfl) (own1 (HE2.out.boxi 2 rfl)) (fun hSw0 => ?_)
    generalize v1.drew = wy at *
    refine Kn.takeS 0 ⟨some 85, _, _, _, _, _⟩ (hQ := fun _ _ _ h => h.elim) (v := (.pointer (some ⟨W, 0, none⟩))) (hy := fun w hSw => by
     have q0 := hSw
     go_simp) ?_
    refine Kn.takeS 1 ⟨some 86, _, _, _, _, _⟩ (hQ := fun _ _ _ h => h.elim) (v := (.pointer (some ⟨W, 0, none⟩))) (hy := fun w hSw => by
     have q0 := hSw
     go_simp) ?_
    refine Kn.takeS 2 ⟨some 87, _, _, _, _, _⟩ (hQ := fun _ _ _ h => h.elim) (v := (.pointer (some ⟨W, 0, none⟩))) (hy := fun w hSw => by
     have q0 := hSw
     go_simp) ?_
    refine Kn.takeS 3 ⟨some 88, _, _, _, _, _⟩ (hQ := fun _ _ _ h => h.elim) (v := (.pointer (some ⟨W, 0, none⟩))) (hy := fun w hSw => by
     have q0 := hSw
     go_simp) ?_
    refine Kn.takeS 4 ⟨some 89, _, _, _, _, _⟩ (hQ := fun _ _ _ h => h.elim) ?_
    refine Kn.takeS 5 ⟨some 90, _, _, _, _, _⟩ (hQ := fun _ _ _ h => h.elim) ?_
    refine Kn.takeS 6 ⟨some 91, _, _, _, _, _⟩ (hQ := fun _ _ _ h => h.elim) ?_
    refine Kn.takeS 8 ⟨some 93, _, _, _, _, _⟩ (hQ := fun _ _ _ h => h.elim) ?_
    refine Kn.takeS 9 ⟨some 94, _, _, _, _, _⟩ (hQ := fun _ _ _ h => h.elim) ?_
    refine Kn.takeS 11 ⟨some 96, _, _, _, _, _⟩ (hQ := fun _ _ _ h => h.elim) (v := (.pointer (some ⟨W, 0, none⟩))) (hy := fun w hSw => by
     have q0 := hSw
     go_simp) ?_
    refine Kn.takeS 12 ⟨some 97, _, _, _, _, _⟩ (hQ := fun _ _ _ h => h.elim) ?_
    refine Kn.takeS 13 ⟨some 98, _, _, _, _, _⟩ (hQ := fun _ _ _ h => h.elim) ?_
    refine Kn.takeS 14 ⟨some 99, _, _, _, _, _⟩ (hQ := fun _ _ _ h => h.elim) ?_
    refine Kn.takeS 17 ⟨some 102, _, _, _, _, _⟩ (hQ := fun _ _ _ h => h.elim) ?_
    refine wpAnyH_ready (rs := [7, 15]) (by kernel_rfl) (by simp) ?_
    refine AllReadyH.cons (o := ⟨some 92, _, _, _, _, _⟩) rfl (fun K hK => ?_) ?_
    ·have q0 := (HE2.out.boxi 3 rfl).cellv 4
     go_simp
     clear q0
     refine hK.out _ _ (own1 (HE2.out.boxi 2 rfl)) (fun hSn => ?_)
     clear hK K hSw0
     have hSw0 := hSn
     clear hSn
     refine wpAnyH_ready (rs := [10, 15]) (by kernel_rfl) (by simp) ?_
     refine AllReadyH.cons (o := ⟨some 95, _, _, _, _, _⟩) rfl (fun K hK => ?_) ?_
     ·go_simp
      refine (wr_behind_any ps.o nb _ (by omega) (by have := HNB.out; have := HKK.out; omega)).mono ?_
      rintro en v2 ⟨rfl, rfl⟩
      refine hK.out _ _ (own1 (HE2.out.boxi 2 rfl)) (fun hSn => ?_)
      clear hK K hSw0
      have hSw0 := hSn
      clear hSn
      refine Kn.takeR 15 ⟨some 100, _, _, _, _, _⟩ fun K hK => ?_
      have q0 := (HE2.out.boxi 3 rfl).cellv 5
      go_simp
      clear q0
      refine hK.out _ _ (own1 (HE2.out.boxi 2 rfl)) (fun hSn => ?_)
      clear hK K hSw0
      have hSw0 := hSn
      clear hSn
      refine Kn.takeS 16 ⟨some 101, _, _, _, _, _⟩ (hQ := fun _ _ _ h => h.elim) ?_
      refine Kn.takeS 18 ⟨some 103, _, _, _, _, _⟩ (hQ := fun _ _ _ h => h.elim) ?_
      refine Kn.takeS 19 ⟨some 104, _, _, _, _, _⟩ (hQ := fun _ _ _ h => h.elim) ?_
      refine Kn.takeS 20 ⟨some 105, _, _, _, _, _⟩ (hQ := fun _ _ _ h => h.elim) ?_
      refine Kn.takeR 21 ⟨none, _, _, _, _, _⟩ fun K hK => ?_
      have b3 := HE2.out.boxi 3 rfl
      have y0 := b3.cellv 4
      have z0 := b3.frozen 4
      have l0 := b3.lt
      clear b3
      go_simp
      have HE2s := Lib.hid (HE2.out.put 3 rfl 4 (.int .i64 (behind ps.o nb)))
      clear HE2 y0 z0 l0
      refine hK.out _ _ (own1 (HE2s.out.boxi 2 rfl)) (fun hSn => ?_)
      clear hK K hSw0
      have hSw0 := hSn
      clear hSn
      refine Kn.takeS 22 ⟨some 106, _, _, _, _, _⟩ (hQ := fun _ _ _ h => h.elim) ?_
      refine Kn.takeS 23 ⟨some 107, _, _, _, _, _⟩ (hQ := fun _ _ _ h => h.elim) ?_
      refine Kn.takeS 24 ⟨some 108, _, _, _, _, _⟩ (hQ := fun _ _ _ h => h.elim) ?_
      refine Kn.takeR 25 ⟨none, _, _, _, _, _⟩ fun K hK => ?_
      have b3 := HE2s.out.boxi 3 rfl
      have y0 := b3.cellv 5
      have z0 := b3.frozen 5
      have l0 := b3.lt
      clear b3
      go_simp
      have HE2ss := Lib.hid (HE2s.out.put 3 rfl 5 (.int .i64 (ps.l + 1)))
      clear HE2s y0 z0 l0
      refine hK.out _ _ (own1 (HE2ss.out.boxi 2 rfl)) (fun hSn => ?_)
      clear hK K hSw0
      have hSw0 := hSn
      clear hSn
      refine Kn.takeS 26 ⟨some 109, _, _, _, _, _⟩ (hQ := fun _ _ _ h => h.elim) ?_
      refine Kn.takeS 27 ⟨some 110, _, _, _, _, _⟩ (hQ := fun _ _ _ h => h.elim) ?_
      refine Kn.takeS 28 ⟨some 111, _, _, _, _, _⟩ (hQ := fun _ _ _ h => h.elim) ?_
      refine Kn.takeR 29 ⟨none, _, _, _, _, _⟩ fun K hK => ?_
      have b3 := HE2ss.out.boxi 3 rfl
      have y0 := b3.cellv 6
      have z0 := b3.frozen 6
      have l0 := b3.lt
      clear b3
      go_simp
      have HE2sss := Lib.hid (HE2ss.out.put 3 rfl 6 (.int .i64 ((sm : Nat) : Int)))
      clear HE2ss y0 z0 l0
      refine hK.out _ _ (own1 (HE2sss.out.boxi 2 rfl)) (fun hSn => ?_)
      clear hK K hSw0
      have hSw0 := hSn
      clear hSn
      refine wpAnyH_done (by kernel_rfl) ?_ _
      clear hSw0
      have b6 := HE2sss.out.boxi 0 rfl
      have y0 := b6.cellv 0
      have z0 := b6.frozen 0
      have l0 := b6.lt
      clear b6
      have HF := Lib.hid (HE2sss.out.put 0 rfl 0 (.int .i64 0))
      clear HE2sss
      have hkd := HF.out.kb.keep D _ (lt_of_obj HKK2.out) HKK2.out rfl
      have hke := HF.out.toDuo.putObj (.deferred none) hkd rfl HWD.out
      have hc6 := (hke.boxi 0 rfl).cellv 0
      have HKE := Lib.hid hke
      clear hke HF
      go_wp2_with fail
      refine marks_ret1 (v := .int .i64 0) (D := D) hkd ?_ rfl ?_
      ·simp only [results, HRES.out]
       go_simp
      ·rw [HW2.out, HNB.out]
       exact ⟨rfl, (HKE.out.ldrop.ldrop.ldrop).subF (fun f hf => List.mem_cons_of_mem _ hf)⟩
     refine AllReadyH.cons (o := ⟨some 100, _, _, _, _, _⟩) rfl (fun K hK => ?_) ?_
     ·have q0 := (HE2.out.boxi 3 rfl).cellv 5
      go_simp
      clear q0
      refine hK.out _ _ (own1 (HE2.out.boxi 2 rfl)) (fun hSn => ?_)
      clear hK K hSw0
      have hSw0 := hSn
      clear hSn
      refine Kn.takeS 16 ⟨some 101, _, _, _, _, _⟩ (hQ := fun _ _ _ h => h.elim) ?_
      refine Kn.takeR 10 ⟨some 95, _, _, _, _, _⟩ fun K hK => ?_
      go_simp
      refine (wr_behind_any ps.o nb _ (by omega) (by have := HNB.out; have := HKK.out; omega)).mono ?_
      rintro en v2 ⟨rfl, rfl⟩
      refine hK.out _ _ (own1 (HE2.out.boxi 2 rfl)) (fun hSn => ?_)
      clear hK K hSw0
      have hSw0 := hSn
      clear hSn
      refine Kn.takeS 18 ⟨some 103, _, _, _, _, _⟩ (hQ := fun _ _ _ h => h.elim) ?_
      refine Kn.takeS 19 ⟨some 104, _, _, _, _, _⟩ (hQ := fun _ _ _ h => h.elim) ?_
      refine Kn.takeS 20 ⟨some 105, _, _, _, _, _⟩ (hQ := fun _ _ _ h => h.elim) ?_
      refine Kn.takeR 21 ⟨none, _, _, _, _, _⟩ fun K hK => ?_
      have b3 := HE2.out.boxi 3 rfl
      have y0 := b3.cellv 4
      have z0 := b3.frozen 4
      have l0 := b3.lt
      clear b3
      go_simp
      have HE2s := Lib.hid (HE2.out.put 3 rfl 4 (.int .i64 (behind ps.o nb)))
      clear HE2 y0 z0 l0
      refine hK.out _ _ (own1 (HE2s.out.boxi 2 rfl)) (fun hSn => ?_)
      clear hK K hSw0
      have hSw0 := hSn
      clear hSn
      refine Kn.takeS 22 ⟨some 106, _, _, _, _, _⟩ (hQ := fun _ _ _ h => h.elim) ?_
      refine Kn.takeS 23 ⟨some 107, _, _, _, _, _⟩ (hQ := fun _ _ _ h => h.elim) ?_
      refine Kn.takeS 24 ⟨some 108, _, _, _, _, _⟩ (hQ := fun _ _ _ h => h.elim) ?_
      refine Kn.takeR 25 ⟨none, _, _, _, _, _⟩ fun K hK => ?_
      have b3 := HE2s.out.boxi 3 rfl
      have y0 := b3.cellv 5
      have z0 := b3.frozen 5
      have l0 := b3.lt
      clear b3
      go_simp
      have HE2ss := Lib.hid (HE2s.out.put 3 rfl 5 (.int .i64 (ps.l + 1)))
      clear HE2s y0 z0 l0
      refine hK.out _ _ (own1 (HE2ss.out.boxi 2 rfl)) (fun hSn => ?_)
      clear hK K hSw0
      have hSw0 := hSn
      clear hSn
      refine Kn.takeS 26 ⟨some 109, _, _, _, _, _⟩ (hQ := fun _ _ _ h => h.elim) ?_
      refine Kn.takeS 27 ⟨some 110, _, _, _, _, _⟩ (hQ := fun _ _ _ h => h.elim) ?_
      refine Kn.takeS 28 ⟨some 111, _, _, _, _, _⟩ (hQ := fun _ _ _ h => h.elim) ?_
      refine Kn.takeR 29 ⟨none, _, _, _, _, _⟩ fun K hK => ?_
      have b3 := HE2ss.out.boxi 3 rfl
      have y0 := b3.cellv 6
      have z0 := b3.frozen 6
      have l0 := b3.lt
      clear b3
      go_simp
      have HE2sss := Lib.hid (HE2ss.out.put 3 rfl 6 (.int .i64 ((sm : Nat) : Int)))
      clear HE2ss y0 z0 l0
      refine hK.out _ _ (own1 (HE2sss.out.boxi 2 rfl)) (fun hSn => ?_)
      clear hK K hSw0
      have hSw0 := hSn
      clear hSn
      refine wpAnyH_done (by kernel_rfl) ?_ _
      clear hSw0
      have b6 := HE2sss.out.boxi 0 rfl
      have y0 := b6.cellv 0
      have z0 := b6.frozen 0
      have l0 := b6.lt
      clear b6
      have HF := Lib.hid (HE2sss.out.put 0 rfl 0 (.int .i64 0))
      clear HE2sss
      have hkd := HF.out.kb.keep D _ (lt_of_obj HKK2.out) HKK2.out rfl
      have hke := HF.out.toDuo.putObj (.deferred none) hkd rfl HWD.out
      have hc6 := (hke.boxi 0 rfl).cellv 0
      have HKE := Lib.hid hke
      clear hke HF
      go_wp2_with fail
      refine marks_ret1 (v := .int .i64 0) (D := D) hkd ?_ rfl ?_
      ·simp only [results, HRES.out]
       go_simp
      ·rw [HW2.out, HNB.out]
       exact ⟨rfl, (HKE.out.ldrop.ldrop.ldrop).subF (fun f hf => List.mem_cons_of_mem _ hf)⟩
     exact AllReadyH.nil
    refine AllReadyH.cons (o := ⟨some 100, _, _, _, _, _⟩) rfl (fun K hK => ?_) ?_
    ·have q0 := (HE2.out.boxi 3 rfl).cellv 5
     go_simp
     clear q0
     refine hK.out _ _ (own1 (HE2.out.boxi 2 rfl)) (fun hSn => ?_)
     clear hK K hSw0
     have hSw0 := hSn
     clear hSn
     refine Kn.takeS 16 ⟨some 101, _, _, _, _, _⟩ (hQ := fun _ _ _ h => h.elim) ?_
     refine Kn.takeR 7 ⟨some 92, _, _, _, _, _⟩ fun K hK => ?_
     have q0 := (HE2.out.boxi 3 rfl).cellv 4
     go_simp
     clear q0
     refine hK.out _ _ (own1 (HE2.out.boxi 2 rfl)) (fun hSn => ?_)
     clear hK K hSw0
     have hSw0 := hSn
     clear hSn
     refine Kn.takeR 10 ⟨some 95, _, _, _, _, _⟩ fun K hK => ?_
     go_simp
     refine (wr_behind_any ps.o nb _ (by omega) (by have := HNB.out; have := HKK.out; omega)).mono ?_
     rintro en v2 ⟨rfl, rfl⟩
     refine hK.out _ _ (own1 (HE2.out.boxi 2 rfl)) (fun hSn => ?_)
     clear hK K hSw0
     have hSw0 := hSn
     clear hSn
     refine Kn.takeS 18 ⟨some 103, _, _, _, _, _⟩ (hQ := fun _ _ _ h => h.elim) ?_
     refine Kn.takeS 19 ⟨some 104, _, _, _, _, _⟩ (hQ := fun _ _ _ h => h.elim) ?_
     refine Kn.takeS 20 ⟨some 105, _, _, _, _, _⟩ (hQ := fun _ _ _ h => h.elim) ?_
     refine Kn.takeR 21 ⟨none, _, _, _, _, _⟩ fun K hK => ?_
     have b3 := HE2.out.boxi 3 rfl
     have y0 := b3.cellv 4
     have z0 := b3.frozen 4
     have l0 := b3.lt
     clear b3
     go_simp
     have HE2s := Lib.hid (HE2.out.put 3 rfl 4 (.int .i64 (behind ps.o nb)))
     clear HE2 y0 z0 l0
     refine hK.out _ _ (own1 (HE2s.out.boxi 2 rfl)) (fun hSn => ?_)
     clear hK K hSw0
     have hSw0 := hSn
     clear hSn
     refine Kn.takeS 22 ⟨some 106, _, _, _, _, _⟩ (hQ := fun _ _ _ h => h.elim) ?_
     refine Kn.takeS 23 ⟨some 107, _, _, _, _, _⟩ (hQ := fun _ _ _ h => h.elim) ?_
     refine Kn.takeS 24 ⟨some 108, _, _, _, _, _⟩ (hQ := fun _ _ _ h => h.elim) ?_
     refine Kn.takeR 25 ⟨none, _, _, _, _, _⟩ fun K hK => ?_
     have b3 := HE2s.out.boxi 3 rfl
     have y0 := b3.cellv 5
     have z0 := b3.frozen 5
     have l0 := b3.lt
     clear b3
     go_simp
     have HE2ss := Lib.hid (HE2s.out.put 3 rfl 5 (.int .i64 (ps.l + 1)))
     clear HE2s y0 z0 l0
     refine hK.out _ _ (own1 (HE2ss.out.boxi 2 rfl)) (fun hSn => ?_)
     clear hK K hSw0
     have hSw0 := hSn
     clear hSn
     refine Kn.takeS 26 ⟨some 109, _, _, _, _, _⟩ (hQ := fun _ _ _ h => h.elim) ?_
     refine Kn.takeS 27 ⟨some 110, _, _, _, _, _⟩ (hQ := fun _ _ _ h => h.elim) ?_
     refine Kn.takeS 28 ⟨some 111, _, _, _, _, _⟩ (hQ := fun _ _ _ h => h.elim) ?_
     refine Kn.takeR 29 ⟨none, _, _, _, _, _⟩ fun K hK => ?_
     have b3 := HE2ss.out.boxi 3 rfl
     have y0 := b3.cellv 6
     have z0 := b3.frozen 6
     have l0 := b3.lt
     clear b3
     go_simp
     have HE2sss := Lib.hid (HE2ss.out.put 3 rfl 6 (.int .i64 ((sm : Nat) : Int)))
     clear HE2ss y0 z0 l0
     refine hK.out _ _ (own1 (HE2sss.out.boxi 2 rfl)) (fun hSn => ?_)
     clear hK K hSw0
     have hSw0 := hSn
     clear hSn
     refine wpAnyH_done (by kernel_rfl) ?_ _
     clear hSw0
     have b6 := HE2sss.out.boxi 0 rfl
     have y0 := b6.cellv 0
     have z0 := b6.frozen 0
     have l0 := b6.lt
     clear b6
     have HF := Lib.hid (HE2sss.out.put 0 rfl 0 (.int .i64 0))
     clear HE2sss
     have hkd := HF.out.kb.keep D _ (lt_of_obj HKK2.out) HKK2.out rfl
     have hke := HF.out.toDuo.putObj (.deferred none) hkd rfl HWD.out
     have hc6 := (hke.boxi 0 rfl).cellv 0
     have HKE := Lib.hid hke
     clear hke HF
     go_wp2_with fail
     refine marks_ret1 (v := .int .i64 0) (D := D) hkd ?_ rfl ?_
     ·simp only [results, HRES.out]
      go_simp
     ·rw [HW2.out, HNB.out]
      exact ⟨rfl, (HKE.out.ldrop.ldrop.ldrop).subF (fun f hf => List.mem_cons_of_mem _ hf)⟩
    exact AllReadyH.nil
   case stop =>
    rintro D cd pre φ cc W2 hD ⟨rfl, hfx⟩ ⟨rfl, dx, er2, v, her, hsq, hbk⟩ hat hK hsz
    rw [HSQ.out] at hsq
    obtain ⟨rfl, rfl⟩ := Prod.mk.inj hsq
    have HQ : Hid (Duo w0 W2 p r d2 e ⟨(f6, [.int .i64 er]) :: (f10, [v]) :: ((f3, [.pointer (some ⟨W, 0, none⟩)]) :: (W, (WB p.D gb q.T ps vi vb)) :: (q.L t L)), G, ((fun W => Bys W (some ⟨g2, 0, none⟩) N c2 b) :: F)⟩) := Lib.hid ((hbk.duo hat).ldrop.ldrop.permL (List.Perm.swap _ _ _))
    have hww2 : writeW d t cf ps its bl = (d2, t, ps, er) := by rw [HWW.out, if_neg her]
    have HW2 := Lib.hid hww2
    have hke : Duo w0 (W2.putObj D (.deferred none)) p r d2 e ⟨(f6, [.int .i64 er]) :: (f10, [v]) :: ((f3, [.pointer (some ⟨W, 0, none⟩)]) :: (W, (WB p.D gb q.T ps vi vb)) :: (q.L t L)), G, ((fun W => Bys W (some ⟨g2, 0, none⟩) N c2 b) :: F)⟩ := HQ.out.putObj _ hK rfl (Nat.le_trans hw0d hD)
    have HKE := Lib.hid hke
    have hc6 := (hke.boxi 0 rfl).cellv 0
    have HK2 := Lib.hid hK
    clear hat hbk hK hsq hww2 HWW HB0 HAT0 hke HQ
    rw [HAA.out]
    clear HAA
    gi_wp2_with fail
    refine marks_ret1 (v := .int .i64 er) (D := D) HK2.out ?_ rfl ?_
    ·simp only [results, HRES.out]
     go_simp
    ·rw [HW2.out]
     exact ⟨rfl, (HKE.out.ldrop.ldrop.ldrop).subF (fun f hf => List.mem_cons_of_mem _ hf)⟩
end Go.Proofs.YtgcfdjcpcclcjaaGreat
namespace Go.Kn
open Go Go.RowKit
theorem free_step {l : List Us} {j : Nat} (hj : j < l.length) : (l.take (j + 1)).countP Tb.isFree = (l.take j).countP Tb.isFree + (if l[j].st = 0 then 1 else 0) := by
 rw [List.take_succ_eq_append_getElem hj, List.countP_append, List.countP_cons, List.countP_nil]
 unfold Tb.isFree
 simp
theorem idx_at {l : List Us} {j : Nat} (hj : j < l.length) (h0 : (l.take j).findIdx? Tb.isFree = none) (h1 : l[j].st = 0) : Tb.idx l = (j : Int) := by
 have e : l = l.take j ++ l[j] :: l.drop (j + 1) := by rw [List.getElem_cons_drop, List.take_append_drop]
 have h2 : l.findIdx? Tb.isFree = some j := by
  rw [List.findIdx?_eq_some_iff_getElem]
  refine ⟨hj, by unfold Tb.isFree; simp [h1], fun k hk => ?_⟩
  rw [List.findIdx?_eq_none_iff] at h0
  have hk2 : k < (l.take j).length := by rw [List.length_take]; omega
  have h3 := h0 (l.take j)[k] (List.getElem_mem hk2)
  rw [List.getElem_take] at h3
  simp [h3]
 unfold Tb.idx
 rw [h2]
theorem idx_none {l : List Us} (h0 : l.findIdx? Tb.isFree = none) : Tb.idx l = -1 := by
 unfold Tb.idx
 rw [h0]
theorem idx_step {l : List Us} {j : Nat} (hj : j < l.length) (h0 : (l.take j).findIdx? Tb.isFree = none) (h1 : ¬ l[j].st = 0) : (l.take (j + 1)).findIdx? Tb.isFree = none := by
 rw [List.findIdx?_eq_none_iff] at h0 ⊢
 intro x hx
 rw [List.take_succ_eq_append_getElem hj, List.mem_append] at hx
 rcases hx with hx | hx
 ·exact h0 x hx
 ·rw [List.mem_singleton] at hx
  subst hx
  unfold Tb.isFree
  simp [h1]
theorem idx_range (l : List Us) : -1 ≤ Tb.idx l ∧ Tb.idx l < l.length := by
 unfold Tb.idx
 cases h : l.findIdx? Tb.isFree with
 | none => exact ⟨by decide, by show (-1 : Int) < _; omega⟩
 | some i =>
  rw [List.findIdx?_eq_some_iff_getElem] at h
  obtain ⟨h1, _⟩ := h
  exact ⟨by show (-1 : Int) ≤ (i : Int); omega, by show (i : Int) < _; omega⟩
theorem idx_grabs (t : Tb) : t.grabs (Tb.idx t.us) = decide (Tb.idx t.us ≠ -1) := by
 unfold Tb.grabs Tb.has Tb.use
 have hr := idx_range t.us
 unfold Tb.idx at hr ⊢
 cases h : t.us.findIdx? Tb.isFree with
 | none => simp
 | some i =>
  rw [List.findIdx?_eq_some_iff_getElem] at h
  obtain ⟨h1, h2, _⟩ := h
  unfold Tb.isFree at h2
  have h3 : t.us[i].st = 0 := by simpa using h2
  have h4 : (t.us.getD i ⟨0, 0⟩).st = 0 := by rw [List.getD_eq_getElem?_getD, List.getElem?_eq_getElem h1, Option.getD_some]; exact h3
  simp only [Int.toNat_natCast]
  have h5 : (0 : Int) ≤ (i : Int) ∧ (i : Int) < (t.us.length : Int) := ⟨by omega, by omega⟩
  have h6 : (i : Int) ≠ -1 := by omega
  rw [List.getD_eq_getElem?_getD] at h4
  simp [h4, h5, h6]
/-- Take: the segment, whether there is one, the table -/
def Tb.take (t : Tb) (spare : Bool) : Tb × Int × Bool := if t.takes spare = true ∧ Tb.idx t.us ≠ -1 then (t.grab (Tb.idx t.us), Tb.idx t.us, true) else (t, 0, false)
end Go.Kn
namespace Go.Proofs.YtgcfdjcpcclcjaaGreat
open Go Go.RowKit Go.Kn Go.Shelf
set_option maxHeartbeats 2000000 in
theorem us_free_any (w : World) (p : TD) (t : Tb) (hT : Kn.Own w p.T p.box) (hu : Kn.Own w p.u (usV t.us)) (ht : t.Ok p.n) (hn : p.n ≤ 1000) :
  Calls Tryz.prog 74 #[.pointer (some ⟨p.T, 0, none⟩)] w fun e w' => e = .returned (.int .i64 (t.free : Nat)) ∧ Only [] w w' := by
 have HU := Lib.hid hu
 have c1 : w.cell? ⟨p.T, 1, none⟩ = some (.slice (some ⟨p.u, 0, none⟩) p.n p.n) := hT.cellv 1
 have HL := Lib.hid ht.u
 have hcn : t.us.countP Tb.isFree ≤ p.n := by rw [← ht.u]; exact List.countP_le_length
 clear hT hu ht
 go_enter Tryz.func74, Tryz.ntmps74
 go_wp2_with fail
 clear c1
 go_loopg [2, 12] p.n (fun r s2 s12 wr => ∃ j m : Nat, j + r = p.n ∧ s2 = .int .i64 (m : Int) ∧ s12 = .int .i64 (j : Int) ∧ (t.us.take j).countP Tb.isFree = m ∧ m ≤ j ∧ Only [] w wr)
 case atStart => exact ⟨0, 0, by omega, rfl, rfl, by simp, by omega, Only.refl _ _⟩
 obtain ⟨j, m, hj, rfl, rfl, hm, hmj, hO⟩ := hrel
 have HO := Lib.hid hO
 have HM := Lib.hid hm
 clear hO hm
 by_cases hlt : j < p.n
 ·have hjl : j < t.us.length := by rw [HL.out]; exact hlt
  obtain ⟨c0, c1⟩ := us_cell (HU.out.keep0 HO.out) hjl
  obtain ⟨⟨s, x⟩, hs⟩ : ∃ u, t.us[j] = u := ⟨_, rfl⟩
  have hst := free_step hjl
  rw [hs] at c0 c1 hst
  simp only at c0 c1 hst
  rw [HM.out] at hst
  have HST := Lib.hid hst
  have hlt2 : (j : Int) < (p.n : Int) := by omega
  clear hs hst
  by_cases h0 : s = 0
  ·subst h0
   go_wp2
   go_roundg (gk - 1)
   case measure => omega
   case rel => exact ⟨j + 1, m + 1, by omega, by go_num, by go_num, by rw [HST.out]; rfl, by omega, HO.out.alloc _⟩
  ·have hst2 : (t.us.take (j + 1)).countP Tb.isFree = m := by rw [HST.out, if_neg h0]; rfl
   have HST2 := Lib.hid hst2
   clear hst2
   go_wp2
   go_roundg (gk - 1)
   case measure => omega
   case rel => exact ⟨j + 1, m, by omega, rfl, by go_num, HST2.out, by omega, HO.out.alloc _⟩
 ·obtain rfl : j = p.n := by omega
  have hf : t.free = m := by unfold Tb.free; rw [← HM.out, List.take_of_length_le (by rw [HL.out]; omega)]
  have HF := Lib.hid hf
  clear hf
  go_wp2
  go_ret
  exact ⟨by rw [HF.out]; rfl, HO.out⟩
theorem take1_any (s x : Int) (w : World) : Calls Tryz.prog 194 #[.agg #[.int .i64 s, .int .i64 x]] w fun e w' => e = .returned (.bool (s == 0)) ∧ Only [] w w' := by
 go_enter Tryz.func194, Tryz.ntmps194
 by_cases h : s = 0
 ·subst h
  go_wp2
  go_ret
  exact ⟨rfl, (Only.refl _ _).alloc _⟩
 ·have h1 : (s == 0) = false := by simpa using h
  go_wp2
  go_ret
  exact ⟨by simp [h], (Only.refl _ _).alloc _⟩
set_option maxRecDepth 100000 in
set_option maxHeartbeats 2000000 in
theorem us_index_any (w : World) (p : TD) (t : Tb) (hu : Kn.Own w p.u (usV t.us)) (ht : t.Ok p.n) (hn : p.n ≤ 1000) :
  Calls Tryz.prog 193 #[.slice (some ⟨p.u, 0, none⟩) p.n p.n, .func (.func 194) #[] #[]] w fun e w' => e = .returned (.int .i64 (Tb.idx t.us)) ∧ Only [] w w' := by
 have HU := Lib.hid hu
 have HL := Lib.hid ht.u
 clear hu ht
 have eg : ∀ args w, (callFunc 194 args).run Tryz.prog w = .ok (.enter 194 args) w := enters_of Tryz.func194 (by kernel_rfl) rfl
 go_enter Tryz.func193, Tryz.ntmps193
 go_wp2_with fail
 go_loopg [5, 8] p.n (fun r _ i wr => ∃ j : Nat, j + r = p.n ∧ i = .int .i64 j ∧ Only [] w wr ∧ (t.us.take j).findIdx? Tb.isFree = none)
 case atStart => exact ⟨0, by omega, rfl, Only.refl _ _, by simp⟩
 obtain ⟨j, hj, rfl, hO, hal⟩ := hrel
 have HAL := Lib.hid hal
 have HO := Lib.hid hO
 clear hal hO
 by_cases hlt : j < p.n
 ·have hjl : j < t.us.length := by rw [HL.out]; exact hlt
  obtain ⟨c0, c1⟩ := us_cell (HU.out.keep0 HO.out) hjl
  obtain ⟨⟨s, x⟩, hs⟩ : ∃ u, t.us[j] = u := ⟨_, rfl⟩
  have hst : t.us[j].st = s := by rw [hs]
  have HST := Lib.hid hst
  rw [hs] at c0 c1
  simp only at c0 c1
  clear hs hst
  have hlt2 : (j : Int) < (p.n : Int) := by omega
  go_wp2_with fail
  refine (take1_any s x _).mono ?_
  rintro e w2 ⟨rfl, hO2⟩
  have HO2 := Lib.hid (HO.out.trans' hO2)
  clear hO2 c0 c1
  by_cases hm : s = 0
  ·subst hm
   have HI := Lib.hid (idx_at hjl HAL.out HST.out)
   go_wp2
   go_ret
   exact ⟨by rw [HI.out]; rfl, HO2.out⟩
  ·have h1 : (s == 0) = false := by simpa using hm
   have HM := Lib.hid (idx_step hjl HAL.out (by rw [HST.out]; exact hm))
   clear hm
   go_wp2
   go_roundg (gk - 1)
   case measure => omega
   case rel => exact ⟨j + 1, by omega, by go_num, HO2.out, HM.out⟩
 ·obtain rfl : j = p.n := by omega
  have hal := HAL.out
  rw [List.take_of_length_le (by rw [HL.out]; omega)] at hal
  have HI := Lib.hid (idx_none hal)
  clear hal
  go_wp2
  go_ret
  exact ⟨by rw [HI.out]; rfl, HO.out⟩
set_option maxRecDepth 100000 in
set_option maxHeartbeats 4000000 in
theorem us_take_any (w0 w : World) (p : TD) (t : Tb) (spare : Bool) (L : List (Nat × List Value)) (G : List Gs) (F : List (World → Prop)) (hw : Wc w0 w (p.L t L) G F) (ht : t.Ok p.n) (hn : p.n ≤ 1000) :
  Calls Tryz.prog 168 #[.pointer (some ⟨p.T, 0, none⟩), .bool spare] w fun e w' => e = .returned (.tuple #[.int .i64 (t.take spare).2.1, .bool (t.take spare).2.2]) ∧ Wc w0 w' (p.L (t.take spare).1 L) G F := by
 have HW := Lib.hid hw
 have HO := Lib.hid ht
 have hir := idx_range t.us
 rw [ht.u] at hir
 have hgo : ∀ b : Bool, t.takes spare = true → decide (Tb.idx t.us ≠ -1) = b → (if b = true then (t.grab (Tb.idx t.us), Tb.idx t.us, true) else (t, 0, false)) = t.take spare := by
  intro b h1 h2
  unfold Tb.take
  by_cases h3 : Tb.idx t.us = -1
  ·rw [← h2, if_neg (by simp [h3]), if_neg (fun h => h.2 h3)]
  ·rw [← h2, if_pos (by simp [h3]), if_pos ⟨h1, h3⟩]
 have hgr : decide (Tb.idx t.us ≠ -1) = false → t.grab (Tb.idx t.us) = t := by
  intro h
  unfold Tb.grab
  rw [if_neg (by rw [idx_grabs, h]; decide)]
 have HGO := Lib.hid hgo
 have HGR := Lib.hid hgr
 have HT : Hid (Kn.Own w p.T p.box) := Lib.hid (HW.out.boxi 0 rfl)
 have HU : Hid (Kn.Own w p.u (usV t.us)) := Lib.hid (HW.out.boxi 1 rfl)
 have c1 : w.cell? ⟨p.T, 1, none⟩ = some (.slice (some ⟨p.u, 0, none⟩) p.n p.n) := HT.out.cellv 1
 clear hw ht hgo hgr
 by_cases hsp : t.takes spare = true
 ·have HSP := Lib.hid hsp
  cases spare with
  | true =>
   clear hsp
   go_enter Tryz.func168, Tryz.ntmps168
   go_wp2_with fail
   have HWa := HW
   have HU2 := HU
   refine (us_index_any _ p t HU2.out HO.out hn).mono ?_
   rintro e w2 ⟨rfl, hO2⟩
   have HWb := Lib.hid (HWa.out.keep0 hO2)
   clear hO2 HU2 HWa
   go_wp2_with fail
   refine (us_grab_any w0 _ p t (Tb.idx t.us) L G F HWb.out HO.out hn).mono ?_
   rintro e w3 ⟨rfl, h3⟩
   rw [idx_grabs]
   have HWc := Lib.hid h3
   clear h3 HWb
   by_cases hi : Tb.idx t.us = -1
   ·have hb : decide (Tb.idx t.us ≠ -1) = false := by simp [hi]
    have he := HGO.out _ HSP.out hb
    rw [hb]
    have hwz := HWc.out
    rw [HGR.out hb] at hwz
    rw [if_neg (by decide)] at he
    have HE := Lib.hid he
    have HZ := Lib.hid hwz
    clear he hb hi hwz HWc
    go_wp2
    go_ret2
    rw [← HE.out]
    exact ⟨rfl, HZ.out⟩
   ·have hb : decide (Tb.idx t.us ≠ -1) = true := by simp [hi]
    have he := HGO.out _ HSP.out hb
    rw [hb]
    rw [if_pos rfl] at he
    have HE := Lib.hid he
    clear he hb hi
    go_wp2
    go_ret2
    rw [← HE.out]
    exact ⟨rfl, HWc.out⟩
  | false =>
   have hfr : ¬ t.free ≤ 2 := by unfold Tb.takes at hsp; simpa using hsp
   clear hsp
   go_enter Tryz.func168, Tryz.ntmps168
   go_wp2_with fail
   refine (us_free_any w p t HT.out HU.out HO.out hn).mono ?_
   rintro e w1 ⟨rfl, hO1⟩
   have HWa := Lib.hid (HW.out.keep0 hO1)
   have HU2 : Hid (Kn.Own w1 p.u (usV t.us)) := Lib.hid (HWa.out.boxi 1 rfl)
   have c1 : w1.cell? ⟨p.T, 1, none⟩ = some (.slice (some ⟨p.u, 0, none⟩) p.n p.n) := (HWa.out.boxi 0 rfl).cellv 1
   have hfz : ¬ ((t.free : Nat) : Int) ≤ 2 := by omega
   clear hO1 hfr
   go_wp2_with fail
   refine (us_index_any _ p t HU2.out HO.out hn).mono ?_
   rintro e w2 ⟨rfl, hO2⟩
   have HWb := Lib.hid (HWa.out.keep0 hO2)
   clear hO2 HU2 HWa
   go_wp2_with fail
   refine (us_grab_any w0 _ p t (Tb.idx t.us) L G F HWb.out HO.out hn).mono ?_
   rintro e w3 ⟨rfl, h3⟩
   rw [idx_grabs]
   have HWc := Lib.hid h3
   clear h3 HWb
   by_cases hi : Tb.idx t.us = -1
   ·have hb : decide (Tb.idx t.us ≠ -1) = false := by simp [hi]
    have he := HGO.out _ HSP.out hb
    rw [hb]
    have hwz := HWc.out
    rw [HGR.out hb] at hwz
    rw [if_neg (by decide)] at he
    have HE := Lib.hid he
    have HZ := Lib.hid hwz
    clear he hb hi hwz HWc
    go_wp2
    go_ret2
    rw [← HE.out]
    exact ⟨rfl, HZ.out⟩
   ·have hb : decide (Tb.idx t.us ≠ -1) = true := by simp [hi]
    have he := HGO.out _ HSP.out hb
    rw [hb]
    rw [if_pos rfl] at he
    have HE := Lib.hid he
    clear he hb hi
    go_wp2
    go_ret2
    rw [← HE.out]
    exact ⟨rfl, HWc.out⟩
 ·cases spare with
  | true => exact absurd (by unfold Tb.takes; simp) hsp
  | false =>
   have hfr : t.free ≤ 2 := by unfold Tb.takes at hsp; simpa using hsp
   have hte : t.take false = (t, 0, false) := by unfold Tb.take; rw [if_neg (fun h => hsp h.1)]
   have HTE := Lib.hid hte
   clear hsp hte
   go_enter Tryz.func168, Tryz.ntmps168
   go_wp2_with fail
   refine (us_free_any w p t HT.out HU.out HO.out hn).mono ?_
   rintro e w1 ⟨rfl, hO1⟩
   have HWa := Lib.hid (HW.out.keep0 hO1)
   have hfz : ((t.free : Nat) : Int) ≤ 2 := by omega
   clear hO1 hfr c1
   go_wp2
   go_ret2
   rw [HTE.out]
   exact ⟨rfl, HWa.out⟩
end Go.Proofs.YtgcfdjcpcclcjaaGreat
namespace Go.Kn
open Go Go.RowKit
def Dk.fused (d : Dk) (n : Int) : Dk := { d with fuse := max n (-1) }
end Go.Kn
namespace Go.Proofs.YtgcfdjcpcclcjaaGreat
open Go Go.RowKit Go.Kn
theorem duo_off {w0 w : World} {p : PD} {r : RD} {d e : Dk} {c : Fr3} (h : Duo w0 w p r d e c) :
  Calls Tryz.prog 51 #[.pointer (some ⟨p.D, 0, none⟩)] w fun en w' => en = .returned (.bool d.off) ∧ w = w' := by
 obtain ⟨c1, hF, hP, back⟩ := h.ofP
 obtain ⟨v, hm⟩ := hP.mem
 have c6 := (hm.boxi 0 (p := p.D) (cs := p.box v d) rfl).cellv 6
 have c6 : w.cell? ⟨p.D, 6, none⟩ = some (.bool d.off) := c6
 clear hm back hP h
 go_enter Tryz.func51, Tryz.ntmps51
 go_wp2
 go_ret
 exact ⟨rfl, rfl⟩
theorem duo_acts {w0 w : World} {p : PD} {r : RD} {d e : Dk} {c : Fr3} (h : Duo w0 w p r d e c) :
  Calls Tryz.prog 135 #[.pointer (some ⟨p.D, 0, none⟩)] w fun en w' => en = .returned (.int .i64 d.acts) ∧ w = w' := by
 obtain ⟨c1, hF, hP, back⟩ := h.ofP
 obtain ⟨v, hm⟩ := hP.mem
 have c6 := (hm.boxi 0 (p := p.D) (cs := p.box v d) rfl).cellv 5
 have c6 : w.cell? ⟨p.D, 5, none⟩ = some (.int .i64 d.acts) := c6
 clear hm back hP h
 go_enter Tryz.func135, Tryz.ntmps135
 go_wp2
 go_ret
 exact ⟨rfl, rfl⟩
theorem duo_held {w0 w : World} {p : PD} {r : RD} {d e : Dk} {c : Fr3} (h : Duo w0 w p r d e c) :
  Calls Tryz.prog 109 #[.pointer (some ⟨p.D, 0, none⟩)] w fun en w' => en = .returned (.int .i64 (d.held.length : Nat)) ∧ w = w' := by
 obtain ⟨c1, hF, hP, back⟩ := h.ofP
 obtain ⟨v, hm⟩ := hP.mem
 obtain ⟨A, cc, rfl⟩ := hm.gform 0 rfl
 have c6 := (hm.boxi 0 (p := p.D) (cs := p.box (.slice A d.held.length cc) d) rfl).cellv 2
 have c6 : w.cell? ⟨p.D, 2, none⟩ = some (.slice A d.held.length cc) := c6
 clear hm back hP h
 go_enter Tryz.func109, Tryz.ntmps109
 go_wp2
 go_ret
 exact ⟨rfl, rfl⟩
end Go.Proofs.YtgcfdjcpcclcjaaGreat
namespace Go.Proofs.YtgcfdjcpcclcjaaGreat
open Go Go.RowKit Go.Kn
/-- a writer as it lies: its box, its table, its rows -/
def WrIn (w0 w : World) (p : PD) (r : RD) (e : Dk) (W gb : Nat) (q : TD) (z : Wr) (L : List (Nat × List Value)) (G : List Gs) (F : List (World → Prop)) : Prop :=
 ∃ (A : Option Addr) (c : Nat) (B : Option Addr) (k : Nat) (sl : List (Option Addr × Nat × Nat)), Duo w0 w p r z.d e ⟨(W, WB p.D gb q.T z.p (.slice A z.its.length c) (.slice B z.bl.length k)) :: q.L z.t L, ⟨63, 4, .slice A z.its.length c, z.its.length, itsV z.its⟩ :: ⟨47, 1, .slice B z.bl.length k, z.bl.length, sl.map slv⟩ :: G, (fun W => Bls W sl z.bl) :: F⟩
theorem Duo.its {w0 w : World} {p : PD} {r : RD} {d e : Dk} {L : List (Nat × List Value)} {G : List Gs} {F : List (World → Prop)} {A : Option Addr} {n c : Nat} {its : List It} (h : Duo w0 w p r d e ⟨L, ⟨63, 4, .slice A n c, n, itsV its⟩ :: G, F⟩) (hl : its.length = n) : Its w A n c its := by
 obtain ⟨L0, G0, F0, hw, back⟩ := h.fr
 obtain ⟨A2, c2, hv, hi, _⟩ := (hw.gath (x := ⟨63, 4, .slice A n c, n, itsV its⟩) List.mem_cons_self).its hl
 injection hv with h1 h2 h3
 subst h1 h3
 exact hi
theorem Bls.nil {w : World} : Bls w [] [] := ⟨rfl, fun i h1 => by simp at h1⟩
theorem WrIn.empty {w0 w : World} {p : PD} {r : RD} {d e : Dk} {W gb : Nat} {q : TD} {t : Tb} {ps : Ps} {g1 g2 : Gs} {L : List (Nat × List Value)} {G : List Gs} {F : List (World → Prop)} {f : World → Prop} (h : Duo w0 w p r d e ⟨(W, WB p.D gb q.T ps (.slice none 0 0) (.slice none 0 0)) :: q.L t L, g1 :: g2 :: G, f :: F⟩) : WrIn w0 w p r e W gb q ⟨d, t, ps, [], []⟩ L G F :=
 ⟨none, 0, none, 0, [], ((h.gdrop.gdrop.gnew 47 1).gnew 63 4).impF (F' := (fun W => Bls W [] []) :: F) (fun g hg W hW => by
  rcases List.mem_cons.1 hg with rfl | hg
  ·exact Bls.nil
  ·exact hW g (List.mem_cons_of_mem _ hg))⟩
theorem beginW_s (d : Dk) (c : Cf) (q : Ps) : (beginW d c q).2.1.s = q.s ∧ (beginW d c q).2.1.l = q.l ∧ ((beginW d c q).2.1.o = q.o ∨ (beginW d c q).2.1.o = 1) ∧ (beginW d c q).1.held.length ≤ d.held.length + 1 := by
 unfold beginW
 split
 ·exact ⟨rfl, rfl, .inl rfl, Nat.le_succ _⟩
 ·cases encHead q.head with
  | none => exact ⟨rfl, rfl, .inl rfl, Nat.le_succ _⟩
  | some b =>
   simp only
   split
   ·exact ⟨rfl, rfl, .inr rfl, write_held _ _ _⟩
   ·exact ⟨rfl, rfl, .inl rfl, write_held _ _ _⟩
set_option maxRecDepth 100000 in
set_option maxHeartbeats 8000000 in
theorem wr_emit_any (w0 w : World) (p : PD) (r : RD) (e : Dk) (W gb : Nat) (q : TD) (z : Wr) (cf : Cf) (L : List (Nat × List Value)) (G : List Gs) (F : List (World → Prop)) (h : WrIn w0 w p r e W gb q z L G F) (hg : (fun W => GeoAt W gb cf.b cf.s cf.l) ∈ F) (hc : cf.Ok) (ht : z.t.Ok q.n) (hqn : q.n ≤ 1000) (hs : 0 ≤ z.p.s ∧ z.p.s ≤ cf.s - 1) (ho : 0 ≤ z.p.o ∧ z.p.o ≤ 64) (hl : -1000000000000 ≤ z.p.l ∧ z.p.l ≤ 1000000000000) (hh : z.d.held.length ≤ 890000) :
  Calls Tryz.prog 44 #[.pointer (some ⟨W, 0, none⟩)] w fun en w' => en = .returned (.int .i64 (z.emit cf).2) ∧ WrIn w0 w' p r e W gb q (z.emit cf).1 L G F := by
 obtain ⟨d, t, ps, its, bl⟩ := z
 obtain ⟨A, c, B, k, sl, h⟩ := h
 dsimp only at h ht hs ho hl hh
 obtain ⟨n, hn⟩ : ∃ n, its.length = n := ⟨_, rfl⟩
 obtain ⟨m, hm⟩ : ∃ m, bl.length = m := ⟨_, rfl⟩
 rw [hn, hm] at h
 have HD : Hid (Duo w0 w p r d e ⟨(W, WB p.D gb q.T ps (.slice A n c) (.slice B m k)) :: q.L (t) L, ⟨63, 4, .slice A n c, n, itsV its⟩ :: ⟨47, 1, .slice B m k, m, sl.map slv⟩ :: G, (fun W => Bls W sl bl) :: F⟩) := Lib.hid h
 have HG := Lib.hid hg
 have HC := Lib.hid hc
 have HT := Lib.hid ht
 have HN := Lib.hid hn
 have HM := Lib.hid hm
 have b0 := HD.out.boxi 0 rfl
 have c0 := b0.cellv 0
 have c8 := b0.cellv 8
 have hfin : ∀ (w' : World) (d' : Dk) (t' : Tb) (p' : Ps), Duo w0 w' p r d' e ⟨(W, WB p.D gb q.T p' (.slice A n c) (.slice B m k)) :: q.L (t') L, ⟨63, 4, .slice A n c, n, itsV its⟩ :: ⟨47, 1, .slice B m k, m, sl.map slv⟩ :: G, (fun W => Bls W sl bl) :: F⟩ → WrIn w0 w' p r e W gb q ⟨d', t', p', its, bl⟩ L G F := fun w' d' t' p' hx => ⟨A, c, B, k, sl, by rw [HN.out, HM.out]; exact hx⟩
 have HFIN := Lib.hid hfin
 clear h hg hc ht b0 hn hm hfin
 go_enter Tryz.func44, Tryz.ntmps44
 go_wp2_with fail
 refine (duo_off HD.out).mono ?_
 rintro en w1 ⟨rfl, rfl⟩
 by_cases hof : d.off = true
 ·have hem : Wr.emit cf ⟨d, t, ps, its, bl⟩ = (⟨d, t, ps, its, bl⟩, 3) := by unfold Wr.emit; rw [if_pos hof]
  have HEM := Lib.hid hem
  rw [hof]
  clear hem hof
  go_wp2
  go_ret
  rw [HEM.out]
  exact ⟨rfl, HFIN.out _ _ _ _ HD.out⟩
 ·have HOF := Lib.hid hof
  rw [Bool.not_eq_true] at hof
  rw [hof]
  clear hof
  by_cases hn0 : n = 0
  ·have hi0 : its = [] := List.eq_nil_of_length_eq_zero (HN.out.trans hn0)
   have hem : Wr.emit cf ⟨d, t, ps, its, bl⟩ = (⟨d, t, ps, its, bl⟩, 0) := by unfold Wr.emit; rw [if_neg HOF.out, if_pos hi0]
   have HEM := Lib.hid hem
   clear hem hi0
   subst hn0
   go_wp2
   go_ret
   rw [HEM.out]
   exact ⟨rfl, HFIN.out _ _ _ _ HD.out⟩
  ·have hi0 : ¬ its = [] := fun h => hn0 (by rw [← HN.out, h]; rfl)
   have hnb : ((n : Int) == 0) = false := by simp; omega
   have hwf := begin_W cf ⟨d, t, ps, its, bl⟩
   obtain ⟨bb1, bb2, bb3, bb4⟩ := beginW_s d cf ps
   obtain ⟨d1, p1, e1, hbg⟩ : ∃ d1 p1 e1, beginW d cf ps = (d1, p1, e1) := ⟨_, _, _, rfl⟩
   dsimp only at hwf
   rw [hbg] at hwf bb1 bb2 bb3 bb4
   dsimp only at hwf bb1 bb2 bb3 bb4
   have hem : Wr.emit cf ⟨d, t, ps, its, bl⟩ = if e1 ≠ 0 then (⟨d1, t, p1, its, bl⟩, e1) else if (Wr.write cf ⟨d1, t, p1, its, bl⟩ its bl).2 ≠ 0 then Wr.write cf ⟨d1, t, p1, its, bl⟩ its bl else ({ (Wr.write cf ⟨d1, t, p1, its, bl⟩ its bl).1 with its := [], bl := [] }, 0) := by
    unfold Wr.emit
    rw [if_neg HOF.out, if_neg hi0, hwf]
   have HEM := Lib.hid hem
   have HBG := Lib.hid hbg
   clear hem hbg hwf hi0 hn0
   go_wp2_with fail
   refine (wr_begin_any w0 _ p r d e W gb q.T ps _ _ cf _ _ _ HD.out (List.mem_cons_of_mem _ HG.out) HC.out (by omega)).mono ?_
   rw [HBG.out]
   rintro en w1 ⟨rfl, hd⟩
   have HB : Hid (Duo w0 w1 p r d1 e ⟨(W, WB p.D gb q.T p1 (.slice A n c) (.slice B m k)) :: q.L (t) L, ⟨63, 4, .slice A n c, n, itsV its⟩ :: ⟨47, 1, .slice B m k, m, sl.map slv⟩ :: G, (fun W => Bls W sl bl) :: F⟩) := Lib.hid hd
   clear hd HD c0 c8
   by_cases he : e1 = 0
   ·subst he
    have hww := write_W cf ⟨d1, t, p1, its, bl⟩ its bl
    have hp1 : 0 ≤ p1.s ∧ p1.s ≤ cf.s - 1 := by rw [bb1]; exact hs
    have hp2 : 0 ≤ p1.o ∧ p1.o ≤ 100 := by rcases bb3 with h | h <;> omega
    have hp3 : -1000000000000 ≤ p1.l ∧ p1.l ≤ 1000000000000 := by rw [bb2]; exact hl
    have HH1 : Hid (d1.held.length ≤ 900000) := Lib.hid (by omega)
    obtain ⟨d2, t2, p2, e2, hwr⟩ : ∃ d2 t2 p2 e2, writeW d1 t cf p1 its bl = (d2, t2, p2, e2) := ⟨_, _, _, _, rfl⟩
    dsimp only at hww
    rw [hwr] at hww
    dsimp only at hww
    have hem := HEM.out
    rw [if_neg (by decide), hww] at hem
    dsimp only at hem
    have HEM2 := Lib.hid hem
    have HWR := Lib.hid hwr
    clear hem hwr hww HEM bb1 bb2 bb3 bb4 HBG
    go_wp2_with fail
    have HY := Lib.hid HB.out.drew
    clear HB
    refine wp_region_held_drew (S := (fun w' => True)) (by kernel_rfl) trivial (fun hSw0 => ?_)
    generalize w1.drew = wz at *
    refine Kn.takeS 0 ⟨some 26, _, _, _, _, _⟩ ?_
    refine Kn.takeS 1 ⟨some 27, _, _, _, _, _⟩ ?_
    refine Kn.takeS 2 ⟨some 28, _, _, _, _, _⟩ ?_
    refine Kn.takeS 3 ⟨some 29, _, _, _, _, _⟩ ?_
    refine Kn.takeS 5 ⟨some 31, _, _, _, _, _⟩ ?_
    refine Kn.takeS 6 ⟨some 32, _, _, _, _, _⟩ ?_
    refine Kn.takeS 7 ⟨some 33, _, _, _, _, _⟩ ?_
    refine wpAnyH_ready (rs := [4, 8]) (by kernel_rfl) (by simp) ?_
    refine AllReadyH.cons (o := ⟨some 30, _, _, _, _, _⟩) rfl (fun K hK => ?_) ?_
    ·have q0 := (HY.out.boxi 0 rfl).cellv 8
     go_simp
     clear q0
     refine hK.out _ _ trivial (fun hSn => ?_)
     clear hK K hSw0
     have hSw0 := hSn
     clear hSn
     refine Kn.takeR 8 ⟨some 34, _, _, _, _, _⟩ fun K hK => ?_
     have q0 := (HY.out.boxi 0 rfl).cellv 9
     go_simp
     clear q0
     refine hK.out _ _ trivial (fun hSn => ?_)
     clear hK K hSw0
     have hSw0 := hSn
     clear hSn
     refine Kn.takeR 9 ⟨some 35, _, _, _, _, _⟩ fun K hK => ?_
     go_simp
     refine (wr_write_any w0 _ p r d1 e W gb q t p1 _ _ cf its bl A B n c m k L _ _ HY.out (List.mem_cons_of_mem _ HG.out) HC.out HT.out hqn (HY.out.its HN.out) ⟨sl, HY.out.grow 1 rfl, HY.out.fact List.mem_cons_self⟩ hp1 hp2 hp3 HH1.out).mono ?_
     rintro en w2 ⟨rfl, hd⟩
     rw [HWR.out] at hd ⊢
     have HZ : Hid (Duo w0 w2 p r d2 e ⟨(W, WB p.D gb q.T p2 (.slice A n c) (.slice B m k)) :: q.L (t2) L, ⟨63, 4, .slice A n c, n, itsV its⟩ :: ⟨47, 1, .slice B m k, m, sl.map slv⟩ :: G, (fun W => Bls W sl bl) :: F⟩) := Lib.hid hd
     clear hd HY
     refine hK.out _ _ trivial (fun hSn => ?_)
     clear hK K hSw0
     have hSw0 := hSn
     clear hSn
     refine Kn.takeS 10 ⟨some 4, _, _, _, _, _⟩ ?_
     refine wpAnyH_done (by kernel_rfl) ?_ _
     clear hSw0
     go_upto_if 37 with (fail)
     by_cases he2 : e2 = 0
     ·subst he2
      have b1 := HZ.out.boxi 0 rfl
      have y8 := b1.cellv 8
      have z8 := b1.frozen 8
      have y9 := b1.cellv 9
      have z9 := b1.frozen 9
      have l9 := b1.lt
      have HE := Lib.hid ((HZ.out.put 0 rfl 8 (.slice none 0 0)).put 0 rfl 9 (.slice none 0 0))
      clear b1
      go_wp2
      go_ret
      rw [HEM2.out, if_neg (by decide)]
      exact ⟨rfl, WrIn.empty HE.out⟩
     ·have heb : (e2 != 0) = true := by rw [bne_iff_ne]; exact he2
      have hem := HEM2.out
      rw [if_pos he2] at hem
      have HEM3 := Lib.hid hem
      clear hem HEM2
      go_wp2
      go_ret
      rw [HEM3.out]
      exact ⟨rfl, HFIN.out _ _ _ _ HZ.out⟩
    refine AllReadyH.cons (o := ⟨some 34, _, _, _, _, _⟩) rfl (fun K hK => ?_) ?_
    ·have q0 := (HY.out.boxi 0 rfl).cellv 9
     go_simp
     clear q0
     refine hK.out _ _ trivial (fun hSn => ?_)
     clear hK K hSw0
     have hSw0 := hSn
     clear hSn
     refine Kn.takeR 4 ⟨some 30, _, _, _, _, _⟩ fun K hK => ?_
     have q0 := (HY.out.boxi 0 rfl).cellv 8
     go_simp
     clear q0
     refine hK.out _ _ trivial (fun hSn => ?_)
     clear hK K hSw0
     have hSw0 := hSn
     clear hSn
     refine Kn.takeR 9 ⟨some 35, _, _, _, _, _⟩ fun K hK => ?_
     go_simp
     refine (wr_write_any w0 _ p r d1 e W gb q t p1 _ _ cf its bl A B n c m k L _ _ HY.out (List.mem_cons_of_mem _ HG.out) HC.out HT.out hqn (HY.out.its HN.out) ⟨sl, HY.out.grow 1 rfl, HY.out.fact List.mem_cons_self⟩ hp1 hp2 hp3 HH1.out).mono ?_
     rintro en w2 ⟨rfl, hd⟩
     rw [HWR.out] at hd ⊢
     have HZ : Hid (Duo w0 w2 p r d2 e ⟨(W, WB p.D gb q.T p2 (.slice A n c) (.slice B m k)) :: q.L (t2) L, ⟨63, 4, .slice A n c, n, itsV its⟩ :: ⟨47, 1, .slice B m k, m, sl.map slv⟩ :: G, (fun W => Bls W sl bl) :: F⟩) := Lib.hid hd
     clear hd HY
     refine hK.out _ _ trivial (fun hSn => ?_)
     clear hK K hSw0
     have hSw0 := hSn
     clear hSn
     refine Kn.takeS 10 ⟨some 4, _, _, _, _, _⟩ ?_
     refine wpAnyH_done (by kernel_rfl) ?_ _
     clear hSw0
     go_upto_if 37 with (fail)
     by_cases he2 : e2 = 0
     ·subst he2
      have b1 := HZ.out.boxi 0 rfl
      have y8 := b1.cellv 8
      have z8 := b1.frozen 8
      have y9 := b1.cellv 9
      have z9 := b1.frozen 9
      have l9 := b1.lt
      have HE := Lib.hid ((HZ.out.put 0 rfl 8 (.slice none 0 0)).put 0 rfl 9 (.slice none 0 0))
      clear b1
      go_wp2
      go_ret
      rw [HEM2.out, if_neg (by decide)]
      exact ⟨rfl, WrIn.empty HE.out⟩
     ·have heb : (e2 != 0) = true := by rw [bne_iff_ne]; exact he2
      have hem := HEM2.out
      rw [if_pos he2] at hem
      have HEM3 := Lib.hid hem
      clear hem HEM2
      go_wp2
      go_ret
      rw [HEM3.out]
      exact ⟨rfl, HFIN.out _ _ _ _ HZ.out⟩
    exact AllReadyH.nil
   ·have heb : (e1 != 0) = true := by rw [bne_iff_ne]; exact he
    have hem := HEM.out
    rw [if_pos he] at hem
    have HEM2 := Lib.hid hem
    clear hem HEM
    go_wp2
    go_ret
    rw [HEM2.out]
    exact ⟨rfl, HFIN.out _ _ _ _ HB.out⟩
end Go.Proofs.YtgcfdjcpcclcjaaGreat
namespace Go.Proofs.YtgcfdjcpcclcjaaGreat
open Go Go.RowKit Go.Kn
theorem td_perm {q : TD} {t : Tb} {x : Nat × List Value} {L : List (Nat × List Value)} : (x :: q.L t L).Perm (q.L t (x :: L)) := perm_any (fun c => by simp only [TD.L, List.map_cons, List.sum_cons]; omega)
theorem duo_seal {w0 w : World} {p : PD} {r : RD} {d e : Dk} {q : TD} {t : Tb} {x : Nat × List Value} {L : List (Nat × List Value)} {G : List Gs} {F : List (World → Prop)} (s : Int) (h : Duo w0 w p r d e ⟨x :: q.L t L, G, F⟩) (ht : t.Ok q.n) (hn : q.n ≤ 1000) :
  Calls Tryz.prog 114 #[.pointer (some ⟨q.T, 0, none⟩), .int .i64 s] w fun en w' => en = .returned (.tuple #[]) ∧ Duo w0 w' p r d e ⟨x :: q.L (t.shut s) L, G, F⟩ := by
 obtain ⟨L0, G0, F0, hw, back⟩ := (h.permL td_perm).fr
 refine (us_seal_any w0 w q t s ((x :: L) ++ L0) (G ++ G0) (F ++ F0) hw ht hn).mono ?_
 rintro en w1 ⟨rfl, h1⟩
 exact ⟨rfl, (back w1 ⟨q.L (t.shut s) (x :: L), G, F⟩ h1).permL td_perm.symm⟩
theorem duo_grab {w0 w : World} {p : PD} {r : RD} {d e : Dk} {q : TD} {t : Tb} {L : List (Nat × List Value)} {G : List Gs} {F : List (World → Prop)} (s : Int) (h : Duo w0 w p r d e ⟨q.L t L, G, F⟩) (ht : t.Ok q.n) (hn : q.n ≤ 1000) :
  Calls Tryz.prog 112 #[.pointer (some ⟨q.T, 0, none⟩), .int .i64 s] w fun en w' => en = .returned (.bool (t.grabs s)) ∧ Duo w0 w' p r d e ⟨q.L (t.grab s) L, G, F⟩ := by
 obtain ⟨L0, G0, F0, hw, back⟩ := h.fr
 refine (us_grab_any w0 w q t s (L ++ L0) (G ++ G0) (F ++ F0) hw ht hn).mono ?_
 rintro en w1 ⟨rfl, h1⟩
 exact ⟨rfl, back w1 ⟨q.L (t.grab s) L, G, F⟩ h1⟩
theorem duo_take {w0 w : World} {p : PD} {r : RD} {d e : Dk} {q : TD} {t : Tb} {x : Nat × List Value} {L : List (Nat × List Value)} {G : List Gs} {F : List (World → Prop)} (spare : Bool) (h : Duo w0 w p r d e ⟨x :: q.L t L, G, F⟩) (ht : t.Ok q.n) (hn : q.n ≤ 1000) :
  Calls Tryz.prog 168 #[.pointer (some ⟨q.T, 0, none⟩), .bool spare] w fun en w' => en = .returned (.tuple #[.int .i64 (t.take spare).2.1, .bool (t.take spare).2.2]) ∧ Duo w0 w' p r d e ⟨x :: q.L (t.take spare).1 L, G, F⟩ := by
 obtain ⟨L0, G0, F0, hw, back⟩ := (h.permL td_perm).fr
 refine (us_take_any w0 w q t spare ((x :: L) ++ L0) (G ++ G0) (F ++ F0) hw ht hn).mono ?_
 rintro en w1 ⟨rfl, h1⟩
 exact ⟨rfl, (back w1 ⟨q.L (t.take spare).1 (x :: L), G, F⟩ h1).permL td_perm.symm⟩
theorem its_ofOwn {w : World} {g n : Nat} {l : List It} (h : Kn.Own w g (itsV l)) (hn : l.length = n) (hm : n ≤ maxLen) : Its w (some ⟨g, 0, none⟩) n n l := by
 refine ⟨hn, Nat.le_refl _, hm, fun _ => ⟨g, 0, rfl, fun i hi => ?_⟩⟩
 obtain ⟨c0, c1, c2, c3⟩ := itsV_get l i hi
 have hc : ∀ (a : Nat) (u : Value), (itsV l)[a]? = some u → w.cell? ⟨g, a, none⟩ = some u := by
  intro a u hu
  obtain ⟨h1, h2⟩ := List.getElem?_eq_some_iff.1 hu
  rw [← h2]
  exact h.cell a h1
 simp only [Nat.zero_add]
 exact ⟨hc _ _ c0, hc _ _ c1, hc _ _ c2, hc _ _ c3⟩
theorem writeW_s (d : Dk) (t : Tb) (c : Cf) (q : Ps) (its : List It) (bl : List (List UInt8)) : (writeW d t c q its bl).2.2.1.s = q.s ∧ (writeW d t c q its bl).2.2.1.l ≤ q.l + 1 ∧ q.l ≤ (writeW d t c q its bl).2.2.1.l ∧ (∀ n, t.Ok n → (writeW d t c q its bl).2.1.Ok n) ∧ (writeW d t c q its bl).1.held.length ≤ d.held.length + 7 := by
 unfold writeW
 cases hen : encRc ⟨q.m, q.l, q.p, its, bl⟩ with
 | none => exact ⟨rfl, by show q.l ≤ q.l + 1; omega, by show q.l ≤ q.l; omega, fun _ h => h, by show d.held.length ≤ _; omega⟩
 | some x =>
  obtain ⟨b, s⟩ := x
  obtain ⟨_, _, _, hb64, hb6, _⟩ := enc_some hen
  have h1 : b.length = 64 * (1 + bl.length) := hb64
  have h2 : bl.length ≤ 6 := hb6
  have h3 := seqW_held (rows64 b (b.length / 64)) d (c.at_ q.s + q.o)
  rw [rows64_len] at h3
  simp only
  split
  ·exact ⟨rfl, Int.le_refl _, by show q.l ≤ q.l + 1; omega, fun _ h => h.touch _ _, by show List.length (seqW _ _ _).1.held ≤ _; omega⟩
  ·exact ⟨rfl, by show q.l ≤ q.l + 1; omega, by show q.l ≤ q.l; omega, fun _ h => h, by show List.length (seqW _ _ _).1.held ≤ _; omega⟩
set_option maxRecDepth 100000 in
set_option maxHeartbeats 8000000 in
theorem wr_turn_any (w0 w : World) (p : PD) (r : RD) (e : Dk) (W gb : Nat) (q : TD) (z : Wr) (s : Int) (cf : Cf) (L : List (Nat × List Value)) (G : List Gs) (F : List (World → Prop)) (h : WrIn w0 w p r e W gb q z L G F) (hg : (fun W => GeoAt W gb cf.b cf.s cf.l) ∈ F) (hc : cf.Ok) (ht : z.t.Ok q.n) (hqn : q.n ≤ 1000) (hs : 0 ≤ z.p.s ∧ z.p.s ≤ cf.s - 1) (ho : 0 ≤ z.p.o ∧ z.p.o ≤ 100) (hl : -1000000000000 ≤ z.p.l ∧ z.p.l ≤ 1000000000000) (hh : z.d.held.length ≤ 899000) :
  Calls Tryz.prog 169 #[.pointer (some ⟨W, 0, none⟩), .int .i64 s] w fun en w' => en = .returned (.int .i64 (z.turn cf s).2) ∧ WrIn w0 w' p r e W gb q (z.turn cf s).1 L G F := by
 obtain ⟨d, t, ps, its, bl⟩ := z
 obtain ⟨A, c, B, k, sl, h⟩ := h
 dsimp only at h ht hs ho hl hh
 have HD : Hid (Duo w0 w p r d e ⟨(W, WB p.D gb q.T ps (.slice A its.length c) (.slice B bl.length k)) :: q.L t L, ⟨63, 4, .slice A its.length c, its.length, itsV its⟩ :: ⟨47, 1, .slice B bl.length k, bl.length, sl.map slv⟩ :: G, (fun W => Bls W sl bl) :: F⟩) := Lib.hid h
 have HG := Lib.hid hg
 have HC := Lib.hid hc
 have HT := Lib.hid ht
 have c3 := (HD.out.boxi 0 rfl).cellv 3
 have HIN := Lib.hid (its_ofOwn (n := 1) (l := [⟨7, 0, 0, s⟩]) (Own.new w #[.int .i64 7, .int .i64 0, .int .i64 0, .int .i64 s] 63) rfl (by decide))
 have HA := Lib.hid (HD.out.alloc (.cells #[.int .i64 7, .int .i64 0, .int .i64 0, .int .i64 s] 63))
 have hww := write_W cf ⟨d, t, ps, its, bl⟩ [⟨7, 0, 0, s⟩] []
 obtain ⟨ws1, ws2, ws3, ws4, ws5⟩ := writeW_s d t cf ps [⟨7, 0, 0, s⟩] []
 obtain ⟨d2, t2, p2, e2, hwr⟩ : ∃ d2 t2 p2 e2, writeW d t cf ps [⟨7, 0, 0, s⟩] [] = (d2, t2, p2, e2) := ⟨_, _, _, _, rfl⟩
 dsimp only at hww
 rw [hwr] at hww ws1 ws2 ws3 ws4 ws5
 dsimp only at hww ws1 ws2 ws3 ws4 ws5
 have hem : Wr.turn cf ⟨d, t, ps, its, bl⟩ s = if e2 ≠ 0 then (⟨d2, t2, p2, its, bl⟩, e2) else Wr.begin_ cf ⟨d2, t2.shut ps.s, { p2 with s := s, o := 0 }, its, bl⟩ := by
  unfold Wr.turn
  rw [hww]
 have HEM := Lib.hid hem
 have HWR := Lib.hid hwr
 have HT2 := Lib.hid (ws4 _ HT.out)
 have HH2 : Hid (d2.held.length ≤ 1000000) := Lib.hid (by omega)
 clear h hg hc ht hww hem hwr ws4
 go_enter Tryz.func169, Tryz.ntmps169
 go_wp2_with fail
 refine (wr_write_any w0 _ p r d e W gb q t ps _ _ cf [⟨7, 0, 0, s⟩] [] _ none 1 1 0 0 L _ _ HA.out (List.mem_cons_of_mem _ HG.out) HC.out HT.out hqn HIN.out ⟨[], ⟨rfl, Nat.le_refl _, by decide, fun h => absurd h (by decide)⟩, Bls.nil⟩ hs ho hl (by omega)).mono ?_
 rw [HWR.out]
 rintro en w1 ⟨rfl, hd⟩
 have HZ := Lib.hid hd
 clear hd HA HIN HD c3
 go_upto_if 18 with (fail)
 by_cases he : e2 = 0
 ·subst he
  have c2 := (HZ.out.boxi 0 rfl).cellv 2
  have hem := HEM.out
  rw [if_neg (by decide), begin_W] at hem
  dsimp only at hem
  obtain ⟨d3, p3, e3, hbg⟩ : ∃ d3 p3 e3, beginW d2 cf { p2 with s := s, o := 0 } = (d3, p3, e3) := ⟨_, _, _, rfl⟩
  rw [hbg] at hem
  dsimp only at hem
  have HEM2 := Lib.hid hem
  have HBG := Lib.hid hbg
  clear hem hbg HEM
  go_wp2_with fail
  refine (duo_seal ps.s HZ.out HT2.out hqn).mono ?_
  rintro en w2 ⟨rfl, hd⟩
  have HS := Lib.hid hd
  clear hd HZ c2
  have b1 := HS.out.boxi 0 rfl
  have y3 := b1.cellv 3
  have z3 := b1.frozen 3
  have y4 := b1.cellv 4
  have z4 := b1.frozen 4
  have l4 := b1.lt
  have HE : Hid (Duo w0 ((w2.setCell ⟨W, 3, none⟩ (.int .i64 s)).setCell ⟨W, 4, none⟩ (.int .i64 0)) p r d2 e ⟨(W, WB p.D gb q.T { p2 with s := s, o := 0 } (.slice A its.length c) (.slice B bl.length k)) :: q.L (t2.shut ps.s) L, ⟨63, 4, .slice A its.length c, its.length, itsV its⟩ :: ⟨47, 1, .slice B bl.length k, bl.length, sl.map slv⟩ :: G, (fun W => Bls W sl bl) :: F⟩) := Lib.hid ((HS.out.put 0 rfl 3 (.int .i64 s)).put 0 rfl 4 (.int .i64 0))
  clear b1 HS
  go_wp2_with fail
  refine (wr_begin_any w0 _ p r d2 e W gb q.T { p2 with s := s, o := 0 } _ _ cf _ _ _ HE.out (List.mem_cons_of_mem _ HG.out) HC.out HH2.out).mono ?_
  rw [HBG.out]
  rintro en w3 ⟨rfl, hd⟩
  have HF := Lib.hid hd
  clear hd HE y3 z3 y4 z4 l4
  go_wp2
  go_ret
  rw [HEM2.out]
  exact ⟨rfl, A, c, B, k, sl, HF.out⟩
 ·have heb : (e2 != 0) = true := by rw [bne_iff_ne]; exact he
  have hem := HEM.out
  rw [if_pos he] at hem
  have HEM2 := Lib.hid hem
  clear hem HEM
  go_wp2
  go_ret
  rw [HEM2.out]
  exact ⟨rfl, A, c, B, k, sl, HZ.out⟩
end Go.Proofs.YtgcfdjcpcclcjaaGreat
namespace Go.Proofs.YtgcfdjcpcclcjaaGreat
open Go Go.RowKit Go.Kn
theorem writeW_o (d : Dk) (t : Tb) (c : Cf) (q : Ps) (its : List It) (bl : List (List UInt8)) : (writeW d t c q its bl).2.2.1.o = q.o ∨ (writeW d t c q its bl).2.2.1.o = behind q.o bl.length := by
 unfold writeW
 cases encRc ⟨q.m, q.l, q.p, its, bl⟩ with
 | none => exact .inl rfl
 | some x =>
  obtain ⟨b, s⟩ := x
  simp only
  split
  ·exact .inr rfl
  ·exact .inl rfl
theorem emit_s (c : Cf) (z : Wr) (ho : 0 ≤ z.p.o) : (z.emit c).1.p.s = z.p.s ∧ z.p.l ≤ (z.emit c).1.p.l ∧ (z.emit c).1.p.l ≤ z.p.l + 1 ∧ (∀ n, z.t.Ok n → (z.emit c).1.t.Ok n) ∧ (z.emit c).1.d.held.length ≤ z.d.held.length + 8 ∧ 0 ≤ (z.emit c).1.p.o ∧ (z.emit c).1.p.o ≤ z.p.o + 2 + z.bl.length := by
 obtain ⟨d, t, ps, its, bl⟩ := z
 unfold Wr.emit
 by_cases h1 : d.off = true
 ·rw [if_pos h1]
  exact ⟨rfl, Int.le_refl _, by show ps.l ≤ ps.l + 1; omega, fun _ h => h, by show d.held.length ≤ d.held.length + 8; omega, ho, by show ps.o ≤ ps.o + 2 + _; omega⟩
 rw [if_neg h1]
 by_cases h2 : its = []
 ·rw [if_pos h2]
  exact ⟨rfl, Int.le_refl _, by show ps.l ≤ ps.l + 1; omega, fun _ h => h, by show d.held.length ≤ d.held.length + 8; omega, ho, by show ps.o ≤ ps.o + 2 + _; omega⟩
 rw [if_neg h2, begin_W]
 obtain ⟨b1, b2, b3, b4⟩ := beginW_s d c ps
 obtain ⟨d1, p1, e1, hbg⟩ : ∃ d1 p1 e1, beginW d c ps = (d1, p1, e1) := ⟨_, _, _, rfl⟩
 dsimp only
 rw [hbg] at b1 b2 b3 b4 ⊢
 dsimp only at b1 b2 b3 b4 ⊢
 have ho' : 0 ≤ ps.o := ho
 have hp : 0 ≤ p1.o ∧ p1.o ≤ ps.o + 1 := by rcases b3 with h | h <;> omega
 split
 ·exact ⟨b1, by show ps.l ≤ p1.l; omega, by show p1.l ≤ ps.l + 1; omega, fun _ h => h, by show d1.held.length ≤ d.held.length + 8; omega, hp.1, by show p1.o ≤ ps.o + 2 + _; omega⟩
 ·rw [write_W]
  dsimp only
  obtain ⟨w1, w2, w3, w4, w5⟩ := writeW_s d1 t c p1 its bl
  have w6 := writeW_o d1 t c p1 its bl
  obtain ⟨d2, t2, p2, e2, hwr⟩ : ∃ d2 t2 p2 e2, writeW d1 t c p1 its bl = (d2, t2, p2, e2) := ⟨_, _, _, _, rfl⟩
  rw [hwr] at w1 w2 w3 w4 w5 w6 ⊢
  dsimp only at w1 w2 w3 w4 w5 w6 ⊢
  have w7 : 0 ≤ p2.o ∧ p2.o ≤ ps.o + 2 + (bl.length : Int) := by
   rcases w6 with h | h
   ·omega
   ·unfold behind at h
    rcases b3 with h | h <;> omega
  split
  ·exact ⟨by show p2.s = ps.s; rw [w1, b1], by show ps.l ≤ p2.l; omega, by show p2.l ≤ ps.l + 1; omega, w4, by show d2.held.length ≤ d.held.length + 8; omega, w7.1, w7.2⟩
  ·exact ⟨by show p2.s = ps.s; rw [w1, b1], by show ps.l ≤ p2.l; omega, by show p2.l ≤ ps.l + 1; omega, w4, by show d2.held.length ≤ d.held.length + 8; omega, w7.1, w7.2⟩
set_option maxRecDepth 100000 in
set_option maxHeartbeats 8000000 in
theorem wr_room_any (w0 w : World) (p : PD) (r : RD) (e : Dk) (W gb : Nat) (q : TD) (z : Wr) (nb : Nat) (spare : Bool) (cf : Cf) (L : List (Nat × List Value)) (G : List Gs) (F : List (World → Prop)) (h : WrIn w0 w p r e W gb q z L G F) (hg : (fun W => GeoAt W gb cf.b cf.s cf.l) ∈ F) (hc : cf.Ok) (ht : z.t.Ok q.n) (hqn : q.n ≤ 1000) (hs : 0 ≤ z.p.s ∧ z.p.s ≤ cf.s - 1) (ho : 0 ≤ z.p.o ∧ z.p.o ≤ 64) (hl : -100000000000 ≤ z.p.l ∧ z.p.l ≤ 100000000000) (hh : z.d.held.length ≤ 880000) (hi : z.its.length ≤ 20) (hb : z.bl.length ≤ 20) (hnb : nb ≤ 1) :
  Calls Tryz.prog 120 #[.pointer (some ⟨W, 0, none⟩), .int .i64 (nb : Int), .bool spare] w fun en w' => en = .returned (.int .i64 (z.room cf nb spare).2) ∧ WrIn w0 w' p r e W gb q (z.room cf nb spare).1 L G F := by
 obtain ⟨d, t, ps, its, bl⟩ := z
 have h0 := h
 obtain ⟨A, c, B, k, sl, h⟩ := h
 dsimp only at h ht hs ho hl hh hi hb
 obtain ⟨n, hn⟩ : ∃ n, its.length = n := ⟨_, rfl⟩
 obtain ⟨m, hm⟩ : ∃ m, bl.length = m := ⟨_, rfl⟩
 have hfin : ∀ (w' : World) (d' : Dk) (t' : Tb) (p' : Ps), Duo w0 w' p r d' e ⟨(W, WB p.D gb q.T p' (.slice A n c) (.slice B m k)) :: q.L (t') L, ⟨63, 4, .slice A n c, n, itsV its⟩ :: ⟨47, 1, .slice B m k, m, sl.map slv⟩ :: G, (fun W => Bls W sl bl) :: F⟩ → WrIn w0 w' p r e W gb q ⟨d', t', p', its, bl⟩ L G F := fun w' d' t' p' hx => ⟨A, c, B, k, sl, by rw [hn, hm]; exact hx⟩
 have hro : Wr.room cf ⟨d, t, ps, its, bl⟩ nb spare = if Wr.fits cf ps.o (n + 1) (m + nb) = true then (⟨d, t, ps, its, bl⟩, 0) else if Wr.fits cf (if n = 0 then ps.o else behind ps.o m) 1 nb = true then Wr.emit cf ⟨d, t, ps, its, bl⟩ else if (t.take spare).2.2 = true then (if (Wr.emit cf ⟨d, (t.take spare).1, ps, its, bl⟩).2 ≠ 0 then Wr.emit cf ⟨d, (t.take spare).1, ps, its, bl⟩ else (Wr.emit cf ⟨d, (t.take spare).1, ps, its, bl⟩).1.turn cf (t.take spare).2.1) else (⟨d, t, ps, its, bl⟩, 6) := by
  have he : (if its = [] then ps.o else behind ps.o bl.length) = (if n = 0 then ps.o else behind ps.o m) := by
   rw [← hn, ← hm]
   by_cases hx : its = []
   ·rw [if_pos hx, if_pos (by rw [hx]; rfl)]
   ·rw [if_neg hx, if_neg (fun h => hx (List.eq_nil_of_length_eq_zero h))]
  unfold Wr.room
  dsimp only
  rw [he, hn, hm]
  unfold Tb.take
  by_cases hx : t.takes spare = true ∧ Tb.idx t.us ≠ -1
  ·rw [if_pos hx, if_pos hx]
   rfl
  ·rw [if_neg hx, if_neg hx]
   rfl
 have htk : (t.take spare).2.2 = false → (t.take spare).1 = t := by
  unfold Tb.take
  split
  ·intro h; cases h
  ·exact fun _ => rfl
 have htok : (t.take spare).1.Ok q.n := by
  unfold Tb.take
  split
  ·exact ht.grab _
  ·exact ht
 rw [hn] at hi
 rw [hm] at hb
 rw [hn, hm] at h
 have HD : Hid (Duo w0 w p r d e ⟨(W, WB p.D gb q.T ps (.slice A n c) (.slice B m k)) :: q.L (t) L, ⟨63, 4, .slice A n c, n, itsV its⟩ :: ⟨47, 1, .slice B m k, m, sl.map slv⟩ :: G, (fun W => Bls W sl bl) :: F⟩) := Lib.hid h
 have HG := Lib.hid hg
 have HC := Lib.hid hc
 have HT := Lib.hid ht
 have HN := Lib.hid hn
 have HM := Lib.hid hm
 have HFIN := Lib.hid hfin
 have HRO := Lib.hid hro
 have HTK := Lib.hid htk
 have HTO := Lib.hid htok
 obtain ⟨fi, hfi⟩ : ∃ x, Wr.fits cf ps.o (n + 1) (m + nb) = x := ⟨_, rfl⟩
 obtain ⟨o2, ho2⟩ : ∃ x, (if n = 0 then ps.o else behind ps.o m) = x := ⟨_, rfl⟩
 obtain ⟨fj, hfj⟩ : ∃ x, Wr.fits cf o2 1 nb = x := ⟨_, rfl⟩
 have ho2b : 0 ≤ o2 ∧ o2 ≤ 200 := by
  rw [← ho2]
  split
  ·omega
  ·unfold behind; omega
 have HFI := Lib.hid hfi
 have HFJ := Lib.hid hfj
 have HO2 := Lib.hid ho2
 have hwn : IntKind.i64.wrap ((n : Int) + 1) = ((n + 1 : Nat) : Int) := by rw [show (n : Int) + 1 = ((n + 1 : Nat) : Int) from by omega]; exact IntWalk.i64_in _ (by omega)
 have hwm : IntKind.i64.wrap ((m : Int) + (nb : Int)) = ((m + nb : Nat) : Int) := by rw [show (m : Int) + (nb : Int) = ((m + nb : Nat) : Int) from by omega]; exact IntWalk.i64_in _ (by omega)
 clear h h0 hg hc ht hn hm hfin hro hfi hfj ho2 htk htok
 go_enter Tryz.func120, Tryz.ntmps120
 go_wp2_with fail
 go_cut [30] from 11 (fun s30 wy => s30 = .bool fi ∧ Duo w0 wy p r d e ⟨(W, WB p.D gb q.T ps (.slice A n c) (.slice B m k)) :: q.L (t) L, ⟨63, 4, .slice A n c, n, itsV its⟩ :: ⟨47, 1, .slice B m k, m, sl.map slv⟩ :: G, (fun W => Bls W sl bl) :: F⟩)
 case first =>
  have HY := Lib.hid HD.out.drew
  clear HD
  refine wp_region_held_drew (S := (fun w' => Kn.Own w' W (WB p.D gb q.T ps (.slice A n c) (.slice B m k)))) (by kernel_rfl) (HY.out.boxi 0 rfl) (fun hSw0 => ?_)
  generalize w.drew = wz at *
  refine Kn.takeS 0 ⟨some 11, _, _, _, _, _⟩ ?_
  refine Kn.takeS 1 ⟨some 12, _, _, _, _, _⟩ ?_
  refine Kn.takeS 2 ⟨some 13, _, _, _, _, _⟩ ?_
  refine Kn.takeS 3 ⟨some 14, _, _, _, _, _⟩ ?_
  refine Kn.takeS 4 ⟨some 15, _, _, _, _, _⟩ ?_
  refine Kn.takeS 5 ⟨some 16, _, _, _, _, _⟩ (v := (.int .i64 ps.o)) (hy := fun w hSw => by
   have q0 := hSw.cellv 4
   go_simp) ?_
  refine Kn.takeS 6 ⟨some 17, _, _, _, _, _⟩ ?_
  refine Kn.takeS 7 ⟨some 18, _, _, _, _, _⟩ ?_
  refine Kn.takeS 8 ⟨some 19, _, _, _, _, _⟩ ?_
  refine Kn.takeS 9 ⟨some 20, _, _, _, _, _⟩ (v := (.slice A n c)) (hy := fun w hSw => by
   have q0 := hSw.cellv 8
   go_simp) ?_
  refine Kn.takeS 10 ⟨some 21, _, _, _, _, _⟩ ?_
  refine Kn.takeS 11 ⟨some 22, _, _, _, _, _⟩ ?_
  refine Kn.takeS 12 ⟨some 23, _, _, _, _, _⟩ ?_
  refine Kn.takeS 13 ⟨some 24, _, _, _, _, _⟩ ?_
  refine Kn.takeS 14 ⟨some 25, _, _, _, _, _⟩ ?_
  refine Kn.takeS 15 ⟨some 26, _, _, _, _, _⟩ (v := (.slice B m k)) (hy := fun w hSw => by
   have q0 := hSw.cellv 9
   go_simp) ?_
  refine Kn.takeS 16 ⟨some 27, _, _, _, _, _⟩ ?_
  refine Kn.takeS 17 ⟨some 28, _, _, _, _, _⟩ ?_
  refine Kn.takeS 18 ⟨some 29, _, _, _, _, _⟩ ?_
  refine Kn.takeR 19 ⟨some 30, _, _, _, _, _⟩ fun K hK => ?_
  go_simp
  refine (wr_fits_any _ W p.D gb q.T ps _ _ cf ps.o (n + 1) (m + nb) (HY.out.boxi 0 rfl) (HY.out.fact (f := (fun W => GeoAt W gb cf.b cf.s cf.l)) (List.mem_cons_of_mem _ HG.out)) HC.out (by omega) (by omega) (by omega)).mono ?_
  rintro en w1 ⟨rfl, hO⟩
  rw [HFI.out]
  have HZ := Lib.hid (HY.out.keep0 hO)
  clear hO HY
  refine hK.out _ _ (HZ.out.boxi 0 rfl) (fun hSn => ?_)
  clear hK K hSw0
  have hSw0 := hSn
  clear hSn
  refine wpAnyH_done (by kernel_rfl) ?_ _
  clear hSw0
  go_wp2
  go_meet
  case rel => exact ⟨rfl, HZ.out⟩
 case rest =>
  obtain ⟨rfl, hd⟩ := hcut
  have HD1 := Lib.hid hd
  clear hd HD hwn hwm
  by_cases h1 : fi = true
  ·subst h1
   have hro := HRO.out
   rw [HFI.out, if_pos rfl] at hro
   have HR2 := Lib.hid hro
   clear hro HRO HFI
   go_wp2
   go_ret
   rw [HR2.out]
   exact ⟨rfl, HFIN.out _ _ _ _ HD1.out⟩
  ·rw [Bool.not_eq_true] at h1
   subst h1
   have hro := HRO.out
   rw [HFI.out, if_neg (by decide), HO2.out, HFJ.out] at hro
   have HR2 := Lib.hid hro
   clear hro HRO HFI
   have b0 := HD1.out.boxi 0 rfl
   have c4 := b0.cellv 4
   have c8 := b0.cellv 8
   have c9 := b0.cellv 9
   clear b0
   go_upto_if 41 with (fail)
   go_cut [7] from 11 (fun s7 wy => s7 = .int .i64 o2 ∧ wc = wy)
   case first =>
    by_cases hn0 : n = 0
    ·have ho3 : o2 = ps.o := by rw [← HO2.out, if_pos hn0]
     have HO3 := Lib.hid ho3
     have hnf : ¬ (n : Int) > 0 := by omega
     clear ho3 hn0
     go_wp2
     go_meet
     case rel => exact ⟨by rw [HO3.out], rfl⟩
    ·have ho3 : o2 = behind ps.o m := by rw [← HO2.out, if_neg hn0]
     have HO3 := Lib.hid ho3
     have hnf : (n : Int) > 0 := by omega
     clear ho3 hn0
     go_wp2_with fail
     refine (wr_behind_any ps.o m _ (by omega) (by omega)).mono ?_
     rintro en w5 ⟨rfl, rfl⟩
     go_wp2
     go_meet
     case rel => exact ⟨by rw [HO3.out], rfl⟩
   case rest =>
    obtain ⟨rfl, rfl⟩ := hcut
    clear c4 c8 c9
    go_wp2_with fail
    refine (wr_fits_any _ W p.D gb q.T ps _ _ cf o2 1 nb (HD1.out.boxi 0 rfl) (HD1.out.fact (f := (fun W => GeoAt W gb cf.b cf.s cf.l)) (List.mem_cons_of_mem _ HG.out)) HC.out (by omega) (by omega) (by omega)).mono ?_
    rintro en w5 ⟨rfl, hO⟩
    rw [HFJ.out]
    have HD2 := Lib.hid (HD1.out.keep0 hO)
    clear hO HD1
    by_cases h2 : fj = true
    ·subst h2
     have hro := HR2.out
     rw [if_pos rfl] at hro
     have HR3 := Lib.hid hro
     clear hro HR2 HFJ
     go_wp2_with fail
     refine (wr_emit_any w0 _ p r e W gb q ⟨d, t, ps, its, bl⟩ cf L G F (HFIN.out _ _ _ _ HD2.out) HG.out HC.out HT.out hqn hs ho (by dsimp only; omega) (by dsimp only; omega)).mono ?_
     rintro en w6 ⟨rfl, hd⟩
     have HE := Lib.hid hd
     clear hd HD2
     go_wp2
     go_ret
     rw [HR3.out]
     exact ⟨rfl, HE.out⟩
    ·rw [Bool.not_eq_true] at h2
     subst h2
     have hro := HR2.out
     rw [if_neg (by decide)] at hro
     have HR3 := Lib.hid hro
     have c2 := (HD2.out.boxi 0 rfl).cellv 2
     clear hro HR2 HFJ
     go_wp2_with fail
     refine (duo_take spare HD2.out HT.out hqn).mono ?_
     rintro en w6 ⟨rfl, hd⟩
     obtain ⟨t2, s2, ok, htk⟩ : ∃ t2 s2 ok, t.take spare = (t2, s2, ok) := ⟨_, _, _, rfl⟩
     have hro := HR3.out
     have hh2 := HTK.out
     have hh3 := HTO.out
     rw [htk] at hd hro hh2 hh3 ⊢
     dsimp only at hd hro hh2 hh3 ⊢
     have HR4 := Lib.hid hro
     have HT2 := Lib.hid hh3
     have HTE := Lib.hid hh2
     have HD3 : Hid (Duo w0 w6 p r d e ⟨(W, WB p.D gb q.T ps (.slice A n c) (.slice B m k)) :: q.L (t2) L, ⟨63, 4, .slice A n c, n, itsV its⟩ :: ⟨47, 1, .slice B m k, m, sl.map slv⟩ :: G, (fun W => Bls W sl bl) :: F⟩) := Lib.hid hd
     clear hd hro hh2 hh3 htk HD2 c2 HR3 HTK HTO
     by_cases h3 : ok = true
     ·subst h3
      have hro := HR4.out
      rw [if_pos rfl] at hro
      have HR5 := Lib.hid hro
      obtain ⟨es1, es2, es3, es4, es5, es6, es7⟩ := emit_s cf ⟨d, t2, ps, its, bl⟩ ho.1
      have hlen : bl.length = m := HM.out
      dsimp only at es1 es2 es3 es4 es5 es6 es7
      rw [hlen] at es7
      obtain ⟨z2, e2, hem⟩ : ∃ z2 e2, Wr.emit cf ⟨d, t2, ps, its, bl⟩ = (z2, e2) := ⟨_, _, rfl⟩
      rw [hem] at hro es1 es2 es3 es4 es5 es6 es7
      dsimp only at hro es1 es2 es3 es4 es5 es6 es7
      have HR6 := Lib.hid hro
      have HEM := Lib.hid hem
      have HT3 := Lib.hid (es4 _ HT2.out)
      clear hro HR4 HR5 hem es4 hlen
      go_wp2_with fail
      refine (wr_emit_any w0 _ p r e W gb q ⟨d, t2, ps, its, bl⟩ cf L G F (HFIN.out _ _ _ _ HD3.out) HG.out HC.out HT2.out hqn hs ho (by dsimp only; omega) (by dsimp only; omega)).mono ?_
      rw [HEM.out]
      rintro en w7 ⟨rfl, hd⟩
      have HE := Lib.hid hd
      clear hd HD3
      by_cases h4 : e2 = 0
      ·subst h4
       have hro := HR6.out
       rw [if_neg (by decide)] at hro
       have HR7 := Lib.hid hro
       clear hro HR6
       go_wp2_with fail
       refine (wr_turn_any w0 _ p r e W gb q z2 s2 cf L G F HE.out HG.out HC.out HT3.out hqn (by rw [es1]; exact hs) (by omega) (by omega) (by omega)).mono ?_
       rintro en w8 ⟨rfl, hd⟩
       have HX := Lib.hid hd
       clear hd HE
       go_wp2
       go_ret
       rw [HR7.out]
       exact ⟨rfl, HX.out⟩
      ·have heb : (e2 != 0) = true := by rw [bne_iff_ne]; exact h4
       have hro := HR6.out
       rw [if_pos h4] at hro
       have HR7 := Lib.hid hro
       clear hro HR6
       go_wp2
       go_ret
       rw [HR7.out]
       exact ⟨rfl, HE.out⟩
     ·rw [Bool.not_eq_true] at h3
      subst h3
      have hro := HR4.out
      rw [if_neg (by decide)] at hro
      have HR5 := Lib.hid hro
      have hte := HTE.out rfl
      subst hte
      clear hro HR4
      go_wp2
      go_ret
      rw [HR5.out]
      exact ⟨rfl, HFIN.out _ _ _ _ HD3.out⟩
end Go.Proofs.YtgcfdjcpcclcjaaGreat
