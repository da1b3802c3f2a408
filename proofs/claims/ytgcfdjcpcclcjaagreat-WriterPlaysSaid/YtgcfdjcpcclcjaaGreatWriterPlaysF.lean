/- WrH, WrI, UsC, RfT, HlP, TbQ, RfW, RkM, XwA, XwB, XwC, XwD, XwE, AppN: joined by pack.py, without what the claim does not use. -/
import Derived.Test.YtgcfdjcpcclcjaaGreatWriterPlaysE
set_option linter.unusedVariables false
set_option linter.unusedSimpArgs false
namespace Go.Kn
open Go Go.RowKit
/-- an item that waits: the writer, where its block will lie, the error -/
def Wr.add (c : Cf) (z : Wr) (i : It) (b : List UInt8) (spare : Bool) : Wr × Int × Int :=
 if (i.may && decide (i.k ≠ 7) && decide (b.length = (if i.loaded = true then 64 else 0))) = false then (z, 0, 1)
 else if z.d.off = true then (z, 0, 3)
 else if (z.room c (if i.loaded = true then 1 else 0) spare).2 ≠ 0 then ((z.room c (if i.loaded = true then 1 else 0) spare).1, 0, (z.room c (if i.loaded = true then 1 else 0) spare).2)
 else if i.loaded = true then ({ (z.room c (if i.loaded = true then 1 else 0) spare).1 with bl := (z.room c (if i.loaded = true then 1 else 0) spare).1.bl ++ [b], its := (z.room c (if i.loaded = true then 1 else 0) spare).1.its ++ [i] }, Wr.first c (z.room c (if i.loaded = true then 1 else 0) spare).1 + ((z.room c (if i.loaded = true then 1 else 0) spare).1.bl.length : Int), 0)
 else ({ (z.room c (if i.loaded = true then 1 else 0) spare).1 with its := (z.room c (if i.loaded = true then 1 else 0) spare).1.its ++ [i] }, 0, 0)
theorem at_range {c : Cf} (hc : c.Ok) (s : Int) : -1 ≤ c.at_ s ∧ c.at_ s ≤ 100000 := by
 unfold Cf.at_
 have h1 := rln_bounds hc
 have h2 := pgs_bounds hc
 split
 ·rename_i h
  have h3 := c.prod hc s h.1 (by omega)
  omega
 ·omega
end Go.Kn
namespace Go.Proofs.YtgcfdjcpcclcjaaGreat
open Go Go.RowKit Go.Kn
theorem emit_len (c : Cf) (z : Wr) : (z.emit c).1.its.length ≤ z.its.length ∧ (z.emit c).1.bl.length ≤ z.bl.length := by
 obtain ⟨d, t, ps, its, bl⟩ := z
 unfold Wr.emit
 rw [begin_W]
 dsimp only
 rw [write_W]
 dsimp only
 split
 ·exact ⟨Nat.le_refl _, Nat.le_refl _⟩
 ·split
  ·exact ⟨Nat.le_refl _, Nat.le_refl _⟩
  ·split
   ·exact ⟨Nat.le_refl _, Nat.le_refl _⟩
   ·split
    ·exact ⟨Nat.le_refl _, Nat.le_refl _⟩
    ·exact ⟨Nat.zero_le _, Nat.zero_le _⟩
theorem turn_len (c : Cf) (z : Wr) (s : Int) (ho : 0 ≤ z.p.o) : (z.turn c s).1.its = z.its ∧ (z.turn c s).1.bl = z.bl ∧ 0 ≤ (z.turn c s).1.p.o ∧ (z.turn c s).1.p.o ≤ z.p.o + 2 := by
 obtain ⟨d, t, ps, its, bl⟩ := z
 have ho' : 0 ≤ ps.o := ho
 unfold Wr.turn
 rw [write_W]
 dsimp only
 have w6 := writeW_o d t c ps [⟨7, 0, 0, s⟩] []
 obtain ⟨d2, t2, p2, e2, hwr⟩ : ∃ d2 t2 p2 e2, writeW d t c ps [⟨7, 0, 0, s⟩] [] = (d2, t2, p2, e2) := ⟨_, _, _, _, rfl⟩
 rw [hwr] at w6 ⊢
 dsimp only at w6 ⊢
 have w7 : 0 ≤ p2.o ∧ p2.o ≤ ps.o + 2 := by
  rcases w6 with h | h
  ·omega
  ·unfold behind at h
   simp only [List.length_nil] at h
   omega
 split
 ·exact ⟨rfl, rfl, w7.1, w7.2⟩
 ·rw [begin_W]
  dsimp only
  obtain ⟨_, _, b3, _⟩ := beginW_s d2 c { p2 with s := s, o := 0 }
  refine ⟨rfl, rfl, ?_, ?_⟩ <;> rcases b3 with h | h <;> rw [h] <;> (try dsimp only) <;> omega
theorem room_s (c : Cf) (z : Wr) (nb : Nat) (spare : Bool) (ho : 0 ≤ z.p.o) : (z.room c nb spare).1.its.length ≤ z.its.length ∧ (z.room c nb spare).1.bl.length ≤ z.bl.length ∧ 0 ≤ (z.room c nb spare).1.p.o ∧ (z.room c nb spare).1.p.o ≤ z.p.o + 4 + z.bl.length := by
 have e1 := emit_s c z ho
 have e2 := emit_len c z
 have f1 := emit_s c { z with t := z.t.grab (Tb.idx z.t.us) } ho
 have f2 := emit_len c { z with t := z.t.grab (Tb.idx z.t.us) }
 obtain ⟨e3, e4⟩ := e1.2.2.2.2.2
 obtain ⟨f3, f4⟩ := f1.2.2.2.2.2
 have f5 := turn_len c _ (Tb.idx z.t.us) f3
 dsimp only at f2 f3 f4
 unfold Wr.room
 by_cases h1 : Wr.fits c z.p.o (z.its.length + 1) (z.bl.length + nb) = true
 ·rw [if_pos h1]
  exact ⟨Nat.le_refl _, Nat.le_refl _, ho, by show z.p.o ≤ _; omega⟩
 rw [if_neg h1]
 by_cases h2 : Wr.fits c (if z.its = [] then z.p.o else behind z.p.o z.bl.length) 1 nb = true
 ·rw [if_pos h2]
  exact ⟨e2.1, e2.2, e3, by omega⟩
 rw [if_neg h2]
 by_cases h3 : z.t.takes spare = true ∧ Tb.idx z.t.us ≠ -1
 ·rw [if_pos h3]
  by_cases h4 : (Wr.emit c { z with t := z.t.grab (Tb.idx z.t.us) }).2 ≠ 0
  ·rw [if_pos h4]
   exact ⟨f2.1, f2.2, f3, by omega⟩
  ·rw [if_neg h4]
   obtain ⟨g1, g2, g3, g4⟩ := f5
   rw [g1, g2]
   exact ⟨f2.1, f2.2, g3, by omega⟩
 ·rw [if_neg h3]
  exact ⟨Nat.le_refl _, Nat.le_refl _, ho, by show z.p.o ≤ _; omega⟩
theorem drop5 {w0 w : World} {p : PD} {r : RD} {d e : Dk} {q : TD} {t : Tb} {x y : Nat × List Value} {L : List (Nat × List Value)} {G : List Gs} {F : List (World → Prop)} (h : Duo w0 w p r d e ⟨x :: q.L t (y :: L), G, F⟩) : Duo w0 w p r d e ⟨x :: q.L t L, G, F⟩ :=
 (h.permL (L' := y :: x :: q.L t L) (perm_any (fun c => by simp only [TD.L, List.map_cons, List.sum_cons]; omega))).ldrop
set_option maxRecDepth 100000 in
set_option maxHeartbeats 16000000 in
theorem wr_add_any (w0 w : World) (p : PD) (r : RD) (e : Dk) (W gb : Nat) (q : TD) (z : Wr) (ik ib ic iv : Int) (Ab : Option Addr) (n cb : Nat) (b : List UInt8) (spare : Bool) (cf : Cf) (L : List (Nat × List Value)) (G : List Gs) (F : List (World → Prop)) (h : WrIn w0 w p r e W gb q z L G F) (hg : (fun W => GeoAt W gb cf.b cf.s cf.l) ∈ F) (hby : (fun W => Bys W Ab n cb b) ∈ F) (hc : cf.Ok) (ht : z.t.Ok q.n) (hqn : q.n ≤ 1000) (hs : 0 ≤ z.p.s ∧ z.p.s ≤ cf.s - 1) (ho : 0 ≤ z.p.o ∧ z.p.o ≤ 64) (hl : -100000000000 ≤ z.p.l ∧ z.p.l ≤ 100000000000) (hh : z.d.held.length ≤ 880000) (hi : z.its.length ≤ 20) (hb : z.bl.length ≤ 20) (hn : n ≤ 100000) :
  Calls Tryz.prog 42 #[.pointer (some ⟨W, 0, none⟩), .agg #[.int .i64 ik, .int .i64 ib, .int .i64 ic, .int .i64 iv], .slice Ab n cb, .bool spare] w fun en w' => en = .returned (.tuple #[.int .i64 (z.add cf ⟨ik, ib, ic, iv⟩ b spare).2.1, .int .i64 (z.add cf ⟨ik, ib, ic, iv⟩ b spare).2.2]) ∧ WrIn w0 w' p r e W gb q (z.add cf ⟨ik, ib, ic, iv⟩ b spare).1 L G F := by
 obtain ⟨i0, hi0, hz0, hz1, hz2⟩ := info_parts Tryz.infoItem
 obtain ⟨i1, hi1, hy0, hy1, hy2⟩ := info_parts Tryz.infoBys
 obtain ⟨d, t, ps, its, bl⟩ := z
 obtain ⟨A, c, B, k, sl, h⟩ := h
 dsimp only at h ht hs ho hl hh hi hb
 obtain ⟨n0, hn0⟩ : ∃ n, its.length = n := ⟨_, rfl⟩
 obtain ⟨m0, hm0⟩ : ∃ m, bl.length = m := ⟨_, rfl⟩
 rw [hn0, hm0] at h
 have hnb : b.length = n := by
  have := (h.fact (List.mem_cons_of_mem _ hby)).len
  rwa [bvs_length] at this
 obtain ⟨f5', hf5⟩ : ∃ f, w.heap.size = f := ⟨_, rfl⟩
 have hperm : ∀ f5 : Nat, ((f5, ([.int .i64 ik, .int .i64 ib, .int .i64 ic, .int .i64 iv] : List Value)) :: (W, WB p.D gb q.T ps (.slice A n0 c) (.slice B m0 k)) :: q.L t L).Perm ((W, WB p.D gb q.T ps (.slice A n0 c) (.slice B m0 k)) :: q.L t ((f5, [.int .i64 ik, .int .i64 ib, .int .i64 ic, .int .i64 iv]) :: L)) := fun f5 => perm_any (fun c => by simp only [TD.L, List.map_cons, List.sum_cons]; omega)
 have hd0 := (h.newB #[.int .i64 ik, .int .i64 ib, .int .i64 ic, .int .i64 iv] 63 (b := w.heap.size) rfl).permL (hperm w.heap.size)
 clear hf5
 have hfin : ∀ (f5 : Nat) (w' : World), Duo w0 w' p r d e ⟨(W, WB p.D gb q.T ps (.slice A n0 c) (.slice B m0 k)) :: q.L t ((f5, [.int .i64 ik, .int .i64 ib, .int .i64 ic, .int .i64 iv]) :: L), ⟨63, 4, .slice A n0 c, n0, itsV its⟩ :: ⟨47, 1, .slice B m0 k, m0, (sl).map slv⟩ :: G, (fun W => Bls W (sl) (bl)) :: F⟩ → WrIn w0 w' p r e W gb q ⟨d, t, ps, its, bl⟩ L G F := fun f5 w' hx => ⟨A, c, B, k, sl, by dsimp only; rw [hn0, hm0]; exact drop5 hx⟩
 have hwi : ∀ (f5 : Nat) (w' : World), Duo w0 w' p r d e ⟨(W, WB p.D gb q.T ps (.slice A n0 c) (.slice B m0 k)) :: q.L t ((f5, [.int .i64 ik, .int .i64 ib, .int .i64 ic, .int .i64 iv]) :: L), ⟨63, 4, .slice A n0 c, n0, itsV its⟩ :: ⟨47, 1, .slice B m0 k, m0, (sl).map slv⟩ :: G, (fun W => Bls W (sl) (bl)) :: F⟩ → WrIn w0 w' p r e W gb q ⟨d, t, ps, its, bl⟩ ((f5, [.int .i64 ik, .int .i64 ib, .int .i64 ic, .int .i64 iv]) :: L) G F := fun f5 w' hx => ⟨A, c, B, k, sl, by dsimp only; rw [hn0, hm0]; exact hx⟩
 have HD := Lib.hid hd0
 have HFIN := Lib.hid (hfin w.heap.size)
 have HWI := Lib.hid (hwi w.heap.size)
 have HG := Lib.hid hg
 have HC := Lib.hid hc
 have HT := Lib.hid ht
 have HBY := Lib.hid hby
 have HNB := Lib.hid hnb
 have HBL : Hid (n = 64 → b.length = 64) := Lib.hid (fun h => hnb.trans h)
 clear h hg hc ht hby hnb hfin hwi hperm hd0 hn0 hm0
 cases hld : It.loaded ⟨ik, ib, ic, iv⟩ with
 | true =>
  have hld2 : It.loaded ⟨ik, ib, ic, iv⟩ = true := hld
  have HLD := Lib.hid hld2
  clear hld hld2
  go_enter Tryz.func42, Tryz.ntmps42
  go_wp2_with fail
  generalize hz : w.alloc (.cells #[.int .i64 ik, .int .i64 ib, .int .i64 ic, .int .i64 iv] 63) = w1 at *
  generalize w.heap.size = f5 at *
  clear hz
  have g5 := own4 (HD.out.boxi 4 rfl)
  obtain ⟨y0, y1, y2, y3⟩ := g5
  refine (item_loaded_any ik ib ic iv _).mono ?_
  rintro en w2 ⟨rfl, hO⟩
  rw [HLD.out]
  have HD2 := Lib.hid (HD.out.keep0 hO)
  obtain ⟨y0, y1, y2, y3⟩ := own4 (HD2.out.boxi 4 rfl)
  clear hO HD
  go_wp2_with fail
  refine (item_may_any ik ib ic iv _).mono ?_
  rintro en w3 ⟨rfl, hO⟩
  have HD3 := Lib.hid (HD2.out.keep0 hO)
  obtain ⟨y0, y1, y2, y3⟩ := own4 (HD3.out.boxi 4 rfl)
  clear hO HD2
  by_cases hok : (It.may ⟨ik, ib, ic, iv⟩ = true ∧ ik ≠ 7) ∧ n = 64
  ·obtain ⟨⟨hm, h7⟩, hns⟩ := hok
   have hnok : (It.may ⟨ik, ib, ic, iv⟩ && decide (ik ≠ 7) && decide (b.length = (if It.loaded ⟨ik, ib, ic, iv⟩ = true then 64 else 0))) = true := by rw [HLD.out, hm, decide_eq_true h7, HNB.out, hns]; rfl
   have h71 : (ik == 7) = false := by simpa using h7
   have HNO := Lib.hid hnok
   subst hns
   rw [hm]
   clear hm h7 hnok
   have c0 := (HD3.out.boxi 0 rfl).cellv 0
   go_wp2_with fail
   refine (duo_off HD3.out).mono ?_
   rintro en w4 ⟨rfl, rfl⟩
   by_cases hof : d.off = true
   ·have had : Wr.add cf ⟨d, t, ps, its, bl⟩ ⟨ik, ib, ic, iv⟩ b spare = (⟨d, t, ps, its, bl⟩, 0, 3) := by
     unfold Wr.add
     rw [if_neg (by rw [HNO.out]; decide), if_pos hof]
    have HAD2 := Lib.hid had
    rw [hof]
    clear had hof c0
    go_wp2
    go_ret2
    rw [HAD2.out]
    exact ⟨rfl, HFIN.out _ HD3.out⟩
   ·have hof2 : d.off = false := by simpa using hof
    obtain ⟨z1, e1, hrm⟩ : ∃ z1 e1, Wr.room cf ⟨d, t, ps, its, bl⟩ 1 spare = (z1, e1) := ⟨_, _, rfl⟩
    have had : Wr.add cf ⟨d, t, ps, its, bl⟩ ⟨ik, ib, ic, iv⟩ b spare = if e1 ≠ 0 then (z1, 0, e1) else ({ z1 with bl := z1.bl ++ [b], its := z1.its ++ [⟨ik, ib, ic, iv⟩] }, Wr.first cf z1 + (z1.bl.length : Int), 0) := by
     unfold Wr.add
     rw [if_neg (by rw [HNO.out]; decide), if_neg hof, HLD.out]
     rw [show (if true = true then 1 else 0 : Nat) = 1 from rfl, hrm]
     dsimp only
     split
     ·rfl
     ·rw [if_pos rfl]
    obtain ⟨rs1, rs2, rs3, rs4⟩ := room_s cf ⟨d, t, ps, its, bl⟩ 1 spare ho.1
    rw [hrm] at rs1 rs2 rs3 rs4
    dsimp only at rs1 rs2 rs3 rs4
    have HAD2 := Lib.hid had
    have HRM := Lib.hid hrm
    rw [hof2]
    clear had hof hof2 hrm c0
    go_wp2_with fail
    refine (wr_room_any w0 _ p r e W gb q ⟨d, t, ps, its, bl⟩ 1 spare cf ((f5, [.int .i64 ik, .int .i64 ib, .int .i64 ic, .int .i64 iv]) :: L) G F (HWI.out _ HD3.out) HG.out HC.out HT.out hqn hs ho hl hh hi hb (by decide)).mono ?_
    rw [HRM.out]
    rintro en w7 ⟨rfl, hd⟩
    obtain ⟨d1, t1, p1, its1, bl1⟩ := z1
    obtain ⟨A1, c1, B1, k1, sl1, hd⟩ := hd
    dsimp only at hd rs1 rs2 rs3 rs4
    obtain ⟨n1, hn1⟩ : ∃ n, its1.length = n := ⟨_, rfl⟩
    obtain ⟨m1, hm1⟩ : ∃ m, bl1.length = m := ⟨_, rfl⟩
    rw [hn1, hm1] at hd
    rw [hn1] at rs1
    rw [hm1] at rs2
    have hm1b : m1 ≤ 20 := by omega
    have hn1b : n1 ≤ 20 := by omega
    have HR : Hid (Duo w0 w7 p r d1 e ⟨(W, WB p.D gb q.T p1 (.slice A1 n1 c1) (.slice B1 m1 k1)) :: q.L t1 ((f5, [.int .i64 ik, .int .i64 ib, .int .i64 ic, .int .i64 iv]) :: L), ⟨63, 4, .slice A1 n1 c1, n1, itsV its1⟩ :: ⟨47, 1, .slice B1 m1 k1, m1, (sl1).map slv⟩ :: G, (fun W => Bls W (sl1) (bl1)) :: F⟩) := Lib.hid hd
    have HN1 := Lib.hid hn1
    have HM1 := Lib.hid hm1
    clear hd HD3 hn1 hm1
    by_cases he : e1 = 0
    ·subst he
     have had := HAD2.out
     rw [if_neg (by decide)] at had
     have HAD3 := Lib.hid had
     clear had HAD2
     go_upto_region 12 with (fail)
     go_cut [] from 12 (fun wy => ∃ (A8 : Option Addr) (c8 : Nat) (sl2 : List (Option Addr × Nat × Nat)), Duo w0 wy p r d1 e ⟨(W, WB p.D gb q.T p1 (.slice A1 n1 c1) (.slice A8 (m1 + 1) c8)) :: q.L t1 ((f5, [.int .i64 ik, .int .i64 ib, .int .i64 ic, .int .i64 iv]) :: L), ⟨63, 4, .slice A1 n1 c1, n1, itsV its1⟩ :: ⟨47, 1, .slice A8 (m1 + 1) c8, (m1 + 1), (sl2).map slv⟩ :: G, (fun W => Bls W (sl2) (bl1 ++ [b])) :: F⟩)
     case first =>
      have HY := Lib.hid HR.out.drew
      clear HR
      refine wp_region_held_drew (S := (fun w' => True)) (by kernel_rfl) trivial (fun hSw0 => ?_)
      generalize w7.drew = wz at *
      refine Kn.takeS 0 ⟨some 49, _, _, _, _, _⟩ ?_
      refine Kn.takeS 1 ⟨some 50, _, _, _, _, _⟩ ?_
      refine Kn.takeS 2 ⟨some 51, _, _, _, _, _⟩ ?_
      refine Kn.takeS 3 ⟨some 52, _, _, _, _, _⟩ ?_
      refine Kn.takeS 5 ⟨some 54, _, _, _, _, _⟩ ?_
      refine wpAnyH_ready (rs := [4, 6]) (by kernel_rfl) (by simp) ?_
      refine AllReadyH.cons (o := ⟨some 53, _, _, _, _, _⟩) rfl (fun K hK => ?_) ?_
      ·have q0 := (HY.out.boxi 0 rfl).cellv 9
       go_simp
       clear q0
       refine hK.out _ _ trivial (fun hSn => ?_)
       clear hK K hSw0
       have hSw0 := hSn
       clear hSn
       refine Kn.takeR 6 ⟨some 55, _, _, _, _, _⟩ fun K hK => ?_
       go_simp
       refine (clone_any Ab 64 cb b _ (HY.out.fact (f := (fun W => Bys W Ab 64 cb b)) (List.mem_cons_of_mem _ HBY.out)) (by omega)).mono ?_
       rintro en v1 ⟨A7, c7, rfl, hcc, hcm, hp, hO⟩
       have HYc := Lib.hid (HY.out.addFc hO (MadeBys.fc hcc hcm hp))
       rw [HBL.out (by trivial)] at HYc ⊢
       clear hcc hcm hp hO HY
       refine hK.out _ _ trivial (fun hSn => ?_)
       clear hK K hSw0
       have hSw0 := hSn
       clear hSn
       refine Kn.takeR 7 ⟨some 56, _, _, _, _, _⟩ fun K hK => ?_
       go_simp
       have HYcb := Lib.hid (HYc.out.alloc (.cells #[.slice A7 64 c7] 47))
       have hnr : Row1 (v1.alloc (.cells #[.slice A7 64 c7] 47)) (some ⟨v1.heap.size, 0, none⟩) 1 1 ([(A7, 64, c7)].map slv) := Row1.of_Own (Own.new v1 #[.slice A7 64 c7] 47) rfl (Nat.le_refl _) (by simp [maxLen])
       have HNR := Lib.hid hnr
       clear hnr
       generalize hvz : v1.heap.size = vz at *
       generalize hvb : v1.alloc (.cells #[.slice A7 64 c7] 47) = vb at *
       clear hvb hvz HYc
       refine hK.out _ _ trivial (fun hSn => ?_)
       clear hK K hSw0
       have hSw0 := hSn
       clear hSn
       refine Kn.takeR 8 ⟨some 57, _, _, _, _, _⟩ fun K hK => ?_
       have hbw := HYcb.out.only.size
       refine step_append_row1 rfl (.tmp 53) (.tmp 56) 54 rfl w0.heap.size 47 i1 _ 24 Tryz.underlying54 hi1 hy0 hy1 hy2 rfl (.slice B1 m1 k1) m1 (sl1.map slv) rfl (HYcb.out.gi 1 rfl) (some ⟨vz, 0, none⟩) 1 1 ([(A7, 64, c7)].map slv) rfl HNR.out (slv_one _) (by unfold maxLen; omega) (by omega) hbw ?_
       intro v' vd hown hgrow hat
       rw [← List.map_append] at hown
       have hdd := HYcb.out.gapp 1 rfl hown hgrow hat
       obtain ⟨A8, c8, rfl⟩ := hdd.gform 1 rfl
       simp only [List.set_cons_zero, List.set_cons_succ] at hdd
       have HYcbd := Lib.hid hdd
       clear hdd hown hgrow hat hbw HYcb HNR
       refine hK.out _ _ trivial (fun hSn => ?_)
       clear hK K hSw0
       have hSw0 := hSn
       clear hSn
       refine Kn.takeS 9 ⟨some 58, _, _, _, _, _⟩ ?_
       refine Kn.takeS 10 ⟨some 59, _, _, _, _, _⟩ ?_
       refine Kn.takeR 11 ⟨none, _, _, _, _, _⟩ fun K hK => ?_
       have b1 := HYcbd.out.boxi 0 rfl
       have y9 := b1.cellv 9
       have z9 := b1.frozen 9
       have l9 := b1.lt
       clear b1
       go_simp
       have HYcbds := Lib.hid (HYcbd.out.put 0 rfl 9 (.slice A8 (m1 + 1) c8))
       clear y9 z9 l9 HYcbd
       refine hK.out _ _ trivial (fun hSn => ?_)
       clear hK K hSw0
       have hSw0 := hSn
       clear hSn
       refine wpAnyH_done (by kernel_rfl) ?_ _
       clear hSw0
       go_wp2
       go_meet
       case rel => exact ⟨A8, c8, sl1 ++ [(A7, 64, c7)], HYcbds.out.impF (fun g hg V hV => (List.mem_cons.1 hg).elim (fun e => by rw [e]; exact (hV (fun W => Bls W sl1 bl1) (by simp)).snoc (hV (fun W => Bys W A7 64 c7 b) (by simp))) (fun hg => hV g (List.mem_cons_of_mem _ (List.mem_cons_of_mem _ hg))))⟩
      refine AllReadyH.cons (o := ⟨some 55, _, _, _, _, _⟩) rfl (fun K hK => ?_) ?_
      ·go_simp
       refine (clone_any Ab 64 cb b _ (HY.out.fact (f := (fun W => Bys W Ab 64 cb b)) (List.mem_cons_of_mem _ HBY.out)) (by omega)).mono ?_
       rintro en v1 ⟨A7, c7, rfl, hcc, hcm, hp, hO⟩
       have HYc := Lib.hid (HY.out.addFc hO (MadeBys.fc hcc hcm hp))
       rw [HBL.out (by trivial)] at HYc ⊢
       clear hcc hcm hp hO HY
       refine hK.out _ _ trivial (fun hSn => ?_)
       clear hK K hSw0
       have hSw0 := hSn
       clear hSn
       refine wpAnyH_ready (rs := [4, 7]) (by kernel_rfl) (by simp) ?_
       refine AllReadyH.cons (o := ⟨some 53, _, _, _, _, _⟩) rfl (fun K hK => ?_) ?_
       ·have q0 := (HYc.out.boxi 0 rfl).cellv 9
        go_simp
        clear q0
        refine hK.out _ _ trivial (fun hSn => ?_)
        clear hK K hSw0
        have hSw0 := hSn
        clear hSn
        refine Kn.takeR 7 ⟨some 56, _, _, _, _, _⟩ fun K hK => ?_
        go_simp
        have HYcb := Lib.hid (HYc.out.alloc (.cells #[.slice A7 64 c7] 47))
        have hnr : Row1 (v1.alloc (.cells #[.slice A7 64 c7] 47)) (some ⟨v1.heap.size, 0, none⟩) 1 1 ([(A7, 64, c7)].map slv) := Row1.of_Own (Own.new v1 #[.slice A7 64 c7] 47) rfl (Nat.le_refl _) (by simp [maxLen])
        have HNR := Lib.hid hnr
        clear hnr
        generalize hvz : v1.heap.size = vz at *
        generalize hvb : v1.alloc (.cells #[.slice A7 64 c7] 47) = vb at *
        clear hvb hvz HYc
        refine hK.out _ _ trivial (fun hSn => ?_)
        clear hK K hSw0
        have hSw0 := hSn
        clear hSn
        refine Kn.takeR 8 ⟨some 57, _, _, _, _, _⟩ fun K hK => ?_
        have hbw := HYcb.out.only.size
        refine step_append_row1 rfl (.tmp 53) (.tmp 56) 54 rfl w0.heap.size 47 i1 _ 24 Tryz.underlying54 hi1 hy0 hy1 hy2 rfl (.slice B1 m1 k1) m1 (sl1.map slv) rfl (HYcb.out.gi 1 rfl) (some ⟨vz, 0, none⟩) 1 1 ([(A7, 64, c7)].map slv) rfl HNR.out (slv_one _) (by unfold maxLen; omega) (by omega) hbw ?_
        intro v' vd hown hgrow hat
        rw [← List.map_append] at hown
        have hdd := HYcb.out.gapp 1 rfl hown hgrow hat
        obtain ⟨A8, c8, rfl⟩ := hdd.gform 1 rfl
        simp only [List.set_cons_zero, List.set_cons_succ] at hdd
        have HYcbd := Lib.hid hdd
        clear hdd hown hgrow hat hbw HYcb HNR
        refine hK.out _ _ trivial (fun hSn => ?_)
        clear hK K hSw0
        have hSw0 := hSn
        clear hSn
        refine Kn.takeS 9 ⟨some 58, _, _, _, _, _⟩ ?_
        refine Kn.takeS 10 ⟨some 59, _, _, _, _, _⟩ ?_
        refine Kn.takeR 11 ⟨none, _, _, _, _, _⟩ fun K hK => ?_
        have b1 := HYcbd.out.boxi 0 rfl
        have y9 := b1.cellv 9
        have z9 := b1.frozen 9
        have l9 := b1.lt
        clear b1
        go_simp
        have HYcbds := Lib.hid (HYcbd.out.put 0 rfl 9 (.slice A8 (m1 + 1) c8))
        clear y9 z9 l9 HYcbd
        refine hK.out _ _ trivial (fun hSn => ?_)
        clear hK K hSw0
        have hSw0 := hSn
        clear hSn
        refine wpAnyH_done (by kernel_rfl) ?_ _
        clear hSw0
        go_wp2
        go_meet
        case rel => exact ⟨A8, c8, sl1 ++ [(A7, 64, c7)], HYcbds.out.impF (fun g hg V hV => (List.mem_cons.1 hg).elim (fun e => by rw [e]; exact (hV (fun W => Bls W sl1 bl1) (by simp)).snoc (hV (fun W => Bys W A7 64 c7 b) (by simp))) (fun hg => hV g (List.mem_cons_of_mem _ (List.mem_cons_of_mem _ hg))))⟩
       refine AllReadyH.cons (o := ⟨some 56, _, _, _, _, _⟩) rfl (fun K hK => ?_) ?_
       ·go_simp
        have HYcb := Lib.hid (HYc.out.alloc (.cells #[.slice A7 64 c7] 47))
        have hnr : Row1 (v1.alloc (.cells #[.slice A7 64 c7] 47)) (some ⟨v1.heap.size, 0, none⟩) 1 1 ([(A7, 64, c7)].map slv) := Row1.of_Own (Own.new v1 #[.slice A7 64 c7] 47) rfl (Nat.le_refl _) (by simp [maxLen])
        have HNR := Lib.hid hnr
        clear hnr
        generalize hvz : v1.heap.size = vz at *
        generalize hvb : v1.alloc (.cells #[.slice A7 64 c7] 47) = vb at *
        clear hvb hvz HYc
        refine hK.out _ _ trivial (fun hSn => ?_)
        clear hK K hSw0
        have hSw0 := hSn
        clear hSn
        refine Kn.takeR 4 ⟨some 53, _, _, _, _, _⟩ fun K hK => ?_
        have q0 := (HYcb.out.boxi 0 rfl).cellv 9
        go_simp
        clear q0
        refine hK.out _ _ trivial (fun hSn => ?_)
        clear hK K hSw0
        have hSw0 := hSn
        clear hSn
        refine Kn.takeR 8 ⟨some 57, _, _, _, _, _⟩ fun K hK => ?_
        have hbw := HYcb.out.only.size
        refine step_append_row1 rfl (.tmp 53) (.tmp 56) 54 rfl w0.heap.size 47 i1 _ 24 Tryz.underlying54 hi1 hy0 hy1 hy2 rfl (.slice B1 m1 k1) m1 (sl1.map slv) rfl (HYcb.out.gi 1 rfl) (some ⟨vz, 0, none⟩) 1 1 ([(A7, 64, c7)].map slv) rfl HNR.out (slv_one _) (by unfold maxLen; omega) (by omega) hbw ?_
        intro v' vd hown hgrow hat
        rw [← List.map_append] at hown
        have hdd := HYcb.out.gapp 1 rfl hown hgrow hat
        obtain ⟨A8, c8, rfl⟩ := hdd.gform 1 rfl
        simp only [List.set_cons_zero, List.set_cons_succ] at hdd
        have HYcbd := Lib.hid hdd
        clear hdd hown hgrow hat hbw HYcb HNR
        refine hK.out _ _ trivial (fun hSn => ?_)
        clear hK K hSw0
        have hSw0 := hSn
        clear hSn
        refine Kn.takeS 9 ⟨some 58, _, _, _, _, _⟩ ?_
        refine Kn.takeS 10 ⟨some 59, _, _, _, _, _⟩ ?_
        refine Kn.takeR 11 ⟨none, _, _, _, _, _⟩ fun K hK => ?_
        have b1 := HYcbd.out.boxi 0 rfl
        have y9 := b1.cellv 9
        have z9 := b1.frozen 9
        have l9 := b1.lt
        clear b1
        go_simp
        have HYcbds := Lib.hid (HYcbd.out.put 0 rfl 9 (.slice A8 (m1 + 1) c8))
        clear y9 z9 l9 HYcbd
        refine hK.out _ _ trivial (fun hSn => ?_)
        clear hK K hSw0
        have hSw0 := hSn
        clear hSn
        refine wpAnyH_done (by kernel_rfl) ?_ _
        clear hSw0
        go_wp2
        go_meet
        case rel => exact ⟨A8, c8, sl1 ++ [(A7, 64, c7)], HYcbds.out.impF (fun g hg V hV => (List.mem_cons.1 hg).elim (fun e => by rw [e]; exact (hV (fun W => Bls W sl1 bl1) (by simp)).snoc (hV (fun W => Bys W A7 64 c7 b) (by simp))) (fun hg => hV g (List.mem_cons_of_mem _ (List.mem_cons_of_mem _ hg))))⟩
       exact AllReadyH.nil
      exact AllReadyH.nil
     case rest =>
      obtain ⟨A8, c8, sl2, hd⟩ := hcut
      have HX : Hid (Duo w0 wc p r d1 e ⟨(W, WB p.D gb q.T p1 (.slice A1 n1 c1) (.slice A8 (m1 + 1) c8)) :: q.L t1 ((f5, [.int .i64 ik, .int .i64 ib, .int .i64 ic, .int .i64 iv]) :: L), ⟨63, 4, .slice A1 n1 c1, n1, itsV its1⟩ :: ⟨47, 1, .slice A8 (m1 + 1) c8, (m1 + 1), (sl2).map slv⟩ :: G, (fun W => Bls W (sl2) (bl1 ++ [b])) :: F⟩) := Lib.hid hd
      clear hd HR
      obtain ⟨x, hx⟩ : ∃ x, cf.at_ p1.s + behind p1.o 0 + (m1 : Int) = x := ⟨_, rfl⟩
      have hat := at_range HC.out p1.s
      have hbh : 0 ≤ behind p1.o 0 ∧ behind p1.o 0 ≤ 100000 := by unfold behind; omega
      have hx1 : IntKind.i64.wrap (cf.at_ p1.s + behind p1.o 0 + ((m1 : Int) + 1)) = x + 1 := by rw [show cf.at_ p1.s + behind p1.o 0 + ((m1 : Int) + 1) = x + 1 from by omega]; exact IntWalk.i64_in _ (by omega)
      have hx2 : IntKind.i64.wrap x = x := IntWalk.i64_in _ (by omega)
      have had := HAD3.out
      (try dsimp only at had)
      rw [show Wr.first cf ⟨d1, t1, p1, its1, bl1⟩ + (bl1.length : Int) = x from by rw [← hx, ← HM1.out]; rfl] at had
      have HAD2 := Lib.hid had
      have HBL2 : Hid ((bl1 ++ [b]).length = m1 + 1) := Lib.hid (by rw [List.length_append, HM1.out]; rfl)
      clear had HAD3 hx hat hbh
      go_wp2_with fail
      have HY := Lib.hid HX.out.drew
      clear HX
      refine wp_region_held_drew (S := (fun w' => Kn.Own w' W (WB p.D gb q.T p1 (.slice A1 n1 c1) (.slice A8 (m1 + 1) c8)))) (by kernel_rfl) (HY.out.boxi 0 rfl) (fun hSw0 => ?_)
      generalize wc.drew = wz at *
      refine Kn.takeS 0 ⟨some 60, _, _, _, _, _⟩ ?_
      refine Kn.takeS 2 ⟨some 62, _, _, _, _, _⟩ ?_
      refine Kn.takeS 3 ⟨some 63, _, _, _, _, _⟩ ?_
      refine Kn.takeS 4 ⟨some 64, _, _, _, _, _⟩ ?_
      refine Kn.takeS 5 ⟨some 65, _, _, _, _, _⟩ (v := (.slice A8 (m1 + 1) c8)) (hy := fun w hSw => by
       have q0 := hSw.cellv 9
       go_simp) ?_
      refine Kn.takeS 6 ⟨some 66, _, _, _, _, _⟩ ?_
      refine Kn.takeR 1 ⟨some 61, _, _, _, _, _⟩ fun K hK => ?_
      go_simp
      refine (wr_first_any _ W p.D gb q.T p1 _ _ cf (HY.out.boxi 0 rfl) (HY.out.fact (f := (fun W => GeoAt W gb cf.b cf.s cf.l)) (List.mem_cons_of_mem _ HG.out)) HC.out (by omega) (at_range HC.out _)).mono ?_
      rintro en v2 ⟨rfl, hO⟩
      have HYc := Lib.hid (HY.out.keep0 hO)
      clear hO HY
      refine hK.out _ _ (HYc.out.boxi 0 rfl) (fun hSn => ?_)
      clear hK K hSw0
      have hSw0 := hSn
      clear hSn
      refine Kn.takeS 7 ⟨some 67, _, _, _, _, _⟩ ?_
      refine Kn.takeS 8 ⟨some 68, _, _, _, _, _⟩ ?_
      refine Kn.takeS 9 ⟨some 8, _, _, _, _, _⟩ ?_
      refine wpAnyH_done (by kernel_rfl) ?_ _
      clear hSw0
      go_wp2_with fail
      have HV := Lib.hid HYc.out.drew
      clear HYc
      refine wp_region_held_drew (S := (fun w' => Kn.Own w' f5 [.int .i64 ik, .int .i64 ib, .int .i64 ic, .int .i64 iv])) (by kernel_rfl) (HV.out.boxi 4 rfl) (fun hSw0 => ?_)
      generalize v2.drew = wq at *
      refine Kn.takeS 0 ⟨some 69, _, _, _, _, _⟩ ?_
      refine Kn.takeS 1 ⟨some 70, _, _, _, _, _⟩ ?_
      refine Kn.takeS 2 ⟨some 71, _, _, _, _, _⟩ ?_
      refine Kn.takeS 3 ⟨some 72, _, _, _, _, _⟩ ?_
      refine Kn.takeS 5 ⟨some 74, _, _, _, _, _⟩ (v := (.agg #[.int .i64 ik, .int .i64 ib, .int .i64 ic, .int .i64 iv])) (hy := fun w hSw => by
       obtain ⟨q0, q1, q2, q3⟩ := own4 hSw
       go_simp) ?_
      refine wpAnyH_ready (rs := [4, 6]) (by kernel_rfl) (by simp) ?_
      refine AllReadyH.cons (o := ⟨some 73, _, _, _, _, _⟩) rfl (fun K hK => ?_) ?_
      ·have q0 := (HV.out.boxi 0 rfl).cellv 8
       go_simp
       clear q0
       refine hK.out _ _ (HV.out.boxi 4 rfl) (fun hSn => ?_)
       clear hK K hSw0
       have hSw0 := hSn
       clear hSn
       refine Kn.takeR 6 ⟨some 75, _, _, _, _, _⟩ fun K hK => ?_
       go_simp
       have HVb := Lib.hid (HV.out.alloc (.cells #[.int .i64 ik, .int .i64 ib, .int .i64 ic, .int .i64 iv] 63))
       have hnw := news_new wq #[.int .i64 ik, .int .i64 ib, .int .i64 ic, .int .i64 iv] 63 (by simp [maxLen])
       have HNW := Lib.hid hnw
       clear hnw
       generalize hvz : wq.heap.size = vz at *
       generalize hvb : wq.alloc (.cells #[.int .i64 ik, .int .i64 ib, .int .i64 ic, .int .i64 iv] 63) = vb at *
       clear hvb hvz HV
       refine hK.out _ _ (HVb.out.boxi 4 rfl) (fun hSn => ?_)
       clear hK K hSw0
       have hSw0 := hSn
       clear hSn
       refine Kn.takeR 7 ⟨some 76, _, _, _, _, _⟩ fun K hK => ?_
       have hbw := HVb.out.only.size
       refine step_append_own rfl (.tmp 73) (.tmp 75) 53 rfl w0.heap.size 63 i0 _ 4 32 Tryz.underlying53 hi0 hz0 hz1 hz2 rfl (by decide) (.slice A1 n1 c1) n1 (itsV its1) rfl (HVb.out.gi 0 rfl) ⟨vz, 0, none⟩ 1 1 (itsV [⟨ik, ib, ic, iv⟩]) rfl rfl HNW.out (by intro u hu; simp [itsV, It.vals] at hu; rcases hu with rfl | rfl | rfl | rfl <;> rfl) (by unfold maxLen; omega) (by omega) hbw ?_
       intro v' vd hown hgrow hat
       rw [show itsV its1 ++ itsV [⟨ik, ib, ic, iv⟩] = itsV (its1 ++ [⟨ik, ib, ic, iv⟩]) from by simp [itsV]] at hown
       have hdd := HVb.out.gapp 0 rfl hown hgrow hat
       obtain ⟨A9, c9, rfl⟩ := hdd.gform 0 rfl
       simp only [List.set_cons_zero, List.set_cons_succ] at hdd
       have HVbd := Lib.hid hdd
       clear hdd hown hgrow hat hbw HVb HNW
       refine hK.out _ _ (HVbd.out.boxi 4 rfl) (fun hSn => ?_)
       clear hK K hSw0
       have hSw0 := hSn
       clear hSn
       refine Kn.takeS 8 ⟨some 77, _, _, _, _, _⟩ ?_
       refine Kn.takeS 9 ⟨some 78, _, _, _, _, _⟩ ?_
       refine Kn.takeR 10 ⟨none, _, _, _, _, _⟩ fun K hK => ?_
       have b1 := HVbd.out.boxi 0 rfl
       have y8 := b1.cellv 8
       have z8 := b1.frozen 8
       have l8 := b1.lt
       clear b1
       go_simp
       have HVbds := Lib.hid (HVbd.out.put 0 rfl 8 (.slice A9 (n1 + 1) c9))
       clear y8 z8 l8 HVbd
       refine hK.out _ _ (HVbds.out.boxi 4 rfl) (fun hSn => ?_)
       clear hK K hSw0
       have hSw0 := hSn
       clear hSn
       refine wpAnyH_done (by kernel_rfl) ?_ _
       clear hSw0
       go_wp2
       go_ret2
       rw [HAD2.out]
       exact ⟨rfl, A9, c9, A8, c8, sl2, by
        have hx := HVbds.out
        have e1 : (its1 ++ [(⟨ik, ib, ic, iv⟩ : It)]).length = n1 + 1 := by rw [List.length_append, HN1.out]; rfl
        have e2 : (bl1 ++ [b]).length = (m1 + 1) := HBL2.out
        dsimp only
        rw [e1, e2]
        exact drop5 hx⟩
      refine AllReadyH.cons (o := ⟨some 75, _, _, _, _, _⟩) rfl (fun K hK => ?_) ?_
      ·go_simp
       have HVb := Lib.hid (HV.out.alloc (.cells #[.int .i64 ik, .int .i64 ib, .int .i64 ic, .int .i64 iv] 63))
       have hnw := news_new wq #[.int .i64 ik, .int .i64 ib, .int .i64 ic, .int .i64 iv] 63 (by simp [maxLen])
       have HNW := Lib.hid hnw
       clear hnw
       generalize hvz : wq.heap.size = vz at *
       generalize hvb : wq.alloc (.cells #[.int .i64 ik, .int .i64 ib, .int .i64 ic, .int .i64 iv] 63) = vb at *
       clear hvb hvz HV
       refine hK.out _ _ (HVb.out.boxi 4 rfl) (fun hSn => ?_)
       clear hK K hSw0
       have hSw0 := hSn
       clear hSn
       refine Kn.takeR 4 ⟨some 73, _, _, _, _, _⟩ fun K hK => ?_
       have q0 := (HVb.out.boxi 0 rfl).cellv 8
       go_simp
       clear q0
       refine hK.out _ _ (HVb.out.boxi 4 rfl) (fun hSn => ?_)
       clear hK K hSw0
       have hSw0 := hSn
       clear hSn
       refine Kn.takeR 7 ⟨some 76, _, _, _, _, _⟩ fun K hK => ?_
       have hbw := HVb.out.only.size
       refine step_append_own rfl (.tmp 73) (.tmp 75) 53 rfl w0.heap.size 63 i0 _ 4 32 Tryz.underlying53 hi0 hz0 hz1 hz2 rfl (by decide) (.slice A1 n1 c1) n1 (itsV its1) rfl (HVb.out.gi 0 rfl) ⟨vz, 0, none⟩ 1 1 (itsV [⟨ik, ib, ic, iv⟩]) rfl rfl HNW.out (by intro u hu; simp [itsV, It.vals] at hu; rcases hu with rfl | rfl | rfl | rfl <;> rfl) (by unfold maxLen; omega) (by omega) hbw ?_
       intro v' vd hown hgrow hat
       rw [show itsV its1 ++ itsV [⟨ik, ib, ic, iv⟩] = itsV (its1 ++ [⟨ik, ib, ic, iv⟩]) from by simp [itsV]] at hown
       have hdd := HVb.out.gapp 0 rfl hown hgrow hat
       obtain ⟨A9, c9, rfl⟩ := hdd.gform 0 rfl
       simp only [List.set_cons_zero, List.set_cons_succ] at hdd
       have HVbd := Lib.hid hdd
       clear hdd hown hgrow hat hbw HVb HNW
       refine hK.out _ _ (HVbd.out.boxi 4 rfl) (fun hSn => ?_)
       clear hK K hSw0
       have hSw0 := hSn
       clear hSn
       refine Kn.takeS 8 ⟨some 77, _, _, _, _, _⟩ ?_
       refine Kn.takeS 9 ⟨some 78, _, _, _, _, _⟩ ?_
       refine Kn.takeR 10 ⟨none, _, _, _, _, _⟩ fun K hK => ?_
       have b1 := HVbd.out.boxi 0 rfl
       have y8 := b1.cellv 8
       have z8 := b1.frozen 8
       have l8 := b1.lt
       clear b1
       go_simp
       have HVbds := Lib.hid (HVbd.out.put 0 rfl 8 (.slice A9 (n1 + 1) c9))
       clear y8 z8 l8 HVbd
       refine hK.out _ _ (HVbds.out.boxi 4 rfl) (fun hSn => ?_)
       clear hK K hSw0
       have hSw0 := hSn
       clear hSn
       refine wpAnyH_done (by kernel_rfl) ?_ _
       clear hSw0
       go_wp2
       go_ret2
       rw [HAD2.out]
       exact ⟨rfl, A9, c9, A8, c8, sl2, by
        have hx := HVbds.out
        have e1 : (its1 ++ [(⟨ik, ib, ic, iv⟩ : It)]).length = n1 + 1 := by rw [List.length_append, HN1.out]; rfl
        have e2 : (bl1 ++ [b]).length = (m1 + 1) := HBL2.out
        dsimp only
        rw [e1, e2]
        exact drop5 hx⟩
      exact AllReadyH.nil
    ·have heb : (e1 != 0) = true := by rw [bne_iff_ne]; exact he
     have had := HAD2.out
     rw [if_pos he] at had
     have HAD3 := Lib.hid had
     clear had HAD2
     go_wp2
     go_ret2
     rw [HAD3.out]
     exact ⟨rfl, A1, c1, B1, k1, sl1, by dsimp only; rw [HN1.out, HM1.out]; exact drop5 HR.out⟩
  ·have had : Wr.add cf ⟨d, t, ps, its, bl⟩ ⟨ik, ib, ic, iv⟩ b spare = (⟨d, t, ps, its, bl⟩, 0, 1) := by
    unfold Wr.add
    rw [if_pos]
    rw [HLD.out, HNB.out]
    simp only [Bool.and_eq_false_iff, decide_eq_false_iff_not]
    by_cases hm : It.may ⟨ik, ib, ic, iv⟩ = true
    ·by_cases h7 : ik = 7
     ·exact .inl (.inr (fun h => h h7))
     ·exact .inr (fun h => hok ⟨⟨hm, h7⟩, by simpa using h⟩)
    ·exact .inl (.inl (by simpa using hm))
   have HAD2 := Lib.hid had
   clear had
   by_cases hm : It.may ⟨ik, ib, ic, iv⟩ = true
   ·rw [hm]
    by_cases h7 : ik = 7
    ·subst h7
     clear hok
     go_wp2
     go_ret2
     rw [HAD2.out]
     exact ⟨rfl, HFIN.out _ HD3.out⟩
    ·have hnn : ¬ n = 64 := fun h => hok ⟨⟨hm, h7⟩, h⟩
     have hn1 : ((n : Int) != 64) = true := by simp; omega
     have h71 : (ik == 7) = false := by simpa using h7
     clear hok h7 hnn
     go_wp2
     go_ret2
     rw [HAD2.out]
     exact ⟨rfl, HFIN.out _ HD3.out⟩
   ·rw [Bool.not_eq_true] at hm
    rw [hm]
    clear hok
    go_wp2
    go_ret2
    rw [HAD2.out]
    exact ⟨rfl, HFIN.out _ HD3.out⟩
 | false =>
  have hld2 : It.loaded ⟨ik, ib, ic, iv⟩ = false := hld
  have HLD := Lib.hid hld2
  clear hld hld2
  go_enter Tryz.func42, Tryz.ntmps42
  go_wp2_with fail
  generalize hz : w.alloc (.cells #[.int .i64 ik, .int .i64 ib, .int .i64 ic, .int .i64 iv] 63) = w1 at *
  generalize w.heap.size = f5 at *
  clear hz
  have g5 := own4 (HD.out.boxi 4 rfl)
  obtain ⟨y0, y1, y2, y3⟩ := g5
  refine (item_loaded_any ik ib ic iv _).mono ?_
  rintro en w2 ⟨rfl, hO⟩
  rw [HLD.out]
  have HD2 := Lib.hid (HD.out.keep0 hO)
  obtain ⟨y0, y1, y2, y3⟩ := own4 (HD2.out.boxi 4 rfl)
  clear hO HD
  go_wp2_with fail
  refine (item_may_any ik ib ic iv _).mono ?_
  rintro en w3 ⟨rfl, hO⟩
  have HD3 := Lib.hid (HD2.out.keep0 hO)
  obtain ⟨y0, y1, y2, y3⟩ := own4 (HD3.out.boxi 4 rfl)
  clear hO HD2
  by_cases hok : (It.may ⟨ik, ib, ic, iv⟩ = true ∧ ik ≠ 7) ∧ n = 0
  ·obtain ⟨⟨hm, h7⟩, hns⟩ := hok
   have hnok : (It.may ⟨ik, ib, ic, iv⟩ && decide (ik ≠ 7) && decide (b.length = (if It.loaded ⟨ik, ib, ic, iv⟩ = true then 64 else 0))) = true := by rw [HLD.out, hm, decide_eq_true h7, HNB.out, hns]; rfl
   have h71 : (ik == 7) = false := by simpa using h7
   have HNO := Lib.hid hnok
   subst hns
   rw [hm]
   clear hm h7 hnok
   have c0 := (HD3.out.boxi 0 rfl).cellv 0
   go_wp2_with fail
   refine (duo_off HD3.out).mono ?_
   rintro en w4 ⟨rfl, rfl⟩
   by_cases hof : d.off = true
   ·have had : Wr.add cf ⟨d, t, ps, its, bl⟩ ⟨ik, ib, ic, iv⟩ b spare = (⟨d, t, ps, its, bl⟩, 0, 3) := by
     unfold Wr.add
     rw [if_neg (by rw [HNO.out]; decide), if_pos hof]
    have HAD2 := Lib.hid had
    rw [hof]
    clear had hof c0
    go_wp2
    go_ret2
    rw [HAD2.out]
    exact ⟨rfl, HFIN.out _ HD3.out⟩
   ·have hof2 : d.off = false := by simpa using hof
    obtain ⟨z1, e1, hrm⟩ : ∃ z1 e1, Wr.room cf ⟨d, t, ps, its, bl⟩ 0 spare = (z1, e1) := ⟨_, _, rfl⟩
    have had : Wr.add cf ⟨d, t, ps, its, bl⟩ ⟨ik, ib, ic, iv⟩ b spare = if e1 ≠ 0 then (z1, 0, e1) else ({ z1 with its := z1.its ++ [⟨ik, ib, ic, iv⟩] }, 0, 0) := by
     unfold Wr.add
     rw [if_neg (by rw [HNO.out]; decide), if_neg hof, HLD.out]
     rw [show (if false = true then 1 else 0 : Nat) = 0 from rfl, hrm]
     dsimp only
     split
     ·rfl
     ·rw [if_neg (by decide)]
    obtain ⟨rs1, rs2, rs3, rs4⟩ := room_s cf ⟨d, t, ps, its, bl⟩ 0 spare ho.1
    rw [hrm] at rs1 rs2 rs3 rs4
    dsimp only at rs1 rs2 rs3 rs4
    have HAD2 := Lib.hid had
    have HRM := Lib.hid hrm
    rw [hof2]
    clear had hof hof2 hrm c0
    go_wp2_with fail
    refine (wr_room_any w0 _ p r e W gb q ⟨d, t, ps, its, bl⟩ 0 spare cf ((f5, [.int .i64 ik, .int .i64 ib, .int .i64 ic, .int .i64 iv]) :: L) G F (HWI.out _ HD3.out) HG.out HC.out HT.out hqn hs ho hl hh hi hb (by decide)).mono ?_
    rw [HRM.out]
    rintro en w7 ⟨rfl, hd⟩
    obtain ⟨d1, t1, p1, its1, bl1⟩ := z1
    obtain ⟨A1, c1, B1, k1, sl1, hd⟩ := hd
    dsimp only at hd rs1 rs2 rs3 rs4
    obtain ⟨n1, hn1⟩ : ∃ n, its1.length = n := ⟨_, rfl⟩
    obtain ⟨m1, hm1⟩ : ∃ m, bl1.length = m := ⟨_, rfl⟩
    rw [hn1, hm1] at hd
    rw [hn1] at rs1
    rw [hm1] at rs2
    have hm1b : m1 ≤ 20 := by omega
    have hn1b : n1 ≤ 20 := by omega
    have HR : Hid (Duo w0 w7 p r d1 e ⟨(W, WB p.D gb q.T p1 (.slice A1 n1 c1) (.slice B1 m1 k1)) :: q.L t1 ((f5, [.int .i64 ik, .int .i64 ib, .int .i64 ic, .int .i64 iv]) :: L), ⟨63, 4, .slice A1 n1 c1, n1, itsV its1⟩ :: ⟨47, 1, .slice B1 m1 k1, m1, (sl1).map slv⟩ :: G, (fun W => Bls W (sl1) (bl1)) :: F⟩) := Lib.hid hd
    have HN1 := Lib.hid hn1
    have HM1 := Lib.hid hm1
    clear hd HD3 hn1 hm1
    by_cases he : e1 = 0
    ·subst he
     have had := HAD2.out
     rw [if_neg (by decide)] at had
     (try dsimp only at had)
     have HAD3 := Lib.hid had
     clear had HAD2
     have HAD2 := HAD3
     clear HAD3
     go_wp2_with fail
     have HV := Lib.hid HR.out.drew
     clear HR
     refine wp_region_held_drew (S := (fun w' => Kn.Own w' f5 [.int .i64 ik, .int .i64 ib, .int .i64 ic, .int .i64 iv])) (by kernel_rfl) (HV.out.boxi 4 rfl) (fun hSw0 => ?_)
     generalize w7.drew = wq at *
     refine Kn.takeS 0 ⟨some 69, _, _, _, _, _⟩ ?_
     refine Kn.takeS 1 ⟨some 70, _, _, _, _, _⟩ ?_
     refine Kn.takeS 2 ⟨some 71, _, _, _, _, _⟩ ?_
     refine Kn.takeS 3 ⟨some 72, _, _, _, _, _⟩ ?_
     refine Kn.takeS 5 ⟨some 74, _, _, _, _, _⟩ (v := (.agg #[.int .i64 ik, .int .i64 ib, .int .i64 ic, .int .i64 iv])) (hy := fun w hSw => by
      obtain ⟨q0, q1, q2, q3⟩ := own4 hSw
      go_simp) ?_
     refine wpAnyH_ready (rs := [4, 6]) (by kernel_rfl) (by simp) ?_
     refine AllReadyH.cons (o := ⟨some 73, _, _, _, _, _⟩) rfl (fun K hK => ?_) ?_
     ·have q0 := (HV.out.boxi 0 rfl).cellv 8
      go_simp
      clear q0
      refine hK.out _ _ (HV.out.boxi 4 rfl) (fun hSn => ?_)
      clear hK K hSw0
      have hSw0 := hSn
      clear hSn
      refine Kn.takeR 6 ⟨some 75, _, _, _, _, _⟩ fun K hK => ?_
      go_simp
      have HVb := Lib.hid (HV.out.alloc (.cells #[.int .i64 ik, .int .i64 ib, .int .i64 ic, .int .i64 iv] 63))
      have hnw := news_new wq #[.int .i64 ik, .int .i64 ib, .int .i64 ic, .int .i64 iv] 63 (by simp [maxLen])
      have HNW := Lib.hid hnw
      clear hnw
      generalize hvz : wq.heap.size = vz at *
      generalize hvb : wq.alloc (.cells #[.int .i64 ik, .int .i64 ib, .int .i64 ic, .int .i64 iv] 63) = vb at *
      clear hvb hvz HV
      refine hK.out _ _ (HVb.out.boxi 4 rfl) (fun hSn => ?_)
      clear hK K hSw0
      have hSw0 := hSn
      clear hSn
      refine Kn.takeR 7 ⟨some 76, _, _, _, _, _⟩ fun K hK => ?_
      have hbw := HVb.out.only.size
      refine step_append_own rfl (.tmp 73) (.tmp 75) 53 rfl w0.heap.size 63 i0 _ 4 32 Tryz.underlying53 hi0 hz0 hz1 hz2 rfl (by decide) (.slice A1 n1 c1) n1 (itsV its1) rfl (HVb.out.gi 0 rfl) ⟨vz, 0, none⟩ 1 1 (itsV [⟨ik, ib, ic, iv⟩]) rfl rfl HNW.out (by intro u hu; simp [itsV, It.vals] at hu; rcases hu with rfl | rfl | rfl | rfl <;> rfl) (by unfold maxLen; omega) (by omega) hbw ?_
      intro v' vd hown hgrow hat
      rw [show itsV its1 ++ itsV [⟨ik, ib, ic, iv⟩] = itsV (its1 ++ [⟨ik, ib, ic, iv⟩]) from by simp [itsV]] at hown
      have hdd := HVb.out.gapp 0 rfl hown hgrow hat
      obtain ⟨A9, c9, rfl⟩ := hdd.gform 0 rfl
      simp only [List.set_cons_zero, List.set_cons_succ] at hdd
      have HVbd := Lib.hid hdd
      clear hdd hown hgrow hat hbw HVb HNW
      refine hK.out _ _ (HVbd.out.boxi 4 rfl) (fun hSn => ?_)
      clear hK K hSw0
      have hSw0 := hSn
      clear hSn
      refine Kn.takeS 8 ⟨some 77, _, _, _, _, _⟩ ?_
      refine Kn.takeS 9 ⟨some 78, _, _, _, _, _⟩ ?_
      refine Kn.takeR 10 ⟨none, _, _, _, _, _⟩ fun K hK => ?_
      have b1 := HVbd.out.boxi 0 rfl
      have y8 := b1.cellv 8
      have z8 := b1.frozen 8
      have l8 := b1.lt
      clear b1
      go_simp
      have HVbds := Lib.hid (HVbd.out.put 0 rfl 8 (.slice A9 (n1 + 1) c9))
      clear y8 z8 l8 HVbd
      refine hK.out _ _ (HVbds.out.boxi 4 rfl) (fun hSn => ?_)
      clear hK K hSw0
      have hSw0 := hSn
      clear hSn
      refine wpAnyH_done (by kernel_rfl) ?_ _
      clear hSw0
      go_wp2
      go_ret2
      rw [HAD2.out]
      exact ⟨rfl, A9, c9, B1, k1, sl1, by
       have hx := HVbds.out
       have e1 : (its1 ++ [(⟨ik, ib, ic, iv⟩ : It)]).length = n1 + 1 := by rw [List.length_append, HN1.out]; rfl
       have e2 : (bl1).length = m1 := HM1.out
       dsimp only
       rw [e1, e2]
       exact drop5 hx⟩
     refine AllReadyH.cons (o := ⟨some 75, _, _, _, _, _⟩) rfl (fun K hK => ?_) ?_
     ·go_simp
      have HVb := Lib.hid (HV.out.alloc (.cells #[.int .i64 ik, .int .i64 ib, .int .i64 ic, .int .i64 iv] 63))
      have hnw := news_new wq #[.int .i64 ik, .int .i64 ib, .int .i64 ic, .int .i64 iv] 63 (by simp [maxLen])
      have HNW := Lib.hid hnw
      clear hnw
      generalize hvz : wq.heap.size = vz at *
      generalize hvb : wq.alloc (.cells #[.int .i64 ik, .int .i64 ib, .int .i64 ic, .int .i64 iv] 63) = vb at *
      clear hvb hvz HV
      refine hK.out _ _ (HVb.out.boxi 4 rfl) (fun hSn => ?_)
      clear hK K hSw0
      have hSw0 := hSn
      clear hSn
      refine Kn.takeR 4 ⟨some 73, _, _, _, _, _⟩ fun K hK => ?_
      have q0 := (HVb.out.boxi 0 rfl).cellv 8
      go_simp
      clear q0
      refine hK.out _ _ (HVb.out.boxi 4 rfl) (fun hSn => ?_)
      clear hK K hSw0
      have hSw0 := hSn
      clear hSn
      refine Kn.takeR 7 ⟨some 76, _, _, _, _, _⟩ fun K hK => ?_
      have hbw := HVb.out.only.size
      refine step_append_own rfl (.tmp 73) (.tmp 75) 53 rfl w0.heap.size 63 i0 _ 4 32 Tryz.underlying53 hi0 hz0 hz1 hz2 rfl (by decide) (.slice A1 n1 c1) n1 (itsV its1) rfl (HVb.out.gi 0 rfl) ⟨vz, 0, none⟩ 1 1 (itsV [⟨ik, ib, ic, iv⟩]) rfl rfl HNW.out (by intro u hu; simp [itsV, It.vals] at hu; rcases hu with rfl | rfl | rfl | rfl <;> rfl) (by unfold maxLen; omega) (by omega) hbw ?_
      intro v' vd hown hgrow hat
      rw [show itsV its1 ++ itsV [⟨ik, ib, ic, iv⟩] = itsV (its1 ++ [⟨ik, ib, ic, iv⟩]) from by simp [itsV]] at hown
      have hdd := HVb.out.gapp 0 rfl hown hgrow hat
      obtain ⟨A9, c9, rfl⟩ := hdd.gform 0 rfl
      simp only [List.set_cons_zero, List.set_cons_succ] at hdd
      have HVbd := Lib.hid hdd
      clear hdd hown hgrow hat hbw HVb HNW
      refine hK.out _ _ (HVbd.out.boxi 4 rfl) (fun hSn => ?_)
      clear hK K hSw0
      have hSw0 := hSn
      clear hSn
      refine Kn.takeS 8 ⟨some 77, _, _, _, _, _⟩ ?_
      refine Kn.takeS 9 ⟨some 78, _, _, _, _, _⟩ ?_
      refine Kn.takeR 10 ⟨none, _, _, _, _, _⟩ fun K hK => ?_
      have b1 := HVbd.out.boxi 0 rfl
      have y8 := b1.cellv 8
      have z8 := b1.frozen 8
      have l8 := b1.lt
      clear b1
      go_simp
      have HVbds := Lib.hid (HVbd.out.put 0 rfl 8 (.slice A9 (n1 + 1) c9))
      clear y8 z8 l8 HVbd
      refine hK.out _ _ (HVbds.out.boxi 4 rfl) (fun hSn => ?_)
      clear hK K hSw0
      have hSw0 := hSn
      clear hSn
      refine wpAnyH_done (by kernel_rfl) ?_ _
      clear hSw0
      go_wp2
      go_ret2
      rw [HAD2.out]
      exact ⟨rfl, A9, c9, B1, k1, sl1, by
       have hx := HVbds.out
       have e1 : (its1 ++ [(⟨ik, ib, ic, iv⟩ : It)]).length = n1 + 1 := by rw [List.length_append, HN1.out]; rfl
       have e2 : (bl1).length = m1 := HM1.out
       dsimp only
       rw [e1, e2]
       exact drop5 hx⟩
     exact AllReadyH.nil
    ·have heb : (e1 != 0) = true := by rw [bne_iff_ne]; exact he
     have had := HAD2.out
     rw [if_pos he] at had
     have HAD3 := Lib.hid had
     clear had HAD2
     go_wp2
     go_ret2
     rw [HAD3.out]
     exact ⟨rfl, A1, c1, B1, k1, sl1, by dsimp only; rw [HN1.out, HM1.out]; exact drop5 HR.out⟩
  ·have had : Wr.add cf ⟨d, t, ps, its, bl⟩ ⟨ik, ib, ic, iv⟩ b spare = (⟨d, t, ps, its, bl⟩, 0, 1) := by
    unfold Wr.add
    rw [if_pos]
    rw [HLD.out, HNB.out]
    simp only [Bool.and_eq_false_iff, decide_eq_false_iff_not]
    by_cases hm : It.may ⟨ik, ib, ic, iv⟩ = true
    ·by_cases h7 : ik = 7
     ·exact .inl (.inr (fun h => h h7))
     ·exact .inr (fun h => hok ⟨⟨hm, h7⟩, by simpa using h⟩)
    ·exact .inl (.inl (by simpa using hm))
   have HAD2 := Lib.hid had
   clear had
   by_cases hm : It.may ⟨ik, ib, ic, iv⟩ = true
   ·rw [hm]
    by_cases h7 : ik = 7
    ·subst h7
     clear hok
     go_wp2
     go_ret2
     rw [HAD2.out]
     exact ⟨rfl, HFIN.out _ HD3.out⟩
    ·have hnn : ¬ n = 0 := fun h => hok ⟨⟨hm, h7⟩, h⟩
     have hn1 : ((n : Int) != 0) = true := by simp; omega
     have h71 : (ik == 7) = false := by simpa using h7
     clear hok h7 hnn
     go_wp2
     go_ret2
     rw [HAD2.out]
     exact ⟨rfl, HFIN.out _ HD3.out⟩
   ·rw [Bool.not_eq_true] at hm
    rw [hm]
    clear hok
    go_wp2
    go_ret2
    rw [HAD2.out]
    exact ⟨rfl, HFIN.out _ HD3.out⟩
end Go.Proofs.YtgcfdjcpcclcjaaGreat
namespace Go.Kn
open Go Go.RowKit
/-- a sector's bytes, or those that wait for it -/
def Wr.rd (c : Cf) (z : Wr) (a : Int) : List UInt8 × Int :=
 if 0 ≤ a - Wr.first c z ∧ a - Wr.first c z < (z.bl.length : Int) then (z.bl.getD (a - Wr.first c z).toNat [], 0) else (z.d.read a, z.d.err a)
end Go.Kn
namespace Go.Proofs.YtgcfdjcpcclcjaaGreat
open Go Go.RowKit Go.Kn
theorem RdSays.later {w0 w : World} {b : List UInt8} {er : Int} {en : Ending} {w' : World} (h : RdSays w b er en w') (hO : Only [] w0 w) : RdSays w0 b er en w' := by
 obtain ⟨A, n, c, he, hf, ho⟩ := h
 exact ⟨A, n, c, he, fun W hW => hf W fun k o hk => hW k o (fun hlt => hk (Nat.lt_of_lt_of_le hlt hO.size)), hO.trans' ho⟩
set_option maxRecDepth 100000 in
set_option maxHeartbeats 4000000 in
theorem wr_read_any (w0 w : World) (p : PD) (r : RD) (e : Dk) (W gb : Nat) (q : TD) (z : Wr) (a : Int) (cf : Cf) (L : List (Nat × List Value)) (G : List Gs) (F : List (World → Prop)) (h : WrIn w0 w p r e W gb q z L G F) (hg : (fun W => GeoAt W gb cf.b cf.s cf.l) ∈ F) (hc : cf.Ok) (ho : 0 ≤ z.p.o ∧ z.p.o ≤ 64) (hb : z.bl.length ≤ 20) (hf : ∀ b ∈ z.bl, b.length = 64) :
  Calls Tryz.prog 46 #[.pointer (some ⟨W, 0, none⟩), .int .i64 a] w (RdSays w (z.rd cf a).1 (z.rd cf a).2) := by
 obtain ⟨d, t, ps, its, bl⟩ := z
 obtain ⟨A, c, B, k, sl, h⟩ := h
 dsimp only at h ho hb hf
 obtain ⟨m, hm⟩ : ∃ m, bl.length = m := ⟨_, rfl⟩
 rw [hm] at h
 obtain ⟨x, hx⟩ : ∃ x, cf.at_ ps.s + behind ps.o 0 = x := ⟨_, rfl⟩
 have hat := at_range hc ps.s
 have hbh : 0 ≤ behind ps.o 0 ∧ behind ps.o 0 ≤ 100 := by unfold behind; omega
 have hxb : -1 ≤ x ∧ x ≤ 100200 := by omega
 have hfx : Wr.first cf ⟨d, t, ps, its, bl⟩ = x := hx
 have hhit : ∀ j : Nat, j < m → a = x + (j : Int) → Wr.rd cf ⟨d, t, ps, its, bl⟩ a = (bl.getD j [], 0) := by
  intro j hj ha
  unfold Wr.rd
  rw [hfx]
  dsimp only
  rw [if_pos (by omega), show (a - x).toNat = j from by omega]
 have hmiss : (∀ j : Nat, j < m → a ≠ x + (j : Int)) → Wr.rd cf ⟨d, t, ps, its, bl⟩ a = (d.read a, d.err a) := by
  intro hj
  unfold Wr.rd
  rw [hfx]
  dsimp only
  rw [if_neg]
  intro hh
  exact hj (a - x).toNat (by omega) (by omega)
 have HD := Lib.hid h
 have HG := Lib.hid hg
 have HC := Lib.hid hc
 have HM := Lib.hid hm
 have HX := Lib.hid hx
 have HHIT := Lib.hid hhit
 have HMISS := Lib.hid hmiss
 have HF := Lib.hid hf
 have c9 := (HD.out.boxi 0 rfl).cellv 9
 have hm20 : m ≤ 20 := by omega
 clear h hg hc hm hhit hmiss hfx hat hbh hf hx
 go_enter Tryz.func46, Tryz.ntmps46
 go_wp2_with fail
 clear c9
 go_loopg [15] m (fun r s15 wr => ∃ j : Nat, j + r = m ∧ s15 = .int .i64 (j : Int) ∧ Only [] w wr ∧ ∀ i : Nat, i < j → a ≠ x + (i : Int))
 case atStart => exact ⟨0, by omega, rfl, Only.refl _ _, fun i hi => by omega⟩
 obtain ⟨j, hj, rfl, hO, hne⟩ := hrel
 have HO := Lib.hid hO
 have HNE := Lib.hid hne
 have HDr := Lib.hid (HD.out.keep0 hO)
 clear hO hne
 by_cases hlt : j < m
 ·have hbls : Bls wr sl bl := HDr.out.fact (f := fun W => Bls W sl bl) List.mem_cons_self
  have hjl : j < bl.length := by rw [HM.out]; exact hlt
  have hsl : j < sl.length := by rw [hbls.1]; exact hjl
  obtain ⟨g, o, hB, hcell⟩ := (HDr.out.grow 1 rfl).at_ (by omega)
  have cj := hcell j (by rw [List.length_map]; exact hsl)
  rw [List.getElem_map] at cj
  have hby := hbls.2 j hsl hjl
  obtain ⟨⟨s1, s2, s3⟩, hs⟩ : ∃ s, sl[j] = s := ⟨_, rfl⟩
  rw [hs] at cj hby
  obtain ⟨bj, hbj⟩ : ∃ b, bl[j] = b := ⟨_, rfl⟩
  rw [hbj] at hby
  have hb64 : bj.length = 64 := by rw [← hbj]; exact HF.out _ (List.getElem_mem hjl)
  have hgd : bl.getD j [] = bj := by rw [List.getD_eq_getElem?_getD, List.getElem?_eq_getElem hjl, hbj]; rfl
  replace cj : wr.cell? ⟨g, o + j, none⟩ = some (.slice s1 s2 s3) := cj
  have hs2 : s2 = 64 := by have h1 := hby.len; rw [bvs_length] at h1; exact h1.symm.trans hb64
  subst hs2
  dsimp only at hby
  have HBY := Lib.hid hby
  have HGD := Lib.hid hgd
  have H64 := Lib.hid hb64
  have hlt2 : (j : Int) < (m : Int) := by omega
  subst hB
  clear hcell hbls hs hbj hby hb64 hgd
  go_wp2_with fail
  refine (wr_first_any _ W p.D gb q.T ps _ _ cf (HDr.out.boxi 0 rfl) (HDr.out.fact (f := (fun W => GeoAt W gb cf.b cf.s cf.l)) (List.mem_cons_of_mem _ HG.out)) HC.out (by omega) (at_range HC.out _)).mono ?_
  rintro en w2 ⟨rfl, hO2⟩
  rw [HX.out]
  have HO2 := Lib.hid (HO.out.trans' hO2)
  have HB2 := Lib.hid (HBY.out.keep0 hO2)
  clear hO2 cj HBY HDr
  have hwx : IntKind.i64.wrap (x + (j : Int)) = x + (j : Int) := IntWalk.i64_in _ (by omega)
  by_cases hax : a = x + (j : Int)
  ·have hrd := HHIT.out j hlt hax
   have hbq : (a == x + (j : Int)) = true := by simpa using hax
   have HRD := Lib.hid hrd
   clear hrd hax
   go_wp2_with fail
   refine (clone_any s1 64 s3 bj _ HB2.out (by omega)).mono ?_
   rintro en w3 ⟨A7, c7, rfl, hcc, hcm, hp, hO3⟩
   have hfc : Fc w3 (fun k => k < w2.heap.size) (fun W => Bys W A7 bj.length c7 bj) := MadeBys.fc hcc hcm hp
   have HFC := Lib.hid (RdSays.later (w0 := w) (b := bj) (er := 0) (en := .returned (.tuple #[.slice A7 bj.length c7, .int .i64 0])) ⟨A7, bj.length, c7, rfl, hfc, hO3⟩ HO2.out)
   clear hcc hcm hp hfc hO3
   go_wp2
   go_ret2
   rw [HRD.out, HGD.out]
   exact HFC.out
  ·have hbq : (a == x + (j : Int)) = false := by simpa using hax
   have HNE2 : Hid (∀ i : Nat, i < j + 1 → a ≠ x + (i : Int)) := Lib.hid (fun i hi => by
    by_cases h : i = j
    ·subst h; exact hax
    ·exact HNE.out i (by omega))
   clear hax
   go_wp2
   go_roundg (gk - 1)
   case measure => omega
   case rel => exact ⟨j + 1, by omega, by go_num, HO2.out, HNE2.out⟩
 ·obtain rfl : j = m := by omega
  have hrd := HMISS.out HNE.out
  have HRD := Lib.hid hrd
  have c0 := (HDr.out.boxi 0 rfl).cellv 0
  clear hrd
  go_wp2_with fail
  obtain ⟨c1, hF, hP, back⟩ := HDr.out.ofP
  refine (dk_read_any w0 _ p d c1 a hP).mono ?_
  rintro en w3 hrs
  obtain ⟨A7, n7, c7, rfl, hfc, hO3⟩ := hrs
  have HFC := Lib.hid (RdSays.later (w0 := w) (b := d.read a) (er := d.err a) (en := .returned (.tuple #[.slice A7 n7 c7, .int .i64 (d.err a)])) ⟨A7, n7, c7, rfl, hfc, hO3⟩ HO.out)
  clear hF hP back hfc hO3 c0
  go_wp2
  go_ret2
  rw [HRD.out]
  exact HFC.out
def NewSays (w0 : World) (p : PD) (r : RD) (d e : Dk) (gb : Nat) (q : TD) (t : Tb) (ps : Ps) (L : List (Nat × List Value)) (G : List Gs) (F : List (World → Prop)) : Bool → Ending → World → Prop
 | true, en, w' => ∃ W, en = .returned (.pointer (some ⟨W, 0, none⟩)) ∧ WrIn w0 w' p r e W gb q ⟨d, t, ps, [], []⟩ L G F
 | false, en, w' => en = .returned (.pointer none) ∧ Duo w0 w' p r d e ⟨q.L t L, G, F⟩
set_option maxRecDepth 100000 in
set_option maxHeartbeats 4000000 in
theorem wr_new_any (w0 w : World) (p : PD) (r : RD) (d e : Dk) (gb : Nat) (q : TD) (t : Tb) (ps : Ps) (cf : Cf) (L : List (Nat × List Value)) (G : List Gs) (F : List (World → Prop)) (h : Duo w0 w p r d e ⟨q.L t L, G, F⟩) (hg : (fun W => GeoAt W gb cf.b cf.s cf.l) ∈ F) (hc : cf.Ok) :
  Calls Tryz.prog 107 #[.pointer (some ⟨p.D, 0, none⟩), .pointer (some ⟨gb, 0, none⟩), .pointer (some ⟨q.T, 0, none⟩), .agg #[.int .i64 ps.s, .int .i64 ps.o, .int .i64 ps.l, .int .i64 ps.p, .int .i64 ps.m]] w (NewSays w0 p r d e gb q t ps L G F (posMay cf.s cf.l ps.s ps.o ps.l ps.p ps.m)) := by
 have HD := Lib.hid (h.newB #[.int .i64 ps.s, .int .i64 ps.o, .int .i64 ps.l, .int .i64 ps.p, .int .i64 ps.m] 32 rfl)
 have HG := Lib.hid hg
 have HC := Lib.hid hc
 clear h hg hc
 go_enter Tryz.func107, Tryz.ntmps107
 go_wp2_with fail
 generalize hz : w.alloc (.cells #[.int .i64 ps.s, .int .i64 ps.o, .int .i64 ps.l, .int .i64 ps.p, .int .i64 ps.m] 32) = w1 at *
 generalize w.heap.size = f7 at *
 clear hz
 refine (geom_may_any gb cf.b cf.s cf.l ps.s ps.o ps.l ps.p ps.m _ (HD.out.fact HG.out) HC.out).mono ?_
 rintro en w2 ⟨rfl, hO⟩
 have HD2 := Lib.hid (HD.out.keep0 hO)
 obtain ⟨y0, y1, y2, y3, y4⟩ := own5 (HD2.out.boxi 0 rfl)
 clear hO HD
 obtain ⟨mb, hmb⟩ : ∃ x, posMay cf.s cf.l ps.s ps.o ps.l ps.p ps.m = x := ⟨_, rfl⟩
 have HMB := Lib.hid hmb
 rw [hmb]
 clear hmb
 cases mb with
 | true =>
  have HE := Lib.hid (HD2.out.ldrop.newB #[.pointer (some ⟨p.D, 0, none⟩), .pointer (some ⟨gb, 0, none⟩), .pointer (some ⟨q.T, 0, none⟩), .int .i64 ps.s, .int .i64 ps.o, .int .i64 ps.l, .int .i64 ps.p, .int .i64 ps.m, .slice none 0 0, .slice none 0 0] 192 rfl)
  go_wp2
  go_ret
  rw [HMB.out]
  refine ⟨_, rfl, none, 0, none, 0, [], ?_⟩
  exact ((HE.out.gnew 47 1).gnew 63 4).impF (F' := (fun W => Bls W [] []) :: F) (fun g hg V hV => by
   rcases List.mem_cons.1 hg with rfl | hg
   ·exact Bls.nil
   ·exact hV g hg)
 | false =>
  go_wp2
  go_ret
  rw [HMB.out]
  exact ⟨rfl, HD2.out.ldrop⟩
end Go.Proofs.YtgcfdjcpcclcjaaGreat
namespace Go.Proofs.YtgcfdjcpcclcjaaGreat
open Go Go.RowKit Go.Kn
theorem infoUse15 : (Tryz.prog.info? 208).map (fun i => (i.zero, i.size, i.bytes)) = some (some (.agg #[.int .i64 0, .int .i64 0]), 2, 16) := by kernel_rfl
theorem infoUse2 : (Tryz.prog.info? 208).map (·.size) = some 2 := by kernel_rfl
theorem usV_zero (n : Nat) : usV (List.replicate n ⟨0, 0⟩) = List.replicate (n * 2) (.int .i64 0) := by
 unfold usV
 induction n with
 | zero => rfl
 | succ n ih =>
  rw [List.replicate_succ, List.flatMap_cons, ih, show (n + 1) * 2 = n * 2 + 1 + 1 from by omega, List.replicate_succ, List.replicate_succ]
  rfl
theorem make_uses (n : Nat) (hn : n ≤ 1000) (w : World) : (Instr.makeSlice 200 (.int .i64 n) (.int .i64 n)).run Tryz.prog w = .ok (.slice (some ⟨w.heap.size, 0, none⟩) n n) (w.alloc (.cells (usV (List.replicate n ⟨0, 0⟩)).toArray 208)) := by
 obtain ⟨i0, hi, hz0, hz1, hz2⟩ := info_parts infoUse15
 have h := run_make (P := Tryz.prog) w 200 208 i0 _ Tryz.underlying200 hi hz0 .i64 .i64 n n (by omega) (by omega) (by rw [hz2]; omega) (by omega)
 rw [h, hz1, usV_zero]
 show Result.ok _ (w.alloc (.cells (madeCells (List.replicate 2 (Value.int .i64 0)).toArray _) _)) = _
 rw [madeCells_rep _ _ _ (by omega)]
 rfl
theorem make_ints (n : Nat) (hn : n ≤ 1000) (w : World) : (Instr.makeSlice 34 (.int .i64 n) (.int .i64 n)).run Tryz.prog w = .ok (.slice (some ⟨w.heap.size, 0, none⟩) n n) (w.alloc (.cells (ivs (List.replicate n 0)).toArray 3)) := by
 obtain ⟨i0, hi, hz0, hz1, hz2⟩ := info_parts Tryz.infoInt
 have h := run_make (P := Tryz.prog) w 34 3 i0 _ Tryz.underlying34 hi hz0 .i64 .i64 n n (by omega) (by omega) (by rw [hz2]; omega) (by omega)
 rw [h, hz1, Nat.mul_one, show ivs (List.replicate n 0) = List.replicate n (Value.int .i64 0) from by rw [ivs, List.map_replicate]]
 show Result.ok _ (w.alloc (.cells (madeCells (List.replicate 1 (Value.int .i64 0)).toArray _) _)) = _
 rw [madeCells_rep _ _ _ (by omega)]
 rfl
theorem run_copy_nil {P : Program} (w : World) (dT sT ty elem : TypeId) (d : Option Addr) (dLen dCap s : Nat) (hu : P.underlying dT = some (.slice elem)) (hs : (P.info? elem).map (·.size) = some s) :
  (Builtin.copy_ #[dT, sT] ty #[.slice d dLen dCap, .slice none 0 0]).run P w = .ok (goInt 0) w := by
 cases hq : P.info? elem with
 | none => simp [hq] at hs
 | some i =>
  have hl : ∀ (x : Addr), (loadCells x 0).run P w = .ok #[] w := fun x => by simpa using run_loadCells_list (P := P) w x [] (by simp)
  cases d <;> simp [Builtin.copy_, run_underlying hu, Builtin.lenOf, Builtin.firstCells, sizeOf, typeInfo, hq, storeCells, hl]
set_option maxRecDepth 100000 in
set_option maxHeartbeats 4000000 in
theorem us_new_any (w0 w : World) (p : PD) (r : RD) (d e : Dk) (gb : Nat) (cf : Cf) (L : List (Nat × List Value)) (G : List Gs) (F : List (World → Prop)) (h : Duo w0 w p r d e ⟨L, G, F⟩) (hg : (fun W => GeoAt W gb cf.b cf.s cf.l) ∈ F) (hc : cf.Ok) :
  Calls Tryz.prog 110 #[.pointer (some ⟨gb, 0, none⟩), .slice none 0 0] w fun en w' => ∃ q : TD, en = .returned (.pointer (some ⟨q.T, 0, none⟩)) ∧ (q.n : Int) = cf.s ∧ Duo w0 w' p r d e ⟨q.L (Tb.new q.n) L, G, F⟩ := by
 obtain ⟨n, hn⟩ : ∃ n : Nat, cf.s = (n : Int) := ⟨cf.s.toNat, by have := hc.2.1; omega⟩
 have hn32 : n ≤ 32 := by have := hc.2.1; omega
 have hn8 : 8 ≤ n := by have := hc.2.1; omega
 have HD := Lib.hid h
 have HG := Lib.hid hg
 have HNZ := Lib.hid hn
 have hmu : ∀ w : World, (Instr.makeSlice 200 (.int .i64 (n : Int)) (.int .i64 (n : Int))).run Tryz.prog w = .ok (.slice (some ⟨w.heap.size, 0, none⟩) n n) (w.alloc (.cells (usV (List.replicate n ⟨0, 0⟩)).toArray 208)) := make_uses n (by omega)
 have hmi : ∀ w : World, (Instr.makeSlice 34 (.int .i64 (n : Int)) (.int .i64 (n : Int))).run Tryz.prog w = .ok (.slice (some ⟨w.heap.size, 0, none⟩) n n) (w.alloc (.cells (ivs (List.replicate n 0)).toArray 3)) := make_ints n (by omega)
 have HMU := Lib.hid hmu
 have HMI := Lib.hid hmi
 clear h hg hn hmu hmi hc
 go_enter Tryz.func110, Tryz.ntmps110
 go_wp2_with fail
 refine (geom_config_any gb cf.b cf.s cf.l _ (HD.out.fact HG.out)).mono ?_
 rintro en w2 ⟨rfl, hO⟩
 have HD2 := Lib.hid (HD.out.keep0 hO)
 clear hO HD
 have hf1 := field_cfg1 cf.b cf.s cf.l
 rw [HNZ.out] at hf1
 rw [HNZ.out]
 go_wp2_with fail
 go_loopg [27] 0 (fun r s27 wr => r = 0 ∧ s27 = .int .i64 0 ∧ wr = w2)
 case atStart => exact ⟨rfl, rfl, rfl⟩
 obtain ⟨rfl, rfl, rfl⟩ := hrel
 go_wp2_with fail
 have HY := Lib.hid HD2.out.drew
 clear HD2
 refine wp_region_held_drew (S := (fun w' => True)) (by kernel_rfl) trivial (fun hSw0 => ?_)
 generalize wr.drew = wz at *
 refine Kn.takeS 0 ⟨some 50, _, _, _, _, _⟩ ?_
 refine Kn.takeS 1 ⟨some 51, _, _, _, _, _⟩ ?_
 refine Kn.takeS 3 ⟨some 53, _, _, _, _, _⟩ ?_
 refine wpAnyH_ready (rs := [2, 4]) (by kernel_rfl) (by simp) ?_
 refine AllReadyH.cons (o := ⟨some 52, _, _, _, _, _⟩) rfl (fun K hK => ?_) ?_
 ·have hmk := HMU.out
  go_simp
  clear hmk
  have HYu := Lib.hid (HY.out.newB (usV (List.replicate n ⟨0, 0⟩)).toArray 208 (b := wz.heap.size) rfl)
  clear HY
  generalize hvz : wz.heap.size = bu at *
  generalize hvb : wz.alloc (.cells (usV (List.replicate n ⟨0, 0⟩)).toArray 208) = va at *
  clear hvb hvz
  refine hK.out _ _ trivial (fun hSn => ?_)
  clear hK K hSw0
  have hSw0 := hSn
  clear hSn
  refine Kn.takeR 4 ⟨some 54, _, _, _, _, _⟩ fun K hK => ?_
  have hmk := HMI.out
  go_simp
  clear hmk
  have HYuv := Lib.hid (HYu.out.newB (ivs (List.replicate n 0)).toArray 3 (b := va.heap.size) rfl)
  clear HYu
  generalize hvz : va.heap.size = bv at *
  generalize hvb : va.alloc (.cells (ivs (List.replicate n 0)).toArray 3) = vb at *
  clear hvb hvz
  refine hK.out _ _ trivial (fun hSn => ?_)
  clear hK K hSw0
  have hSw0 := hSn
  clear hSn
  refine Kn.takeS 5 ⟨some 55, _, _, _, _, _⟩ ?_
  refine Kn.takeR 6 ⟨some 56, _, _, _, _, _⟩ fun K hK => ?_
  go_simp
  have HYuvt := Lib.hid (HYuv.out.newB #[.pointer (some ⟨gb, 0, none⟩), .slice (some ⟨bu, 0, none⟩) n n, .slice (some ⟨bv, 0, none⟩) n n] 210 (b := vb.heap.size) rfl)
  clear HYuv
  generalize hvz : vb.heap.size = bt at *
  generalize hvb : vb.alloc (.cells #[.pointer (some ⟨gb, 0, none⟩), .slice (some ⟨bu, 0, none⟩) n n, .slice (some ⟨bv, 0, none⟩) n n] 210) = vt at *
  clear hvb hvz
  refine hK.out _ _ trivial (fun hSn => ?_)
  clear hK K hSw0
  have hSw0 := hSn
  clear hSn
  refine Kn.takeS 7 ⟨some 8, _, _, _, _, _⟩ ?_
  refine wpAnyH_done (by kernel_rfl) ?_ _
  clear hSw0
  have HE := Lib.hid (HYuvt.out.permL (L' := (bt, [.pointer (some ⟨gb, 0, none⟩), .slice (some ⟨bu, 0, none⟩) n n, .slice (some ⟨bv, 0, none⟩) n n]) :: (bu, usV (List.replicate n ⟨0, 0⟩)) :: (bv, ivs (List.replicate n 0)) :: L) (perm_any (fun c => by simp only [List.map_cons, List.sum_cons]; omega)))
  have c1 := (HE.out.boxi 0 rfl).cellv 1
  have hcp : (Builtin.copy_ #[200, 200] 3 #[.slice (some ⟨bu, 0, none⟩) n n, .slice none 0 0]).run Tryz.prog vt = .ok (.int .i64 0) vt := run_copy_nil (P := Tryz.prog) vt _ _ _ 208 (some ⟨bu, 0, none⟩) n n 2 Tryz.underlying200 infoUse2
  go_wp2
  go_ret
  exact ⟨⟨bt, bu, bv, gb, n⟩, rfl, HNZ.out.symm, HE.out⟩
 refine AllReadyH.cons (o := ⟨some 54, _, _, _, _, _⟩) rfl (fun K hK => ?_) ?_
 ·have hmk := HMI.out
  go_simp
  clear hmk
  have HYv := Lib.hid (HY.out.newB (ivs (List.replicate n 0)).toArray 3 (b := wz.heap.size) rfl)
  clear HY
  generalize hvz : wz.heap.size = bv at *
  generalize hvb : wz.alloc (.cells (ivs (List.replicate n 0)).toArray 3) = vb at *
  clear hvb hvz
  refine hK.out _ _ trivial (fun hSn => ?_)
  clear hK K hSw0
  have hSw0 := hSn
  clear hSn
  refine Kn.takeR 2 ⟨some 52, _, _, _, _, _⟩ fun K hK => ?_
  have hmk := HMU.out
  go_simp
  clear hmk
  have HYvu := Lib.hid (HYv.out.newB (usV (List.replicate n ⟨0, 0⟩)).toArray 208 (b := vb.heap.size) rfl)
  clear HYv
  generalize hvz : vb.heap.size = bu at *
  generalize hvb : vb.alloc (.cells (usV (List.replicate n ⟨0, 0⟩)).toArray 208) = va at *
  clear hvb hvz
  refine hK.out _ _ trivial (fun hSn => ?_)
  clear hK K hSw0
  have hSw0 := hSn
  clear hSn
  refine Kn.takeS 5 ⟨some 55, _, _, _, _, _⟩ ?_
  refine Kn.takeR 6 ⟨some 56, _, _, _, _, _⟩ fun K hK => ?_
  go_simp
  have HYvut := Lib.hid (HYvu.out.newB #[.pointer (some ⟨gb, 0, none⟩), .slice (some ⟨bu, 0, none⟩) n n, .slice (some ⟨bv, 0, none⟩) n n] 210 (b := va.heap.size) rfl)
  clear HYvu
  generalize hvz : va.heap.size = bt at *
  generalize hvb : va.alloc (.cells #[.pointer (some ⟨gb, 0, none⟩), .slice (some ⟨bu, 0, none⟩) n n, .slice (some ⟨bv, 0, none⟩) n n] 210) = vt at *
  clear hvb hvz
  refine hK.out _ _ trivial (fun hSn => ?_)
  clear hK K hSw0
  have hSw0 := hSn
  clear hSn
  refine Kn.takeS 7 ⟨some 8, _, _, _, _, _⟩ ?_
  refine wpAnyH_done (by kernel_rfl) ?_ _
  clear hSw0
  have HE := HYvut
  have c1 := (HE.out.boxi 0 rfl).cellv 1
  have hcp : (Builtin.copy_ #[200, 200] 3 #[.slice (some ⟨bu, 0, none⟩) n n, .slice none 0 0]).run Tryz.prog vt = .ok (.int .i64 0) vt := run_copy_nil (P := Tryz.prog) vt _ _ _ 208 (some ⟨bu, 0, none⟩) n n 2 Tryz.underlying200 infoUse2
  go_wp2
  go_ret
  exact ⟨⟨bt, bu, bv, gb, n⟩, rfl, HNZ.out.symm, HE.out⟩
 exact AllReadyH.nil
end Go.Proofs.YtgcfdjcpcclcjaaGreat
namespace Go.Kn
open Go Go.RowKit
/-- where the reference's table lies -/
structure RT where
 T : Nat
 u : Nat
 v : Nat
 n : Nat
def RT.box (q : RT) (c : Cf) : List Value := [.int .i64 c.b, .int .i64 c.s, .int .i64 c.l, .slice (some ⟨q.u, 0, none⟩) q.n q.n, .slice (some ⟨q.v, 0, none⟩) q.n q.n]
def RT.L (q : RT) (c : Cf) (t : Tb) (L : List (Nat × List Value)) : List (Nat × List Value) := (q.T, q.box c) :: (q.u, usV t.us) :: (q.v, ivs t.live) :: L
end Go.Kn
namespace Go.Proofs.YtgcfdjcpcclcjaaGreat
open Go Go.RowKit Go.Kn
theorem rt_there_any (w : World) (q : RT) (c : Cf) (s : Int) (hT : Kn.Own w q.T (q.box c)) (hn : q.n ≤ 1000) : Calls Tryz.prog 163 #[.pointer (some ⟨q.T, 0, none⟩), .int .i64 s] w fun e w' => e = .returned (.bool (decide (0 ≤ s ∧ s < (q.n : Int)))) ∧ w = w' := by
 have c1 : w.cell? ⟨q.T, 3, none⟩ = some (.slice (some ⟨q.u, 0, none⟩) q.n q.n) := hT.cellv 3
 have hw : IntKind.i64.wrap ((q.n : Int) - 1) = (q.n : Int) - 1 := IntWalk.i64_in _ (by omega)
 have hd : decide (0 ≤ s ∧ s ≤ (q.n : Int) - 1) = decide (0 ≤ s ∧ s < (q.n : Int)) := by
  by_cases h : 0 ≤ s ∧ s < (q.n : Int)
  ·rw [decide_eq_true h, decide_eq_true (by omega)]
  ·rw [decide_eq_false h, decide_eq_false (by omega)]
 obtain ⟨bb, hbb⟩ : ∃ b, decide (0 ≤ s ∧ s < (q.n : Int)) = b := ⟨_, rfl⟩
 rw [hbb] at hd ⊢
 clear hbb
 have HDC := Lib.hid hd
 clear hT hd
 go_enter Tryz.func163, Tryz.ntmps163
 go_wp2_with fail
 refine (within_any s 0 ((q.n : Int) - 1) _).mono ?_
 rintro e w2 ⟨rfl, rfl⟩
 rw [HDC.out]
 go_wp2
 go_ret
 exact ⟨rfl, rfl⟩
set_option maxHeartbeats 4000000 in
theorem rt_grab_any (w0 w : World) (p : RT) (cf : Cf) (t : Tb) (s : Int) (L : List (Nat × List Value)) (G : List Gs) (F : List (World → Prop)) (hw : Wc w0 w (p.L cf t L) G F) (ht : t.Ok p.n) (hn : p.n ≤ 1000) :
  Calls Tryz.prog 113 #[.pointer (some ⟨p.T, 0, none⟩), .int .i64 s] w fun e w' => e = .returned (.bool (t.grabs s)) ∧ Wc w0 w' (p.L cf (t.grab s) L) G F := by
 have HW := Lib.hid hw
 have HO := Lib.hid ht
 clear hw ht
 have HT : Hid (Kn.Own w p.T (p.box cf)) := Lib.hid (HW.out.boxi 0 rfl)
 have c3 : w.cell? ⟨p.T, 3, none⟩ = some (.slice (some ⟨p.u, 0, none⟩) p.n p.n) := HT.out.cellv 3
 have c4 : w.cell? ⟨p.T, 4, none⟩ = some (.slice (some ⟨p.v, 0, none⟩) p.n p.n) := HT.out.cellv 4
 have lt := HT.out.lt
 by_cases hs : 0 ≤ s ∧ s < (p.n : Int)
 ·obtain ⟨s, rfl⟩ : ∃ k : Nat, s = k := ⟨s.toNat, by omega⟩
  have hsl : s < t.us.length := by rw [HO.out.u]; omega
  have hsv : s < t.live.length := by rw [HO.out.l]; omega
  have c0 := (us_cell (HW.out.boxi 1 rfl) hsl).1
  have hsn : (s : Int) < (p.n : Int) := hs.2
  have hd := decide_eq_true hs
  obtain ⟨st, hst⟩ : ∃ x, t.us[s].st = x := ⟨_, rfl⟩
  rw [hst] at c0
  have hgr : t.grabs (s : Int) = decide (st = 0) := by unfold Tb.grabs; rw [tb_has HO.out, hd, us_get hsl, hst, Bool.true_and]
  have HST := Lib.hid hst
  have HGR := Lib.hid hgr
  clear hst hgr hs
  go_enter Tryz.func113, Tryz.ntmps113
  go_wp2_with fail
  refine (rt_there_any _ p cf s HT.out hn).mono ?_
  rintro e w2 ⟨rfl, rfl⟩
  rw [hd]
  by_cases h0 : st = 0
  ·subst h0
   have hgb : t.grab (s : Int) = ⟨t.us.set s ⟨1, t.us[s].sp⟩, t.live.set s 0⟩ := by unfold Tb.grab; rw [HGR.out, if_pos (by decide), us_get hsl, Int.toNat_natCast]
   have hu1 : (usV t.us).set (s * 2) (.int .i64 1) = usV (t.us.set s ⟨1, t.us[s].sp⟩) := usV_set t.us s 0 ⟨1, t.us[s].sp⟩ _ hsl (by decide) (by rw [List.getD_eq_getElem?_getD, List.getElem?_eq_getElem hsl]; rfl)
   have hv1 : (ivs t.live).set s (.int .i64 0) = ivs (t.live.set s 0) := by unfold ivs; rw [List.map_set]
   have z0 := (HW.out.boxi 1 rfl).frozen (s * 2)
   have l0 := (HW.out.boxi 1 rfl).lt
   have h1 := HW.out.put 1 rfl (s * 2) (.int .i64 1)
   simp only [List.set_cons_zero, List.set_cons_succ, hu1] at h1
   have H1 := Lib.hid h1
   have y4 := (h1.boxi 0 rfl).cellv 4
   have y0 := (h1.boxi 2 rfl).cell s (by simp [ivs]; omega)
   have yz := (h1.boxi 2 rfl).frozen s
   have yl := (h1.boxi 2 rfl).lt
   have h2 := h1.put 2 rfl s (.int .i64 0)
   simp only [List.set_cons_zero, List.set_cons_succ, hv1] at h2
   have H2 := Lib.hid h2
   have HGB := Lib.hid hgb
   clear hgb hu1 hv1 h1 h2
   go_wp2
   go_ret
   rw [HGR.out, HGB.out]
   exact ⟨rfl, H2.out⟩
  ·have hgf : t.grab (s : Int) = t := by unfold Tb.grab; rw [HGR.out, decide_eq_false h0]; rfl
   have hb : (st != 0) = true := by rw [bne_iff_ne]; exact h0
   have HGB := Lib.hid hgf
   have HD0 : Hid (decide (st = 0) = false) := Lib.hid (decide_eq_false h0)
   clear hgf h0
   go_wp2
   go_ret
   rw [HGR.out, HGB.out, HD0.out]
   exact ⟨rfl, HW.out⟩
 ·have hd := decide_eq_false hs
  have hgr : t.grabs s = false := by unfold Tb.grabs; rw [tb_has HO.out, hd]; rfl
  have hgb : t.grab s = t := by unfold Tb.grab; rw [hgr]; rfl
  have HGB := Lib.hid hgb
  have HGR := Lib.hid hgr
  clear hgb hgr hs
  go_enter Tryz.func113, Tryz.ntmps113
  go_wp2_with fail
  refine (rt_there_any _ p cf s HT.out hn).mono ?_
  rintro e w2 ⟨rfl, rfl⟩
  rw [hd]
  go_wp2
  go_ret
  rw [HGR.out, HGB.out]
  exact ⟨rfl, HW.out⟩
set_option maxHeartbeats 4000000 in
theorem rt_seal_any (w0 w : World) (p : RT) (cf : Cf) (t : Tb) (s : Int) (L : List (Nat × List Value)) (G : List Gs) (F : List (World → Prop)) (hw : Wc w0 w (p.L cf t L) G F) (ht : t.Ok p.n) (hn : p.n ≤ 1000) :
  Calls Tryz.prog 115 #[.pointer (some ⟨p.T, 0, none⟩), .int .i64 s] w fun e w' => e = .returned (.tuple #[]) ∧ Wc w0 w' (p.L cf (t.shut s) L) G F := by
 have HW := Lib.hid hw
 have HO := Lib.hid ht
 clear hw ht
 have HT : Hid (Kn.Own w p.T (p.box cf)) := Lib.hid (HW.out.boxi 0 rfl)
 have c3 : w.cell? ⟨p.T, 3, none⟩ = some (.slice (some ⟨p.u, 0, none⟩) p.n p.n) := HT.out.cellv 3
 have lt := HT.out.lt
 by_cases hs : 0 ≤ s ∧ s < (p.n : Int)
 ·obtain ⟨s, rfl⟩ : ∃ k : Nat, s = k := ⟨s.toNat, by omega⟩
  have hsl : s < t.us.length := by rw [HO.out.u]; omega
  have c0 := (us_cell (HW.out.boxi 1 rfl) hsl).1
  have hsn : (s : Int) < (p.n : Int) := hs.2
  have hd := decide_eq_true hs
  have hgr : t.has (s : Int) = true := by rw [tb_has HO.out, hd]
  obtain ⟨st, hst⟩ : ∃ x, t.us[s].st = x := ⟨_, rfl⟩
  rw [hst] at c0
  have HST := Lib.hid hst
  have HGR := Lib.hid hgr
  clear hst hgr hs
  go_enter Tryz.func115, Tryz.ntmps115
  go_wp2_with fail
  refine (rt_there_any _ p cf s HT.out hn).mono ?_
  rintro e w2 ⟨rfl, rfl⟩
  rw [hd]
  by_cases h0 : st = 1
  ·subst h0
   have hgb : t.shut (s : Int) = ⟨t.us.set s ⟨2, t.us[s].sp⟩, t.live⟩ := by unfold Tb.shut; rw [HGR.out, us_get hsl, HST.out, if_pos (by decide), Int.toNat_natCast]
   have hu1 : (usV t.us).set (s * 2) (.int .i64 2) = usV (t.us.set s ⟨2, t.us[s].sp⟩) := usV_set t.us s 0 ⟨2, t.us[s].sp⟩ _ hsl (by decide) (by rw [List.getD_eq_getElem?_getD, List.getElem?_eq_getElem hsl]; rfl)
   have z0 := (HW.out.boxi 1 rfl).frozen (s * 2)
   have l0 := (HW.out.boxi 1 rfl).lt
   have h1 := HW.out.put 1 rfl (s * 2) (.int .i64 2)
   simp only [List.set_cons_zero, List.set_cons_succ, hu1] at h1
   have H1 := Lib.hid h1
   have HGB := Lib.hid hgb
   clear hgb hu1 h1
   go_wp2
   refine bodyPost_end (results_none rfl _ _ _) rfl ⟨rfl, ?_⟩
   rw [HGB.out]
   exact H1.out
  ·have hgf : t.shut (s : Int) = t := by unfold Tb.shut; rw [HGR.out, us_get hsl, HST.out, decide_eq_false h0]; rfl
   have hb : (st == 1) = false := by simpa using h0
   have HGB := Lib.hid hgf
   clear hgf h0
   go_wp2
   refine bodyPost_end (results_none rfl _ _ _) rfl ⟨rfl, ?_⟩
   rw [HGB.out]
   exact HW.out
 ·have hd := decide_eq_false hs
  have hgb : t.shut s = t := by unfold Tb.shut; rw [tb_has HO.out, hd]; simp
  have HGB := Lib.hid hgb
  clear hgb hs
  go_enter Tryz.func115, Tryz.ntmps115
  go_wp2_with fail
  refine (rt_there_any _ p cf s HT.out hn).mono ?_
  rintro e w2 ⟨rfl, rfl⟩
  rw [hd]
  go_wp2
  refine bodyPost_end (results_none rfl _ _ _) rfl ⟨rfl, ?_⟩
  rw [HGB.out]
  exact HW.out
theorem duo_rgrab {w0 w : World} {p : PD} {r : RD} {d e : Dk} {q : RT} {cf : Cf} {t : Tb} {L : List (Nat × List Value)} {G : List Gs} {F : List (World → Prop)} (s : Int) (h : Duo w0 w p r d e ⟨q.L cf t L, G, F⟩) (ht : t.Ok q.n) (hn : q.n ≤ 1000) :
  Calls Tryz.prog 113 #[.pointer (some ⟨q.T, 0, none⟩), .int .i64 s] w fun en w' => en = .returned (.bool (t.grabs s)) ∧ Duo w0 w' p r d e ⟨q.L cf (t.grab s) L, G, F⟩ := by
 obtain ⟨L0, G0, F0, hw, back⟩ := h.fr
 refine (rt_grab_any w0 w q cf t s (L ++ L0) (G ++ G0) (F ++ F0) hw ht hn).mono ?_
 rintro en w1 ⟨rfl, h1⟩
 exact ⟨rfl, back w1 ⟨q.L cf (t.grab s) L, G, F⟩ h1⟩
theorem duo_rseal {w0 w : World} {p : PD} {r : RD} {d e : Dk} {q : RT} {cf : Cf} {t : Tb} {L : List (Nat × List Value)} {G : List Gs} {F : List (World → Prop)} (s : Int) (h : Duo w0 w p r d e ⟨q.L cf t L, G, F⟩) (ht : t.Ok q.n) (hn : q.n ≤ 1000) :
  Calls Tryz.prog 115 #[.pointer (some ⟨q.T, 0, none⟩), .int .i64 s] w fun en w' => en = .returned (.tuple #[]) ∧ Duo w0 w' p r d e ⟨q.L cf (t.shut s) L, G, F⟩ := by
 obtain ⟨L0, G0, F0, hw, back⟩ := h.fr
 refine (rt_seal_any w0 w q cf t s (L ++ L0) (G ++ G0) (F ++ F0) hw ht hn).mono ?_
 rintro en w1 ⟨rfl, h1⟩
 exact ⟨rfl, back w1 ⟨q.L cf (t.shut s) L, G, F⟩ h1⟩
set_option maxRecDepth 100000 in
set_option maxHeartbeats 4000000 in
theorem rt_new_any (w0 w : World) (p : PD) (r : RD) (d e : Dk) (cf : Cf) (L : List (Nat × List Value)) (G : List Gs) (F : List (World → Prop)) (h : Duo w0 w p r d e ⟨L, G, F⟩) (hc : cf.Ok) :
  Calls Tryz.prog 111 #[.agg #[.int .i64 cf.b, .int .i64 cf.s, .int .i64 cf.l], .slice none 0 0] w fun en w' => ∃ q : RT, en = .returned (.pointer (some ⟨q.T, 0, none⟩)) ∧ (q.n : Int) = cf.s ∧ Duo w0 w' p r d e ⟨q.L cf (Tb.new q.n) L, G, F⟩ := by
 obtain ⟨n, hn⟩ : ∃ n : Nat, cf.s = (n : Int) := ⟨cf.s.toNat, by have := hc.2.1; omega⟩
 have hn32 : n ≤ 32 := by have := hc.2.1; omega
 have HD := Lib.hid (h.newB #[.int .i64 cf.b, .int .i64 cf.s, .int .i64 cf.l] 25 rfl)
 have HNZ := Lib.hid hn
 have hmu : ∀ w : World, (Instr.makeSlice 200 (.int .i64 cf.s) (.int .i64 cf.s)).run Tryz.prog w = .ok (.slice (some ⟨w.heap.size, 0, none⟩) n n) (w.alloc (.cells (usV (List.replicate n ⟨0, 0⟩)).toArray 208)) := by rw [hn]; exact make_uses n (by omega)
 have hmi : ∀ w : World, (Instr.makeSlice 34 (.int .i64 cf.s) (.int .i64 cf.s)).run Tryz.prog w = .ok (.slice (some ⟨w.heap.size, 0, none⟩) n n) (w.alloc (.cells (ivs (List.replicate n 0)).toArray 3)) := by rw [hn]; exact make_ints n (by omega)
 have HMU := Lib.hid hmu
 have HMI := Lib.hid hmi
 clear h hn hmu hmi hc
 go_enter Tryz.func111, Tryz.ntmps111
 go_wp2_with fail
 generalize hz : w.alloc (.cells #[.int .i64 cf.b, .int .i64 cf.s, .int .i64 cf.l] 25) = w1 at *
 generalize w.heap.size = f2 at *
 clear hz
 have HY := Lib.hid HD.out.drew
 clear HD
 refine wp_region_held_drew (S := (fun w' => Kn.Own w' f2 [.int .i64 cf.b, .int .i64 cf.s, .int .i64 cf.l])) (by kernel_rfl) (HY.out.boxi 0 rfl) (fun hSw0 => ?_)
 generalize w1.drew = wz at *
 refine Kn.takeS 0 ⟨some 7, _, _, _, _, _⟩ (v := (.agg #[.int .i64 cf.b, .int .i64 cf.s, .int .i64 cf.l])) (hy := fun w hSw => by
  obtain ⟨q0, q1, q2⟩ := own3 hSw
  go_simp) ?_
 refine Kn.takeS 1 ⟨some 8, _, _, _, _, _⟩ ?_
 refine Kn.takeS 2 ⟨some 9, _, _, _, _, _⟩ (v := (.int .i64 cf.s)) (hy := fun w hSw => by
  obtain ⟨q0, q1, q2⟩ := own3 hSw
  go_simp) ?_
 refine Kn.takeS 4 ⟨some 11, _, _, _, _, _⟩ ?_
 refine Kn.takeS 5 ⟨some 12, _, _, _, _, _⟩ (v := (.int .i64 cf.s)) (hy := fun w hSw => by
  obtain ⟨q0, q1, q2⟩ := own3 hSw
  go_simp) ?_
 refine wpAnyH_ready (rs := [3, 6]) (by kernel_rfl) (by simp) ?_
 refine AllReadyH.cons (o := ⟨some 10, _, _, _, _, _⟩) rfl (fun K hK => ?_) ?_
 ·have hmk := HMU.out
  go_simp
  clear hmk
  have HYu := Lib.hid (HY.out.newB (usV (List.replicate n ⟨0, 0⟩)).toArray 208 (b := wz.heap.size) rfl)
  clear HY
  generalize hvz : wz.heap.size = bu at *
  generalize hvb : wz.alloc (.cells (usV (List.replicate n ⟨0, 0⟩)).toArray 208) = va at *
  clear hvb hvz
  refine hK.out _ _ (HYu.out.boxi 1 rfl) (fun hSn => ?_)
  clear hK K hSw0
  have hSw0 := hSn
  clear hSn
  refine Kn.takeR 6 ⟨some 13, _, _, _, _, _⟩ fun K hK => ?_
  have hmk := HMI.out
  go_simp
  clear hmk
  have HYuv := Lib.hid (HYu.out.newB (ivs (List.replicate n 0)).toArray 3 (b := va.heap.size) rfl)
  clear HYu
  generalize hvz : va.heap.size = bv at *
  generalize hvb : va.alloc (.cells (ivs (List.replicate n 0)).toArray 3) = vb at *
  clear hvb hvz
  refine hK.out _ _ (HYuv.out.boxi 2 rfl) (fun hSn => ?_)
  clear hK K hSw0
  have hSw0 := hSn
  clear hSn
  refine Kn.takeS 7 ⟨some 14, _, _, _, _, _⟩ ?_
  refine Kn.takeR 8 ⟨some 15, _, _, _, _, _⟩ fun K hK => ?_
  go_simp
  have HYuvt := Lib.hid (HYuv.out.newB #[.int .i64 cf.b, .int .i64 cf.s, .int .i64 cf.l, .slice (some ⟨bu, 0, none⟩) n n, .slice (some ⟨bv, 0, none⟩) n n] 233 (b := vb.heap.size) rfl)
  clear HYuv
  generalize hvz : vb.heap.size = bt at *
  generalize hvb : vb.alloc (.cells #[.int .i64 cf.b, .int .i64 cf.s, .int .i64 cf.l, .slice (some ⟨bu, 0, none⟩) n n, .slice (some ⟨bv, 0, none⟩) n n] 233) = vt at *
  clear hvb hvz
  refine hK.out _ _ (HYuvt.out.boxi 3 rfl) (fun hSn => ?_)
  clear hK K hSw0
  have hSw0 := hSn
  clear hSn
  refine Kn.takeS 9 ⟨some 5, _, _, _, _, _⟩ ?_
  refine wpAnyH_done (by kernel_rfl) ?_ _
  clear hSw0
  have HE := Lib.hid ((HYuvt.out.permL (L' := (f2, [.int .i64 cf.b, .int .i64 cf.s, .int .i64 cf.l]) :: (bt, [.int .i64 cf.b, .int .i64 cf.s, .int .i64 cf.l, .slice (some ⟨bu, 0, none⟩) n n, .slice (some ⟨bv, 0, none⟩) n n]) :: (bu, usV (List.replicate n ⟨0, 0⟩)) :: (bv, ivs (List.replicate n 0)) :: L) (perm_any (fun c => by simp only [List.map_cons, List.sum_cons]; omega))).ldrop)
  go_wp2
  go_ret
  exact ⟨⟨bt, bu, bv, n⟩, rfl, HNZ.out.symm, HE.out⟩
 refine AllReadyH.cons (o := ⟨some 13, _, _, _, _, _⟩) rfl (fun K hK => ?_) ?_
 ·have hmk := HMI.out
  go_simp
  clear hmk
  have HYv := Lib.hid (HY.out.newB (ivs (List.replicate n 0)).toArray 3 (b := wz.heap.size) rfl)
  clear HY
  generalize hvz : wz.heap.size = bv at *
  generalize hvb : wz.alloc (.cells (ivs (List.replicate n 0)).toArray 3) = vb at *
  clear hvb hvz
  refine hK.out _ _ (HYv.out.boxi 1 rfl) (fun hSn => ?_)
  clear hK K hSw0
  have hSw0 := hSn
  clear hSn
  refine Kn.takeR 3 ⟨some 10, _, _, _, _, _⟩ fun K hK => ?_
  have hmk := HMU.out
  go_simp
  clear hmk
  have HYvu := Lib.hid (HYv.out.newB (usV (List.replicate n ⟨0, 0⟩)).toArray 208 (b := vb.heap.size) rfl)
  clear HYv
  generalize hvz : vb.heap.size = bu at *
  generalize hvb : vb.alloc (.cells (usV (List.replicate n ⟨0, 0⟩)).toArray 208) = va at *
  clear hvb hvz
  refine hK.out _ _ (HYvu.out.boxi 2 rfl) (fun hSn => ?_)
  clear hK K hSw0
  have hSw0 := hSn
  clear hSn
  refine Kn.takeS 7 ⟨some 14, _, _, _, _, _⟩ ?_
  refine Kn.takeR 8 ⟨some 15, _, _, _, _, _⟩ fun K hK => ?_
  go_simp
  have HYvut := Lib.hid (HYvu.out.newB #[.int .i64 cf.b, .int .i64 cf.s, .int .i64 cf.l, .slice (some ⟨bu, 0, none⟩) n n, .slice (some ⟨bv, 0, none⟩) n n] 233 (b := va.heap.size) rfl)
  clear HYvu
  generalize hvz : va.heap.size = bt at *
  generalize hvb : va.alloc (.cells #[.int .i64 cf.b, .int .i64 cf.s, .int .i64 cf.l, .slice (some ⟨bu, 0, none⟩) n n, .slice (some ⟨bv, 0, none⟩) n n] 233) = vt at *
  clear hvb hvz
  refine hK.out _ _ (HYvut.out.boxi 3 rfl) (fun hSn => ?_)
  clear hK K hSw0
  have hSw0 := hSn
  clear hSn
  refine Kn.takeS 9 ⟨some 5, _, _, _, _, _⟩ ?_
  refine wpAnyH_done (by kernel_rfl) ?_ _
  clear hSw0
  have HE := Lib.hid ((HYvut.out.permL (L' := (f2, [.int .i64 cf.b, .int .i64 cf.s, .int .i64 cf.l]) :: (bt, [.int .i64 cf.b, .int .i64 cf.s, .int .i64 cf.l, .slice (some ⟨bu, 0, none⟩) n n, .slice (some ⟨bv, 0, none⟩) n n]) :: (bu, usV (List.replicate n ⟨0, 0⟩)) :: (bv, ivs (List.replicate n 0)) :: L) (perm_any (fun c => by simp only [List.map_cons, List.sum_cons]; omega))).ldrop)
  go_wp2
  go_ret
  exact ⟨⟨bt, bu, bv, n⟩, rfl, HNZ.out.symm, HE.out⟩
 exact AllReadyH.nil
/-- where the reference's writer lies -/
def XB (r : RD) (q : RT) (c : Cf) (ps : Ps) (vi vb : Value) : List Value := [.pointer (some ⟨r.M, 0, none⟩), .int .i64 c.b, .int .i64 c.s, .int .i64 c.l, .pointer (some ⟨q.T, 0, none⟩), .int .i64 ps.s, .int .i64 ps.o, .int .i64 ps.l, .int .i64 ps.p, .int .i64 ps.m, vi, vb]
def RNewSays (w0 : World) (p : PD) (r : RD) (d e : Dk) (q : RT) (c : Cf) (ps : Ps) (L : List (Nat × List Value)) (G : List Gs) (F : List (World → Prop)) : Bool → Ending → World → Prop
 | true, en, w' => ∃ X, en = .returned (.pointer (some ⟨X, 0, none⟩)) ∧ Duo w0 w' p r d e ⟨(X, XB r q c ps (.slice none 0 0) (.slice none 0 0)) :: L, G, F⟩
 | false, en, w' => en = .returned (.pointer none) ∧ Duo w0 w' p r d e ⟨L, G, F⟩
set_option maxRecDepth 100000 in
set_option maxHeartbeats 4000000 in
theorem rw_new_any (w0 w : World) (p : PD) (r : RD) (d e : Dk) (q : RT) (ps : Ps) (cf : Cf) (L : List (Nat × List Value)) (G : List Gs) (F : List (World → Prop)) (h : Duo w0 w p r d e ⟨L, G, F⟩) (hc : cf.Ok) :
  Calls Tryz.prog 116 #[.pointer (some ⟨r.M, 0, none⟩), .agg #[.int .i64 cf.b, .int .i64 cf.s, .int .i64 cf.l], .pointer (some ⟨q.T, 0, none⟩), .agg #[.int .i64 ps.s, .int .i64 ps.o, .int .i64 ps.l, .int .i64 ps.p, .int .i64 ps.m]] w (RNewSays w0 p r d e q cf ps L G F (posMay cf.s cf.l ps.s ps.o ps.l ps.p ps.m)) := by
 have hs1 : (w.alloc (.cells #[.int .i64 cf.b, .int .i64 cf.s, .int .i64 cf.l] 25)).heap.size = w.heap.size + 1 := by simp
 have HD := Lib.hid ((h.newB #[.int .i64 cf.b, .int .i64 cf.s, .int .i64 cf.l] 25 rfl).newB #[.int .i64 ps.s, .int .i64 ps.o, .int .i64 ps.l, .int .i64 ps.p, .int .i64 ps.m] 32 hs1)
 have HC := Lib.hid hc
 clear h hc
 go_enter Tryz.func116, Tryz.ntmps116
 go_wp2_with fail
 (try rw [hs1])
 generalize hz : (w.alloc (.cells #[.int .i64 cf.b, .int .i64 cf.s, .int .i64 cf.l] 25)).alloc (.cells #[.int .i64 ps.s, .int .i64 ps.o, .int .i64 ps.l, .int .i64 ps.p, .int .i64 ps.m] 32) = w1 at *
 generalize w.heap.size = f5 at *
 generalize f5 + 1 = f7 at *
 clear hz hs1
 refine (ref_posmay_any cf.b cf.s cf.l ps.s ps.o ps.l ps.p ps.m _ HC.out).mono ?_
 rintro en w2 ⟨rfl, hO⟩
 have HD2 := Lib.hid (HD.out.keep0 hO)
 obtain ⟨y0, y1, y2, y3, y4⟩ := own5 (HD2.out.boxi 0 rfl)
 obtain ⟨x0, x1, x2⟩ := own3 (HD2.out.boxi 1 rfl)
 clear hO HD
 obtain ⟨mb, hmb⟩ : ∃ x, posMay cf.s cf.l ps.s ps.o ps.l ps.p ps.m = x := ⟨_, rfl⟩
 have HMB := Lib.hid hmb
 rw [hmb]
 clear hmb
 cases mb with
 | true =>
  have HE := Lib.hid (HD2.out.ldrop.ldrop.newB #[.pointer (some ⟨r.M, 0, none⟩), .int .i64 cf.b, .int .i64 cf.s, .int .i64 cf.l, .pointer (some ⟨q.T, 0, none⟩), .int .i64 ps.s, .int .i64 ps.o, .int .i64 ps.l, .int .i64 ps.p, .int .i64 ps.m, .slice none 0 0, .slice none 0 0] 195 rfl)
  go_wp2
  go_ret
  rw [HMB.out]
  exact ⟨_, rfl, HE.out⟩
 | false =>
  go_wp2
  go_ret
  rw [HMB.out]
  exact ⟨rfl, HD2.out.ldrop.ldrop⟩
end Go.Proofs.YtgcfdjcpcclcjaaGreat
namespace Go.Kn
open Go Go.RowKit
section
variable {c : Cf} {z : Wr} {d : Dk} {a : Int} {b : List UInt8} {n : Nat} {i : It}
theorem wrs_held (h : Rdy d) (ha : 0 ≤ a) (hb : 64 * n ≤ b.length) (hr : a + n ≤ d.safe.length) : ∀ i, i ≤ n → (d.wrs a b i).held.length = d.held.length + i
 | 0, _ => rfl
 | i + 1, hi => by
  obtain ⟨h1, _, h3⟩ := h.wrs ha hb hr i (by omega)
  have e := Dk.write_go (d := d.wrs a b i) (a := a + (i : Nat)) (b := (b.drop (64 * i)).take 64) h1.live (has_of (by omega) (by rw [h3]; omega)) (by rw [List.length_take, List.length_drop]; omega)
  show ((d.wrs a b i).write (a + (i : Nat)) ((b.drop (64 * i)).take 64)).1.held.length = _
  rw [e]
  show ((d.wrs a b i).held ++ [_]).length = _
  rw [List.length_append, wrs_held h ha hb hr i (by omega)]
  simp
  omega
theorem seqW_wrs (h : Rdy d) (ha : 0 ≤ a) (hb : 64 * n ≤ b.length) (hr : a + n ≤ d.safe.length) : seqW d a (rows64 b n) = (d.wrs a b n, 0) := by
 have key : ∀ i, i ≤ n → seqW d a ((rows64 b n).take i) = (d.wrs a b i, 0) := by
  intro i
  induction i with
  | zero => intro _; rfl
  | succ i ih =>
   intro hi
   obtain ⟨h1, _, h3⟩ := h.wrs ha hb hr i (by omega)
   have e := Dk.write_go (d := d.wrs a b i) (a := a + (i : Nat)) (b := (b.drop (64 * i)).take 64) h1.live (has_of (by omega) (by rw [h3]; omega)) (by rw [List.length_take, List.length_drop]; omega)
   have hl : ((rows64 b n).take i).length = i := by rw [List.length_take, rows64_len]; omega
   rw [rows64_take b n i (by omega), seqW_ok _ _ _ _ _ (ih (by omega)), hl, seqW_go _ _ _ _ _ e]
   show ((d.wrs a b i).wrote _ _, (0 : Int)) = (((d.wrs a b i).write (a + (i : Nat)) ((b.drop (64 * i)).take 64)).1, 0)
   rw [e]
 have := key n (Nat.le_refl _)
 rwa [List.take_of_length_le (by rw [rows64_len]; omega)] at this
/-- a writer that does its work: a disk that stands ready, a place in the log, items that fit -/
structure Hw (c : Cf) (z : Wr) : Prop where
 cok : c.Ok
 rdy : Rdy z.d
 len : (z.d.safe.length : Int) = c.sectors
 s : 0 ≤ z.p.s ∧ z.p.s ≤ c.s - 1
 o : 0 ≤ z.p.o ∧ z.p.o ≤ c.l - 1
 l : 1 ≤ z.p.l
 pp : 0 ≤ z.p.p ∧ z.p.p ≤ 4294967295
 m : 1 ≤ z.p.m ∧ z.p.m ≤ 2147483647
 may : z.its.all It.may = true
 k7 : ∀ i ∈ z.its, i.k ≠ 7
 ld : z.bl.length = loads z.its
 f64 : full64 z.bl = true
 six : z.its.length ≤ 6
 fit : z.its = [] ∨ behind z.p.o z.bl.length ≤ c.l - 1
/-- the record that waits -/
def Wr.rcd (z : Wr) : Rc := ⟨z.p.m, z.p.l, z.p.p, z.its, z.bl⟩
theorem Hw.recMay (h : Hw c z) (hl : z.p.l ≤ 2147483647) (hn : z.its ≠ []) : rcMay z.rcd = true := by
 have h0 : z.its.length ≠ 0 := fun e => hn (List.length_eq_zero_iff.1 e)
 exact rcMay_iff.2 ⟨⟨h.m, ⟨h.l, hl⟩, h.pp, ⟨by show 1 ≤ z.its.length; omega, h.six⟩⟩, h.may, h.ld, h.f64⟩
/-- the segment's first sector, its head laid if there was none -/
theorem begin_go (hc : c.Ok) (hr : Rdy z.d) (hlen : (z.d.safe.length : Int) = c.sectors) (hs : 0 ≤ z.p.s ∧ z.p.s ≤ c.s - 1) (hl : 1 ≤ z.p.l ∧ z.p.l ≤ 2147483647) (hp : 0 ≤ z.p.p ∧ z.p.p ≤ 4294967295) (hm : 1 ≤ z.p.m ∧ z.p.m ≤ 2147483647) (ho : 0 ≤ z.p.o) :
  ∃ d, z.begin_ c = ({ z with d := d, p := { z.p with o := max z.p.o 1 } }, 0) ∧ Rdy d ∧ (d.safe.length : Int) = c.sectors ∧ d.held.length = z.d.held.length + (if z.p.o = 0 then 1 else 0) ∧ d.now = (if z.p.o = 0 then z.d.now.set (c.at_ z.p.s).toNat (headB z.p) else z.d.now) := by
 obtain ⟨g1, g2, g3⟩ := Cf.sec c hc z.p.s hs.1 hs.2
 have hc2 := hc.2.2
 have hs8 := hc.2.1
 by_cases h0 : 0 < z.p.o
 ·refine ⟨z.d, ?_, hr, hlen, by rw [if_neg (by omega)]; rfl, by rw [if_neg (by omega)]⟩
  unfold Wr.begin_
  rw [if_pos h0, show max z.p.o 1 = z.p.o from by omega]
 ·have hmay : headMay z.p.head = true := head_may (s := z.p.s) (o := z.p.o) (l := z.p.l) (p := z.p.p) (m := z.p.m) ⟨hs.1, by omega⟩ hl hp hm
  have hen : encHead z.p.head = some (headB z.p) := by unfold encHead headB; rw [if_pos hmay]
  have e := Dk.write_go (d := z.d) (a := c.at_ z.p.s) (b := headB z.p) hr.live (has_of (by omega) (by omega)) (headB_length _)
  obtain ⟨k1, k2, k3⟩ := hr.write (a := c.at_ z.p.s) (b := headB z.p) (has_of (by omega) (by omega)) (headB_length _)
  rw [e] at k1 k2 k3
  refine ⟨z.d.wrote (c.at_ z.p.s) (headB z.p), ?_, k1, by rw [k3]; exact hlen, ?_, ?_⟩
  ·unfold Wr.begin_
   rw [if_neg h0, hen]
   simp only [e, if_true]
   rw [show max z.p.o 1 = 1 from by omega]
  ·rw [if_pos (by omega)]
   show (z.d.held ++ [_]).length = _
   simp
  ·rw [if_pos (by omega)]
   exact k2
theorem write_go (hc : c.Ok) (hr : Rdy z.d) (hlen : (z.d.safe.length : Int) = c.sectors) (hs : 0 ≤ z.p.s ∧ z.p.s ≤ c.s - 1) (ho : 1 ≤ z.p.o) {its : List It} {bl : List (List UInt8)} (hm : rcMay ⟨z.p.m, z.p.l, z.p.p, its, bl⟩ = true) (hf : behind z.p.o bl.length ≤ c.l) :
  ∃ d, z.write c its bl = (⟨d, z.t.touch z.p.s z.p.l, ⟨z.p.s, behind z.p.o bl.length, z.p.l + 1, (rcSum ⟨z.p.m, z.p.l, z.p.p, its, bl⟩ : Nat), z.p.m⟩, z.its, z.bl⟩, 0) ∧ Rdy d ∧ (d.safe.length : Int) = c.sectors ∧ d.held.length = z.d.held.length + 1 + bl.length ∧
   d.now = setSecs z.d.now (c.at_ z.p.s + z.p.o).toNat (rcBytes ⟨z.p.m, z.p.l, z.p.p, its, bl⟩) (1 + bl.length) := by
 obtain ⟨g1, g2, g3⟩ := Cf.sec c hc z.p.s hs.1 hs.2
 have hen := enc_rc hm
 have hbl := rcBytes_length hm
 have hb : behind z.p.o bl.length = z.p.o + 1 + (bl.length : Int) := by unfold behind; omega
 rw [hb] at hf
 have hbl2 : (rcBytes ⟨z.p.m, z.p.l, z.p.p, its, bl⟩).length = 64 * (1 + bl.length) := hbl
 have hdiv : (rcBytes ⟨z.p.m, z.p.l, z.p.p, its, bl⟩).length / 64 = 1 + bl.length := by omega
 have hrr : c.at_ z.p.s + z.p.o + ((1 + bl.length : Nat) : Int) ≤ z.d.safe.length := by push_cast; omega
 have e := seqW_wrs hr (a := c.at_ z.p.s + z.p.o) (b := rcBytes ⟨z.p.m, z.p.l, z.p.p, its, bl⟩) (n := 1 + bl.length) (by omega) (by omega) hrr
 obtain ⟨k1, k2, k3⟩ := hr.wrs (a := c.at_ z.p.s + z.p.o) (b := rcBytes ⟨z.p.m, z.p.l, z.p.p, its, bl⟩) (n := 1 + bl.length) (by omega) (by omega) hrr (1 + bl.length) (Nat.le_refl _)
 refine ⟨_, ?_, k1, by rw [k3]; exact hlen, ?_, k2⟩
 ·unfold Wr.write
  rw [hen]
  simp only [hdiv, e, if_true]
 ·rw [wrs_held hr (by omega) (by omega) hrr _ (Nat.le_refl _)]
  omega
theorem Hw.emit (h : Hw c z) (hl : z.p.l ≤ 2147483647) (hn : z.its ≠ []) :
  ∃ d, z.emit c = (⟨d, z.t.touch z.p.s z.p.l, ⟨z.p.s, behind z.p.o z.bl.length, z.p.l + 1, (rcSum z.rcd : Nat), z.p.m⟩, [], []⟩, 0) ∧ Rdy d ∧ (d.safe.length : Int) = c.sectors ∧ d.held.length = z.d.held.length + (if z.p.o = 0 then 1 else 0) + 1 + z.bl.length ∧
   d.now = setSecs (if z.p.o = 0 then z.d.now.set (c.at_ z.p.s).toNat (headB z.p) else z.d.now) (c.at_ z.p.s + max z.p.o 1).toNat (rcBytes z.rcd) (1 + z.bl.length) := by
 obtain ⟨d1, e1, r1, l1, n1, w1⟩ := begin_go h.cok h.rdy h.len h.s ⟨h.l, hl⟩ h.pp h.m h.o.1
 have hf := h.fit.resolve_left hn
 have hb : behind (max z.p.o 1) z.bl.length = behind z.p.o z.bl.length := by unfold behind; omega
 obtain ⟨d2, e2, r2, l2, n2, w2⟩ := write_go (z := ⟨d1, z.t, { z.p with o := max z.p.o 1 }, z.its, z.bl⟩) (its := z.its) (bl := z.bl) h.cok r1 l1 h.s (by show 1 ≤ max _ _; omega) (h.recMay hl hn) (by show behind (max z.p.o 1) _ ≤ _; rw [hb]; omega)
 refine ⟨d2, ?_, r2, l2, by rw [n2, n1], by rw [w2, w1]; rfl⟩
 unfold Wr.emit
 rw [if_neg (by rw [h.rdy.live.off]; simp), if_neg hn, e1]
 simp only [ne_eq, not_true_eq_false, if_false]
 rw [e2]
 simp only [not_true_eq_false, if_false, hb]
 rfl
theorem Hw.emit0 (h : Hw c z) (hn : z.its = []) : z.emit c = (z, 0) := by
 unfold Wr.emit
 rw [if_neg (by rw [h.rdy.live.off]; simp), if_pos hn]
theorem Hw.turn (h : Hw c z) {s : Int} (hs : 0 ≤ s ∧ s ≤ c.s - 1) (hl : z.p.l ≤ 2147483646) (ho : 1 ≤ z.p.o) :
  ∃ d, z.turn c s = (⟨d, (z.t.touch z.p.s z.p.l).shut z.p.s, ⟨s, 1, z.p.l + 1, (rcSum (nextR z.p s) : Nat), z.p.m⟩, z.its, z.bl⟩, 0) ∧ Rdy d ∧ (d.safe.length : Int) = c.sectors ∧ d.held.length = z.d.held.length + 2 ∧
   d.now = (setSecs z.d.now (c.at_ z.p.s + z.p.o).toNat (rcBytes (nextR z.p s)) 1).set (c.at_ s).toNat (headB (nextP z.p s 0)) := by
 have hs8 := h.cok.2.1
 obtain ⟨k1, _⟩ := nextR_ok (q := z.p) (v := s) h.m ⟨h.l, by omega⟩ h.pp ⟨hs.1, by omega⟩
 have hb : behind z.p.o 0 = z.p.o + 1 := by unfold behind; omega
 have ho2 := h.o.2
 obtain ⟨d1, e1, r1, l1, n1, w1⟩ := write_go (z := z) (its := [⟨7, 0, 0, s⟩]) (bl := []) h.cok h.rdy h.len h.s ho k1 (by show behind _ 0 ≤ _; rw [hb]; omega)
 have hsum : rcSum (nextR z.p s) < 4294967296 := rcSum_lt2 k1
 have hsum2 : rcSum ⟨z.p.m, z.p.l, z.p.p, [⟨7, 0, 0, s⟩], []⟩ = rcSum (nextR z.p s) := rfl
 have hll := h.l
 obtain ⟨d2, e2, r2, l2, n2, w2⟩ := begin_go (z := ⟨d1, (z.t.touch z.p.s z.p.l).shut z.p.s, ⟨s, 0, z.p.l + 1, (rcSum (nextR z.p s) : Nat), z.p.m⟩, z.its, z.bl⟩) h.cok r1 l1 hs ⟨by show 1 ≤ z.p.l + 1; omega, by show z.p.l + 1 ≤ _; omega⟩ ⟨by show (0 : Int) ≤ (rcSum _ : Nat); omega, by show ((rcSum _ : Nat) : Int) ≤ _; omega⟩ h.m (Int.le_refl 0)
 refine ⟨d2, ?_, r2, l2, ?_, ?_⟩
 ·unfold Wr.turn
  rw [e1]
  simp only [ne_eq, not_true_eq_false, if_false, hsum2]
  rw [e2]
  rfl
 ·rw [n2]
  show d1.held.length + 1 = _
  rw [n1]
  rfl
 ·rw [w2]
  show d1.now.set _ _ = _
  rw [w1]
  rfl
/-- an item more -/
def Wr.put (z : Wr) (i : It) (b : List UInt8) : Wr := { z with its := z.its ++ [i], bl := z.bl ++ (if i.loaded = true then [b] else []) }
def Wr.vok (i : It) (b : List UInt8) : Prop := i.may = true ∧ i.k ≠ 7 ∧ b.length = (if i.loaded = true then 64 else 0)
def nbl (i : It) : Nat := if i.loaded = true then 1 else 0
theorem add_eq (hv : Wr.vok i b) (hoff : z.d.off = false) (sp : Bool) : z.add c i b sp = if (z.room c (nbl i) sp).2 ≠ 0 then ((z.room c (nbl i) sp).1, 0, (z.room c (nbl i) sp).2) else ((z.room c (nbl i) sp).1.put i b, (if i.loaded = true then Wr.first c (z.room c (nbl i) sp).1 + ((z.room c (nbl i) sp).1.bl.length : Int) else 0), 0) := by
 obtain ⟨v1, v2, v3⟩ := hv
 unfold Wr.add nbl Wr.put
 rw [if_neg (by rw [v1, decide_eq_true v2, decide_eq_true v3]; simp), if_neg (by rw [hoff]; simp)]
 cases hld : i.loaded <;> simp
theorem put_ok (h : Hw c z) (hv : Wr.vok i b) (h6 : z.its.length + 1 ≤ 6) (hf : behind z.p.o (z.bl.length + nbl i) ≤ c.l - 1) : Hw c (z.put i b) := by
 obtain ⟨v1, v2, v3⟩ := hv
 have hbl : (z.put i b).bl.length = z.bl.length + nbl i := by
  unfold Wr.put nbl
  cases i.loaded <;> simp
 refine { cok := h.cok, rdy := h.rdy, len := h.len, s := h.s, o := h.o, l := h.l, pp := h.pp, m := h.m, may := ?_, k7 := ?_, ld := ?_, f64 := ?_, six := ?_, fit := .inr ?_ }
 ·show (z.its ++ [i]).all It.may = true
  rw [List.all_append, h.may]
  simp [v1]
 ·intro x hx
  rcases List.mem_append.1 hx with hx | hx
  ·exact h.k7 x hx
  ·rw [List.mem_singleton.1 hx]; exact v2
 ·rw [hbl, h.ld]
  show _ = loads (z.its ++ [i])
  unfold loads nbl
  rw [List.filter_append, List.length_append]
  cases hld : i.loaded <;> simp [hld]
 ·show full64 (z.bl ++ _) = true
  have := h.f64
  unfold full64 at this ⊢
  rw [List.all_append, this]
  cases hld : i.loaded
  ·rfl
  ·rw [hld] at v3
   simp [v3]
 ·show (z.its ++ [i]).length ≤ 6
  simpa using h6
 ·rw [hbl]
  exact hf
end
end Go.Kn
namespace Go.Kn
open Go Go.RowKit
/-- the segments' states -/
def Tb.sts (t : Tb) : List Int := t.us.map Us.st
section
variable {t : Tb} {s : Int}
theorem sts_len : t.sts.length = t.us.length := by unfold Tb.sts; simp
theorem use_st (t : Tb) (s : Int) : (t.use s).st = t.sts.getD s.toNat 0 := by
 unfold Tb.use Tb.sts
 rw [List.getD_eq_getElem?_getD, List.getD_eq_getElem?_getD, List.getElem?_map]
 cases t.us[s.toNat]? <;> rfl
theorem set_self {l : List Int} {i : Nat} : l.set i (l.getD i 0) = l := by
 apply List.ext_getElem?
 intro k
 rw [List.getElem?_set]
 split
 ·rename_i h
  subst h
  split
  ·rename_i h2
   rw [List.getD_eq_getElem?_getD, List.getElem?_eq_getElem h2]
   rfl
  ·rename_i h2
   rw [List.getElem?_eq_none (by omega)]
 ·rfl
theorem sts_touch (t : Tb) (s x : Int) : (t.touch s x).sts = t.sts := by
 unfold Tb.touch
 split
 ·show List.map Us.st (t.us.set s.toNat ⟨(t.use s).st, x⟩) = _
  rw [List.map_set]
  show t.sts.set s.toNat (t.use s).st = t.sts
  rw [use_st, set_self]
 ·rfl
theorem hasS_iff : t.has s = true ↔ 0 ≤ s ∧ s < t.sts.length := by
 unfold Tb.has
 rw [sts_len]
 exact decide_eq_true_iff
theorem sts_grab (h : 0 ≤ s ∧ s < t.sts.length) : (t.grab s).sts = if t.sts.getD s.toNat 0 = 0 then t.sts.set s.toNat 1 else t.sts := by
 unfold Tb.grab Tb.grabs
 rw [hasS_iff.2 h, use_st]
 by_cases h0 : t.sts.getD s.toNat 0 = 0
 ·rw [if_pos h0, if_pos (by simp only [h0]; rfl)]
  show List.map Us.st (t.us.set _ _) = _
  rw [List.map_set]
  rfl
 ·rw [if_neg h0, if_neg (by rw [Bool.true_and, decide_eq_true_eq]; exact h0)]
theorem sts_shut (h : 0 ≤ s ∧ s < t.sts.length) : (t.shut s).sts = if t.sts.getD s.toNat 0 = 1 then t.sts.set s.toNat 2 else t.sts := by
 unfold Tb.shut
 rw [hasS_iff.2 h, use_st]
 by_cases h0 : t.sts.getD s.toNat 0 = 1
 ·rw [if_pos h0, if_pos (by simp only [h0]; rfl)]
  show List.map Us.st (t.us.set _ _) = _
  rw [List.map_set]
  rfl
 ·rw [if_neg h0, if_neg (by rw [Bool.true_and, decide_eq_true_eq]; exact h0)]
def fr0 (x : Int) : Bool := decide (x = 0)
theorem free_sts (t : Tb) : t.free = t.sts.countP fr0 := by
 unfold Tb.free Tb.sts
 rw [List.countP_map]
 rfl
theorem idx_sts (l : List Us) : Tb.idx l = match (l.map Us.st).findIdx? fr0 with
  | some i => (i : Nat)
  | none => -1 := by
 unfold Tb.idx
 rw [List.findIdx?_map]
 rfl
theorem idx_some {k : Nat} (h : Tb.idx t.us = (k : Nat)) : k < t.sts.length ∧ t.sts.getD k 0 = 0 := by
 rw [idx_sts] at h
 cases hf : (t.us.map Us.st).findIdx? fr0 with
 | none => rw [hf] at h; simp only at h; omega
 | some i =>
  rw [hf] at h
  simp only at h
  obtain rfl : i = k := by omega
  obtain ⟨h1, h2, _⟩ := List.findIdx?_eq_some_iff_getElem.1 hf
  refine ⟨h1, ?_⟩
  rw [List.getD_eq_getElem?_getD]
  show ((t.us.map Us.st)[i]?).getD 0 = 0
  rw [List.getElem?_eq_getElem h1]
  unfold fr0 at h2
  simpa using h2
theorem idx_free (h : t.free ≠ 0) : ∃ k : Nat, Tb.idx t.us = (k : Nat) := by
 rw [free_sts] at h
 rw [idx_sts]
 cases hf : (t.us.map Us.st).findIdx? fr0 with
 | none =>
  have := List.findIdx?_eq_none_iff.1 hf
  exact absurd (List.countP_eq_zero.2 fun x hx => by rw [this x hx]; simp) h
 | some i => exact ⟨i, rfl⟩
theorem live_ok {n : Nat} (h : t.Ok n) : t.sts.length = n := by rw [sts_len]; exact h.u
end
section
variable {c : Cf} {z : Wr} {i : It} {b : List UInt8} {n : Nat} {sp : Bool}
theorem fits_iff {o : Int} {k m : Nat} : Wr.fits c o k m = true ↔ k ≤ 6 ∧ behind o m < c.l := by
 unfold Wr.fits
 rw [Bool.and_eq_true, decide_eq_true_iff, decide_eq_true_iff]
/-- where a block of the next item will lie -/
def Wr.at_ (c : Cf) (z : Wr) (i : It) : Int := if i.loaded = true then Wr.first c z + (z.bl.length : Int) else 0
theorem add_fit (h : Hw c z) (hv : Wr.vok i b) (h6 : z.its.length + 1 ≤ 6) (hf : behind z.p.o (z.bl.length + nbl i) < c.l) : z.add c i b sp = (z.put i b, z.at_ c i, 0) ∧ Hw c (z.put i b) := by
 have e : z.room c (nbl i) sp = (z, 0) := by
  unfold Wr.room
  exact if_pos (fits_iff.2 ⟨h6, hf⟩)
 refine ⟨?_, put_ok h hv h6 (by omega)⟩
 rw [add_eq hv h.rdy.live.off, e]
 rfl
/-- what waits is emitted, the item waits -/
theorem add_emit (h : Hw c z) (hv : Wr.vok i b) (hl : z.p.l ≤ 2147483647) (h1 : ¬ (z.its.length + 1 ≤ 6 ∧ behind z.p.o (z.bl.length + nbl i) < c.l)) (hn : z.its ≠ []) (h2 : behind (behind z.p.o z.bl.length) (nbl i) < c.l) :
  ∃ y, z.emit c = (y, 0) ∧ Hw c y ∧ y.its = [] ∧ y.bl = [] ∧ z.add c i b sp = (y.put i b, y.at_ c i, 0) ∧ Hw c (y.put i b) := by
 obtain ⟨d, e1, e2, e3, _⟩ := h.emit hl hn
 have hr := rcSum_lt2 (h.recMay hl hn)
 have hob := h.o.1
 have hll := h.l
 have hfit := h.fit.resolve_left hn
 have hy : Hw c ⟨d, z.t.touch z.p.s z.p.l, ⟨z.p.s, behind z.p.o z.bl.length, z.p.l + 1, (rcSum z.rcd : Nat), z.p.m⟩, [], []⟩ :=
  { cok := h.cok, rdy := e2, len := e3, s := h.s, o := ⟨by show 0 ≤ behind _ _; unfold behind; omega, hfit⟩, l := by show 1 ≤ z.p.l + 1; omega, pp := ⟨by show (0 : Int) ≤ (rcSum _ : Nat); omega, by show ((rcSum _ : Nat) : Int) ≤ _; omega⟩, m := h.m, may := rfl, k7 := by simp, ld := rfl, f64 := rfl, six := by simp, fit := .inl rfl }
 have hrm : z.room c (nbl i) sp = z.emit c := by
  unfold Wr.room
  rw [if_neg (fun hh => h1 (fits_iff.1 hh)), if_pos (fits_iff.2 ⟨by decide, by rw [if_neg hn]; exact h2⟩)]
 refine ⟨_, e1, hy, rfl, rfl, ?_, put_ok hy hv (by show 0 + 1 ≤ 6; decide) (by show behind (behind _ _) (0 + nbl i) ≤ _; rw [Nat.zero_add]; omega)⟩
 rw [add_eq hv h.rdy.live.off, hrm, e1]
 rfl
theorem add_none (h : Hw c z) (hv : Wr.vok i b) (h1 : ¬ (z.its.length + 1 ≤ 6 ∧ behind z.p.o (z.bl.length + nbl i) < c.l)) (h2 : ¬ behind (if z.its = [] then z.p.o else behind z.p.o z.bl.length) (nbl i) < c.l) (h3 : z.t.takes sp = false) : z.add c i b sp = (z, 0, 6) := by
 have hrm : z.room c (nbl i) sp = (z, 6) := by
  unfold Wr.room
  rw [if_neg (fun hh => h1 (fits_iff.1 hh)), if_neg (fun hh => h2 (fits_iff.1 hh).2), if_neg (by rw [h3]; simp)]
 rw [add_eq hv h.rdy.live.off, hrm]
 rfl
/-- what waits is emitted, the next segment told, the item waits there -/
theorem add_turn (h : Hw c z) (hv : Wr.vok i b) (hl : z.p.l ≤ 2147483645) (h1 : ¬ (z.its.length + 1 ≤ 6 ∧ behind z.p.o (z.bl.length + nbl i) < c.l)) (h2 : ¬ behind (if z.its = [] then z.p.o else behind z.p.o z.bl.length) (nbl i) < c.l) (h3 : z.t.takes sp = true) {k : Nat} (hk : Tb.idx z.t.us = (k : Nat)) (hks : (k : Int) ≤ c.s - 1) :
  ∃ y x, (y = { z with t := z.t.grab k } ∧ z.its = [] ∨ z.its ≠ [] ∧ Wr.emit c { z with t := z.t.grab k } = (y, 0)) ∧ Hw c y ∧ y.its = [] ∧ y.bl = [] ∧ y.p.o = (if z.its = [] then z.p.o else behind z.p.o z.bl.length) ∧ y.p.l ≤ z.p.l + 1 ∧ y.p.s = z.p.s ∧ y.t.sts = (z.t.grab k).sts ∧ y.d.held.length ≤ z.d.held.length + 2 + z.bl.length ∧ y.turn c k = (x, 0) ∧ Hw c x ∧ x.its = [] ∧ x.bl = [] ∧ x.p.o = 1 ∧ x.p.s = k ∧ x.p.l = y.p.l + 1 ∧ x.t = (y.t.touch y.p.s y.p.l).shut y.p.s ∧ x.d.held.length = y.d.held.length + 2 ∧
   z.add c i b sp = (x.put i b, x.at_ c i, 0) ∧ Hw c (x.put i b) := by
 have hcl := h.cok.2.2
 have hn1 : nbl i ≤ 1 := by unfold nbl; split <;> omega
 have hg : Hw c { z with t := z.t.grab k } := { cok := h.cok, rdy := h.rdy, len := h.len, s := h.s, o := h.o, l := h.l, pp := h.pp, m := h.m, may := h.may, k7 := h.k7, ld := h.ld, f64 := h.f64, six := h.six, fit := h.fit }
 have hy : ∃ y, (y = { z with t := z.t.grab k } ∧ z.its = [] ∨ z.its ≠ [] ∧ Wr.emit c { z with t := z.t.grab k } = (y, 0)) ∧ Wr.emit c { z with t := z.t.grab k } = (y, 0) ∧ Hw c y ∧ y.its = [] ∧ y.bl = [] ∧ y.p.o = (if z.its = [] then z.p.o else behind z.p.o z.bl.length) ∧ y.p.l ≤ z.p.l + 1 ∧ y.p.s = z.p.s ∧ y.t.sts = (z.t.grab k).sts ∧ y.d.held.length ≤ z.d.held.length + 2 + z.bl.length := by
  by_cases hn : z.its = []
  ·have hb : z.bl = [] := List.length_eq_zero_iff.1 (by rw [h.ld, hn]; rfl)
   exact ⟨_, .inl ⟨rfl, hn⟩, hg.emit0 hn, hg, hn, hb, by rw [if_pos hn], by show z.p.l ≤ z.p.l + 1; omega, rfl, rfl, by show z.d.held.length ≤ _; omega⟩
  ·obtain ⟨d, e1, e2, e3, e4, _⟩ := hg.emit (by show z.p.l ≤ _; omega) hn
   have hr := rcSum_lt2 (h.recMay (by omega) hn)
   have hr2 : rcSum ({ z with t := z.t.grab k } : Wr).rcd < 4294967296 := hr
   have hob := h.o.1
   have hll := h.l
   have hfit := h.fit.resolve_left hn
   refine ⟨_, .inr ⟨hn, e1⟩, e1, { cok := h.cok, rdy := e2, len := e3, s := h.s, o := ⟨by show 0 ≤ behind _ _; unfold behind; omega, hfit⟩, l := by show 1 ≤ z.p.l + 1; omega, pp := ⟨by show (0 : Int) ≤ (rcSum _ : Nat); omega, by show ((rcSum _ : Nat) : Int) ≤ _; omega⟩, m := h.m, may := rfl, k7 := by simp, ld := rfl, f64 := rfl, six := by simp, fit := .inl rfl }, rfl, rfl, by rw [if_neg hn], Int.le_refl _, rfl, ?_, ?_⟩
   ·show ((z.t.grab k).touch z.p.s z.p.l).sts = _
    rw [sts_touch]
   ·show d.held.length ≤ _
    rw [e4]
    show z.d.held.length + (if z.p.o = 0 then 1 else 0) + 1 + z.bl.length ≤ _
    split <;> omega
 obtain ⟨y, y1, y2, y3, y4, y5, y6, y7, y8, y9, y10⟩ := hy
 have ho : 1 ≤ y.p.o := by
  rw [← y6] at h2
  unfold behind at h2
  omega
 obtain ⟨d, e1, e2, e3, e4, _⟩ := y3.turn (s := (k : Int)) ⟨by omega, hks⟩ (by omega) ho
 have hr2 : rcSum (nextR y.p k) < 4294967296 := rcSum_lt2 (nextR_ok (q := y.p) (v := k) y3.m ⟨y3.l, by omega⟩ y3.pp ⟨by omega, by have := h.cok.2.1; omega⟩).1
 have hyl := y3.l
 have hx : Hw c ⟨d, (y.t.touch y.p.s y.p.l).shut y.p.s, ⟨k, 1, y.p.l + 1, (rcSum (nextR y.p k) : Nat), y.p.m⟩, y.its, y.bl⟩ :=
  { cok := h.cok, rdy := e2, len := e3, s := ⟨by show (0 : Int) ≤ k; omega, hks⟩, o := ⟨by show (0 : Int) ≤ 1; decide, by show (1 : Int) ≤ _; omega⟩, l := by show 1 ≤ y.p.l + 1; omega, pp := ⟨by show (0 : Int) ≤ (rcSum _ : Nat); omega, by show ((rcSum _ : Nat) : Int) ≤ _; omega⟩, m := y3.m, may := y3.may, k7 := y3.k7, ld := y3.ld, f64 := y3.f64, six := y3.six, fit := .inl y4 }
 have hrm : z.room c (nbl i) sp = (⟨d, (y.t.touch y.p.s y.p.l).shut y.p.s, ⟨k, 1, y.p.l + 1, (rcSum (nextR y.p k) : Nat), y.p.m⟩, y.its, y.bl⟩, 0) := by
  unfold Wr.room
  rw [if_neg (fun hh => h1 (fits_iff.1 hh)), if_neg (fun hh => h2 (fits_iff.1 hh).2), if_pos ⟨h3, by rw [hk]; omega⟩, hk, y2]
  simp only [ne_eq, not_true_eq_false, if_false]
  exact e1
 refine ⟨y, _, y1, y3, y4, y5, y6, y7, y8, y9, y10, e1, hx, y4, y5, rfl, rfl, rfl, rfl, e4, ?_, put_ok hx hv (by show y.its.length + 1 ≤ 6; rw [y4]; decide) (by show behind 1 (y.bl.length + nbl i) ≤ _; rw [y5]; show behind 1 (0 + nbl i) ≤ _; unfold behind; omega)⟩
 rw [add_eq hv h.rdy.live.off, hrm]
 rfl
end
/-- a busy segment -/
def tbStep (n ps : Int) (t : Tb) (x : Int) : Tb := if x % n = ps then t.grab (x % n) else (t.grab (x % n)).shut (x % n)
def tbMade (n : Nat) (c : Cf) (ps : Int) (busy : List Int) : Tb := busy.foldl (tbStep c.s ps) ((Tb.new n).grab (ps % c.s))
theorem tbStep_ok {t : Tb} {n : Nat} (h : t.Ok n) (m ps x : Int) : (tbStep m ps t x).Ok n := by
 unfold tbStep
 split
 ·exact h.grab _
 ·exact (h.grab _).shut _
theorem tbFold_ok {n : Nat} (m ps : Int) : ∀ (l : List Int) (t : Tb), t.Ok n → (l.foldl (tbStep m ps) t).Ok n
 | [], t, h => h
 | x :: l, t, h => tbFold_ok m ps l _ (tbStep_ok h m ps x)
theorem tbMade_ok (n : Nat) (c : Cf) (ps : Int) (busy : List Int) : (tbMade n c ps busy).Ok n := tbFold_ok _ _ _ _ ((Tb.new_ok n).grab _)
end Go.Kn
namespace Go.Kn
open Go Go.RowKit
/-- which one the reference would take -/
def Tb.next (t : Tb) (spare : Bool) : Int := if t.takes spare = true then Tb.idx t.us else -1
theorem idx_at2 {l : List Us} {j : Nat} (hj : j < l.length) (h0 : l[j].st = 0) (hb : ∀ i (h : i < l.length), i < j → l[i].st ≠ 0) : Tb.idx l = (j : Nat) := by
 have h : l.findIdx? Tb.isFree = some j := by
  rw [List.findIdx?_eq_some_iff_getElem]
  refine ⟨hj, decide_eq_true h0, fun i hi => ?_⟩
  have := hb i (by omega) hi
  unfold Tb.isFree
  simp [this]
 unfold Tb.idx
 rw [h]
theorem idx_none2 {l : List Us} (hb : ∀ i (h : i < l.length), l[i].st ≠ 0) : Tb.idx l = -1 := by
 have h : l.findIdx? Tb.isFree = none := by
  rw [List.findIdx?_eq_none_iff]
  intro x hx
  obtain ⟨i, hi, e⟩ := List.getElem_of_mem hx
  have := hb i hi
  rw [e] at this
  unfold Tb.isFree
  simp [this]
 unfold Tb.idx
 rw [h]
theorem free0_idx {t : Tb} (h : t.free = 0) : Tb.idx t.us = -1 := idx_none2 fun i hi e => by
 unfold Tb.free at h
 have := List.countP_eq_zero.1 h t.us[i] (List.getElem_mem hi)
 unfold Tb.isFree at this
 rw [e] at this
 simp at this
end Go.Kn
namespace Go.Proofs.YtgcfdjcpcclcjaaGreat
open Go Go.RowKit Go.Kn
theorem rt_free_any (w : World) (p : RT) (cf : Cf) (t : Tb) (hT : Kn.Own w p.T (p.box cf)) (hu : Kn.Own w p.u (usV t.us)) (ht : t.Ok p.n) (hn : p.n ≤ 1000) :
  Calls Tryz.prog 170 #[.pointer (some ⟨p.T, 0, none⟩)] w fun e w' => e = .returned (.int .i64 (t.free : Nat)) ∧ w = w' := by
 have HU := Lib.hid hu
 have c3 : w.cell? ⟨p.T, 3, none⟩ = some (.slice (some ⟨p.u, 0, none⟩) p.n p.n) := hT.cellv 3
 have HL := Lib.hid ht.u
 clear hT hu ht
 go_enter Tryz.func170, Tryz.ntmps170
 go_wp2_with fail
 go_loopg [3, 4] p.n (fun r s3 s4 wr => ∃ j m : Nat, j + r = p.n ∧ s3 = .int .i64 (m : Int) ∧ s4 = .int .i64 (j : Int) ∧ (t.us.take j).countP Tb.isFree = m ∧ m ≤ j ∧ w = wr)
 case atStart => exact ⟨0, 0, by omega, rfl, rfl, by simp, by omega, rfl⟩
 obtain ⟨j, m, hj, rfl, rfl, hm, hmj, rfl⟩ := hrel
 have HM := Lib.hid hm
 clear hm
 by_cases hlt : j < p.n
 ·have hjl : j < t.us.length := by rw [HL.out]; exact hlt
  obtain ⟨c0, -⟩ := us_cell HU.out hjl
  obtain ⟨⟨s, x⟩, hs⟩ : ∃ u, t.us[j] = u := ⟨_, rfl⟩
  have hst := free_step hjl
  rw [hs] at c0 hst
  simp only at c0 hst
  rw [HM.out] at hst
  have HST := Lib.hid hst
  have hlt2 : (j : Int) < (p.n : Int) := by omega
  clear hs hst
  by_cases h0 : s = 0
  ·subst h0
   go_wp2
   go_roundg (gk - 1)
   case measure => omega
   case rel => exact ⟨j + 1, m + 1, by omega, by go_num, by go_num, by rw [HST.out]; rfl, by omega, rfl⟩
  ·have hst2 : (t.us.take (j + 1)).countP Tb.isFree = m := by rw [HST.out, if_neg h0]; rfl
   have HST2 := Lib.hid hst2
   clear hst2
   go_wp2
   go_roundg (gk - 1)
   case measure => omega
   case rel => exact ⟨j + 1, m, by omega, rfl, by go_num, HST2.out, by omega, rfl⟩
 ·obtain rfl : j = p.n := by omega
  have hf : t.free = m := by unfold Tb.free; rw [← HM.out, List.take_of_length_le (by rw [HL.out]; omega)]
  have HF := Lib.hid hf
  clear hf
  go_wp2
  go_ret
  exact ⟨by rw [HF.out]; rfl, rfl⟩
theorem rt_next_any (w : World) (p : RT) (cf : Cf) (t : Tb) (spare : Bool) (hT : Kn.Own w p.T (p.box cf)) (hu : Kn.Own w p.u (usV t.us)) (ht : t.Ok p.n) (hn : p.n ≤ 1000) :
  Calls Tryz.prog 125 #[.pointer (some ⟨p.T, 0, none⟩), .bool spare] w fun e w' => e = .returned (.int .i64 (t.next spare)) ∧ w = w' := by
 have HT := Lib.hid hT
 have HU := Lib.hid hu
 have HK := Lib.hid ht
 have c3 : w.cell? ⟨p.T, 3, none⟩ = some (.slice (some ⟨p.u, 0, none⟩) p.n p.n) := hT.cellv 3
 have HL := Lib.hid ht.u
 obtain ⟨fr, hfr⟩ : ∃ x, t.free = x := ⟨_, rfl⟩
 have hfn : fr ≤ p.n := by rw [← hfr, ← ht.u]; exact List.countP_le_length
 have HFR := Lib.hid hfr
 obtain ⟨kp, hkp⟩ : ∃ x : Nat, (if spare = true then 0 else 2) = x := ⟨_, rfl⟩
 clear hT hu ht hfr
 have key : ∀ (spare : Bool) (kp : Nat), (kp = if spare = true then 0 else 2) → (fr ≤ kp → t.next spare = -1) ∧ (kp < fr → t.next spare = Tb.idx t.us) := by
  intro sp kp hk
  unfold Tb.next Tb.takes
  rw [HFR.out]
  cases sp with
  | true =>
   simp only [if_true] at hk
   subst hk
   refine ⟨fun h => ?_, fun _ => by simp⟩
   rw [free0_idx (by rw [HFR.out]; omega)]
   simp
  | false =>
   simp only [Bool.false_eq_true, if_false] at hk
   subst hk
   refine ⟨fun h => ?_, fun h => ?_⟩
   ·rw [decide_eq_false (by omega)]
    rfl
   ·rw [decide_eq_true h]
    rfl
 obtain ⟨k1, k2⟩ := key spare kp hkp.symm
 have HK1 := Lib.hid k1
 have HK2 := Lib.hid k2
 clear k1 k2 key
 cases spare with
 | true =>
  simp only [if_true] at hkp
  subst hkp
  go_enter Tryz.func125, Tryz.ntmps125
  go_wp2_with fail
  refine (rt_free_any w p cf t HT.out HU.out HK.out hn).mono ?_
  rw [HFR.out]
  rintro en w1 ⟨rfl, rfl⟩
  by_cases hle : (fr : Int) ≤ 0
  ·go_wp2
   go_ret
   exact ⟨by rw [HK1.out (by omega)]; rfl, rfl⟩
  ·go_wp2_with fail
   go_loopg [6] p.n (fun r s6 wr => ∃ j : Nat, j + r = p.n ∧ s6 = .int .i64 (j : Int) ∧ (∀ i (h : i < t.us.length), i < j → t.us[i].st ≠ 0) ∧ w = wr)
   case atStart => exact ⟨0, by omega, rfl, fun i _ h => by omega, rfl⟩
   obtain ⟨j, hj, rfl, hb, rfl⟩ := hrel
   have HB := Lib.hid hb
   clear hb
   by_cases hlt : j < p.n
   ·have hjl : j < t.us.length := by rw [HL.out]; exact hlt
    obtain ⟨c0, -⟩ := us_cell HU.out hjl
    obtain ⟨s, hs⟩ : ∃ s, t.us[j].st = s := ⟨_, rfl⟩
    rw [hs] at c0
    have HS := Lib.hid hs
    have hlt2 : (j : Int) < (p.n : Int) := by omega
    clear hs
    by_cases h0 : s = 0
    ·have HI := Lib.hid (idx_at2 hjl (HS.out.trans h0) HB.out)
     subst h0
     go_wp2
     go_ret
     exact ⟨by rw [HK2.out (by omega), HI.out]; rfl, rfl⟩
    ·have HB2 : Hid (∀ i (h : i < t.us.length), i < j + 1 → t.us[i].st ≠ 0) := Lib.hid (fun i h hi => by
      by_cases e : i = j
      ·subst e
       rw [HS.out]
       exact h0
      ·exact HB.out i h (by omega))
     go_wp2
     go_roundg (gk - 1)
     case measure => omega
     case rel => exact ⟨j + 1, by omega, by go_num, HB2.out, rfl⟩
   ·obtain rfl : j = p.n := by omega
    have HI := Lib.hid (idx_none2 (l := t.us) (fun i h => HB.out i h (by rw [← HL.out]; exact h)))
    go_wp2
    go_ret
    exact ⟨by rw [HK2.out (by omega), HI.out]; rfl, rfl⟩
 | false =>
  simp only [Bool.false_eq_true, if_false] at hkp
  subst hkp
  go_enter Tryz.func125, Tryz.ntmps125
  go_wp2_with fail
  refine (rt_free_any w p cf t HT.out HU.out HK.out hn).mono ?_
  rw [HFR.out]
  rintro en w1 ⟨rfl, rfl⟩
  by_cases hle : (fr : Int) ≤ 2
  ·go_wp2
   go_ret
   exact ⟨by rw [HK1.out (by omega)]; rfl, rfl⟩
  ·go_wp2_with fail
   go_loopg [6] p.n (fun r s6 wr => ∃ j : Nat, j + r = p.n ∧ s6 = .int .i64 (j : Int) ∧ (∀ i (h : i < t.us.length), i < j → t.us[i].st ≠ 0) ∧ w = wr)
   case atStart => exact ⟨0, by omega, rfl, fun i _ h => by omega, rfl⟩
   obtain ⟨j, hj, rfl, hb, rfl⟩ := hrel
   have HB := Lib.hid hb
   clear hb
   by_cases hlt : j < p.n
   ·have hjl : j < t.us.length := by rw [HL.out]; exact hlt
    obtain ⟨c0, -⟩ := us_cell HU.out hjl
    obtain ⟨s, hs⟩ : ∃ s, t.us[j].st = s := ⟨_, rfl⟩
    rw [hs] at c0
    have HS := Lib.hid hs
    have hlt2 : (j : Int) < (p.n : Int) := by omega
    clear hs
    by_cases h0 : s = 0
    ·have HI := Lib.hid (idx_at2 hjl (HS.out.trans h0) HB.out)
     subst h0
     go_wp2
     go_ret
     exact ⟨by rw [HK2.out (by omega), HI.out]; rfl, rfl⟩
    ·have HB2 : Hid (∀ i (h : i < t.us.length), i < j + 1 → t.us[i].st ≠ 0) := Lib.hid (fun i h hi => by
      by_cases e : i = j
      ·subst e
       rw [HS.out]
       exact h0
      ·exact HB.out i h (by omega))
     go_wp2
     go_roundg (gk - 1)
     case measure => omega
     case rel => exact ⟨j + 1, by omega, by go_num, HB2.out, rfl⟩
   ·obtain rfl : j = p.n := by omega
    have HI := Lib.hid (idx_none2 (l := t.us) (fun i h => HB.out i h (by rw [← HL.out]; exact h)))
    go_wp2
    go_ret
    exact ⟨by rw [HK2.out (by omega), HI.out]; rfl, rfl⟩
theorem rt_touch_any (w0 w : World) (p : RT) (cf : Cf) (t : Tb) (s x : Int) (L : List (Nat × List Value)) (G : List Gs) (F : List (World → Prop)) (hw : Wc w0 w (p.L cf t L) G F) (ht : t.Ok p.n) (hn : p.n ≤ 1000) :
  Calls Tryz.prog 176 #[.pointer (some ⟨p.T, 0, none⟩), .int .i64 s, .int .i64 x] w fun e w' => e = .returned (.tuple #[]) ∧ Wc w0 w' (p.L cf (t.touch s x) L) G F := by
 have HW := Lib.hid hw
 have HO := Lib.hid ht
 clear hw ht
 have HT : Hid (Kn.Own w p.T (p.box cf)) := Lib.hid (HW.out.boxi 0 rfl)
 have c3 : w.cell? ⟨p.T, 3, none⟩ = some (.slice (some ⟨p.u, 0, none⟩) p.n p.n) := HT.out.cellv 3
 have lt := HT.out.lt
 by_cases hs : 0 ≤ s ∧ s < (p.n : Int)
 ·obtain ⟨s, rfl⟩ : ∃ k : Nat, s = k := ⟨s.toNat, by omega⟩
  have hsl : s < t.us.length := by rw [HO.out.u]; omega
  have c1 := (us_cell (HW.out.boxi 1 rfl) hsl).2
  have hsn : (s : Int) < (p.n : Int) := hs.2
  have hd := decide_eq_true hs
  have hgr : t.has (s : Int) = true := by rw [tb_has HO.out, hd]
  have HGR := Lib.hid hgr
  clear hgr hs
  go_enter Tryz.func176, Tryz.ntmps176
  go_wp2_with fail
  refine (rt_there_any _ p cf s HT.out hn).mono ?_
  rintro e w2 ⟨rfl, rfl⟩
  rw [hd]
  go_wp2_with fail
  refine (within_any x 0 2147483647 _).mono ?_
  rintro e w3 ⟨rfl, rfl⟩
  by_cases h0 : 0 ≤ x ∧ x ≤ 2147483647
  ·have hgb : t.touch (s : Int) x = ⟨t.us.set s ⟨t.us[s].st, x⟩, t.live⟩ := by unfold Tb.touch; rw [HGR.out, us_get hsl, decide_eq_true h0, if_pos (by rfl), Int.toNat_natCast]
   have hu1 : (usV t.us).set (s * 2 + 1) (.int .i64 x) = usV (t.us.set s ⟨t.us[s].st, x⟩) := usV_set t.us s 1 ⟨t.us[s].st, x⟩ _ hsl (by decide) (by rw [List.getD_eq_getElem?_getD, List.getElem?_eq_getElem hsl]; rfl)
   have z0 := (HW.out.boxi 1 rfl).frozen (s * 2 + 1)
   have l0 := (HW.out.boxi 1 rfl).lt
   have h1 := HW.out.put 1 rfl (s * 2 + 1) (.int .i64 x)
   simp only [List.set_cons_zero, List.set_cons_succ, hu1] at h1
   have H1 := Lib.hid h1
   have HGB := Lib.hid hgb
   rw [decide_eq_true h0]
   clear hgb hu1 h1 h0
   go_wp2
   refine bodyPost_end (results_none rfl _ _ _) rfl ⟨rfl, ?_⟩
   rw [HGB.out]
   exact H1.out
  ·have hgf : t.touch (s : Int) x = t := by unfold Tb.touch; rw [HGR.out, decide_eq_false h0]; rfl
   have HGB := Lib.hid hgf
   rw [decide_eq_false h0]
   clear hgf h0
   go_wp2
   refine bodyPost_end (results_none rfl _ _ _) rfl ⟨rfl, ?_⟩
   rw [HGB.out]
   exact HW.out
 ·have hd := decide_eq_false hs
  have hgb : t.touch s x = t := by unfold Tb.touch; rw [tb_has HO.out, hd]; simp
  have HGB := Lib.hid hgb
  clear hgb hs
  go_enter Tryz.func176, Tryz.ntmps176
  go_wp2_with fail
  refine (rt_there_any _ p cf s HT.out hn).mono ?_
  rintro e w2 ⟨rfl, rfl⟩
  rw [hd]
  go_wp2
  refine bodyPost_end (results_none rfl _ _ _) rfl ⟨rfl, ?_⟩
  rw [HGB.out]
  exact HW.out
theorem duo_rtouch {w0 w : World} {p : PD} {r : RD} {d e : Dk} {q : RT} {cf : Cf} {t : Tb} {L : List (Nat × List Value)} {G : List Gs} {F : List (World → Prop)} (s x : Int) (h : Duo w0 w p r d e ⟨q.L cf t L, G, F⟩) (ht : t.Ok q.n) (hn : q.n ≤ 1000) :
  Calls Tryz.prog 176 #[.pointer (some ⟨q.T, 0, none⟩), .int .i64 s, .int .i64 x] w fun en w' => en = .returned (.tuple #[]) ∧ Duo w0 w' p r d e ⟨q.L cf (t.touch s x) L, G, F⟩ := by
 obtain ⟨L0, G0, F0, hw, back⟩ := h.fr
 refine (rt_touch_any w0 w q cf t s x (L ++ L0) (G ++ G0) (F ++ F0) hw ht hn).mono ?_
 rintro en w1 ⟨rfl, h1⟩
 exact ⟨rfl, back w1 ⟨q.L cf (t.touch s x) L, G, F⟩ h1⟩
end Go.Proofs.YtgcfdjcpcclcjaaGreat
namespace Go.Proofs.YtgcfdjcpcclcjaaGreat
open Go Go.RowKit Go.Kn
/-- so much more may have been laid as one -/
def RD.up (r : RD) (n : Nat) : RD := { r with K := r.K + n }
theorem duo_up {w0 w : World} {p : PD} {r : RD} {d e : Dk} {c : Fr3} (h : Duo w0 w p r d e c) (n : Nat) : Duo w0 w p (RD.up r n) d e c := by
 obtain ⟨v, v', lv, k, ls, sl, hs, hl, hm⟩ := h.mem
 exact ⟨h.ok, h.N, h.hs, h.hn, h.hf, h.ok', h.N', h.hs', h.hf', v, v', lv, ⟨k.val, by show k.val < r.K + n + 1; have := k.isLt; omega⟩, ls, sl, hs, hl, hm⟩
theorem Duo.ofRu {w0 w : World} {p : PD} {r : RD} {d e : Dk} {c : Fr3} (h : Duo w0 w p r d e c) (n : Nat) : ∃ c', (∀ f ∈ c.F, f ∈ c'.F) ∧ Rsk w0 w r e c' ∧ ∀ w' e', Rsk w0 w' (RD.up r n) e' c' → Duo w0 w' p (RD.up r n) d e' c := by
 obtain ⟨v, v', lv, k, ls, sl, hs, hl, hm⟩ := h.mem
 have pl : ∀ (v' lv : Value) (sl : List (Option Addr × Nat × Nat)) (e : Dk), (p.L v d (r.L v' lv sl e c.L)).Perm (r.L v' lv sl e (p.L v d c.L)) := fun v' lv sl e => by
  have := (List.perm_append_comm (l₁ := p.L v d []) (l₂ := r.L v' lv sl e [])).append_right c.L
  simpa [PD.L, RD.L] using this
 have pg : ∀ a b x : Gs, (a :: b :: x :: c.G).Perm (b :: x :: a :: c.G) := fun a b x => (List.Perm.swap _ _ _).trans ((List.Perm.swap _ _ _).cons _)
 refine ⟨⟨p.L v d c.L, ⟨158, 65, v, d.held.length, heldV d.held⟩ :: c.G, c.F⟩, fun f hf => hf, ⟨h.ok', h.N', h.hs', h.hf', v', lv, k, ls, sl, hs, hl, hm.perm (pl _ _ _ _) (pg _ _ _)⟩, fun w' e' h' => ?_⟩
 obtain ⟨v2, lv2, k2, ls2, sl2, hs2, hl2, hm2⟩ := h'.mem
 exact ⟨h.ok, h.N, h.hs, h.hn, h.hf, h'.ok, h'.N, h'.hs, h'.hf, v, v2, lv2, k2, ls2, sl2, hs2, hl2, hm2.perm (pl _ _ _ _).symm (pg _ _ _).symm⟩
theorem slv_new16 (w : World) (s : Option Addr × Nat × Nat) : Row1 (w.alloc (.cells #[slv s] 47)) (some ⟨w.heap.size, 0, none⟩) 1 1 ([s].map slv) := by
 have := Kn.Own.new w #[slv s] 47
 exact Row1.of_Own this rfl (Nat.le_refl _) (by decide)
set_option maxRecDepth 100000 in
set_option maxHeartbeats 4000000 in
theorem rk_mean_any {w0 w : World} {r : RD} {d : Dk} {c : Fr3} (h : Rsk w0 w r d c) (hK : r.K ≤ 1000000) (A : Option Addr) (n cc : Nat) :
  Calls Tryz.prog 175 #[.pointer (some ⟨r.M, 0, none⟩), .slice A n cc] w fun en w' => en = .returned (.tuple #[]) ∧ Rsk w0 w' (RD.up r 1) d c := by
 have hok := h.ok
 have hN := h.N
 have hhs := h.hs
 have hhf := h.hf
 obtain ⟨v, lv, ⟨k, hk⟩, ls, sl, hs, hl, hm⟩ := h.mem
 obtain ⟨A1, c1, rfl⟩ := hm.gform 1 rfl
 have hw := hm
 have c6 : w.cell? ⟨r.M, 6, none⟩ = some (.slice A1 k c1) := (hm.boxi 0 (p := r.M) (cs := r.box v (.slice A1 k c1) d) rfl).cellv 6
 have HM := Lib.hid hm
 have HAL := Lib.hid (hm.alloc (.cells #[slv (A, n, cc)] 47))
 have HBS := Lib.hid HAL.out.only.size
 have HNR := Lib.hid (slv_new16 w (A, n, cc))
 have HOK := Lib.hid hok
 have HNN := Lib.hid hN
 have HHS := Lib.hid hhs
 have HHF := Lib.hid hhf
 have HL := Lib.hid hl
 clear h hm hw hok hN hhs hhf hl
 obtain ⟨i1, hi1, hy0, hy1, hy2⟩ := info_parts Tryz.infoBys
 go_enter Tryz.func175, Tryz.ntmps175
 go_wp2_with (first
  | (at_builtin; (refine wpList_append_row1 rfl (.tmp 8) (.tmp 10) 54 rfl w0.heap.size 47 i1 _ 24 Tryz.underlying54 hi1 hy0 hy1 hy2 rfl (.slice A1 k c1) k ls rfl (HAL.out.gi 1 rfl) (some ⟨w.heap.size, 0, none⟩) 1 1 ([(A, n, cc)].map slv) rfl HNR.out (slv_one _) (by unfold maxLen; omega) (by omega) HBS.out ?_; intro v5 w5 hown5 hgrow5 hat5; have hdd := HAL.out.gapp 1 rfl hown5 hgrow5 hat5; simp only [List.set_cons_zero, List.set_cons_succ] at hdd; obtain ⟨A5, c5, rfl⟩ := hdd.gform 1 rfl; have HE := Lib.hid hdd; clear hdd hown5 hgrow5 hat5 HAL HBS HNR; have b1 := HE.out.boxi 0 (p := r.M) (cs := r.box v (.slice A1 k c1) d) rfl; have y6 := b1.cellv 6; have z6 := b1.frozen 6; have l6 := b1.lt; clear b1))
  | fail)
 clear hi1 hy0 hy1 hy2 i1
 refine bodyPost_end (results_none rfl _ _ _) rfl ⟨rfl, ?_⟩
 have hw2 := HE.out.put 0 (p := r.M) (cs := r.box v (.slice A1 k c1) d) rfl 6 (.slice A5 (k + 1) c5)
 exact ⟨HOK.out, HNN.out, HHS.out, HHF.out, v, .slice A5 (k + 1) c5, ⟨k + 1, by show k + 1 < r.K + 1 + 1; omega⟩, _, sl, hs, HL.out, hw2⟩
end Go.Proofs.YtgcfdjcpcclcjaaGreat
namespace Go.Kn
open Go Go.RowKit
theorem rows64_tl (b : List UInt8) (n j : Nat) (hj : j ≤ n) : ((rows64 b n).take j).length = j := by
 rw [List.length_take, rows64_len]
 omega
theorem seq_step {d d' d2 : Dk} {a : Int} {b : List UInt8} {n j : Nat} (hj : j < n) (h : seqW d a ((rows64 b n).take j) = (d', 0)) (hw : d'.write (a + (j : Int)) ((b.drop (64 * j)).take 64) = (d2, 0)) : seqW d a ((rows64 b n).take (j + 1)) = (d2, 0) := by
 rw [rows64_take b n j hj, seqW_ok _ _ _ _ _ h, rows64_tl b n j (by omega), seqW_go _ _ _ _ _ hw]
 rfl
theorem seq_stop {d d' : Dk} {a : Int} {b : List UInt8} {n j : Nat} (hj : j < n) (h : seqW d a ((rows64 b n).take j) = (d', 0)) (hw : (d'.write (a + (j : Int)) ((b.drop (64 * j)).take 64)).2 ≠ 0) : seqW d a (rows64 b n) = d'.write (a + (j : Int)) ((b.drop (64 * j)).take 64) := by
 conv => lhs; rw [rows64_split b n j hj]
 rw [seqW_ok _ _ _ _ _ h, rows64_tl b n j (by omega), seqW_err _ _ _ _ hw]
end Go.Kn
namespace Go.Proofs.YtgcfdjcpcclcjaaGreat
open Go Go.RowKit Go.Kn
set_option maxRecDepth 100000 in
set_option maxHeartbeats 16000000 in
theorem xw_put_any (w0 w : World) (p : PD) (r : RD) (d e : Dk) (X : Nat) (u : RT) (t : Tb) (ps : Ps) (vi vb : Value) (cf : Cf) (its : List It) (bl : List (List UInt8)) (A B : Option Addr) (na ca nb cb : Nat) (L : List (Nat × List Value)) (G : List Gs) (F : List (World → Prop))
  (h : Duo w0 w p r d e ⟨(X, (XB r u cf ps vi vb)) :: u.L cf t L, G, F⟩) (hc : cf.Ok) (ht : t.Ok u.n) (hun : u.n ≤ 1000) (hi : Its w A na ca its) (hj : Blks w B nb cb bl) (hs : 0 ≤ ps.s ∧ ps.s ≤ cf.s - 1) (ho : 1 ≤ ps.o ∧ ps.o ≤ 100) (hl : -1000000000000 ≤ ps.l ∧ ps.l ≤ 1000000000000) (hh : e.held.length ≤ 900000) (hK : r.K ≤ 900000) :
  Calls Tryz.prog 130 #[.pointer (some ⟨X, 0, none⟩), .slice A na ca, .slice B nb cb] w fun en w' => en = .returned (.int .i64 (writeW e t cf ps its bl).2.2.2) ∧ Duo w0 w' p (RD.up r 1) d (writeW e t cf ps its bl).1 ⟨(X, XB r u cf (writeW e t cf ps its bl).2.2.1 vi vb) :: u.L cf (writeW e t cf ps its bl).2.1 L, G, F⟩ := by
 have H := Lib.hid h
 have HC := Lib.hid hc
 have HT := Lib.hid ht
 have HO1 : Hid (Only [] w w.drew) := Lib.hid (Only.refl _ _).drew
 have HI : Hid (∀ W', Only [] w W' → Its W' A na ca its) := Lib.hid (fun W' hO => hi.keep0 hO)
 have HJ : Hid (∀ W', Only [] w W' → Blks W' B nb cb bl) := Lib.hid (fun W' hO => hj.keep0 hO)
 obtain ⟨s1, s2, s3⟩ := Cf.sec cf hc ps.s hs.1 hs.2
 have hcl := hc.2.2
 obtain ⟨a0, ha0⟩ : ∃ a, cf.at_ ps.s + ps.o = a := ⟨_, rfl⟩
 have HA1 : Hid (IntKind.i64.wrap (cf.at_ ps.s + ps.o) = a0) := Lib.hid (by rw [ha0]; exact IntWalk.i64_in _ (by omega))
 have ha0b : 0 ≤ a0 ∧ a0 ≤ 100000 := by omega
 have HA0 := Lib.hid ha0
 have HHH := Lib.hid hh
 obtain ⟨ho1, ho2⟩ := ho
 obtain ⟨ab1, ab2⟩ := ha0b
 clear h hc ht hi hj ha0 hh
 cases hen : encRc ⟨ps.m, ps.l, ps.p, its, bl⟩ with
 | none =>
  have HEN := Lib.hid hen
  have hww : writeW e t cf ps its bl = (e, t, ps, 1) := by unfold writeW; rw [hen]
  have HWW := Lib.hid hww
  clear hen hww
  go_enter Tryz.func130, Tryz.ntmps130
  go_wp2_with fail
  have HY := Lib.hid H.out.drew
  clear H
  refine wp_region_held_drew (S := (fun w' => Kn.Own w' X (XB r u cf ps vi vb))) (by kernel_rfl) (HY.out.boxi 0 rfl) (fun hSw0 => ?_)
  generalize w.drew = wz at *
  refine Kn.takeS 0 ⟨some 14, _, _, _, _, _⟩ ?_
  refine Kn.takeS 1 ⟨some 15, _, _, _, _, _⟩ ?_
  refine Kn.takeS 2 ⟨some 16, _, _, _, _, _⟩ ?_
  refine Kn.takeS 3 ⟨some 17, _, _, _, _, _⟩ ?_
  refine Kn.takeS 4 ⟨some 18, _, _, _, _, _⟩ (v := (.int .i64 ps.m)) (hy := fun w hSw => by
   have q0 := hSw.cellv 9
   go_simp) ?_
  refine Kn.takeS 5 ⟨some 19, _, _, _, _, _⟩ ?_
  refine Kn.takeS 6 ⟨some 20, _, _, _, _, _⟩ ?_
  refine Kn.takeS 7 ⟨some 21, _, _, _, _, _⟩ ?_
  refine Kn.takeS 8 ⟨some 22, _, _, _, _, _⟩ ?_
  refine Kn.takeS 9 ⟨some 23, _, _, _, _, _⟩ (v := (.int .i64 ps.l)) (hy := fun w hSw => by
   have q0 := hSw.cellv 7
   go_simp) ?_
  refine Kn.takeS 10 ⟨some 24, _, _, _, _, _⟩ ?_
  refine Kn.takeS 11 ⟨some 25, _, _, _, _, _⟩ ?_
  refine Kn.takeS 12 ⟨some 26, _, _, _, _, _⟩ ?_
  refine Kn.takeS 13 ⟨some 27, _, _, _, _, _⟩ ?_
  refine Kn.takeS 14 ⟨some 28, _, _, _, _, _⟩ (v := (.int .i64 ps.p)) (hy := fun w hSw => by
   have q0 := hSw.cellv 8
   go_simp) ?_
  refine Kn.takeS 15 ⟨some 29, _, _, _, _, _⟩ ?_
  refine Kn.takeS 16 ⟨some 30, _, _, _, _, _⟩ ?_
  refine Kn.takeS 17 ⟨some 31, _, _, _, _, _⟩ ?_
  refine Kn.takeR 18 ⟨some 32, _, _, _, _, _⟩ fun K hK => ?_
  go_simp
  refine (ref_rec_enc_any ps.m ps.l ps.p A na ca its B nb cb bl _ (HI.out _ HO1.out) (HJ.out _ HO1.out)).mono ?_
  rintro en wa hen
  rw [HEN.out] at hen
  obtain ⟨rfl, hO⟩ := EncRc.of_none hen
  have HYr := Lib.hid (HY.out.keep0 hO)
  clear hO hen
  clear HY
  refine hK.out _ _ (HYr.out.boxi 0 rfl) (fun hSn => ?_)
  clear hK K hSw0
  have hSw0 := hSn
  clear hSn
  refine Kn.takeS 19 ⟨some 13, _, _, _, _, _⟩ ?_
  refine Kn.takeS 20 ⟨some 33, _, _, _, _, _⟩ ?_
  refine Kn.takeS 21 ⟨some 34, _, _, _, _, _⟩ ?_
  refine Kn.takeS 22 ⟨some 35, _, _, _, _, _⟩ ?_
  refine Kn.takeS 23 ⟨some 7, _, _, _, _, _⟩ ?_
  refine Kn.takeS 24 ⟨some 8, _, _, _, _, _⟩ ?_
  refine Kn.takeS 25 ⟨some 9, _, _, _, _, _⟩ ?_
  refine wpAnyH_done (by kernel_rfl) ?_ _
  clear hSw0
  go_wp2
  go_ret
  rw [HWW.out]
  exact ⟨rfl, duo_up HYr.out 1⟩
 | some x =>
  obtain ⟨b, sum⟩ := x
  have HEN := Lib.hid hen
  obtain ⟨hq1, hq2, hsm, hb64, hb6, hq3⟩ := enc_some hen
  have hbl64 : b.length = 64 * (1 + bl.length) := hb64
  have hbl6 : bl.length ≤ 6 := hb6
  obtain ⟨n, hn⟩ : ∃ n, 1 + bl.length = n := ⟨_, rfl⟩
  have hbn : b.length = 64 * n := by rw [hbl64, hn]
  have hdv : b.length / 64 = n := by omega
  have hn7 : 1 ≤ n ∧ n ≤ 7 := by omega
  obtain ⟨hn1, hn2⟩ := hn7
  have hbeh : behind ps.o bl.length = ps.o + (n : Int) := by unfold behind; omega
  have hww : writeW e t cf ps its bl = if (seqW e a0 (rows64 b n)).2 = 0 then ((seqW e a0 (rows64 b n)).1, t.touch ps.s ps.l, ⟨ps.s, ps.o + (n : Int), ps.l + 1, (sum : Nat), ps.m⟩, 0) else ((seqW e a0 (rows64 b n)).1, t, ps, (seqW e a0 (rows64 b n)).2) := by
   unfold writeW
   rw [hen]
   simp only [hdv, HA0.out, hbeh]
  have HWW := Lib.hid hww
  have HBN := Lib.hid hbn
  clear hen hww hq1 hq2 hsm hb64 hb6 hq3 hbl64 hdv hbeh hbn
  go_enter Tryz.func130, Tryz.ntmps130
  go_wp2_with fail
  have HY := Lib.hid H.out.drew
  clear H
  refine wp_region_held_drew (S := (fun w' => Kn.Own w' X (XB r u cf ps vi vb))) (by kernel_rfl) (HY.out.boxi 0 rfl) (fun hSw0 => ?_)
  generalize w.drew = wz at *
  refine Kn.takeS 0 ⟨some 14, _, _, _, _, _⟩ ?_
  refine Kn.takeS 1 ⟨some 15, _, _, _, _, _⟩ ?_
  refine Kn.takeS 2 ⟨some 16, _, _, _, _, _⟩ ?_
  refine Kn.takeS 3 ⟨some 17, _, _, _, _, _⟩ ?_
  refine Kn.takeS 4 ⟨some 18, _, _, _, _, _⟩ (v := (.int .i64 ps.m)) (hy := fun w hSw => by
   have q0 := hSw.cellv 9
   go_simp) ?_
  refine Kn.takeS 5 ⟨some 19, _, _, _, _, _⟩ ?_
  refine Kn.takeS 6 ⟨some 20, _, _, _, _, _⟩ ?_
  refine Kn.takeS 7 ⟨some 21, _, _, _, _, _⟩ ?_
  refine Kn.takeS 8 ⟨some 22, _, _, _, _, _⟩ ?_
  refine Kn.takeS 9 ⟨some 23, _, _, _, _, _⟩ (v := (.int .i64 ps.l)) (hy := fun w hSw => by
   have q0 := hSw.cellv 7
   go_simp) ?_
  refine Kn.takeS 10 ⟨some 24, _, _, _, _, _⟩ ?_
  refine Kn.takeS 11 ⟨some 25, _, _, _, _, _⟩ ?_
  refine Kn.takeS 12 ⟨some 26, _, _, _, _, _⟩ ?_
  refine Kn.takeS 13 ⟨some 27, _, _, _, _, _⟩ ?_
  refine Kn.takeS 14 ⟨some 28, _, _, _, _, _⟩ (v := (.int .i64 ps.p)) (hy := fun w hSw => by
   have q0 := hSw.cellv 8
   go_simp) ?_
  refine Kn.takeS 15 ⟨some 29, _, _, _, _, _⟩ ?_
  refine Kn.takeS 16 ⟨some 30, _, _, _, _, _⟩ ?_
  refine Kn.takeS 17 ⟨some 31, _, _, _, _, _⟩ ?_
  refine Kn.takeR 18 ⟨some 32, _, _, _, _, _⟩ fun K hK => ?_
  go_simp
  refine (ref_rec_enc_any ps.m ps.l ps.p A na ca its B nb cb bl _ (HI.out _ HO1.out) (HJ.out _ HO1.out)).mono ?_
  rintro en wa hen
  rw [HEN.out] at hen
  obtain ⟨g2, c2, rfl, hbc, hcm2, hg2, hown, hO⟩ := EncRc.of_some hen
  have HYr := Lib.hid (HY.out.addFc hO (f := fun W => Bys W (some ⟨g2, 0, none⟩) b.length c2 b) (Row1.fc (Row1.of_Own hown (bvs_length _) hbc hcm2) (fun _ a ha hm => by injection ha with ha; subst ha; simp at hm; omega)))
  have HBC := Lib.hid hbc
  have HCM := Lib.hid hcm2
  clear hen hbc hcm2 hg2 hown hO
  clear HY
  refine hK.out _ _ (HYr.out.boxi 0 rfl) (fun hSn => ?_)
  clear hK K hSw0
  have hSw0 := hSn
  clear hSn
  refine Kn.takeS 19 ⟨some 13, _, _, _, _, _⟩ ?_
  refine Kn.takeS 20 ⟨some 33, _, _, _, _, _⟩ ?_
  refine Kn.takeS 21 ⟨some 34, _, _, _, _, _⟩ ?_
  refine Kn.takeS 22 ⟨some 35, _, _, _, _, _⟩ ?_
  refine Kn.takeS 23 ⟨some 7, _, _, _, _, _⟩ ?_
  refine Kn.takeS 24 ⟨some 8, _, _, _, _, _⟩ ?_
  refine Kn.takeS 25 ⟨some 9, _, _, _, _, _⟩ ?_
  refine wpAnyH_done (by kernel_rfl) ?_ _
  clear hSw0
  have c0 := (HYr.out.boxi 0 rfl).cellv 0
  go_wp2_with fail
  obtain ⟨c3, hF3, hR, back3⟩ := Duo.ofRu HYr.out 1
  refine (rk_mean_any hR (by omega) (some ⟨g2, 0, none⟩) b.length c2).mono ?_
  rintro en w3 ⟨rfl, hd⟩
  have HM := Lib.hid (back3 _ _ hd)
  clear hF3 hR back3 hd c0 HYr HI HJ HO1
  have hdiv : ((b.length : Nat) : Int).tdiv 64 = (n : Int) := by
   have := HBN.out
   rw [Int.tdiv_eq_ediv_of_nonneg (by omega)]
   omega
  go_wp2_with fail
  go_loopg [11] n (fun rr t11 wr => ∃ (j : Nat) (e' : Dk), j + rr = n ∧ t11 = .int .i64 (j : Int) ∧ seqW e a0 ((rows64 b n).take j) = (e', 0) ∧ Duo w0 wr p (RD.up r 1) d e' ⟨(X, (XB r u cf ps vi vb)) :: u.L cf t L, G, (fun W => Bys W (some ⟨g2, 0, none⟩) b.length c2 b) :: F⟩)
  case atStart => exact ⟨0, e, by omega, rfl, rfl, HM.out⟩
  clear HM
  obtain ⟨j, e', hj, rfl, hsq, hd⟩ := hrel
  have HR := Lib.hid hd
  have HSQ := Lib.hid hsq
  clear hd hsq
  have hjn : j ≤ n := by omega
  have HHJ : Hid (e'.held.length ≤ 900010) := Lib.hid (by
   have h1 := seqW_held ((rows64 b n).take j) e a0
   rw [HSQ.out, rows64_tl b n j hjn] at h1
   have h2 := HHH.out
   simp only at h1
   omega)
  by_cases hlt : j < n
  ·have hlt2 : (j : Int) < (n : Int) := by omega
   have hbn := HBN.out
   have hbc := HBC.out
   have HX := Lib.hid (HR.out.imp List.mem_cons_self (f := fun W => Bys W (cutA (some ⟨g2, 0, none⟩) c2 (64 * j)) 64 (c2 - 64 * j) ((b.drop (64 * j)).take 64)) (fun W hW => Bys.chunk (i := j) hW (by omega)))
   have HSL : Hid (∀ w, (Instr.slice 47 (.slice (some ⟨g2, 0, none⟩) b.length c2) (some (.int .i64 ((j : Int) * 64))) (some (.int .i64 (((j : Int) + 1) * 64))) none).run Tryz.prog w = .ok (.slice (cutA (some ⟨g2, 0, none⟩) c2 (64 * j)) 64 (c2 - 64 * j)) w) := Lib.hid (fun w =>
    run_slice1 (P := Tryz.prog) w 47 5 Tryz.underlying47 (by kernel_rfl) (some ⟨g2, 0, none⟩) b.length c2 _ _ (64 * j) (64 * j + 64) 64 .i64 .i64 (by omega) (by omega) (by omega) (by omega) (by omega))
   have HW1 : Hid (IntKind.i64.wrap (a0 + (j : Int)) = a0 + (j : Int)) := Lib.hid (IntWalk.i64_in _ (by omega))
   have HW2 : Hid (IntKind.i64.wrap ((j : Int) * 64) = (j : Int) * 64) := Lib.hid (IntWalk.i64_in _ (by omega))
   have HW3 : Hid (IntKind.i64.wrap ((j : Int) + 1) = (j : Int) + 1) := Lib.hid (IntWalk.i64_in _ (by omega))
   have HW4 : Hid (IntKind.i64.wrap (((j : Int) + 1) * 64) = ((j : Int) + 1) * 64) := Lib.hid (IntWalk.i64_in _ (by omega))
   obtain ⟨⟨e2, er⟩, hwr⟩ : ∃ x, e'.write (a0 + (j : Int)) ((b.drop (64 * j)).take 64) = x := ⟨_, rfl⟩
   have HWR := Lib.hid hwr
   clear hwr HR hbn hbc
   go_wp2_with fail
   have HZ := Lib.hid HX.out.drew
   clear HX
   refine wp_region_held_drew (S := (fun w' => Kn.Own w' X (XB r u cf ps vi vb))) (by kernel_rfl) (HZ.out.boxi 0 rfl) (fun hSw0 => ?_)
   generalize wr.drew = wz at *
   refine Kn.takeS 0 ⟨some 53, _, _, _, _, _⟩ ?_
   refine Kn.takeS 1 ⟨some 54, _, _, _, _, _⟩ ?_
   refine Kn.takeS 2 ⟨some 55, _, _, _, _, _⟩ ?_
   refine Kn.takeS 3 ⟨some 56, _, _, _, _, _⟩ (v := (.pointer (some ⟨r.M, 0, none⟩))) (hy := fun w hSw => by
    have q0 := hSw.cellv 0
    go_simp) ?_
   refine Kn.takeS 4 ⟨some 57, _, _, _, _, _⟩ ?_
   refine Kn.takeS 5 ⟨some 58, _, _, _, _, _⟩ ?_
   refine Kn.takeS 6 ⟨some 59, _, _, _, _, _⟩ ?_
   refine Kn.takeS 7 ⟨some 60, _, _, _, _, _⟩ (v := (.agg #[.int .i64 cf.b, .int .i64 cf.s, .int .i64 cf.l])) (hy := fun w hSw => by
    have q1 := hSw.cellv 1
    have q2 := hSw.cellv 2
    have q3 := hSw.cellv 3
    go_simp) ?_
   refine Kn.takeS 8 ⟨some 61, _, _, _, _, _⟩ ?_
   refine Kn.takeS 9 ⟨some 62, _, _, _, _, _⟩ ?_
   refine Kn.takeS 10 ⟨some 63, _, _, _, _, _⟩ ?_
   refine Kn.takeS 11 ⟨some 64, _, _, _, _, _⟩ ?_
   refine Kn.takeS 12 ⟨some 65, _, _, _, _, _⟩ (v := (.int .i64 ps.s)) (hy := fun w hSw => by
    have q0 := hSw.cellv 5
    go_simp) ?_
   refine Kn.takeS 14 ⟨some 67, _, _, _, _, _⟩ ?_
   refine Kn.takeS 15 ⟨some 68, _, _, _, _, _⟩ ?_
   refine Kn.takeS 16 ⟨some 69, _, _, _, _, _⟩ ?_
   refine Kn.takeS 17 ⟨some 70, _, _, _, _, _⟩ ?_
   refine Kn.takeS 18 ⟨some 71, _, _, _, _, _⟩ (v := (.int .i64 ps.o)) (hy := fun w hSw => by
    have q0 := hSw.cellv 6
    go_simp) ?_
   refine Kn.takeS 20 ⟨some 73, _, _, _, _, _⟩ ?_
   refine Kn.takeS 22 ⟨some 75, _, _, _, _, _⟩ ?_
   refine Kn.takeS 23 ⟨some 76, _, _, _, _, _⟩ ?_
   refine Kn.takeS 24 ⟨some 77, _, _, _, _, _⟩ (v := (.int .i64 ((j : Int) * 64))) (hy := fun w hSw => by
    have q1 := HW2.out
    go_simp) ?_
   refine Kn.takeS 25 ⟨some 78, _, _, _, _, _⟩ ?_
   refine Kn.takeS 26 ⟨some 79, _, _, _, _, _⟩ (v := (.int .i64 ((j : Int) + 1))) (hy := fun w hSw => by
    have q1 := HW3.out
    go_simp) ?_
   refine Kn.takeS 27 ⟨some 80, _, _, _, _, _⟩ (v := (.int .i64 (((j : Int) + 1) * 64))) (hy := fun w hSw => by
    have q1 := HW4.out
    go_simp) ?_
   refine Kn.takeS 28 ⟨some 81, _, _, _, _, _⟩ (v := (.slice (cutA (some ⟨g2, 0, none⟩) c2 (64 * j)) 64 (c2 - 64 * j))) (hy := fun w hSw => by
    have q0 := HSL.out w
    go_simp) ?_
   refine Kn.takeR 13 ⟨some 66, _, _, _, _, _⟩ fun K hK => ?_
   go_simp
   refine (ref_segat_any cf ps.s _ HC.out).mono ?_
   rintro en wg ⟨rfl, hO⟩
   have HZg := Lib.hid (HZ.out.keep0 hO)
   clear hO
   clear HZ
   refine hK.out _ _ (HZg.out.boxi 0 rfl) (fun hSn => ?_)
   clear hK K hSw0
   have hSw0 := hSn
   clear hSn
   refine Kn.takeS 19 ⟨some 72, _, _, _, _, _⟩ (v := (.int .i64 a0)) (hy := fun w hSw => by
    have q1 := HA1.out
    go_simp) ?_
   refine Kn.takeS 21 ⟨some 74, _, _, _, _, _⟩ (v := (.int .i64 (a0 + (j : Int)))) (hy := fun w hSw => by
    have q1 := HW1.out
    have q2 := HA1.out
    go_simp) ?_
   refine Kn.takeR 29 ⟨some 82, _, _, _, _, _⟩ fun K hK => ?_
   go_simp
   obtain ⟨c3, hF3, hR, back3⟩ := HZg.out.ofR
   refine (rk_write_any w0 _ (RD.up r 1) _ c3 (a0 + (j : Int)) (cutA (some ⟨g2, 0, none⟩) c2 (64 * j)) 64 (c2 - 64 * j) ((b.drop (64 * j)).take 64) hR (hF3 _ List.mem_cons_self) (by have := HHJ.out; omega)).mono ?_
   rw [HWR.out]
   rintro en ww ⟨rfl, hd⟩
   have HZgw := Lib.hid (back3 _ _ hd)
   clear hF3 hR back3 hd
   clear HZg
   refine hK.out _ _ (HZgw.out.boxi 0 rfl) (fun hSn => ?_)
   clear hK K hSw0
   have hSw0 := hSn
   clear hSn
   refine Kn.takeS 30 ⟨some 12, _, _, _, _, _⟩ ?_
   refine wpAnyH_done (by kernel_rfl) ?_ _
   clear hSw0
   by_cases her : er = 0
   ·subst her
    have HS2 := Lib.hid (seq_step hlt HSQ.out HWR.out)
    have HX2 := Lib.hid (HZgw.out.subF (F' := (fun W => Bys W (some ⟨g2, 0, none⟩) b.length c2 b) :: F) (fun f hf => List.mem_cons_of_mem _ hf))
    clear HZgw HWR HSQ
    go_wp2
    go_roundg (gk - 1)
    case measure => omega
    case rel => exact ⟨j + 1, e2, by omega, by go_num, HS2.out, HX2.out⟩
   ·have hne : (er != 0) = true := bne_iff_ne.2 her
    have HS2 : Hid (seqW e a0 (rows64 b n) = (e2, er)) := Lib.hid (by rw [seq_stop hlt HSQ.out (by rw [HWR.out]; exact her), HWR.out])
    have HNE : Hid (er ≠ 0) := Lib.hid her
    clear her
    go_wp2
    go_ret
    rw [HWW.out, HS2.out, if_neg HNE.out]
    exact ⟨rfl, HZgw.out.subF (fun f hf => List.mem_cons_of_mem _ (List.mem_cons_of_mem _ hf))⟩
  ·obtain rfl : n = j := by omega
   have HS2 : Hid (seqW e a0 (rows64 b n) = (e', 0)) := Lib.hid (by have := HSQ.out; rwa [List.take_of_length_le (by rw [rows64_len]; exact Nat.le_refl _)] at this)
   have HQ := Lib.hid (HR.out.subF (F' := F) (fun f hf => List.mem_cons_of_mem _ hf))
   clear HR HSQ
   go_wp2_with fail
   have HS := Lib.hid HQ.out.drew
   clear HQ
   refine wp_region_held_drew (S := (fun w' => Kn.Own w' X (XB r u cf ps vi vb))) (by kernel_rfl) (HS.out.boxi 0 rfl) (fun hSw0 => ?_)
   generalize wr.drew = wz at *
   refine Kn.takeS 0 ⟨some 86, _, _, _, _, _⟩ ?_
   refine Kn.takeS 1 ⟨some 87, _, _, _, _, _⟩ ?_
   refine Kn.takeS 2 ⟨some 88, _, _, _, _, _⟩ ?_
   refine Kn.takeS 3 ⟨some 89, _, _, _, _, _⟩ (v := (.pointer (some ⟨u.T, 0, none⟩))) (hy := fun w hSw => by
    have q0 := hSw.cellv 4
    go_simp) ?_
   refine Kn.takeS 4 ⟨some 90, _, _, _, _, _⟩ ?_
   refine Kn.takeS 5 ⟨some 91, _, _, _, _, _⟩ ?_
   refine Kn.takeS 6 ⟨some 92, _, _, _, _, _⟩ ?_
   refine Kn.takeS 7 ⟨some 93, _, _, _, _, _⟩ ?_
   refine Kn.takeS 8 ⟨some 94, _, _, _, _, _⟩ (v := (.int .i64 ps.s)) (hy := fun w hSw => by
    have q0 := hSw.cellv 5
    go_simp) ?_
   refine Kn.takeS 9 ⟨some 95, _, _, _, _, _⟩ ?_
   refine Kn.takeS 10 ⟨some 96, _, _, _, _, _⟩ ?_
   refine Kn.takeS 11 ⟨some 97, _, _, _, _, _⟩ ?_
   refine Kn.takeS 12 ⟨some 98, _, _, _, _, _⟩ ?_
   refine Kn.takeS 13 ⟨some 99, _, _, _, _, _⟩ (v := (.int .i64 ps.l)) (hy := fun w hSw => by
    have q0 := hSw.cellv 7
    go_simp) ?_
   refine Kn.takeR 14 ⟨some 100, _, _, _, _, _⟩ fun K hK => ?_
   go_simp
   refine (duo_rtouch (x := ps.l) ps.s (HS.out.permL (L' := u.L cf t ((X, (XB r u cf ps vi vb)) :: L)) (perm_any (fun c => by simp only [RT.L, List.map_cons, List.sum_cons]; omega))) HT.out hun).mono ?_
   rintro en wt ⟨rfl, hd⟩
   have HSt := Lib.hid (hd.permL (L' := (X, (XB r u cf ps vi vb)) :: u.L cf (t.touch ps.s ps.l) L) (perm_any (fun c => by simp only [RT.L, List.map_cons, List.sum_cons]; omega)))
   clear hd
   clear HS
   refine hK.out _ _ (HSt.out.boxi 0 rfl) (fun hSn => ?_)
   clear hK K hSw0
   have hSw0 := hSn
   clear hSn
   refine wpAnyH_done (by kernel_rfl) ?_ _
   clear hSw0
   have hwo : IntKind.i64.wrap (ps.o + (n : Int)) = ps.o + (n : Int) := IntWalk.i64_in _ (by omega)
   have hwl : IntKind.i64.wrap (ps.l + 1) = ps.l + 1 := IntWalk.i64_in _ (by omega)
   have b1 := HSt.out.boxi 0 rfl
   have y6 := b1.cellv 6
   have y7 := b1.cellv 7
   have y8 := b1.cellv 8
   have z6 := b1.frozen 6
   have z7 := b1.frozen 7
   have z8 := b1.frozen 8
   have lX := b1.lt
   have HP := Lib.hid (((HSt.out.put 0 rfl 6 (.int .i64 (ps.o + (n : Int)))).put 0 rfl 7 (.int .i64 (ps.l + 1))).put 0 rfl 8 (.int .i64 ((sum : Nat) : Int)))
   clear b1 HSt
   go_wp2
   go_ret
   rw [HWW.out, HS2.out, if_pos rfl]
   exact ⟨rfl, HP.out⟩
end Go.Proofs.YtgcfdjcpcclcjaaGreat
namespace Go.Kn
open Go Go.RowKit
theorem encOwn_some2 {w w' : World} {e : Ending} {b : List UInt8} (h : EncOwn w (some b) e w') : ∃ g c, e = .returned (.tuple #[.slice (some ⟨g, 0, none⟩) b.length c, .int .i64 0]) ∧ b.length ≤ c ∧ c ≤ maxLen ∧ w.heap.size ≤ g ∧ Own w' g (bvs b) ∧ Only [] w w' := by
 rcases h with ⟨h, _⟩ | ⟨bs, g, c, h, h2⟩
 ·cases h
 ·injection h with h
  subst h
  exact ⟨g, c, h2⟩
end Go.Kn
namespace Go.Proofs.YtgcfdjcpcclcjaaGreat
open Go Go.RowKit Go.Kn
set_option maxRecDepth 100000 in
set_option maxHeartbeats 16000000 in
theorem xw_head_any (w0 w : World) (p : PD) (r : RD) (d e : Dk) (X : Nat) (u : RT) (ps : Ps) (vi vb : Value) (cf : Cf) (L : List (Nat × List Value)) (G : List Gs) (F : List (World → Prop))
  (h : Duo w0 w p r d e ⟨(X, (XB r u cf ps vi vb)) :: L, G, F⟩) (hc : cf.Ok) (ho : ps.o = 0) (hh : e.held.length ≤ 900000) (hK : r.K ≤ 900000) :
  Calls Tryz.prog 129 #[.pointer (some ⟨X, 0, none⟩)] w fun en w' => en = .returned (.int .i64 (beginW e cf ps).2.2) ∧ Duo w0 w' p (RD.up r 1) d (beginW e cf ps).1 ⟨(X, XB r u cf (beginW e cf ps).2.1 vi vb) :: L, G, F⟩ := by
 have H := Lib.hid h
 have HC := Lib.hid hc
 have HHH := Lib.hid hh
 have hno : ¬ 0 < ps.o := by omega
 clear h hc hh
 cases hen : encHead ⟨ps.s, ps.m, ps.l, ps.p⟩ with
 | none =>
  have HEN := Lib.hid hen
  have hbw : beginW e cf ps = (e, ps, 1) := by unfold beginW; rw [if_neg hno, show encHead ps.head = none from hen]
  have HBW := Lib.hid hbw
  clear hen hbw hno ho
  go_enter Tryz.func129, Tryz.ntmps129
  go_wp2_with fail
  have HY := Lib.hid H.out.drew
  clear H
  refine wp_region_held_drew (S := (fun w' => Kn.Own w' X (XB r u cf ps vi vb))) (by kernel_rfl) (HY.out.boxi 0 rfl) (fun hSw0 => ?_)
  generalize w.drew = wz at *
  refine Kn.takeS 0 ⟨some 7, _, _, _, _, _⟩ ?_
  refine Kn.takeS 1 ⟨some 8, _, _, _, _, _⟩ ?_
  refine Kn.takeS 2 ⟨some 9, _, _, _, _, _⟩ ?_
  refine Kn.takeS 3 ⟨some 10, _, _, _, _, _⟩ ?_
  refine Kn.takeS 4 ⟨some 11, _, _, _, _, _⟩ (v := (.int .i64 ps.s)) (hy := fun w hSw => by
   have q0 := hSw.cellv 5
   go_simp) ?_
  refine Kn.takeS 5 ⟨some 12, _, _, _, _, _⟩ ?_
  refine Kn.takeS 6 ⟨some 13, _, _, _, _, _⟩ ?_
  refine Kn.takeS 7 ⟨some 14, _, _, _, _, _⟩ ?_
  refine Kn.takeS 8 ⟨some 15, _, _, _, _, _⟩ ?_
  refine Kn.takeS 9 ⟨some 16, _, _, _, _, _⟩ (v := (.int .i64 ps.m)) (hy := fun w hSw => by
   have q0 := hSw.cellv 9
   go_simp) ?_
  refine Kn.takeS 10 ⟨some 17, _, _, _, _, _⟩ ?_
  refine Kn.takeS 11 ⟨some 18, _, _, _, _, _⟩ ?_
  refine Kn.takeS 12 ⟨some 19, _, _, _, _, _⟩ ?_
  refine Kn.takeS 13 ⟨some 20, _, _, _, _, _⟩ ?_
  refine Kn.takeS 14 ⟨some 21, _, _, _, _, _⟩ (v := (.int .i64 ps.l)) (hy := fun w hSw => by
   have q0 := hSw.cellv 7
   go_simp) ?_
  refine Kn.takeS 15 ⟨some 22, _, _, _, _, _⟩ ?_
  refine Kn.takeS 16 ⟨some 23, _, _, _, _, _⟩ ?_
  refine Kn.takeS 17 ⟨some 24, _, _, _, _, _⟩ ?_
  refine Kn.takeS 18 ⟨some 25, _, _, _, _, _⟩ ?_
  refine Kn.takeS 19 ⟨some 26, _, _, _, _, _⟩ (v := (.int .i64 ps.p)) (hy := fun w hSw => by
   have q0 := hSw.cellv 8
   go_simp) ?_
  refine Kn.takeS 20 ⟨some 27, _, _, _, _, _⟩ ?_
  refine Kn.takeR 21 ⟨some 28, _, _, _, _, _⟩ fun K hK => ?_
  go_simp
  refine (ref_head_enc_own ps.s ps.m ps.l ps.p _).mono ?_
  rintro en wa hen
  rw [HEN.out] at hen
  obtain ⟨rfl, hO⟩ := encOwn_none hen
  have HYr := Lib.hid (HY.out.keep0 hO)
  clear hO hen
  clear HY
  refine hK.out _ _ (HYr.out.boxi 0 rfl) (fun hSn => ?_)
  clear hK K hSw0
  have hSw0 := hSn
  clear hSn
  refine Kn.takeS 22 ⟨some 6, _, _, _, _, _⟩ ?_
  refine Kn.takeS 23 ⟨some 29, _, _, _, _, _⟩ ?_
  refine Kn.takeS 24 ⟨some 30, _, _, _, _, _⟩ ?_
  refine Kn.takeS 25 ⟨some 3, _, _, _, _, _⟩ ?_
  refine Kn.takeS 26 ⟨some 4, _, _, _, _, _⟩ ?_
  refine wpAnyH_done (by kernel_rfl) ?_ _
  clear hSw0
  go_wp2
  go_ret
  rw [HBW.out]
  exact ⟨rfl, duo_up HYr.out 1⟩
 | some b =>
  have HEN := Lib.hid hen
  obtain ⟨⟨e2, er⟩, hwr⟩ : ∃ x, e.write (cf.at_ ps.s) b = x := ⟨_, rfl⟩
  have hbw : beginW e cf ps = if er = 0 then (e2, ⟨ps.s, 1, ps.l, ps.p, ps.m⟩, 0) else (e2, ps, er) := by unfold beginW; rw [if_neg hno, show encHead ps.head = some b from hen]; simp only [hwr]
  have HBW := Lib.hid hbw
  have HWR := Lib.hid hwr
  clear hen hbw hno ho hwr
  go_enter Tryz.func129, Tryz.ntmps129
  go_wp2_with fail
  have HY := Lib.hid H.out.drew
  clear H
  refine wp_region_held_drew (S := (fun w' => Kn.Own w' X (XB r u cf ps vi vb))) (by kernel_rfl) (HY.out.boxi 0 rfl) (fun hSw0 => ?_)
  generalize w.drew = wz at *
  refine Kn.takeS 0 ⟨some 7, _, _, _, _, _⟩ ?_
  refine Kn.takeS 1 ⟨some 8, _, _, _, _, _⟩ ?_
  refine Kn.takeS 2 ⟨some 9, _, _, _, _, _⟩ ?_
  refine Kn.takeS 3 ⟨some 10, _, _, _, _, _⟩ ?_
  refine Kn.takeS 4 ⟨some 11, _, _, _, _, _⟩ (v := (.int .i64 ps.s)) (hy := fun w hSw => by
   have q0 := hSw.cellv 5
   go_simp) ?_
  refine Kn.takeS 5 ⟨some 12, _, _, _, _, _⟩ ?_
  refine Kn.takeS 6 ⟨some 13, _, _, _, _, _⟩ ?_
  refine Kn.takeS 7 ⟨some 14, _, _, _, _, _⟩ ?_
  refine Kn.takeS 8 ⟨some 15, _, _, _, _, _⟩ ?_
  refine Kn.takeS 9 ⟨some 16, _, _, _, _, _⟩ (v := (.int .i64 ps.m)) (hy := fun w hSw => by
   have q0 := hSw.cellv 9
   go_simp) ?_
  refine Kn.takeS 10 ⟨some 17, _, _, _, _, _⟩ ?_
  refine Kn.takeS 11 ⟨some 18, _, _, _, _, _⟩ ?_
  refine Kn.takeS 12 ⟨some 19, _, _, _, _, _⟩ ?_
  refine Kn.takeS 13 ⟨some 20, _, _, _, _, _⟩ ?_
  refine Kn.takeS 14 ⟨some 21, _, _, _, _, _⟩ (v := (.int .i64 ps.l)) (hy := fun w hSw => by
   have q0 := hSw.cellv 7
   go_simp) ?_
  refine Kn.takeS 15 ⟨some 22, _, _, _, _, _⟩ ?_
  refine Kn.takeS 16 ⟨some 23, _, _, _, _, _⟩ ?_
  refine Kn.takeS 17 ⟨some 24, _, _, _, _, _⟩ ?_
  refine Kn.takeS 18 ⟨some 25, _, _, _, _, _⟩ ?_
  refine Kn.takeS 19 ⟨some 26, _, _, _, _, _⟩ (v := (.int .i64 ps.p)) (hy := fun w hSw => by
   have q0 := hSw.cellv 8
   go_simp) ?_
  refine Kn.takeS 20 ⟨some 27, _, _, _, _, _⟩ ?_
  refine Kn.takeR 21 ⟨some 28, _, _, _, _, _⟩ fun K hK => ?_
  go_simp
  refine (ref_head_enc_own ps.s ps.m ps.l ps.p _).mono ?_
  rintro en wa hen
  rw [HEN.out] at hen
  obtain ⟨g2, c2, rfl, hbc, hcm2, hg2, hown, hO⟩ := encOwn_some2 hen
  have HYr := Lib.hid (HY.out.addFc hO (f := fun W => Bys W (some ⟨g2, 0, none⟩) b.length c2 b) (Row1.fc (Row1.of_Own hown (bvs_length _) hbc hcm2) (fun _ a ha hm => by injection ha with ha; subst ha; simp at hm; omega)))
  clear hen hbc hcm2 hg2 hown hO
  clear HY
  refine hK.out _ _ (HYr.out.boxi 0 rfl) (fun hSn => ?_)
  clear hK K hSw0
  have hSw0 := hSn
  clear hSn
  refine Kn.takeS 22 ⟨some 6, _, _, _, _, _⟩ ?_
  refine Kn.takeS 23 ⟨some 29, _, _, _, _, _⟩ ?_
  refine Kn.takeS 24 ⟨some 30, _, _, _, _, _⟩ ?_
  refine Kn.takeS 25 ⟨some 3, _, _, _, _, _⟩ ?_
  refine Kn.takeS 26 ⟨some 4, _, _, _, _, _⟩ ?_
  refine wpAnyH_done (by kernel_rfl) ?_ _
  clear hSw0
  have c0 := (HYr.out.boxi 0 rfl).cellv 0
  go_wp2_with fail
  obtain ⟨c3, hF3, hR, back3⟩ := Duo.ofRu HYr.out 1
  refine (rk_mean_any hR (by omega) (some ⟨g2, 0, none⟩) b.length c2).mono ?_
  rintro en w3 ⟨rfl, hd⟩
  have HM := Lib.hid (back3 _ _ hd)
  clear hF3 hR back3 hd c0 HYr
  go_wp2_with fail
  have HZ := Lib.hid HM.out.drew
  clear HM
  refine wp_region_held_drew (S := (fun w' => Kn.Own w' X (XB r u cf ps vi vb))) (by kernel_rfl) (HZ.out.boxi 0 rfl) (fun hSw0 => ?_)
  generalize w3.drew = wz at *
  refine Kn.takeS 0 ⟨some 40, _, _, _, _, _⟩ ?_
  refine Kn.takeS 1 ⟨some 41, _, _, _, _, _⟩ ?_
  refine Kn.takeS 2 ⟨some 42, _, _, _, _, _⟩ ?_
  refine Kn.takeS 3 ⟨some 43, _, _, _, _, _⟩ (v := (.pointer (some ⟨r.M, 0, none⟩))) (hy := fun w hSw => by
   have q0 := hSw.cellv 0
   go_simp) ?_
  refine Kn.takeS 4 ⟨some 44, _, _, _, _, _⟩ ?_
  refine Kn.takeS 5 ⟨some 45, _, _, _, _, _⟩ ?_
  refine Kn.takeS 6 ⟨some 46, _, _, _, _, _⟩ ?_
  refine Kn.takeS 7 ⟨some 47, _, _, _, _, _⟩ (v := (.agg #[.int .i64 cf.b, .int .i64 cf.s, .int .i64 cf.l])) (hy := fun w hSw => by
   have q1 := hSw.cellv 1
   have q2 := hSw.cellv 2
   have q3 := hSw.cellv 3
   go_simp) ?_
  refine Kn.takeS 8 ⟨some 48, _, _, _, _, _⟩ ?_
  refine Kn.takeS 9 ⟨some 49, _, _, _, _, _⟩ ?_
  refine Kn.takeS 10 ⟨some 50, _, _, _, _, _⟩ ?_
  refine Kn.takeS 11 ⟨some 51, _, _, _, _, _⟩ ?_
  refine Kn.takeS 12 ⟨some 52, _, _, _, _, _⟩ (v := (.int .i64 ps.s)) (hy := fun w hSw => by
   have q0 := hSw.cellv 5
   go_simp) ?_
  refine Kn.takeS 14 ⟨some 54, _, _, _, _, _⟩ ?_
  refine Kn.takeR 13 ⟨some 53, _, _, _, _, _⟩ fun K hK => ?_
  go_simp
  refine (ref_segat_any cf ps.s _ HC.out).mono ?_
  rintro en wg ⟨rfl, hO⟩
  have HZg := Lib.hid (HZ.out.keep0 hO)
  clear hO
  clear HZ
  refine hK.out _ _ (HZg.out.boxi 0 rfl) (fun hSn => ?_)
  clear hK K hSw0
  have hSw0 := hSn
  clear hSn
  refine Kn.takeR 15 ⟨some 55, _, _, _, _, _⟩ fun K hK => ?_
  go_simp
  obtain ⟨c3, hF3, hR, back3⟩ := HZg.out.ofR
  refine (rk_write_any w0 _ (RD.up r 1) _ c3 (cf.at_ ps.s) (some ⟨g2, 0, none⟩) b.length c2 b hR (hF3 _ List.mem_cons_self) (by have := HHH.out; omega)).mono ?_
  rw [HWR.out]
  rintro en ww ⟨rfl, hd⟩
  have HZgw := Lib.hid (back3 _ _ hd)
  clear hF3 hR back3 hd
  clear HZg
  refine hK.out _ _ (HZgw.out.boxi 0 rfl) (fun hSn => ?_)
  clear hK K hSw0
  have hSw0 := hSn
  clear hSn
  refine Kn.takeS 16 ⟨some 5, _, _, _, _, _⟩ ?_
  refine wpAnyH_done (by kernel_rfl) ?_ _
  clear hSw0
  have HX := Lib.hid (HZgw.out.subF (F' := F) (fun f hf => List.mem_cons_of_mem _ hf))
  clear HZgw
  by_cases her : er = 0
  ·have hb3 := HBW.out
   rw [if_pos her] at hb3
   have HB3 := Lib.hid hb3
   clear hb3
   subst her
   have b1 := HX.out.boxi 0 rfl
   have y6 := b1.cellv 6
   have z6 := b1.frozen 6
   have lX := b1.lt
   have HP := Lib.hid (HX.out.put 0 rfl 6 (.int .i64 1))
   clear b1 HX
   go_wp2
   go_ret
   rw [HB3.out]
   exact ⟨rfl, HP.out⟩
  ·have hne : (er == 0) = false := beq_eq_false_iff_ne.2 her
   have HNE : Hid (er ≠ 0) := Lib.hid her
   clear her
   go_wp2
   go_ret
   rw [HBW.out, if_neg HNE.out]
   exact ⟨rfl, HX.out⟩
end Go.Proofs.YtgcfdjcpcclcjaaGreat
namespace Go.Proofs.YtgcfdjcpcclcjaaGreat
open Go Go.RowKit Go.Kn
/-- the reference's writer as it lies -/
def XrIn (w0 w : World) (p : PD) (r : RD) (d : Dk) (X : Nat) (u : RT) (cf : Cf) (y : Wr) (L : List (Nat × List Value)) (G : List Gs) (F : List (World → Prop)) : Prop :=
 ∃ (A : Option Addr) (c : Nat) (B : Option Addr) (k : Nat) (sl : List (Option Addr × Nat × Nat)), Duo w0 w p r d y.d ⟨(X, XB r u cf y.p (.slice A y.its.length c) (.slice B y.bl.length k)) :: u.L cf y.t L, ⟨63, 4, .slice A y.its.length c, y.its.length, itsV y.its⟩ :: ⟨47, 1, .slice B y.bl.length k, y.bl.length, sl.map slv⟩ :: G, (fun W => Bls W sl y.bl) :: F⟩
theorem XrIn.empty {w0 w : World} {p : PD} {r : RD} {d e : Dk} {X : Nat} {u : RT} {cf : Cf} {t : Tb} {ps : Ps} {g1 g2 : Gs} {L : List (Nat × List Value)} {G : List Gs} {F : List (World → Prop)} {f : World → Prop} (h : Duo w0 w p r d e ⟨(X, XB r u cf ps (.slice none 0 0) (.slice none 0 0)) :: u.L cf t L, g1 :: g2 :: G, f :: F⟩) : XrIn w0 w p r d X u cf ⟨e, t, ps, [], []⟩ L G F :=
 ⟨none, 0, none, 0, [], ((h.gdrop.gdrop.gnew 47 1).gnew 63 4).impF (F' := (fun W => Bls W [] []) :: F) (fun g hg W hW => by
  rcases List.mem_cons.1 hg with rfl | hg
  ·exact Bls.nil
  ·exact hW g (List.mem_cons_of_mem _ hg))⟩
theorem duo_roff {w0 w : World} {p : PD} {r : RD} {d e : Dk} {c : Fr3} (h : Duo w0 w p r d e c) : w.cell? ⟨r.M, 4, none⟩ = some (.bool e.off) := by
 obtain ⟨c1, hF, hR, back⟩ := h.ofR
 obtain ⟨v, lv, kk, ls, sl, hs, hl, hm⟩ := hR.mem
 exact (hm.boxi 0 (p := r.M) (cs := r.box v lv e) rfl).cellv 4
theorem begin_o (d : Dk) (c : Cf) (q : Ps) (h : (beginW d c q).2.2 = 0) (ho : 0 ≤ q.o) : 1 ≤ (beginW d c q).2.1.o := by
 unfold beginW at h ⊢
 split at h
 ·rename_i h1
  rw [if_pos h1]
  show 1 ≤ q.o
  omega
 ·rename_i h1
  rw [if_neg h1]
  cases hh : encHead q.head with
  | none => rw [hh] at h; simp at h
  | some b =>
   rw [hh] at h
   simp only at h ⊢
   split at h
   ·rename_i h2
    rw [if_pos h2]
    show (1 : Int) ≤ 1
    decide
   ·rename_i h2
    exact absurd h h2
set_option maxRecDepth 100000 in
set_option maxHeartbeats 16000000 in
theorem xw_emit_any (w0 w : World) (p : PD) (r : RD) (d : Dk) (X : Nat) (u : RT) (y : Wr) (cf : Cf) (L : List (Nat × List Value)) (G : List Gs) (F : List (World → Prop)) (h : XrIn w0 w p r d X u cf y L G F) (hc : cf.Ok) (ht : y.t.Ok u.n) (hun : u.n ≤ 1000) (hs : 0 ≤ y.p.s ∧ y.p.s ≤ cf.s - 1) (ho : 0 ≤ y.p.o ∧ y.p.o ≤ 64) (hl : -1000000000000 ≤ y.p.l ∧ y.p.l ≤ 1000000000000) (hh : y.d.held.length ≤ 890000) (hK : r.K ≤ 800000) :
  Calls Tryz.prog 45 #[.pointer (some ⟨X, 0, none⟩)] w fun en w' => en = .returned (.int .i64 (y.emit cf).2) ∧ XrIn w0 w' p (RD.up r 2) d X u cf (y.emit cf).1 L G F := by
 obtain ⟨e, t, ps, its, bl⟩ := y
 obtain ⟨A, c, B, k, sl, h⟩ := h
 dsimp only at h ht hs ho hl hh
 obtain ⟨n, hn⟩ : ∃ n, its.length = n := ⟨_, rfl⟩
 obtain ⟨m, hm⟩ : ∃ m, bl.length = m := ⟨_, rfl⟩
 rw [hn, hm] at h
 have HD : Hid (Duo w0 w p r d e ⟨(X, (XB r u cf ps (.slice A n c) (.slice B m k))) :: u.L cf (t) L, ⟨63, 4, .slice A n c, n, itsV its⟩ :: ⟨47, 1, .slice B m k, m, sl.map slv⟩ :: G, (fun W => Bls W sl bl) :: F⟩) := Lib.hid h
 have HC := Lib.hid hc
 have HT := Lib.hid ht
 have HN := Lib.hid hn
 have HM := Lib.hid hm
 have c0 := (h.boxi 0 rfl).cellv 0
 have c5 := (h.boxi 0 rfl).cellv 6
 have c8 := (h.boxi 0 rfl).cellv 10
 have cof := duo_roff h
 have hfin : ∀ (w' : World) (r' : RD) (d' : Dk) (t' : Tb) (p' : Ps), Duo w0 w' p r' d d' ⟨(X, (XB r' u cf p' (.slice A n c) (.slice B m k))) :: u.L cf (t') L, ⟨63, 4, .slice A n c, n, itsV its⟩ :: ⟨47, 1, .slice B m k, m, sl.map slv⟩ :: G, (fun W => Bls W sl bl) :: F⟩ → XrIn w0 w' p r' d X u cf ⟨d', t', p', its, bl⟩ L G F := fun w' r' d' t' p' hx => ⟨A, c, B, k, sl, by rw [HN.out, HM.out]; exact hx⟩
 have HFIN := Lib.hid hfin
 clear h hc ht hn hm hfin
 go_enter Tryz.func45, Tryz.ntmps45
 by_cases hof : e.off = true
 ·have hem : Wr.emit cf ⟨e, t, ps, its, bl⟩ = (⟨e, t, ps, its, bl⟩, 3) := by unfold Wr.emit; rw [if_pos hof]
  have HEM := Lib.hid hem
  rw [hof] at cof
  clear hem hof
  go_wp2
  go_ret
  rw [HEM.out]
  exact ⟨rfl, HFIN.out _ _ _ _ _ (duo_up HD.out 2)⟩
 ·have HOF := Lib.hid hof
  rw [Bool.not_eq_true] at hof
  rw [hof] at cof
  clear hof
  by_cases hn0 : n = 0
  ·have hi0 : its = [] := List.eq_nil_of_length_eq_zero (HN.out.trans hn0)
   have hem : Wr.emit cf ⟨e, t, ps, its, bl⟩ = (⟨e, t, ps, its, bl⟩, 0) := by unfold Wr.emit; rw [if_neg HOF.out, if_pos hi0]
   have HEM := Lib.hid hem
   clear hem hi0
   subst hn0
   go_wp2
   go_ret
   rw [HEM.out]
   exact ⟨rfl, HFIN.out _ _ _ _ _ (duo_up HD.out 2)⟩
  ·have hi0 : ¬ its = [] := fun h => hn0 (by rw [← HN.out, h]; rfl)
   have hnb : ((n : Int) == 0) = false := by simp; omega
   have hwf := begin_W cf ⟨e, t, ps, its, bl⟩
   obtain ⟨bb1, bb2, bb3, bb4⟩ := beginW_s e cf ps
   have bb5 := begin_o e cf ps
   obtain ⟨d1, p1, e1, hbg⟩ : ∃ d1 p1 e1, beginW e cf ps = (d1, p1, e1) := ⟨_, _, _, rfl⟩
   dsimp only at hwf
   rw [hbg] at hwf bb1 bb2 bb3 bb4 bb5
   dsimp only at hwf bb1 bb2 bb3 bb4 bb5
   have hem : Wr.emit cf ⟨e, t, ps, its, bl⟩ = if e1 ≠ 0 then (⟨d1, t, p1, its, bl⟩, e1) else if (Wr.write cf ⟨d1, t, p1, its, bl⟩ its bl).2 ≠ 0 then Wr.write cf ⟨d1, t, p1, its, bl⟩ its bl else ({ (Wr.write cf ⟨d1, t, p1, its, bl⟩ its bl).1 with its := [], bl := [] }, 0) := by
    unfold Wr.emit
    rw [if_neg HOF.out, if_neg hi0, hwf]
   have HEM := Lib.hid hem
   have HBG := Lib.hid hbg
   clear hem hbg hwf hi0 hn0
   by_cases h0 : ps.o = 0
   ·have h0b : (ps.o == 0) = true := beq_iff_eq.2 h0
    go_wp2_with fail
    refine (xw_head_any w0 _ p r d e X u ps _ _ cf _ _ _ HD.out HC.out h0 (by omega) (by omega)).mono ?_
    rw [HBG.out]
    rintro en w1 ⟨rfl, hd⟩
    have HB : Hid (Duo w0 w1 p (RD.up r 1) d d1 ⟨(X, (XB r u cf p1 (.slice A n c) (.slice B m k))) :: u.L cf (t) L, ⟨63, 4, .slice A n c, n, itsV its⟩ :: ⟨47, 1, .slice B m k, m, sl.map slv⟩ :: G, (fun W => Bls W sl bl) :: F⟩) := Lib.hid hd
    clear hd HD c0 c5 c8 cof
    by_cases he : e1 = 0
    ·subst he
     have hp1 : 0 ≤ p1.s ∧ p1.s ≤ cf.s - 1 := by rw [bb1]; exact hs
     have hp2 : 1 ≤ p1.o ∧ p1.o ≤ 100 := ⟨bb5 rfl ho.1, by rcases bb3 with h | h <;> omega⟩
     have hp3 : -1000000000000 ≤ p1.l ∧ p1.l ≤ 1000000000000 := by rw [bb2]; exact hl
     have hww := write_W cf ⟨d1, t, p1, its, bl⟩ its bl
     have HH1 : Hid (d1.held.length ≤ 900000) := Lib.hid (by omega)
     obtain ⟨d2, t2, p2, e2, hwr⟩ : ∃ d2 t2 p2 e2, writeW d1 t cf p1 its bl = (d2, t2, p2, e2) := ⟨_, _, _, _, rfl⟩
     dsimp only at hww
     rw [hwr] at hww
     dsimp only at hww
     have hem := HEM.out
     rw [if_neg (by decide), hww] at hem
     dsimp only at hem
     have HEM2 := Lib.hid hem
     have HWR := Lib.hid hwr
     clear hem hwr hww HEM bb1 bb2 bb3 bb4 HBG
     go_wp2_with fail
     have HY := Lib.hid HB.out.drew
     clear HB
     refine wp_region_held_drew (S := (fun w' => w'.cell? ⟨X, 10, none⟩ = some (.slice A n c) ∧ w'.cell? ⟨X, 11, none⟩ = some (.slice B m k))) (by kernel_rfl) ⟨(HY.out.boxi 0 rfl).cellv 10, (HY.out.boxi 0 rfl).cellv 11⟩ (fun hSw0 => ?_)
     generalize w1.drew = wz at *
     refine Kn.takeS 0 ⟨some 29, _, _, _, _, _⟩ ?_
     refine Kn.takeS 1 ⟨some 30, _, _, _, _, _⟩ ?_
     refine Kn.takeS 2 ⟨some 31, _, _, _, _, _⟩ ?_
     refine Kn.takeS 3 ⟨some 32, _, _, _, _, _⟩ ?_
     refine Kn.takeS 4 ⟨some 33, _, _, _, _, _⟩ (v := (.slice A n c)) (hy := fun w hSw => by
      have q0 := hSw.1
      go_simp) ?_
     refine Kn.takeS 5 ⟨some 34, _, _, _, _, _⟩ ?_
     refine Kn.takeS 6 ⟨some 35, _, _, _, _, _⟩ ?_
     refine Kn.takeS 7 ⟨some 36, _, _, _, _, _⟩ ?_
     refine Kn.takeS 8 ⟨some 37, _, _, _, _, _⟩ (v := (.slice B m k)) (hy := fun w hSw => by
      have q0 := hSw.2
      go_simp) ?_
     refine Kn.takeR 9 ⟨some 38, _, _, _, _, _⟩ fun K hK => ?_
     go_simp
     refine (xw_put_any w0 _ p (RD.up r 1) d d1 X u t p1 (.slice A n c) (.slice B m k) cf its bl A B n c m k L _ _ HY.out HC.out HT.out hun (HY.out.its HN.out) ⟨sl, HY.out.grow 1 rfl, HY.out.fact (f := fun W => Bls W sl bl) List.mem_cons_self⟩ hp1 hp2 hp3 HH1.out (by show r.K + 1 ≤ 900000; omega)).mono ?_
     rw [HWR.out]
     rintro en wp ⟨rfl, hd⟩
     have HYp : Hid (Duo w0 wp p (RD.up r 2) d d2 ⟨(X, (XB r u cf p2 (.slice A n c) (.slice B m k))) :: u.L cf (t2) L, ⟨63, 4, .slice A n c, n, itsV its⟩ :: ⟨47, 1, .slice B m k, m, sl.map slv⟩ :: G, (fun W => Bls W sl bl) :: F⟩) := Lib.hid hd
     clear hd HY
     refine hK.out _ _ ⟨(HYp.out.boxi 0 rfl).cellv 10, (HYp.out.boxi 0 rfl).cellv 11⟩ (fun hSn => ?_)
     clear hK K hSw0
     have hSw0 := hSn
     clear hSn
     refine Kn.takeS 10 ⟨some 4, _, _, _, _, _⟩ ?_
     refine wpAnyH_done (by kernel_rfl) ?_ _
     clear hSw0
     by_cases he2 : e2 = 0
     ·subst he2
      have b1 := HYp.out.boxi 0 rfl
      have y8 := b1.cellv 10
      have y9 := b1.cellv 11
      have z8 := b1.frozen 10
      have z9 := b1.frozen 11
      have lX := b1.lt
      have HP := Lib.hid ((HYp.out.put 0 rfl 10 (.slice none 0 0)).put 0 rfl 11 (.slice none 0 0))
      have hem := HEM2.out
      rw [if_neg (by decide)] at hem
      have HEM3 := Lib.hid hem
      clear b1 HYp hem
      go_wp2
      go_ret
      rw [HEM3.out]
      exact ⟨rfl, XrIn.empty HP.out⟩
     ·have hne : (e2 == 0) = false := beq_eq_false_iff_ne.2 he2
      have hem := HEM2.out
      rw [if_pos he2] at hem
      have HEM3 := Lib.hid hem
      clear hem he2
      go_wp2
      go_ret
      rw [HEM3.out]
      exact ⟨rfl, HFIN.out _ _ _ _ _ HYp.out⟩
    ·have hne : (e1 != 0) = true := bne_iff_ne.2 he
     have hem := HEM.out
     rw [if_pos he] at hem
     have HEM3 := Lib.hid hem
     clear hem he
     go_wp2
     go_ret
     rw [HEM3.out]
     exact ⟨rfl, HFIN.out _ _ _ _ _ (duo_up HB.out 1)⟩
   ·have h0b : (ps.o == 0) = false := beq_eq_false_iff_ne.2 h0
    have hbe : beginW e cf ps = (e, ps, 0) := by unfold beginW; rw [if_pos (by omega)]
    have hq := HBG.out
    rw [hbe] at hq
    injection hq with q1 q2
    injection q2 with q2 q3
    subst q1 q2 q3
    have hp1 := hs
    have hp2 : 1 ≤ ps.o ∧ ps.o ≤ 100 := by omega
    have hp3 := hl
    have HB : Hid (Duo w0 w p (RD.up r 1) d e ⟨(X, (XB r u cf ps (.slice A n c) (.slice B m k))) :: u.L cf (t) L, ⟨63, 4, .slice A n c, n, itsV its⟩ :: ⟨47, 1, .slice B m k, m, sl.map slv⟩ :: G, (fun W => Bls W sl bl) :: F⟩) := Lib.hid (duo_up HD.out 1)
    clear HD hbe
    have hww := write_W cf ⟨e, t, ps, its, bl⟩ its bl
    have HH1 : Hid (e.held.length ≤ 900000) := Lib.hid (by omega)
    obtain ⟨d2, t2, p2, e2, hwr⟩ : ∃ d2 t2 p2 e2, writeW e t cf ps its bl = (d2, t2, p2, e2) := ⟨_, _, _, _, rfl⟩
    dsimp only at hww
    rw [hwr] at hww
    dsimp only at hww
    have hem := HEM.out
    rw [if_neg (by decide), hww] at hem
    dsimp only at hem
    have HEM2 := Lib.hid hem
    have HWR := Lib.hid hwr
    clear hem hwr hww HEM bb1 bb2 bb3 bb4 HBG
    go_wp2_with fail
    have HY := Lib.hid HB.out.drew
    clear HB
    refine wp_region_held_drew (S := (fun w' => w'.cell? ⟨X, 10, none⟩ = some (.slice A n c) ∧ w'.cell? ⟨X, 11, none⟩ = some (.slice B m k))) (by kernel_rfl) ⟨(HY.out.boxi 0 rfl).cellv 10, (HY.out.boxi 0 rfl).cellv 11⟩ (fun hSw0 => ?_)
    generalize w.drew = wz at *
    refine Kn.takeS 0 ⟨some 29, _, _, _, _, _⟩ ?_
    refine Kn.takeS 1 ⟨some 30, _, _, _, _, _⟩ ?_
    refine Kn.takeS 2 ⟨some 31, _, _, _, _, _⟩ ?_
    refine Kn.takeS 3 ⟨some 32, _, _, _, _, _⟩ ?_
    refine Kn.takeS 4 ⟨some 33, _, _, _, _, _⟩ (v := (.slice A n c)) (hy := fun w hSw => by
     have q0 := hSw.1
     go_simp) ?_
    refine Kn.takeS 5 ⟨some 34, _, _, _, _, _⟩ ?_
    refine Kn.takeS 6 ⟨some 35, _, _, _, _, _⟩ ?_
    refine Kn.takeS 7 ⟨some 36, _, _, _, _, _⟩ ?_
    refine Kn.takeS 8 ⟨some 37, _, _, _, _, _⟩ (v := (.slice B m k)) (hy := fun w hSw => by
     have q0 := hSw.2
     go_simp) ?_
    refine Kn.takeR 9 ⟨some 38, _, _, _, _, _⟩ fun K hK => ?_
    go_simp
    refine (xw_put_any w0 _ p (RD.up r 1) d e X u t ps (.slice A n c) (.slice B m k) cf its bl A B n c m k L _ _ HY.out HC.out HT.out hun (HY.out.its HN.out) ⟨sl, HY.out.grow 1 rfl, HY.out.fact (f := fun W => Bls W sl bl) List.mem_cons_self⟩ hp1 hp2 hp3 HH1.out (by show r.K + 1 ≤ 900000; omega)).mono ?_
    rw [HWR.out]
    rintro en wp ⟨rfl, hd⟩
    have HYp : Hid (Duo w0 wp p (RD.up r 2) d d2 ⟨(X, (XB r u cf p2 (.slice A n c) (.slice B m k))) :: u.L cf (t2) L, ⟨63, 4, .slice A n c, n, itsV its⟩ :: ⟨47, 1, .slice B m k, m, sl.map slv⟩ :: G, (fun W => Bls W sl bl) :: F⟩) := Lib.hid hd
    clear hd HY
    refine hK.out _ _ ⟨(HYp.out.boxi 0 rfl).cellv 10, (HYp.out.boxi 0 rfl).cellv 11⟩ (fun hSn => ?_)
    clear hK K hSw0
    have hSw0 := hSn
    clear hSn
    refine Kn.takeS 10 ⟨some 4, _, _, _, _, _⟩ ?_
    refine wpAnyH_done (by kernel_rfl) ?_ _
    clear hSw0
    by_cases he2 : e2 = 0
    ·subst he2
     have b1 := HYp.out.boxi 0 rfl
     have y8 := b1.cellv 10
     have y9 := b1.cellv 11
     have z8 := b1.frozen 10
     have z9 := b1.frozen 11
     have lX := b1.lt
     have HP := Lib.hid ((HYp.out.put 0 rfl 10 (.slice none 0 0)).put 0 rfl 11 (.slice none 0 0))
     have hem := HEM2.out
     rw [if_neg (by decide)] at hem
     have HEM3 := Lib.hid hem
     clear b1 HYp hem
     go_wp2
     go_ret
     rw [HEM3.out]
     exact ⟨rfl, XrIn.empty HP.out⟩
    ·have hne : (e2 == 0) = false := beq_eq_false_iff_ne.2 he2
     have hem := HEM2.out
     rw [if_pos he2] at hem
     have HEM3 := Lib.hid hem
     clear hem he2
     go_wp2
     go_ret
     rw [HEM3.out]
     exact ⟨rfl, HFIN.out _ _ _ _ _ HYp.out⟩
end Go.Proofs.YtgcfdjcpcclcjaaGreat
namespace Go.Proofs.YtgcfdjcpcclcjaaGreat
open Go Go.RowKit Go.Kn
set_option maxRecDepth 100000 in
set_option maxHeartbeats 16000000 in
theorem xw_turn_any (w0 w : World) (p : PD) (r : RD) (d : Dk) (X : Nat) (u : RT) (y : Wr) (s : Int) (cf : Cf) (L : List (Nat × List Value)) (G : List Gs) (F : List (World → Prop)) (h : XrIn w0 w p r d X u cf y L G F) (hc : cf.Ok) (ht : y.t.Ok u.n) (hun : u.n ≤ 1000) (hs : 0 ≤ y.p.s ∧ y.p.s ≤ cf.s - 1) (ho : 1 ≤ y.p.o ∧ y.p.o ≤ 100) (hl : -1000000000000 ≤ y.p.l ∧ y.p.l ≤ 1000000000000) (hh : y.d.held.length ≤ 890000) (hK : r.K ≤ 800000) :
  Calls Tryz.prog 126 #[.pointer (some ⟨X, 0, none⟩), .int .i64 s] w fun en w' => en = .returned (.int .i64 (y.turn cf s).2) ∧ XrIn w0 w' p (RD.up r 2) d X u cf (y.turn cf s).1 L G F := by
 obtain ⟨e, t, ps, its, bl⟩ := y
 obtain ⟨A, c, B, k, sl, h⟩ := h
 dsimp only at h ht hs ho hl hh
 obtain ⟨n, hn⟩ : ∃ n, its.length = n := ⟨_, rfl⟩
 obtain ⟨m, hm⟩ : ∃ m, bl.length = m := ⟨_, rfl⟩
 rw [hn, hm] at h
 have hits : Its (w.alloc (.cells #[.int .i64 7, .int .i64 0, .int .i64 0, .int .i64 s] 63)) (some ⟨w.heap.size, 0, none⟩) 1 1 [⟨7, 0, 0, s⟩] := Its.one (Kn.Own.new w #[.int .i64 7, .int .i64 0, .int .i64 0, .int .i64 s] 63)
 have HD : Hid (Duo w0 (w.alloc (.cells #[.int .i64 7, .int .i64 0, .int .i64 0, .int .i64 s] 63)) p r d e ⟨(X, (XB r u cf ps (.slice A n c) (.slice B m k))) :: u.L cf (t) L, ⟨63, 4, .slice A n c, n, itsV its⟩ :: ⟨47, 1, .slice B m k, m, sl.map slv⟩ :: G, (fun W => Bls W sl bl) :: F⟩) := Lib.hid (h.alloc _)
 have HI := Lib.hid hits
 have HC := Lib.hid hc
 have HT := Lib.hid ht
 have HN := Lib.hid hn
 have HM := Lib.hid hm
 have hfin : ∀ (w' : World) (r' : RD) (d' : Dk) (t' : Tb) (p' : Ps), Duo w0 w' p r' d d' ⟨(X, (XB r' u cf p' (.slice A n c) (.slice B m k))) :: u.L cf (t') L, ⟨63, 4, .slice A n c, n, itsV its⟩ :: ⟨47, 1, .slice B m k, m, sl.map slv⟩ :: G, (fun W => Bls W sl bl) :: F⟩ → XrIn w0 w' p r' d X u cf ⟨d', t', p', its, bl⟩ L G F := fun w' r' d' t' p' hx => ⟨A, c, B, k, sl, by rw [HN.out, HM.out]; exact hx⟩
 have HFIN := Lib.hid hfin
 have hww := write_W cf ⟨e, t, ps, its, bl⟩ [⟨7, 0, 0, s⟩] []
 obtain ⟨v1, v2, v3, v4, v5⟩ := writeW_s e t cf ps [⟨7, 0, 0, s⟩] []
 obtain ⟨d2, t2, p2, e2, hwr⟩ : ∃ d2 t2 p2 e2, writeW e t cf ps [⟨7, 0, 0, s⟩] [] = (d2, t2, p2, e2) := ⟨_, _, _, _, rfl⟩
 dsimp only at hww
 rw [hwr] at hww v1 v2 v3 v4 v5
 dsimp only at hww v1 v2 v3 v4 v5
 have hbw := begin_W cf ⟨d2, t2.shut ps.s, (⟨s, 0, p2.l, p2.p, p2.m⟩ : Ps), its, bl⟩
 have htu : Wr.turn cf ⟨e, t, ps, its, bl⟩ s = if e2 ≠ 0 then (⟨d2, t2, p2, its, bl⟩, e2) else (⟨(beginW d2 cf (⟨s, 0, p2.l, p2.p, p2.m⟩ : Ps)).1, t2.shut ps.s, (beginW d2 cf (⟨s, 0, p2.l, p2.p, p2.m⟩ : Ps)).2.1, its, bl⟩, (beginW d2 cf (⟨s, 0, p2.l, p2.p, p2.m⟩ : Ps)).2.2) := by
  unfold Wr.turn
  rw [hww]
  dsimp only
  rw [hbw]
 have HTU := Lib.hid htu
 have HWR := Lib.hid hwr
 have HT2 : Hid (t2.Ok u.n) := Lib.hid (v4 _ ht)
 have HH2 : Hid (d2.held.length ≤ 900000) := Lib.hid (by omega)
 have HPS : Hid (p2.s = ps.s) := Lib.hid v1
 clear h hc ht hn hm hfin hits hww hwr hbw htu v1 v4 v5
 go_enter Tryz.func126, Tryz.ntmps126
 go_wp2_with fail
 refine (xw_put_any w0 _ p r d e X u t ps _ _ cf [⟨7, 0, 0, s⟩] [] _ none 1 1 0 0 L _ _ HD.out HC.out HT.out hun HI.out (Blks.nil _) hs ho hl (by omega) (by omega)).mono ?_
 rw [HWR.out]
 rintro en w1 ⟨rfl, hd⟩
 have HB : Hid (Duo w0 w1 p (RD.up r 1) d d2 ⟨(X, (XB r u cf p2 (.slice A n c) (.slice B m k))) :: u.L cf (t2) L, ⟨63, 4, .slice A n c, n, itsV its⟩ :: ⟨47, 1, .slice B m k, m, sl.map slv⟩ :: G, (fun W => Bls W sl bl) :: F⟩) := Lib.hid hd
 clear hd HD HI
 by_cases he : e2 = 0
 ·subst he
  have htu := HTU.out
  rw [if_neg (by decide)] at htu
  have HTU2 := Lib.hid htu
  clear htu HTU
  go_wp2_with fail
  have HY := Lib.hid HB.out.drew
  clear HB
  refine wp_region_held_drew (S := (fun w' => w'.cell? ⟨X, 4, none⟩ = some (.pointer (some ⟨u.T, 0, none⟩)) ∧ w'.cell? ⟨X, 5, none⟩ = some (.int .i64 p2.s))) (by kernel_rfl) ⟨(HY.out.boxi 0 rfl).cellv 4, (HY.out.boxi 0 rfl).cellv 5⟩ (fun hSw0 => ?_)
  generalize w1.drew = wz at *
  refine Kn.takeS 0 ⟨some 14, _, _, _, _, _⟩ ?_
  refine Kn.takeS 1 ⟨some 15, _, _, _, _, _⟩ ?_
  refine Kn.takeS 2 ⟨some 16, _, _, _, _, _⟩ ?_
  refine Kn.takeS 3 ⟨some 17, _, _, _, _, _⟩ (v := (.pointer (some ⟨u.T, 0, none⟩))) (hy := fun w hSw => by
   have q0 := hSw.1
   go_simp) ?_
  refine Kn.takeS 4 ⟨some 18, _, _, _, _, _⟩ ?_
  refine Kn.takeS 5 ⟨some 19, _, _, _, _, _⟩ ?_
  refine Kn.takeS 6 ⟨some 20, _, _, _, _, _⟩ ?_
  refine Kn.takeS 7 ⟨some 21, _, _, _, _, _⟩ ?_
  refine Kn.takeS 8 ⟨some 22, _, _, _, _, _⟩ (v := (.int .i64 p2.s)) (hy := fun w hSw => by
   have q0 := hSw.2
   go_simp) ?_
  refine Kn.takeR 9 ⟨some 23, _, _, _, _, _⟩ fun K hK => ?_
  go_simp
  refine (duo_rseal p2.s (HY.out.permL (L' := u.L cf t2 ((X, (XB r u cf p2 (.slice A n c) (.slice B m k))) :: L)) (perm_any (fun c => by simp only [RT.L, List.map_cons, List.sum_cons]; omega))) HT2.out hun).mono ?_
  rintro en wt ⟨rfl, hd⟩
  have HYs : Hid (Duo w0 wt p (RD.up r 1) d d2 ⟨(X, (XB r u cf p2 (.slice A n c) (.slice B m k))) :: u.L cf (t2.shut p2.s) L, ⟨63, 4, .slice A n c, n, itsV its⟩ :: ⟨47, 1, .slice B m k, m, sl.map slv⟩ :: G, (fun W => Bls W sl bl) :: F⟩) := Lib.hid (hd.permL (perm_any (fun c => by simp only [RT.L, List.map_cons, List.sum_cons]; omega)))
  clear hd HY
  refine hK.out _ _ ⟨(HYs.out.boxi 0 rfl).cellv 4, (HYs.out.boxi 0 rfl).cellv 5⟩ (fun hSn => ?_)
  clear hK K hSw0
  have hSw0 := hSn
  clear hSn
  refine wpAnyH_done (by kernel_rfl) ?_ _
  clear hSw0
  have b1 := HYs.out.boxi 0 rfl
  have y5 := b1.cellv 5
  have y6 := b1.cellv 6
  have z5 := b1.frozen 5
  have z6 := b1.frozen 6
  have lX := b1.lt
  have HP0 := (HYs.out.put 0 rfl 5 (.int .i64 s)).put 0 rfl 6 (.int .i64 0)
  have HP : Hid (Duo w0 ((wt.setCell ⟨X, 5, none⟩ (.int .i64 s)).setCell ⟨X, 6, none⟩ (.int .i64 0)) p (RD.up r 1) d d2 ⟨(X, (XB r u cf (⟨s, 0, p2.l, p2.p, p2.m⟩ : Ps) (.slice A n c) (.slice B m k))) :: u.L cf (t2.shut p2.s) L, ⟨63, 4, .slice A n c, n, itsV its⟩ :: ⟨47, 1, .slice B m k, m, sl.map slv⟩ :: G, (fun W => Bls W sl bl) :: F⟩) := Lib.hid HP0
  clear b1 HYs HP0
  go_wp2_with fail
  refine (xw_head_any w0 _ p (RD.up r 1) d d2 X u (⟨s, 0, p2.l, p2.p, p2.m⟩ : Ps) _ _ cf _ _ _ HP.out HC.out rfl HH2.out (by show r.K + 1 ≤ 900000; omega)).mono ?_
  rintro en w3 ⟨rfl, hd⟩
  have hd2 : Duo w0 w3 p (RD.up r 2) d (beginW d2 cf (⟨s, 0, p2.l, p2.p, p2.m⟩ : Ps)).1 ⟨(X, (XB r u cf (beginW d2 cf (⟨s, 0, p2.l, p2.p, p2.m⟩ : Ps)).2.1 (.slice A n c) (.slice B m k))) :: u.L cf (t2.shut p2.s) L, ⟨63, 4, .slice A n c, n, itsV its⟩ :: ⟨47, 1, .slice B m k, m, sl.map slv⟩ :: G, (fun W => Bls W sl bl) :: F⟩ := hd
  rw [HPS.out] at hd2
  have HX := Lib.hid hd2
  clear hd hd2 HP y5 y6 z5 z6 lX
  go_wp2
  go_ret
  rw [HTU2.out]
  exact ⟨rfl, HFIN.out _ _ _ _ _ HX.out⟩
 ·have hne : (e2 != 0) = true := bne_iff_ne.2 he
  have htu := HTU.out
  rw [if_pos he] at htu
  have HTU2 := Lib.hid htu
  clear htu he HTU
  go_wp2
  go_ret
  rw [HTU2.out]
  exact ⟨rfl, HFIN.out _ _ _ _ _ (duo_up HB.out 1)⟩
end Go.Proofs.YtgcfdjcpcclcjaaGreat
namespace Go.Proofs.YtgcfdjcpcclcjaaGreat
open Go Go.RowKit Go.Kn
set_option maxRecDepth 100000 in
theorem xw_first_any (w : World) (X : Nat) (r : RD) (q : RT) (cf : Cf) (ps : Ps) (vi vb : Value) (hX : Kn.Own w X (XB r q cf ps vi vb)) :
  Calls Tryz.prog 124 #[.pointer (some ⟨X, 0, none⟩)] w fun e w' => e = .returned (.int .i64 (max ps.o 1)) ∧ w = w' := by
 have c5 := hX.cellv 6
 obtain ⟨o, ho⟩ : ∃ o, ps.o = o := ⟨_, rfl⟩
 have c6 : w.cell? ⟨X, 6, none⟩ = some (.int .i64 o) := by rw [← ho]; exact c5
 rw [ho]
 clear hX ho c5
 by_cases h1 : 1 > o
 ·have hb : max o 1 = 1 := by omega
  have HB := Lib.hid hb
  clear hb
  go_enter Tryz.func124, Tryz.ntmps124
  go_wp2
  go_ret
  exact ⟨by rw [HB.out]; rfl, rfl⟩
 ·have hb : max o 1 = o := by omega
  have HB := Lib.hid hb
  have h2 : ¬ 1 > o := h1
  clear hb
  go_enter Tryz.func124, Tryz.ntmps124
  go_wp2
  go_ret
  exact ⟨by rw [HB.out]; rfl, rfl⟩
set_option maxRecDepth 100000 in
theorem xw_loaded_any (k b c v : Int) (w : World) : Calls Tryz.prog 122 #[.agg #[.int .i64 k, .int .i64 b, .int .i64 c, .int .i64 v]] w fun e w' => e = .returned (.int .i64 (nbl ⟨k, b, c, v⟩ : Nat)) ∧ Only [] w w' := by
 have H0 := Lib.hid ((Wc.start w).newB #[.int .i64 k, .int .i64 b, .int .i64 c, .int .i64 v] 63 (b := w.heap.size) rfl)
 have hO0 : Only [] w (w.alloc (.cells #[.int .i64 k, .int .i64 b, .int .i64 c, .int .i64 v] 63)) := (Only.refl _ _).alloc _
 cases hld : It.loaded ⟨k, b, c, v⟩ with
 | true =>
  have HLD := Lib.hid hld
  have hn : nbl ⟨k, b, c, v⟩ = 1 := by unfold nbl; rw [hld]; rfl
  have HN := Lib.hid hn
  clear hld hn
  go_enter Tryz.func122, Tryz.ntmps122
  go_wp2_with fail
  generalize hz : w.alloc (.cells #[.int .i64 k, .int .i64 b, .int .i64 c, .int .i64 v] 63) = w1 at *
  generalize w.heap.size = f5 at *
  clear hz
  obtain ⟨y0, y1, y2, y3⟩ := own4 (H0.out.boxi 0 rfl)
  refine (ref_item_loaded_any k b c v _).mono ?_
  rintro en w2 ⟨rfl, hO⟩
  rw [HLD.out]
  go_wp2
  go_ret
  rw [HN.out]
  exact ⟨rfl, hO0.trans' hO⟩
 | false =>
  have HLD := Lib.hid hld
  have hn : nbl ⟨k, b, c, v⟩ = 0 := by unfold nbl; rw [hld]; rfl
  have HN := Lib.hid hn
  clear hld hn
  go_enter Tryz.func122, Tryz.ntmps122
  go_wp2_with fail
  generalize hz : w.alloc (.cells #[.int .i64 k, .int .i64 b, .int .i64 c, .int .i64 v] 63) = w1 at *
  generalize w.heap.size = f5 at *
  clear hz
  obtain ⟨y0, y1, y2, y3⟩ := own4 (H0.out.boxi 0 rfl)
  refine (ref_item_loaded_any k b c v _).mono ?_
  rintro en w2 ⟨rfl, hO⟩
  rw [HLD.out]
  go_wp2
  go_ret
  rw [HN.out]
  exact ⟨rfl, hO0.trans' hO⟩
end Go.Proofs.YtgcfdjcpcclcjaaGreat
namespace Go.Kn
open Go Go.RowKit
/-- 'append(s, x...)', s a row of the call's own, x a slice that begins its block, or none -/
theorem run_append_rowN {P : Program} (w : World) (base : Nat) (t ty e : TypeId) (i : TypeInfo) (z : Value) (size bytes : Nat) (ht : P.underlying t = some (.slice e)) (hi : P.info? e = some i) (hz : i.zero = some z)
  (hsize : i.size = size) (hby : i.bytes = bytes) (hzs : z.cells.size = size) (hsz : 0 < size)
  (v : Value) (n : Nat) (xs : List Value) (hown : w.ownsRow base e size v n xs)
  (A : Option Addr) (m c : Nat) (news : List Value) (hl : news.length = m * size) (hr : 0 < m → ∃ g, A = some ⟨g, 0, none⟩ ∧ ∀ j u, news[j]? = some u → w.cell? ⟨g, j, none⟩ = some u) (h1 : ∀ u ∈ news, u.oneCell' = true)
  (h63 : n + m ≤ maxLen) (hbytes : (n + m) * bytes ≤ 140737488355328) (hbase : base ≤ w.heap.size) :
  ∃ v' w', (Builtin.append_ #[t, t] ty #[v, .slice A m c]).run P w = .ok v' w' ∧ w'.ownsRow base e size v' (n + m) (xs ++ news) ∧ w.grownBy w' v.ownBlock ∧ (v'.ownBlock = v.ownBlock ∨ v'.ownBlock = some w.heap.size) := by
 rcases A with _ | ad
 ·have hm : m = 0 := by
   rcases Nat.eq_zero_or_pos m with h0 | h0
   ·exact h0
   ·obtain ⟨g, h, _⟩ := hr h0
    cases h
  subst hm
  have hn : news = [] := List.eq_nil_of_length_eq_zero (by simpa using hl)
  subst hn
  refine ⟨v, w, ?_, by simpa using hown, World.grownBy.refl w _, .inl rfl⟩
  rcases hown.2 with ⟨rfl, rfl⟩ | ⟨g, cap, cur, rfl, _, _, hnc, _⟩
  ·simp [Builtin.append_, run_underlying ht, sizeOf, typeInfo, hi, Builtin.lenOf, Builtin.firstCells]
  ·simp [Builtin.append_, run_underlying ht, sizeOf, typeInfo, hi, Builtin.lenOf, Builtin.firstCells, hnc, storeCells]
 ·obtain ⟨v', w', hrun, h2, h3, _, h5⟩ := run_append_own_at (P := P) w base t ty e i z size bytes ht hi hz hsize hby hzs hsz v n xs hown ad m c news hl (fun j u hj => by
   rcases Nat.eq_zero_or_pos m with h0 | h0
   ·have : news = [] := List.eq_nil_of_length_eq_zero (by rw [hl, h0]; simp)
    rw [this] at hj
    simp at hj
   ·obtain ⟨g, h, hc⟩ := hr h0
    injection h with h
    subst h
    have : (⟨g, 0, none⟩ : Addr).add j = ⟨g, j, none⟩ := by unfold Addr.add; split <;> simp_all
    rw [this]
    exact hc j u hj) h1 h63 hbytes hbase
  exact ⟨v', w', hrun, h2, h3, h5⟩
theorem wpList_append_rowN {P : Program} {w : World} {ops : Array Oper} {rest : List Oper} {o : Oper} {a : Act} {Q : Exit → Act → World → Prop} (hgd : o.guard = none) (s x : Operand) (t : TypeId)
  (ho : o.op = .call { callee := .builtin .append, args := #[s, x], argTypes := #[t, t] })
  (base : Nat) (e : TypeId) (i : TypeInfo) (z : Value) (size bytes : Nat) (ht : P.underlying t = some (.slice e)) (hi : P.info? e = some i) (hz : i.zero = some z)
  (hsize : i.size = size) (hby : i.bytes = bytes) (hzs : z.cells.size = size) (hsz : 0 < size)
  (v : Value) (n : Nat) (xs : List Value) (hs : a.eval s = v) (hown : w.ownsRow base e size v n xs)
  (A : Option Addr) (m c : Nat) (news : List Value) (hx : a.eval x = .slice A m c) (hl : news.length = m * size) (hr : 0 < m → ∃ g, A = some ⟨g, 0, none⟩ ∧ ∀ j u, news[j]? = some u → w.cell? ⟨g, j, none⟩ = some u) (h1 : ∀ u ∈ news, u.oneCell' = true)
  (h63 : n + m ≤ maxLen) (hbytes : (n + m) * bytes ≤ 140737488355328) (hbase : base ≤ w.heap.size)
  (h : ∀ v' w', w'.ownsRow base e size v' (n + m) (xs ++ news) → w.grownBy w' v.ownBlock → (v'.ownBlock = v.ownBlock ∨ v'.ownBlock = some w.heap.size) → wpList P ops Q rest (a.put o.dst v') w') : wpList P ops Q (o :: rest) a w := by
 refine wpList_plain hgd fun K hK => ?_
 obtain ⟨v', w', hrun, h2, h3, h4⟩ := run_append_rowN (P := P) w base t o.type e i z size bytes ht hi hz hsize hby hzs hsz v n xs hown A m c news hl hr h1 h63 hbytes hbase
 unfold Oper.wp execOp
 simp only [ho, resolve, invoke, builtin, Sem.run_bind, Sem.run_pure, Result.andThen_ok, List.map_toArray, List.map_cons, List.map_nil, hs, hx, hrun]
 exact hK _ _ (h v' w' h2 h3 h4)
end Go.Kn
