/- The law package of chapter 7: few, awake. -/
import Derived.Test.YtoibehikojkoiaaWcR
set_option linter.unusedVariables false
set_option linter.unusedSimpArgs false
namespace Go.Kn
open Go Go.RowKit
def SomeBool (w : World) (e : Ending) (w' : World) : Prop := ∃ q : Bool, e = .returned (.bool q) ∧ Only [] w w'
theorem bys_cell {w : World} {g o n c i : Nat} {bs : List UInt8} {x : UInt8} (h : Bys w (some ⟨g, o, none⟩) n c bs) (hi : bs[i]? = some x) : w.cell? ⟨g, o + i, none⟩ = some (.int .u8 (x.toNat : Int)) := by
  obtain ⟨h1, h2⟩ := List.getElem?_eq_some_iff.1 hi
  have hl := h.len
  rw [bvs_length] at hl
  obtain ⟨g', o', e, hc⟩ := h.at_ (by omega)
  injection e with e
  injection e with e1 e2
  subst e1 e2
  have := hc i (by simpa using h1)
  rw [bvs_get, h2] at this
  exact this
theorem bys_take {w : World} {A : Option Addr} {n c m : Nat} {bs : List UInt8} (h : Bys w A n c bs) (hm : m ≤ n) (hc : 0 < c) : Bys w A m c (bs.take m) := by
  have h2 := h.cut (l := 0) (m := m) (by omega)
  rw [bvs_cut, List.drop_zero, Nat.sub_zero] at h2
  have e : cutA A c 0 = A := by
    rw [cutA, if_neg (by omega)]
    simp [addr_add0]
  rwa [e] at h2
end Go.Kn
namespace Go.Proofs.Ytoibehikojkoiaa
open Go Go.RowKit Go.Kn

set_option maxRecDepth 100000 in
set_option maxHeartbeats 4000000 in
theorem few7_any (m n p : Int) (A : Option Addr) (na ca : Nat) (B : Option Addr) (nb cb : Nat) (bl : List (List UInt8)) (w : World) (hna : na ≤ ca) (hca : ca ≤ maxLen) (hj : Blks w B nb cb bl) :
    Calls Try.prog 17 #[.agg #[.int .i64 m, .int .i64 n, .int .i64 p, .slice A na ca, .slice B nb cb]] w (SomeBool w) := by
  have hdl := hj.le
  have hdm := hj.cm
  unfold maxLen at hca hdm
  have HJ := Lib.hid hj
  have hO0 := (Only.refl [] w).alloc (.cells #[.int .i64 m, .int .i64 n, .int .i64 p, .slice A na ca, .slice B nb cb] 47)
  have hbx := Own.new w #[.int .i64 m, .int .i64 n, .int .i64 p, .slice A na ca, .slice B nb cb] 47
  have x3 := hbx.cell 3 (by simp)
  have x4 := hbx.cell 4 (by simp)
  simp only [List.getElem_cons_zero, List.getElem_cons_succ] at x3 x4
  clear hj
  by_cases h1 : 20 < na
  · have d1 : decide ((20 : Int) < (na : Int)) = true := by simp; omega
    go_enter Try.func17, Try.ntmps17
    go_wp2
    go_ret
    exact ⟨_, rfl, hO0⟩
  by_cases h2 : 20 < nb
  · have d1 : decide ((20 : Int) < (na : Int)) = false := by simp; omega
    have d2 : decide ((20 : Int) < (nb : Int)) = true := by simp; omega
    go_enter Try.func17, Try.ntmps17
    go_wp2
    go_ret
    exact ⟨_, rfl, hO0⟩
  have d1 : decide ((20 : Int) < (na : Int)) = false := by simp; omega
  have d2 : decide ((20 : Int) < (nb : Int)) = false := by simp; omega
  go_enter Try.func17, Try.ntmps17
  go_upto_region 3 with fail
  generalize w.alloc (.cells #[.int .i64 m, .int .i64 n, .int .i64 p, .slice A na ca, .slice B nb cb] 47) = w1 at *
  have HO := Lib.hid hO0
  clear hO0 hbx x3 d1 d2
  go_wp2_with fail
  go_loopg [3] nb (fun r i wr => ∃ j : Nat, j + r = nb ∧ i = .int .i64 j ∧ w1 = wr)
  case atStart => exact ⟨0, by omega, rfl, rfl⟩
  obtain ⟨j, hj, rfl, rfl⟩ := hrel
  by_cases hlt : j < nb
  · obtain ⟨a, o, B', m', d', rfl, q0, hb⟩ := (HJ.out.keep0 HO.out).at_ j hlt
    have hbm := hb.le
    have hbd := hb.cm
    unfold maxLen at hbd
    have hlt2 : (j : Int) < (nb : Int) := by omega
    have hge : 0 ≤ (j : Int) := by omega
    have htn : ((j : Int)).toNat = j := by omega
    clear hb
    by_cases h3 : 100 < m'
    · have d3 : decide ((100 : Int) < (m' : Int)) = true := by simp; omega
      go_wp2
      go_ret
      exact ⟨_, rfl, HO.out⟩
    · have d3 : decide ((100 : Int) < (m' : Int)) = false := by simp; omega
      go_wp2
      go_roundg (gk - 1)
      case measure => omega
      case rel => exact ⟨j + 1, by omega, by go_num, rfl⟩
  · obtain rfl : j = nb := by omega
    go_wp2
    go_ret
    exact ⟨_, rfl, HO.out⟩

set_option maxRecDepth 100000 in
set_option maxHeartbeats 16000000 in
theorem awake7 (w : World) : Calls Try.prog 18 #[] w fun e w' => e = .returned (.bool true) ∧ Only [] w w' := by
  have hE := enc_rc aw7_may
  have hD := dec_rc aw7_may
  have hN := rcBytes_length aw7_may
  have hSz := rc_size_bytes aw7_may
  have hSg := rcBytes_signs aw7_may
  rw [show aw7.bl.length = 1 from rfl] at hN hSz
  obtain ⟨RB, hRB⟩ : ∃ x, rcBytes aw7 = x := ⟨_, rfl⟩
  obtain ⟨s, hs⟩ : ∃ x, rcSum aw7 = x := ⟨_, rfl⟩
  rw [hRB, hs] at hE hD
  rw [hRB] at hN hSz hSg
  have HE := Lib.hid hE
  have HDC := Lib.hid hD
  have HN := Lib.hid (show RB.length = 128 from hN)
  have HSZ := Lib.hid (show sizeRc (RB.take 64) = 2 from hSz)
  have HSG := Lib.hid hSg
  have HNO : Hid (encRc rcZ = none) := Lib.hid rfl
  clear hE hD hN hSz hSg hRB hs
  have HD0 := Lib.hid ((Wc.start w).newF (itsV [⟨1, 3, 0, 0⟩, ⟨3, 0, 0, 1⟩]).toArray 87 rfl)
  have hw0 : (w.alloc (.cells (itsV [⟨1, 3, 0, 0⟩, ⟨3, 0, 0, 1⟩]).toArray 87)) = w.alloc (.cells #[.int .i64 1, .int .i64 3, .int .i64 0, .int .i64 0, .int .i64 3, .int .i64 0, .int .i64 0, .int .i64 1] 87) := rfl
  rw [hw0] at HD0
  clear hw0
  go_enter Try.func18, Try.ntmps18
  go_wp2_with fail
  generalize w.alloc (.cells #[.int .i64 1, .int .i64 3, .int .i64 0, .int .i64 0, .int .i64 3, .int .i64 0, .int .i64 0, .int .i64 1] 87) = wa at *
  generalize w.heap.size = ib at *
  refine (fill_any 5 _ (by decide)).mono ?_
  rintro en w1 ⟨g, rfl, hg, ho, hO⟩
  have HD1 := Lib.hid ((HD0.out.keep0 hO).fact0 (f := fun W => Bys W (some ⟨g, 0, none⟩) 64 64 (fillB 5)) (Row1.fc (Row1.of_Own ho (by simp) (Nat.le_refl _) (by simp [maxLen])) (by simp)))
  clear hg ho hO HD0
  have HD2 := Lib.hid (HD1.out.newF #[.slice (some ⟨g, 0, none⟩) 64 64] 35 rfl)
  have HD3 := Lib.hid (HD2.out.newF #[.int .i64 2, .int .i64 1, .int .i64 0, .slice (some ⟨ib, 0, none⟩) 2 2, .slice (some ⟨w1.heap.size, 0, none⟩) 1 1] 47 (b := w1.heap.size + 1) (by simp))
  clear HD1 HD2
  go_upto_region 2 with fail
  generalize (w1.alloc (.cells #[.slice (some ⟨g, 0, none⟩) 64 64] 35)).alloc (.cells #[.int .i64 2, .int .i64 1, .int .i64 0, .slice (some ⟨ib, 0, none⟩) 2 2, .slice (some ⟨w1.heap.size, 0, none⟩) 1 1] 47) = w2 at *
  generalize w1.heap.size + 1 = rb at *
  generalize w1.heap.size = bb at *
  have hrc : RcAt w2 aw7 (some ⟨ib, 0, none⟩, 2, 2) (some ⟨bb, 0, none⟩, 1, 1) := ⟨its_built (HD3.out.fi 3 rfl) rfl (by simp [maxLen]), blks_built (sl := [(some ⟨g, 0, none⟩, 64, 64)]) (HD3.out.fi 1 rfl) ((Bls.nil _).snoc (HD3.out.fi 2 rfl)) rfl (by simp [maxLen])⟩
  have HD4 := Lib.hid (HD3.out.fact0 (f := fun W => RcAt W aw7 (some ⟨ib, 0, none⟩, 2, 2) (some ⟨bb, 0, none⟩, 1, 1)) (RcAt.fc (sl := [(some ⟨g, 0, none⟩, 64, 64)]) (hrc.1.fc (by simp)) (Row1.fc (Row1.of_Own (HD3.out.fi 1 rfl) rfl (Nat.le_refl _) (by simp [maxLen])) (by simp)) (Bls.fc ((Bls.nil _).snoc (HD3.out.fi 2 rfl)) (by simp))))
  clear HD3 hrc
  obtain ⟨x0, x1, x2, x3, x4, xl⟩ := cells5 (show Kn.Own w2 rb _ from HD4.out.fi 1 rfl)
  go_wp2_with fail
  refine (rec_enc_any 2 1 0 (some ⟨ib, 0, none⟩) 2 2 aw7.its (some ⟨bb, 0, none⟩) 1 1 aw7.bl _ (HD4.out.fi 0 rfl).1 (HD4.out.fi 0 rfl).2).mono ?_
  intro en w3 he
  rw [show (⟨2, 1, 0, aw7.its, aw7.bl⟩ : Rc) = aw7 from rfl, HE.out] at he
  obtain ⟨gb, cb, rfl, hc, hm, hg, hw3⟩ := HD4.out.encRc he
  rw [HN.out] at hc hw3 ⊢
  have HD5 := Lib.hid hw3
  have hm' := hm
  unfold maxLen at hm'
  clear HD4 he hw3 hg x0 x1 x2 x3 x4 xl
  go_wp2_with fail
  refine (rec_dec_any (some ⟨gb, 0, none⟩) 128 cb RB _ (HD5.out.fi 0 rfl) (by decide)).mono ?_
  intro en w4 he
  obtain ⟨sx, tx, rfl, hw4⟩ := HD5.out.rcSays he
  rw [HDC.out] at hw4 ⊢
  simp only [Option.map_some, Option.getD_some, Option.isSome_some, if_true] at hw4 ⊢
  rcases sx with ⟨sA, sn, sc⟩
  rcases tx with ⟨tA, tn, tc⟩
  have HD6 := Lib.hid (hw4.newF (aw7.cells (sA, sn, sc) (tA, tn, tc)) 47 rfl)
  rw [show aw7.cells (sA, sn, sc) (tA, tn, tc) = #[.int .i64 2, .int .i64 1, .int .i64 0, .slice sA sn sc, .slice tA tn tc] from rfl] at HD6 ⊢
  clear HD5 he hw4
  go_upto_region 4 with fail
  generalize w4.alloc (.cells #[.int .i64 2, .int .i64 1, .int .i64 0, .slice sA sn sc, .slice tA tn tc] 47) = w5 at *
  generalize w4.heap.size = xb at *
  go_wp2_with fail
  refine (rec_enc_any 0 0 0 none 0 0 [] none 0 0 [] _ (Its.nil _) (Blks.nil _)).mono ?_
  intro en w6 he
  rw [show (⟨0, 0, 0, [], []⟩ : Rc) = rcZ from rfl, HNO.out] at he
  obtain ⟨rfl, hO⟩ := he.of_none
  have HD7 := Lib.hid (HD6.out.keep0 hO)
  clear HD6 he hO
  obtain ⟨x0, x1, x2, x3, x4, xl⟩ := cells5 (show Kn.Own w6 rb _ from HD7.out.fi 4 rfl)
  obtain ⟨y0, y1, y2, y3, y4, yl⟩ := cells5 (show Kn.Own w6 xb _ from HD7.out.fi 0 rfl)
  have hc64 : (64 : Int) ≤ (cb : Int) := by omega
  go_wp2_with fail
  refine (alike_record_any 2 1 0 sA sn sc aw7.its tA tn tc aw7.bl 2 1 0 (some ⟨ib, 0, none⟩) 2 2 aw7.its (some ⟨bb, 0, none⟩) 1 1 aw7.bl _ (HD7.out.fi 1 rfl).1 (HD7.out.fi 1 rfl).2 (HD7.out.fi 3 rfl).1 (HD7.out.fi 3 rfl).2).mono ?_
  rintro en w7 ⟨rfl, hO⟩
  rw [decide_eq_true (rfl : (⟨2, 1, 0, aw7.its, aw7.bl⟩ : Rc) = ⟨2, 1, 0, aw7.its, aw7.bl⟩)]
  have HD8 := Lib.hid (HD7.out.keep0 hO)
  clear HD7 hO x0 x1 x2 x3 x4 xl y0 y1 y2 y3 y4 yl
  obtain ⟨x0, x1, x2, x3, x4, xl⟩ := cells5 (show Kn.Own w7 rb _ from HD8.out.fi 4 rfl)
  go_wp2_with fail
  refine (rec_len_any 2 1 0 (some ⟨ib, 0, none⟩) 2 2 aw7.its (some ⟨bb, 0, none⟩) 1 1 aw7.bl _ (HD8.out.fi 3 rfl).1 (HD8.out.fi 3 rfl).2).mono ?_
  rintro en w8 ⟨rfl, hO⟩
  rw [if_pos (show rcMay ⟨2, 1, 0, aw7.its, aw7.bl⟩ = true from aw7_may), show ((1 + aw7.bl.length : Nat) : Int) = 2 from rfl]
  have HD9 := Lib.hid (HD8.out.keep0 hO)
  clear HD8 hO x0 x1 x2 x3 x4 xl
  go_wp2_with fail
  refine (rec_size_any (some ⟨gb, 0, none⟩) 64 cb (RB.take 64) _ (bys_take (HD9.out.fi 2 rfl) (by decide) (by omega)) (by decide)).mono ?_
  rintro en w9 ⟨rfl, hO⟩
  rw [HSZ.out]
  have HDa := Lib.hid (HD9.out.keep0 hO)
  clear HD9 hO
  have hb0 := bys_cell (show Bys w9 (some ⟨gb, 0, none⟩) 128 cb RB from HDa.out.fi 2 rfl) HSG.out.1
  have hb1 := bys_cell (show Bys w9 (some ⟨gb, 0, none⟩) 128 cb RB from HDa.out.fi 2 rfl) HSG.out.2
  simp only [Nat.zero_add] at hb0 hb1
  rw [show ((75 : UInt8).toNat : Int) = 75 from rfl] at hb0
  rw [show ((82 : UInt8).toNat : Int) = 82 from rfl] at hb1
  go_wp2
  go_ret
  exact ⟨rfl, HDa.out.only⟩
end Go.Proofs.Ytoibehikojkoiaa
