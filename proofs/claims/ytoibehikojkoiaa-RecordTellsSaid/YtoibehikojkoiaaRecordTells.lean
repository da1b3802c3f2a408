/- Claim RecordTells. Printed by mklaw7.py. -/
import Derived.Test.YtoibehikojkoiaaEnter
import Derived.Test.YtoibehikojkoiaaLaw7A
import Derived.Test.YtoibehikojkoiaaFrameR
import Derived.Test.YtoibehikojkoiaaRecG
import Derived.Test.YtoibehikojkoiaaRecH
import Derived.Test.YtoibehikojkoiaaStep
import Derived.Deep.RegionHeld3
import Derived.Deep.RegionLaw
set_option linter.unusedVariables false
set_option linter.unusedSimpArgs false
namespace Go.Proofs.Ytoibehikojkoiaa.recordTells
open Go Go.RowKit Go.Kn Go.ChangeShapes Go.WideShapes Go.ChangeAt

theorem encAny {w0 w w' : World} {L : List (Nat × List Value)} {G : List Gs} {F : List (World → Prop)} (h : Wc w0 w L G F) {o : Option (List UInt8 × Nat)} {err : Int} {e : Ending} (he : EncRc w o err e w') : ∃ A k, e = .returned (.tuple #[.slice A ((o.map (·.1)).getD []).length k, .int .i64 ((o.map (·.2)).getD 0 : Nat), .int .i64 (if o.isSome then 0 else err)]) ∧ Wc w0 w' L G ((fun W => Bys W A ((o.map (·.1)).getD []).length k ((o.map (·.1)).getD [])) :: F) := by
  cases o with
  | none =>
    obtain ⟨rfl, hO⟩ := he.of_none
    exact ⟨none, 0, rfl, (h.keep0 hO).addF _ (fun W _ => Row1.nil W)⟩
  | some x =>
    rcases x with ⟨bs, s⟩
    obtain ⟨g, c, rfl, _, _, _, hw⟩ := h.encRc he
    exact ⟨_, c, rfl, hw⟩

theorem s5 {w : World} {b : Nat} {c0 c1 c2 c3 c4 : Value} (h : Kn.Own w b [c0, c1, c2, c3, c4]) : w.cell? ⟨b, 0, none⟩ = some c0 ∧ w.cell? ⟨b, 1, none⟩ = some c1 ∧ w.cell? ⟨b, 2, none⟩ = some c2 ∧ w.cell? ⟨b, 3, none⟩ = some c3 ∧ w.cell? ⟨b, 4, none⟩ = some c4 :=
  ⟨h.cell 0 (by simp), h.cell 1 (by simp), h.cell 2 (by simp), h.cell 3 (by simp), h.cell 4 (by simp)⟩

set_option maxRecDepth 100000 in
set_option maxHeartbeats 16000000 in
theorem tells (m n p : Int) (A : Option Addr) (na ca : Nat) (its : List It) (B : Option Addr) (nb cb : Nat) (bl : List (List UInt8)) (w : World) (hr : RcAt w ⟨m, n, p, its, bl⟩ (A, na, ca) (B, nb, cb)) :
    Calls Try.prog 4 #[.agg #[.int .i64 m, .int .i64 n, .int .i64 p, .slice A na ca, .slice B nb cb]] w fun en w' => en = .returned (.bool true) ∧ Only [] w w' := by
  have hna := hr.1.le
  have hca := hr.1.cm
  have hdl := hr.2.le
  have hdm := hr.2.cm
  have hln := hr.2.len
  dsimp only at hna hca hdl hdm hln
  have hdm' := hdm
  unfold maxLen at hdm'
  obtain ⟨mm, hmm⟩ : ∃ mm, rcMay ⟨m, n, p, its, bl⟩ = mm := ⟨_, rfl⟩
  obtain ⟨ys, s, er, hO⟩ : ∃ ys s er, ((encRc ⟨m, n, p, its, bl⟩).map (·.1)).getD [] = ys ∧ ((encRc ⟨m, n, p, its, bl⟩).map (·.2)).getD 0 = s ∧ (if (encRc ⟨m, n, p, its, bl⟩).isSome then (0 : Int) else 1) = er := ⟨_, _, _, rfl, rfl, rfl⟩
  have HO := Lib.hid hO
  have HM := Lib.hid hmm
  have HLN := Lib.hid hln
  have HD0 := Lib.hid ((((Wc.start w).old (f := fun W => RcAt W ⟨m, n, p, its, bl⟩ (A, na, ca) (B, nb, cb)) (by
    obtain ⟨h1, sl, h2, h3⟩ := hr
    exact RcAt.fc (sl := sl) (h1.fc (by simp)) (h2.fc (by simp)) (h3.fc (by simp))))).newF #[.int .i64 m, .int .i64 n, .int .i64 p, .slice A na ca, .slice B nb cb] 47 rfl)
  clear hO hmm hr hln
  go_enter Try.func4, Try.ntmps4
  go_wp2_with fail
  generalize w.alloc (.cells #[.int .i64 m, .int .i64 n, .int .i64 p, .slice A na ca, .slice B nb cb] 47) = w1 at *
  generalize w.heap.size = rb at *
  obtain ⟨x0, x1, x2, x3, x4, xl⟩ := cells5 (show Kn.Own w1 rb _ from HD0.out.fi 0 rfl)
  refine (few7_any m n p A na ca B nb cb bl _ hna hca (HD0.out.fi 1 rfl).2).mono ?_
  rintro en w2 ⟨q, rfl, hO⟩
  have HD1 := Lib.hid (HD0.out.keep0 hO)
  clear hO HD0 x0 x1 x2 x3 x4 xl
  obtain ⟨x0, x1, x2, x3, x4, xl⟩ := cells5 (show Kn.Own w2 rb _ from HD1.out.fi 0 rfl)
  cases q with
  | false =>
    go_wp2_with fail
    refine (awake7 _).mono ?_
    rintro en w3 ⟨rfl, hO⟩
    have HD2 := Lib.hid (HD1.out.keep0 hO)
    clear hO HD1 x0 x1 x2 x3 x4 xl
    go_wp2
    go_ret
    exact ⟨rfl, HD2.out.only⟩
  | true =>
    go_wp2_with fail
    refine (rec_enc_any m n p A na ca its B nb cb bl _ (HD1.out.fi 1 rfl).1 (HD1.out.fi 1 rfl).2).mono ?_
    intro en w3 he
    obtain ⟨A1, k1, rfl, hw3⟩ := encAny HD1.out he
    rw [HO.out.1] at hw3
    rw [HO.out.1, HO.out.2.1, HO.out.2.2]
    have HD2 := Lib.hid hw3
    clear HD1 he hw3 x0 x1 x2 x3 x4 xl
    obtain ⟨x0, x1, x2, x3, x4, xl⟩ := cells5 (show Kn.Own w3 rb _ from HD2.out.fi 1 rfl)
    go_wp2_with fail
    refine (ref_rec_enc_any m n p A na ca its B nb cb bl _ (HD2.out.fi 2 rfl).1 (HD2.out.fi 2 rfl).2).mono ?_
    intro en w4 he
    obtain ⟨A2, k2, rfl, hw4⟩ := encAny HD2.out he
    rw [HO.out.1] at hw4
    rw [HO.out.1, HO.out.2.1, HO.out.2.2]
    have HD3 := Lib.hid hw4
    clear HD2 he hw4 x0 x1 x2 x3 x4 xl
    obtain ⟨x0, x1, x2, x3, x4, xl⟩ := cells5 (show Kn.Own w4 rb _ from HD3.out.fi 2 rfl)
    go_wp2_with fail
    refine (ref_rec_may_any m n p A na ca its B nb cb bl _ (HD3.out.fi 3 rfl).1 (HD3.out.fi 3 rfl).2).mono ?_
    rintro en w5 ⟨rfl, hO⟩
    rw [HM.out]
    have HD4 := Lib.hid (HD3.out.keep0 hO)
    clear HD3 hO x0 x1 x2 x3 x4 xl
    obtain ⟨x0, x1, x2, x3, x4, xl⟩ := cells5 (show Kn.Own w5 rb _ from HD4.out.fi 2 rfl)
    have hn1 : (mm == mm) = true := by simp
    have hn3 : (er == er) = true := by simp
    have hn4 : ((s : Int) == (s : Int)) = true := by simp
    have HL : Hid ((if rcMay ⟨m, n, p, its, bl⟩ then ((1 + bl.length : Nat) : Int) else 0) = if mm then 1 + (nb : Int) else 0) := Lib.hid (by rw [HM.out, HLN.out]; cases mm <;> simp)
    cases mm with
    | true =>
      have hn2 : ((1 + (nb : Int)) == (1 + (nb : Int))) = true := by simp
      have hnb6 : nb ≤ 6 := by
        obtain ⟨⟨_, _, _, _, h6⟩, _, h7, _⟩ := rcMay_iff.1 HM.out
        have := loads_le its
        have := HLN.out
        dsimp only at h6 h7
        omega
      go_upto_region 8 with (fail)
      have HD5 := Lib.hid HD4.out.drew
      clear HD4 x0 x1 x2 x3 x4 xl
      skip
      refine wp_region_held_drew (S := (fun w' => w'.cell? ⟨rb, 0, none⟩ = some (.int .i64 m) ∧ w'.cell? ⟨rb, 1, none⟩ = some (.int .i64 n) ∧ w'.cell? ⟨rb, 2, none⟩ = some (.int .i64 p) ∧ w'.cell? ⟨rb, 3, none⟩ = some (.slice A na ca) ∧ w'.cell? ⟨rb, 4, none⟩ = some (.slice B nb cb))) (by kernel_rfl) (s5 (show Kn.Own w5.drew rb _ from HD5.out.fi 2 rfl)) (fun hSw0 => ?_)
      refine wpAnyH_take (i := 0) (oi := ⟨some 32, _, _, _, _, _⟩) (v := ?_) rfl (by kernel_rfl) (by kernel_rfl) (by kernel_rfl) (fun _ _ _ h => h) (Or.inl ⟨by rfl, ?_⟩) (by assumption) ?_
      rotate_left
      · intro w hSw
        obtain ⟨hS0, hS1, hS2, hS3, hS4⟩ := hSw
        go_simp
        all_goals (try with_reducible rfl)
      (try simp only [Act.put, List.setIfInBounds_toArray, List.set_cons_zero, List.set_cons_succ])
      refine wpAnyH_take (i := 2) (oi := ⟨some 34, _, _, _, _, _⟩) (v := ?_) rfl (by kernel_rfl) (by kernel_rfl) (by kernel_rfl) (fun _ _ _ h => h) (Or.inl ⟨by rfl, ?_⟩) (by assumption) ?_
      rotate_left
      · intro w hSw
        obtain ⟨hS0, hS1, hS2, hS3, hS4⟩ := hSw
        go_simp
        all_goals (try with_reducible rfl)
      (try simp only [Act.put, List.setIfInBounds_toArray, List.set_cons_zero, List.set_cons_succ])
      refine wpAnyH_ready (rs := [1]) (by kernel_rfl) (by simp) ?_
      refine AllReadyH.cons (o := ⟨some 33, _, _, _, _, _⟩) rfl (fun K hK => ?_) AllReadyH.nil
      go_simp
      refine (rec_may_any m n p A na ca its B nb cb bl _ (HD5.out.fi 3 rfl).1 (HD5.out.fi 3 rfl).2).mono ?_
      rintro en w6 ⟨rfl, hO⟩
      rw [HM.out]
      have HD6 := Lib.hid (HD5.out.keep0 hO)
      clear HD5 hO
      refine hK.out _ _ (s5 (show Kn.Own w6 rb _ from HD6.out.fi 2 rfl)) (fun hSn => ?_)
      clear hK K hSw0
      have hSw0 := hSn
      clear hSn
      (try simp only [Act.put, List.setIfInBounds_toArray, List.set_cons_zero, List.set_cons_succ])
      refine wpAnyH_ready (rs := [3]) (by kernel_rfl) (by simp) ?_
      refine AllReadyH.cons (o := ⟨some 35, _, _, _, _, _⟩) rfl (fun K hK => ?_) AllReadyH.nil
      go_simp
      refine (ref_rec_may_any m n p A na ca its B nb cb bl _ (HD6.out.fi 3 rfl).1 (HD6.out.fi 3 rfl).2).mono ?_
      rintro en w7 ⟨rfl, hO⟩
      rw [HM.out]
      have HD7 := Lib.hid (HD6.out.keep0 hO)
      clear HD6 hO
      refine hK.out _ _ (s5 (show Kn.Own w7 rb _ from HD7.out.fi 2 rfl)) (fun hSn => ?_)
      clear hK K hSw0
      have hSw0 := hSn
      clear hSn
      (try simp only [Act.put, List.setIfInBounds_toArray, List.set_cons_zero, List.set_cons_succ])
      refine wpAnyH_take (i := 4) (oi := ⟨some 36, _, _, _, _, _⟩) (v := ?_) rfl (by kernel_rfl) (by kernel_rfl) (by kernel_rfl) (fun _ _ _ h => h) (Or.inl ⟨by rfl, ?_⟩) (by assumption) ?_
      rotate_left
      · intro w hSw
        obtain ⟨hS0, hS1, hS2, hS3, hS4⟩ := hSw
        go_simp
        all_goals (try with_reducible rfl)
      (try simp only [Act.put, List.setIfInBounds_toArray, List.set_cons_zero, List.set_cons_succ])
      refine wpAnyH_take (i := 5) (oi := ⟨some 37, _, _, _, _, _⟩) (v := ?_) rfl (by kernel_rfl) (by kernel_rfl) (by kernel_rfl) (fun _ _ _ h => h) (Or.inl ⟨by rfl, ?_⟩) (by assumption) ?_
      rotate_left
      · intro w hSw
        obtain ⟨hS0, hS1, hS2, hS3, hS4⟩ := hSw
        go_simp
        all_goals (try with_reducible rfl)
      (try simp only [Act.put, List.setIfInBounds_toArray, List.set_cons_zero, List.set_cons_succ])
      refine wpAnyH_take (i := 6) (oi := ⟨some 38, _, _, _, _, _⟩) (v := ?_) rfl (by kernel_rfl) (by kernel_rfl) (by kernel_rfl) (fun _ _ _ h => h) (Or.inl ⟨by rfl, ?_⟩) (by assumption) ?_
      rotate_left
      · intro w hSw
        obtain ⟨hS0, hS1, hS2, hS3, hS4⟩ := hSw
        go_simp
        all_goals (try with_reducible rfl)
      (try simp only [Act.put, List.setIfInBounds_toArray, List.set_cons_zero, List.set_cons_succ])
      refine wpAnyH_take (i := 8) (oi := ⟨some 40, _, _, _, _, _⟩) (v := ?_) rfl (by kernel_rfl) (by kernel_rfl) (by kernel_rfl) (fun _ _ _ h => h) (Or.inl ⟨by rfl, ?_⟩) (by assumption) ?_
      rotate_left
      · intro w hSw
        obtain ⟨hS0, hS1, hS2, hS3, hS4⟩ := hSw
        go_simp
        all_goals (try with_reducible rfl)
      (try simp only [Act.put, List.setIfInBounds_toArray, List.set_cons_zero, List.set_cons_succ])
      refine wpAnyH_ready (rs := [7]) (by kernel_rfl) (by simp) ?_
      refine AllReadyH.cons (o := ⟨some 39, _, _, _, _, _⟩) rfl (fun K hK => ?_) AllReadyH.nil
      go_simp
      refine (rec_len_any m n p A na ca its B nb cb bl _ (HD7.out.fi 3 rfl).1 (HD7.out.fi 3 rfl).2).mono ?_
      rintro en w8 ⟨rfl, hO⟩
      rw [HL.out]
      simp only [if_true, Bool.false_eq_true, if_false]
      have HD8 := Lib.hid (HD7.out.keep0 hO)
      clear HD7 hO
      refine hK.out _ _ (s5 (show Kn.Own w8 rb _ from HD8.out.fi 2 rfl)) (fun hSn => ?_)
      clear hK K hSw0
      have hSw0 := hSn
      clear hSn
      (try simp only [Act.put, List.setIfInBounds_toArray, List.set_cons_zero, List.set_cons_succ])
      refine wpAnyH_take (i := 9) (oi := ⟨some 41, _, _, _, _, _⟩) (v := ?_) rfl (by kernel_rfl) (by kernel_rfl) (by kernel_rfl) (fun _ _ _ h => h) (Or.inl ⟨by rfl, ?_⟩) (by assumption) ?_
      rotate_left
      · intro w hSw
        obtain ⟨hS0, hS1, hS2, hS3, hS4⟩ := hSw
        go_simp
        all_goals (try with_reducible rfl)
      (try simp only [Act.put, List.setIfInBounds_toArray, List.set_cons_zero, List.set_cons_succ])
      refine wpAnyH_take (i := 10) (oi := ⟨some 42, _, _, _, _, _⟩) (v := ?_) rfl (by kernel_rfl) (by kernel_rfl) (by kernel_rfl) (fun _ _ _ h => h) (Or.inl ⟨by rfl, ?_⟩) (by assumption) ?_
      rotate_left
      · intro w hSw
        obtain ⟨hS0, hS1, hS2, hS3, hS4⟩ := hSw
        go_simp
        all_goals (try with_reducible rfl)
      (try simp only [Act.put, List.setIfInBounds_toArray, List.set_cons_zero, List.set_cons_succ])
      refine wpAnyH_take (i := 11) (oi := ⟨some 43, _, _, _, _, _⟩) (v := ?_) rfl (by kernel_rfl) (by kernel_rfl) (by kernel_rfl) (fun _ _ _ h => h) (Or.inl ⟨by rfl, ?_⟩) (by assumption) ?_
      rotate_left
      · intro w hSw
        obtain ⟨hS0, hS1, hS2, hS3, hS4⟩ := hSw
        go_simp
        all_goals (try with_reducible rfl)
      (try simp only [Act.put, List.setIfInBounds_toArray, List.set_cons_zero, List.set_cons_succ])
      refine wpAnyH_take (i := 12) (oi := ⟨some 44, _, _, _, _, _⟩) (v := ?_) rfl (by kernel_rfl) (by kernel_rfl) (by kernel_rfl) (fun _ _ _ h => h) (Or.inl ⟨by rfl, ?_⟩) (by assumption) ?_
      rotate_left
      · intro w hSw
        obtain ⟨hS0, hS1, hS2, hS3, hS4⟩ := hSw
        go_simp
        all_goals (try with_reducible rfl)
      (try simp only [Act.put, List.setIfInBounds_toArray, List.set_cons_zero, List.set_cons_succ])
      refine wpAnyH_take (i := 13) (oi := ⟨some 45, _, _, _, _, _⟩) (v := ?_) rfl (by kernel_rfl) (by kernel_rfl) (by kernel_rfl) (fun _ _ _ h => h) (Or.inl ⟨by rfl, ?_⟩) (by assumption) ?_
      rotate_left
      · intro w hSw
        obtain ⟨hS0, hS1, hS2, hS3, hS4⟩ := hSw
        go_simp
        all_goals (try with_reducible rfl)
      (try simp only [Act.put, List.setIfInBounds_toArray, List.set_cons_zero, List.set_cons_succ])
      refine wpAnyH_take (i := 14) (oi := ⟨some 46, _, _, _, _, _⟩) (v := ?_) rfl (by kernel_rfl) (by kernel_rfl) (by kernel_rfl) (fun _ _ _ h => h) (Or.inl ⟨by rfl, ?_⟩) (by assumption) ?_
      rotate_left
      · intro w hSw
        obtain ⟨hS0, hS1, hS2, hS3, hS4⟩ := hSw
        go_simp
        all_goals (try with_reducible rfl)
      (try simp only [Act.put, List.setIfInBounds_toArray, List.set_cons_zero, List.set_cons_succ])
      refine wpAnyH_take (i := 15) (oi := ⟨some 47, _, _, _, _, _⟩) (v := ?_) rfl (by kernel_rfl) (by kernel_rfl) (by kernel_rfl) (fun _ _ _ h => h) (Or.inl ⟨by rfl, ?_⟩) (by assumption) ?_
      rotate_left
      · intro w hSw
        obtain ⟨hS0, hS1, hS2, hS3, hS4⟩ := hSw
        go_simp
        all_goals (try with_reducible rfl)
      (try simp only [Act.put, List.setIfInBounds_toArray, List.set_cons_zero, List.set_cons_succ])
      refine wpAnyH_take (i := 16) (oi := ⟨some 48, _, _, _, _, _⟩) (v := ?_) rfl (by kernel_rfl) (by kernel_rfl) (by kernel_rfl) (fun _ _ _ h => h) (Or.inl ⟨by rfl, ?_⟩) (by assumption) ?_
      rotate_left
      · intro w hSw
        obtain ⟨hS0, hS1, hS2, hS3, hS4⟩ := hSw
        go_simp
        all_goals (try with_reducible rfl)
      (try simp only [Act.put, List.setIfInBounds_toArray, List.set_cons_zero, List.set_cons_succ])
      refine wpAnyH_take (i := 17) (oi := ⟨some 49, _, _, _, _, _⟩) (v := ?_) rfl (by kernel_rfl) (by kernel_rfl) (by kernel_rfl) (fun _ _ _ h => h) (Or.inl ⟨by rfl, ?_⟩) (by assumption) ?_
      rotate_left
      · intro w hSw
        obtain ⟨hS0, hS1, hS2, hS3, hS4⟩ := hSw
        go_simp
        all_goals (try with_reducible rfl)
      (try simp only [Act.put, List.setIfInBounds_toArray, List.set_cons_zero, List.set_cons_succ])
      refine wpAnyH_take (i := 18) (oi := ⟨some 50, _, _, _, _, _⟩) (v := ?_) rfl (by kernel_rfl) (by kernel_rfl) (by kernel_rfl) (fun _ _ _ h => h) (Or.inl ⟨by rfl, ?_⟩) (by assumption) ?_
      rotate_left
      · intro w hSw
        obtain ⟨hS0, hS1, hS2, hS3, hS4⟩ := hSw
        go_simp
        all_goals (try with_reducible rfl)
      (try simp only [Act.put, List.setIfInBounds_toArray, List.set_cons_zero, List.set_cons_succ])
      refine wpAnyH_ready (rs := [19]) (by kernel_rfl) (by simp) ?_
      refine AllReadyH.cons (o := ⟨some 51, _, _, _, _, _⟩) rfl (fun K hK => ?_) AllReadyH.nil
      go_simp
      refine (alike_bytes_any A1 ys.length k1 ys A2 ys.length k2 ys _ (HD8.out.fi 1 rfl) (HD8.out.fi 0 rfl)).mono ?_
      rintro en _ ⟨rfl, k7, rfl⟩
      have hdd : decide (ys = ys) = true := by simp
      rw [hdd]
      clear hdd
      have HD9 := Lib.hid (HD8.out.drewN k7)
      clear HD8
      refine hK.out _ _ (s5 (show Kn.Own (w8.drewN k7) rb _ from HD9.out.fi 2 rfl)) (fun hSn => ?_)
      clear hK K hSw0
      have hSw0 := hSn
      clear hSn
      (try simp only [Act.put, List.setIfInBounds_toArray, List.set_cons_zero, List.set_cons_succ])
      refine wpAnyH_take (i := 20) (oi := ⟨some 52, _, _, _, _, _⟩) (v := ?_) rfl (by kernel_rfl) (by kernel_rfl) (by kernel_rfl) (fun _ _ _ h => h) (Or.inl ⟨by rfl, ?_⟩) (by assumption) ?_
      rotate_left
      · intro w hSw
        obtain ⟨hS0, hS1, hS2, hS3, hS4⟩ := hSw
        go_simp
        all_goals (try with_reducible rfl)
      (try simp only [Act.put, List.setIfInBounds_toArray, List.set_cons_zero, List.set_cons_succ])
      refine wpAnyH_take (i := 21) (oi := ⟨some 53, _, _, _, _, _⟩) (v := ?_) rfl (by kernel_rfl) (by kernel_rfl) (by kernel_rfl) (fun _ _ _ h => h) (Or.inl ⟨by rfl, ?_⟩) (by assumption) ?_
      rotate_left
      · intro w hSw
        obtain ⟨hS0, hS1, hS2, hS3, hS4⟩ := hSw
        go_simp
        all_goals (try with_reducible rfl)
      (try simp only [Act.put, List.setIfInBounds_toArray, List.set_cons_zero, List.set_cons_succ])
      refine wpAnyH_take (i := 22) (oi := ⟨some 54, _, _, _, _, _⟩) (v := ?_) rfl (by kernel_rfl) (by kernel_rfl) (by kernel_rfl) (fun _ _ _ h => h) (Or.inl ⟨by rfl, ?_⟩) (by assumption) ?_
      rotate_left
      · intro w hSw
        obtain ⟨hS0, hS1, hS2, hS3, hS4⟩ := hSw
        go_simp
        all_goals (try with_reducible rfl)
      (try simp only [Act.put, List.setIfInBounds_toArray, List.set_cons_zero, List.set_cons_succ])
      refine wpAnyH_take (i := 23) (oi := ⟨some 55, _, _, _, _, _⟩) (v := ?_) rfl (by kernel_rfl) (by kernel_rfl) (by kernel_rfl) (fun _ _ _ h => h) (Or.inl ⟨by rfl, ?_⟩) (by assumption) ?_
      rotate_left
      · intro w hSw
        obtain ⟨hS0, hS1, hS2, hS3, hS4⟩ := hSw
        go_simp
        all_goals (try with_reducible rfl)
      (try simp only [Act.put, List.setIfInBounds_toArray, List.set_cons_zero, List.set_cons_succ])
      refine wpAnyH_take (i := 24) (oi := ⟨some 56, _, _, _, _, _⟩) (v := ?_) rfl (by kernel_rfl) (by kernel_rfl) (by kernel_rfl) (fun _ _ _ h => h) (Or.inl ⟨by rfl, ?_⟩) (by assumption) ?_
      rotate_left
      · intro w hSw
        obtain ⟨hS0, hS1, hS2, hS3, hS4⟩ := hSw
        go_simp
        all_goals (try with_reducible rfl)
      (try simp only [Act.put, List.setIfInBounds_toArray, List.set_cons_zero, List.set_cons_succ])
      refine wpAnyH_take (i := 25) (oi := ⟨some 57, _, _, _, _, _⟩) (v := ?_) rfl (by kernel_rfl) (by kernel_rfl) (by kernel_rfl) (fun _ _ _ h => h) (Or.inl ⟨by rfl, ?_⟩) (by assumption) ?_
      rotate_left
      · intro w hSw
        obtain ⟨hS0, hS1, hS2, hS3, hS4⟩ := hSw
        go_simp
        all_goals (try with_reducible rfl)
      (try simp only [Act.put, List.setIfInBounds_toArray, List.set_cons_zero, List.set_cons_succ])
      refine wpAnyH_take (i := 26) (oi := ⟨some 58, _, _, _, _, _⟩) (v := ?_) rfl (by kernel_rfl) (by kernel_rfl) (by kernel_rfl) (fun _ _ _ h => h) (Or.inl ⟨by rfl, ?_⟩) (by assumption) ?_
      rotate_left
      · intro w hSw
        obtain ⟨hS0, hS1, hS2, hS3, hS4⟩ := hSw
        go_simp
        all_goals (try with_reducible rfl)
      (try simp only [Act.put, List.setIfInBounds_toArray, List.set_cons_zero, List.set_cons_succ])
      refine wpAnyH_ready (rs := [27]) (by kernel_rfl) (by simp) ?_
      refine AllReadyH.cons (o := ⟨some 59, _, _, _, _, _⟩) rfl (fun K hK => ?_) AllReadyH.nil
      go_simp
      refine (awake7 _).mono ?_
      rintro en w9 ⟨rfl, hO⟩
      have HD10 := Lib.hid (HD9.out.keep0 hO)
      clear HD9 hO
      refine hK.out _ _ (s5 (show Kn.Own w9 rb _ from HD10.out.fi 2 rfl)) (fun hSn => ?_)
      clear hK K hSw0
      have hSw0 := hSn
      clear hSn
      (try simp only [Act.put, List.setIfInBounds_toArray, List.set_cons_zero, List.set_cons_succ])
      refine wpAnyH_take (i := 28) (oi := ⟨some 60, _, _, _, _, _⟩) (v := ?_) rfl (by kernel_rfl) (by kernel_rfl) (by kernel_rfl) (fun _ _ _ h => h) (Or.inl ⟨by rfl, ?_⟩) (by assumption) ?_
      rotate_left
      · intro w hSw
        obtain ⟨hS0, hS1, hS2, hS3, hS4⟩ := hSw
        go_simp
        all_goals (try with_reducible rfl)
      (try simp only [Act.put, List.setIfInBounds_toArray, List.set_cons_zero, List.set_cons_succ])
      refine wpAnyH_take (i := 29) (oi := ⟨some 2, _, _, _, _, _⟩) (v := ?_) rfl (by kernel_rfl) (by kernel_rfl) (by kernel_rfl) (fun _ _ _ h => h) (Or.inl ⟨by rfl, ?_⟩) (by assumption) ?_
      rotate_left
      · intro w hSw
        obtain ⟨hS0, hS1, hS2, hS3, hS4⟩ := hSw
        go_simp
        all_goals (try with_reducible rfl)
      (try simp only [Act.put, List.setIfInBounds_toArray, List.set_cons_zero, List.set_cons_succ])
      refine wpAnyH_done (by kernel_rfl) ?_ _
      clear hSw0
      go_wp2
      go_ret
      exact ⟨rfl, HD10.out.only⟩
    | false =>
      have hn2 : ((0 : Int) == (0 : Int)) = true := by simp
      go_upto_region 8 with (fail)
      have HD5 := Lib.hid HD4.out.drew
      clear HD4 x0 x1 x2 x3 x4 xl
      skip
      refine wp_region_held_drew (S := (fun w' => w'.cell? ⟨rb, 0, none⟩ = some (.int .i64 m) ∧ w'.cell? ⟨rb, 1, none⟩ = some (.int .i64 n) ∧ w'.cell? ⟨rb, 2, none⟩ = some (.int .i64 p) ∧ w'.cell? ⟨rb, 3, none⟩ = some (.slice A na ca) ∧ w'.cell? ⟨rb, 4, none⟩ = some (.slice B nb cb))) (by kernel_rfl) (s5 (show Kn.Own w5.drew rb _ from HD5.out.fi 2 rfl)) (fun hSw0 => ?_)
      refine wpAnyH_take (i := 0) (oi := ⟨some 32, _, _, _, _, _⟩) (v := ?_) rfl (by kernel_rfl) (by kernel_rfl) (by kernel_rfl) (fun _ _ _ h => h) (Or.inl ⟨by rfl, ?_⟩) (by assumption) ?_
      rotate_left
      · intro w hSw
        obtain ⟨hS0, hS1, hS2, hS3, hS4⟩ := hSw
        go_simp
        all_goals (try with_reducible rfl)
      (try simp only [Act.put, List.setIfInBounds_toArray, List.set_cons_zero, List.set_cons_succ])
      refine wpAnyH_take (i := 2) (oi := ⟨some 34, _, _, _, _, _⟩) (v := ?_) rfl (by kernel_rfl) (by kernel_rfl) (by kernel_rfl) (fun _ _ _ h => h) (Or.inl ⟨by rfl, ?_⟩) (by assumption) ?_
      rotate_left
      · intro w hSw
        obtain ⟨hS0, hS1, hS2, hS3, hS4⟩ := hSw
        go_simp
        all_goals (try with_reducible rfl)
      (try simp only [Act.put, List.setIfInBounds_toArray, List.set_cons_zero, List.set_cons_succ])
      refine wpAnyH_ready (rs := [1]) (by kernel_rfl) (by simp) ?_
      refine AllReadyH.cons (o := ⟨some 33, _, _, _, _, _⟩) rfl (fun K hK => ?_) AllReadyH.nil
      go_simp
      refine (rec_may_any m n p A na ca its B nb cb bl _ (HD5.out.fi 3 rfl).1 (HD5.out.fi 3 rfl).2).mono ?_
      rintro en w6 ⟨rfl, hO⟩
      rw [HM.out]
      have HD6 := Lib.hid (HD5.out.keep0 hO)
      clear HD5 hO
      refine hK.out _ _ (s5 (show Kn.Own w6 rb _ from HD6.out.fi 2 rfl)) (fun hSn => ?_)
      clear hK K hSw0
      have hSw0 := hSn
      clear hSn
      (try simp only [Act.put, List.setIfInBounds_toArray, List.set_cons_zero, List.set_cons_succ])
      refine wpAnyH_ready (rs := [3]) (by kernel_rfl) (by simp) ?_
      refine AllReadyH.cons (o := ⟨some 35, _, _, _, _, _⟩) rfl (fun K hK => ?_) AllReadyH.nil
      go_simp
      refine (ref_rec_may_any m n p A na ca its B nb cb bl _ (HD6.out.fi 3 rfl).1 (HD6.out.fi 3 rfl).2).mono ?_
      rintro en w7 ⟨rfl, hO⟩
      rw [HM.out]
      have HD7 := Lib.hid (HD6.out.keep0 hO)
      clear HD6 hO
      refine hK.out _ _ (s5 (show Kn.Own w7 rb _ from HD7.out.fi 2 rfl)) (fun hSn => ?_)
      clear hK K hSw0
      have hSw0 := hSn
      clear hSn
      (try simp only [Act.put, List.setIfInBounds_toArray, List.set_cons_zero, List.set_cons_succ])
      refine wpAnyH_take (i := 4) (oi := ⟨some 36, _, _, _, _, _⟩) (v := ?_) rfl (by kernel_rfl) (by kernel_rfl) (by kernel_rfl) (fun _ _ _ h => h) (Or.inl ⟨by rfl, ?_⟩) (by assumption) ?_
      rotate_left
      · intro w hSw
        obtain ⟨hS0, hS1, hS2, hS3, hS4⟩ := hSw
        go_simp
        all_goals (try with_reducible rfl)
      (try simp only [Act.put, List.setIfInBounds_toArray, List.set_cons_zero, List.set_cons_succ])
      refine wpAnyH_take (i := 5) (oi := ⟨some 37, _, _, _, _, _⟩) (v := ?_) rfl (by kernel_rfl) (by kernel_rfl) (by kernel_rfl) (fun _ _ _ h => h) (Or.inl ⟨by rfl, ?_⟩) (by assumption) ?_
      rotate_left
      · intro w hSw
        obtain ⟨hS0, hS1, hS2, hS3, hS4⟩ := hSw
        go_simp
        all_goals (try with_reducible rfl)
      (try simp only [Act.put, List.setIfInBounds_toArray, List.set_cons_zero, List.set_cons_succ])
      refine wpAnyH_take (i := 6) (oi := ⟨some 38, _, _, _, _, _⟩) (v := ?_) rfl (by kernel_rfl) (by kernel_rfl) (by kernel_rfl) (fun _ _ _ h => h) (Or.inl ⟨by rfl, ?_⟩) (by assumption) ?_
      rotate_left
      · intro w hSw
        obtain ⟨hS0, hS1, hS2, hS3, hS4⟩ := hSw
        go_simp
        all_goals (try with_reducible rfl)
      (try simp only [Act.put, List.setIfInBounds_toArray, List.set_cons_zero, List.set_cons_succ])
      refine wpAnyH_take (i := 8) (oi := ⟨some 40, _, _, _, _, _⟩) (v := ?_) rfl (by kernel_rfl) (by kernel_rfl) (by kernel_rfl) (fun _ _ _ h => h) (Or.inl ⟨by rfl, ?_⟩) (by assumption) ?_
      rotate_left
      · intro w hSw
        obtain ⟨hS0, hS1, hS2, hS3, hS4⟩ := hSw
        go_simp
        all_goals (try with_reducible rfl)
      (try simp only [Act.put, List.setIfInBounds_toArray, List.set_cons_zero, List.set_cons_succ])
      refine wpAnyH_ready (rs := [7]) (by kernel_rfl) (by simp) ?_
      refine AllReadyH.cons (o := ⟨some 39, _, _, _, _, _⟩) rfl (fun K hK => ?_) AllReadyH.nil
      go_simp
      refine (rec_len_any m n p A na ca its B nb cb bl _ (HD7.out.fi 3 rfl).1 (HD7.out.fi 3 rfl).2).mono ?_
      rintro en w8 ⟨rfl, hO⟩
      rw [HL.out]
      simp only [if_true, Bool.false_eq_true, if_false]
      have HD8 := Lib.hid (HD7.out.keep0 hO)
      clear HD7 hO
      refine hK.out _ _ (s5 (show Kn.Own w8 rb _ from HD8.out.fi 2 rfl)) (fun hSn => ?_)
      clear hK K hSw0
      have hSw0 := hSn
      clear hSn
      (try simp only [Act.put, List.setIfInBounds_toArray, List.set_cons_zero, List.set_cons_succ])
      refine wpAnyH_take (i := 9) (oi := ⟨some 41, _, _, _, _, _⟩) (v := ?_) rfl (by kernel_rfl) (by kernel_rfl) (by kernel_rfl) (fun _ _ _ h => h) (Or.inl ⟨by rfl, ?_⟩) (by assumption) ?_
      rotate_left
      · intro w hSw
        obtain ⟨hS0, hS1, hS2, hS3, hS4⟩ := hSw
        go_simp
        all_goals (try with_reducible rfl)
      (try simp only [Act.put, List.setIfInBounds_toArray, List.set_cons_zero, List.set_cons_succ])
      refine wpAnyH_take (i := 10) (oi := ⟨some 42, _, _, _, _, _⟩) (v := ?_) rfl (by kernel_rfl) (by kernel_rfl) (by kernel_rfl) (fun _ _ _ h => h) (Or.inl ⟨by rfl, ?_⟩) (by assumption) ?_
      rotate_left
      · intro w hSw
        obtain ⟨hS0, hS1, hS2, hS3, hS4⟩ := hSw
        go_simp
        all_goals (try with_reducible rfl)
      (try simp only [Act.put, List.setIfInBounds_toArray, List.set_cons_zero, List.set_cons_succ])
      refine wpAnyH_take (i := 11) (oi := ⟨some 43, _, _, _, _, _⟩) (v := ?_) rfl (by kernel_rfl) (by kernel_rfl) (by kernel_rfl) (fun _ _ _ h => h) (Or.inl ⟨by rfl, ?_⟩) (by assumption) ?_
      rotate_left
      · intro w hSw
        obtain ⟨hS0, hS1, hS2, hS3, hS4⟩ := hSw
        go_simp
        all_goals (try with_reducible rfl)
      (try simp only [Act.put, List.setIfInBounds_toArray, List.set_cons_zero, List.set_cons_succ])
      refine wpAnyH_take (i := 12) (oi := ⟨some 44, _, _, _, _, _⟩) (v := ?_) rfl (by kernel_rfl) (by kernel_rfl) (by kernel_rfl) (fun _ _ _ h => h) (Or.inl ⟨by rfl, ?_⟩) (by assumption) ?_
      rotate_left
      · intro w hSw
        obtain ⟨hS0, hS1, hS2, hS3, hS4⟩ := hSw
        go_simp
        all_goals (try with_reducible rfl)
      (try simp only [Act.put, List.setIfInBounds_toArray, List.set_cons_zero, List.set_cons_succ])
      refine wpAnyH_take (i := 13) (oi := ⟨some 45, _, _, _, _, _⟩) (v := ?_) rfl (by kernel_rfl) (by kernel_rfl) (by kernel_rfl) (fun _ _ _ h => h) (Or.inl ⟨by rfl, ?_⟩) (by assumption) ?_
      rotate_left
      · intro w hSw
        obtain ⟨hS0, hS1, hS2, hS3, hS4⟩ := hSw
        go_simp
        all_goals (try with_reducible rfl)
      (try simp only [Act.put, List.setIfInBounds_toArray, List.set_cons_zero, List.set_cons_succ])
      refine wpAnyH_take (i := 14) (oi := ⟨some 46, _, _, _, _, _⟩) (v := ?_) rfl (by kernel_rfl) (by kernel_rfl) (by kernel_rfl) (fun _ _ _ h => h) (Or.inl ⟨by rfl, ?_⟩) (by assumption) ?_
      rotate_left
      · intro w hSw
        obtain ⟨hS0, hS1, hS2, hS3, hS4⟩ := hSw
        go_simp
        all_goals (try with_reducible rfl)
      (try simp only [Act.put, List.setIfInBounds_toArray, List.set_cons_zero, List.set_cons_succ])
      refine wpAnyH_take (i := 15) (oi := ⟨some 47, _, _, _, _, _⟩) (v := ?_) rfl (by kernel_rfl) (by kernel_rfl) (by kernel_rfl) (fun _ _ _ h => h) (Or.inl ⟨by rfl, ?_⟩) (by assumption) ?_
      rotate_left
      · intro w hSw
        obtain ⟨hS0, hS1, hS2, hS3, hS4⟩ := hSw
        go_simp
        all_goals (try with_reducible rfl)
      (try simp only [Act.put, List.setIfInBounds_toArray, List.set_cons_zero, List.set_cons_succ])
      refine wpAnyH_take (i := 16) (oi := ⟨some 48, _, _, _, _, _⟩) (v := ?_) rfl (by kernel_rfl) (by kernel_rfl) (by kernel_rfl) (fun _ _ _ h => h) (Or.inl ⟨by rfl, ?_⟩) (by assumption) ?_
      rotate_left
      · intro w hSw
        obtain ⟨hS0, hS1, hS2, hS3, hS4⟩ := hSw
        go_simp
        all_goals (try with_reducible rfl)
      (try simp only [Act.put, List.setIfInBounds_toArray, List.set_cons_zero, List.set_cons_succ])
      refine wpAnyH_take (i := 17) (oi := ⟨some 49, _, _, _, _, _⟩) (v := ?_) rfl (by kernel_rfl) (by kernel_rfl) (by kernel_rfl) (fun _ _ _ h => h) (Or.inl ⟨by rfl, ?_⟩) (by assumption) ?_
      rotate_left
      · intro w hSw
        obtain ⟨hS0, hS1, hS2, hS3, hS4⟩ := hSw
        go_simp
        all_goals (try with_reducible rfl)
      (try simp only [Act.put, List.setIfInBounds_toArray, List.set_cons_zero, List.set_cons_succ])
      refine wpAnyH_take (i := 18) (oi := ⟨some 50, _, _, _, _, _⟩) (v := ?_) rfl (by kernel_rfl) (by kernel_rfl) (by kernel_rfl) (fun _ _ _ h => h) (Or.inl ⟨by rfl, ?_⟩) (by assumption) ?_
      rotate_left
      · intro w hSw
        obtain ⟨hS0, hS1, hS2, hS3, hS4⟩ := hSw
        go_simp
        all_goals (try with_reducible rfl)
      (try simp only [Act.put, List.setIfInBounds_toArray, List.set_cons_zero, List.set_cons_succ])
      refine wpAnyH_ready (rs := [19]) (by kernel_rfl) (by simp) ?_
      refine AllReadyH.cons (o := ⟨some 51, _, _, _, _, _⟩) rfl (fun K hK => ?_) AllReadyH.nil
      go_simp
      refine (alike_bytes_any A1 ys.length k1 ys A2 ys.length k2 ys _ (HD8.out.fi 1 rfl) (HD8.out.fi 0 rfl)).mono ?_
      rintro en _ ⟨rfl, k7, rfl⟩
      have hdd : decide (ys = ys) = true := by simp
      rw [hdd]
      clear hdd
      have HD9 := Lib.hid (HD8.out.drewN k7)
      clear HD8
      refine hK.out _ _ (s5 (show Kn.Own (w8.drewN k7) rb _ from HD9.out.fi 2 rfl)) (fun hSn => ?_)
      clear hK K hSw0
      have hSw0 := hSn
      clear hSn
      (try simp only [Act.put, List.setIfInBounds_toArray, List.set_cons_zero, List.set_cons_succ])
      refine wpAnyH_take (i := 20) (oi := ⟨some 52, _, _, _, _, _⟩) (v := ?_) rfl (by kernel_rfl) (by kernel_rfl) (by kernel_rfl) (fun _ _ _ h => h) (Or.inl ⟨by rfl, ?_⟩) (by assumption) ?_
      rotate_left
      · intro w hSw
        obtain ⟨hS0, hS1, hS2, hS3, hS4⟩ := hSw
        go_simp
        all_goals (try with_reducible rfl)
      (try simp only [Act.put, List.setIfInBounds_toArray, List.set_cons_zero, List.set_cons_succ])
      refine wpAnyH_take (i := 21) (oi := ⟨some 53, _, _, _, _, _⟩) (v := ?_) rfl (by kernel_rfl) (by kernel_rfl) (by kernel_rfl) (fun _ _ _ h => h) (Or.inl ⟨by rfl, ?_⟩) (by assumption) ?_
      rotate_left
      · intro w hSw
        obtain ⟨hS0, hS1, hS2, hS3, hS4⟩ := hSw
        go_simp
        all_goals (try with_reducible rfl)
      (try simp only [Act.put, List.setIfInBounds_toArray, List.set_cons_zero, List.set_cons_succ])
      refine wpAnyH_take (i := 22) (oi := ⟨some 54, _, _, _, _, _⟩) (v := ?_) rfl (by kernel_rfl) (by kernel_rfl) (by kernel_rfl) (fun _ _ _ h => h) (Or.inl ⟨by rfl, ?_⟩) (by assumption) ?_
      rotate_left
      · intro w hSw
        obtain ⟨hS0, hS1, hS2, hS3, hS4⟩ := hSw
        go_simp
        all_goals (try with_reducible rfl)
      (try simp only [Act.put, List.setIfInBounds_toArray, List.set_cons_zero, List.set_cons_succ])
      refine wpAnyH_take (i := 23) (oi := ⟨some 55, _, _, _, _, _⟩) (v := ?_) rfl (by kernel_rfl) (by kernel_rfl) (by kernel_rfl) (fun _ _ _ h => h) (Or.inl ⟨by rfl, ?_⟩) (by assumption) ?_
      rotate_left
      · intro w hSw
        obtain ⟨hS0, hS1, hS2, hS3, hS4⟩ := hSw
        go_simp
        all_goals (try with_reducible rfl)
      (try simp only [Act.put, List.setIfInBounds_toArray, List.set_cons_zero, List.set_cons_succ])
      refine wpAnyH_take (i := 24) (oi := ⟨some 56, _, _, _, _, _⟩) (v := ?_) rfl (by kernel_rfl) (by kernel_rfl) (by kernel_rfl) (fun _ _ _ h => h) (Or.inl ⟨by rfl, ?_⟩) (by assumption) ?_
      rotate_left
      · intro w hSw
        obtain ⟨hS0, hS1, hS2, hS3, hS4⟩ := hSw
        go_simp
        all_goals (try with_reducible rfl)
      (try simp only [Act.put, List.setIfInBounds_toArray, List.set_cons_zero, List.set_cons_succ])
      refine wpAnyH_take (i := 25) (oi := ⟨some 57, _, _, _, _, _⟩) (v := ?_) rfl (by kernel_rfl) (by kernel_rfl) (by kernel_rfl) (fun _ _ _ h => h) (Or.inl ⟨by rfl, ?_⟩) (by assumption) ?_
      rotate_left
      · intro w hSw
        obtain ⟨hS0, hS1, hS2, hS3, hS4⟩ := hSw
        go_simp
        all_goals (try with_reducible rfl)
      (try simp only [Act.put, List.setIfInBounds_toArray, List.set_cons_zero, List.set_cons_succ])
      refine wpAnyH_take (i := 26) (oi := ⟨some 58, _, _, _, _, _⟩) (v := ?_) rfl (by kernel_rfl) (by kernel_rfl) (by kernel_rfl) (fun _ _ _ h => h) (Or.inl ⟨by rfl, ?_⟩) (by assumption) ?_
      rotate_left
      · intro w hSw
        obtain ⟨hS0, hS1, hS2, hS3, hS4⟩ := hSw
        go_simp
        all_goals (try with_reducible rfl)
      (try simp only [Act.put, List.setIfInBounds_toArray, List.set_cons_zero, List.set_cons_succ])
      refine wpAnyH_ready (rs := [27]) (by kernel_rfl) (by simp) ?_
      refine AllReadyH.cons (o := ⟨some 59, _, _, _, _, _⟩) rfl (fun K hK => ?_) AllReadyH.nil
      go_simp
      refine (awake7 _).mono ?_
      rintro en w9 ⟨rfl, hO⟩
      have HD10 := Lib.hid (HD9.out.keep0 hO)
      clear HD9 hO
      refine hK.out _ _ (s5 (show Kn.Own w9 rb _ from HD10.out.fi 2 rfl)) (fun hSn => ?_)
      clear hK K hSw0
      have hSw0 := hSn
      clear hSn
      (try simp only [Act.put, List.setIfInBounds_toArray, List.set_cons_zero, List.set_cons_succ])
      refine wpAnyH_take (i := 28) (oi := ⟨some 60, _, _, _, _, _⟩) (v := ?_) rfl (by kernel_rfl) (by kernel_rfl) (by kernel_rfl) (fun _ _ _ h => h) (Or.inl ⟨by rfl, ?_⟩) (by assumption) ?_
      rotate_left
      · intro w hSw
        obtain ⟨hS0, hS1, hS2, hS3, hS4⟩ := hSw
        go_simp
        all_goals (try with_reducible rfl)
      (try simp only [Act.put, List.setIfInBounds_toArray, List.set_cons_zero, List.set_cons_succ])
      refine wpAnyH_take (i := 29) (oi := ⟨some 2, _, _, _, _, _⟩) (v := ?_) rfl (by kernel_rfl) (by kernel_rfl) (by kernel_rfl) (fun _ _ _ h => h) (Or.inl ⟨by rfl, ?_⟩) (by assumption) ?_
      rotate_left
      · intro w hSw
        obtain ⟨hS0, hS1, hS2, hS3, hS4⟩ := hSw
        go_simp
        all_goals (try with_reducible rfl)
      (try simp only [Act.put, List.setIfInBounds_toArray, List.set_cons_zero, List.set_cons_succ])
      refine wpAnyH_done (by kernel_rfl) ?_ _
      clear hSw0
      go_wp2
      go_ret
      exact ⟨rfl, HD10.out.only⟩
theorem walk (m0 n0 q0 : Int) (a0 : Option Addr) (na0 ca0 : Nat) (its0 : List It) (b0 : Option Addr) (nb0 cb0 : Nat) (bl0 : List (List UInt8)) (w : World) (w0 : RcAt w ⟨m0, n0, q0, its0, bl0⟩ (a0, na0, ca0) (b0, nb0, cb0)) : Calls Try.prog 4 #[.agg #[.int .i64 m0, .int .i64 n0, .int .i64 q0, .slice a0 na0 ca0, .slice b0 nb0 cb0]] w fun e w' => e = .returned (.bool true) ∧ Below w.heap.size w w' := by
  refine (tells m0 n0 q0 a0 na0 ca0 its0 b0 nb0 cb0 bl0 w w0).mono ?_
  rintro e w' ⟨rfl, hO⟩
  exact ⟨rfl, hO.below0⟩

set_option maxRecDepth 100000 in
theorem lifted (os : Os) (started : os.Started) (H : Type) (enc : TypeId × Value → H) :
    ReturnsInHanded {} Try.checked os 4 .any (Rows.recordTellsSpec.pre6 enc Try.prog Try.f4 Rows.recordTellsRow.domain false) (Rows.recordTellsSpec.post enc Try.prog Try.f4 false true false false) := by
  refine returnsInHanded_of_change (C := Try.checked) own started (by kernel_rfl) Try.func4
    (ChangeSpec.witness6 (enc := enc) (C := Try.checked) false ⟨#[], #[.agg #[.int .i64 0, .int .i64 0, .int .i64 0, .slice none 0 0, .slice none 0 0]], []⟩ 8 (by kernel_rfl) (by kernel_rfl) (by kernel_rfl) (by kernel_rfl)) ?_
  intro W base args ds gs before hval0 hW hcnd _
  have hval : ∀ (j : Nat) t v, Try.f4.params[j]? = some t → args[j]? = some v → Value.okWide Try.prog W .any base t v := hval0
  have hW' := hW
  obtain ⟨p, q, hA0, hV, rfl, hfz, hnd⟩ := hW
  have hA : DataW.TrodAll enc Try.prog W 0 (fun _ => true) true Try.f4.params.toList args.toList ds p := hA0
  rw [Try.params4] at hA hval
  obtain ⟨v0, vs0, d0, ds0, p0, q0, hargs, rfl, rfl, h0, r0⟩ := trodAll_cons hA
  obtain ⟨rfl, rfl, rfl⟩ := trodAll_nil r0
  obtain rfl : args = #[v0] := by cases args; simp_all
  obtain ⟨rfl, rfl⟩ := trodVars_none hV
  have k0 := h0
  have lt0 : ∀ x ∈ p0, x.block < W.heap.size := by obtain ⟨m, hm⟩ := k0; exact DataW.trod_lt m _ _ _ hm
  obtain ⟨m0, n0, q0, a0, na0, ca0, its0, b0, nb0, cb0, bl0, rfl, wi0, wb0⟩ := open_rec (okWide_struct Try.underlying47 (hval 0 47 v0 rfl rfl)) h0
  have w0 : RcAt W ⟨m0, n0, q0, its0, bl0⟩ (a0, na0, ca0) (b0, nb0, cb0) := ⟨wi0, wb0⟩
  clear hA0 hval0
  refine (walk m0 n0 q0 a0 na0 ca0 its0 b0 nb0 cb0 bl0 W w0).mono fun e W' ⟨he, bel⟩ => ?_
  subst he
  exact ⟨_, rfl, _, _, _, [], _, [], hW', trodAll_mk1 (shut_bool Try.underlying4 _), (trodAll_cons_mk (Below.trod laidOut (by kernel_rfl) (of_decide_eq_true (by kernel_rfl)) k0 bel lt0) trodAll_mk0), rfl, bel.frame _, fun h => by cases h⟩

set_option maxRecDepth 100000 in
theorem closed : joinedFacts Try.pinned.checked.prog 4 Try.f4 Rows.recordTellsSpec Rows.recordTellsRow = true := by
  show joinedFacts Try.prog 4 Try.f4 Rows.recordTellsSpec Rows.recordTellsRow = true
  unfold joinedFacts
  simp only [enter_may, enter_lifts, enter_make]
  kernel_rfl

theorem over : Rows.recordTellsRow.holds Try.pinned (OpenSpec.ofChange Rows.recordTellsSpec) :=
  OpenClaim.holds_of_wide 4 Try.f4 rfl rfl rfl rfl rfl rfl rfl ⟨rfl, rfl, rfl, rfl, rfl⟩ rfl rfl rfl rfl rfl (by kernel_rfl) Try.func4 closed
    (of_decide_eq_true (by kernel_rfl)) (by unfold Func.isWrapper; first | (rw [if_pos (by decide +kernel)]; kernel_rfl) | (rw [if_neg (by decide +kernel)]; exact ⟨rfl, rfl⟩))
    (fun os started H enc _ => lifted os started H enc)

theorem proved : Rows.RecordTellsSaid := over

end Go.Proofs.Ytoibehikojkoiaa.recordTells
