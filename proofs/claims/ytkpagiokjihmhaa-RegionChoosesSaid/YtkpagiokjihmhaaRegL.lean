
/- Regions as bytes: what was laid is read back; closed by its sum; begun by its letters. Plain. Printed by mkregl.py. -/
import Derived.Test.YtkpagiokjihmhaaRegH
set_option linter.unusedVariables false
set_option linter.unusedSimpArgs false
namespace Go.Kn
open Go Go.RowKit
theorem bit_at : ∀ (xs : List Int) (i : Nat) (hi : i < xs.length), xs.all inSlot = true → ((bitsN xs / 2 ^ i % 2 : Nat) : Int) = xs[i]
  | [], i, hi, _ => by simp at hi
  | x :: r, 0, hi, h => by
    simp only [List.all_cons, Bool.and_eq_true] at h
    have h2 := h.1
    unfold inSlot at h2
    simp at h2
    simp only [bitsN, List.getElem_cons_zero, Nat.pow_zero, Nat.div_one]
    omega
  | x :: r, i + 1, hi, h => by
    simp only [List.all_cons, Bool.and_eq_true] at h
    have h2 := h.1
    unfold inSlot at h2
    simp at h2
    have ih := bit_at r i (by simpa using hi) h.2
    simp only [bitsN, List.getElem_cons_succ]
    rw [Nat.pow_succ, Nat.mul_comm (2 ^ i) 2, ← Nat.div_div_eq_div_mul, show (x.toNat + 2 * bitsN r) / 2 = bitsN r by omega]
    exact ih
theorem unbits_bitsN (xs : List Int) (h : xs.all inSlot = true) : unbits (bitsN xs) xs.length = xs := by
  apply List.ext_getElem (by simp)
  intro i h1 h2
  simp only [unbits, List.getElem_map, List.getElem_range]
  exact bit_at xs i h2 h
theorem rg_wid (r : Rg) : wid (rgNums r ++ usNums r.segs) = 39 + 5 * r.segs.length := by
  have h := usNums_wid r.segs
  unfold wid at h ⊢
  rw [List.map_append, List.sum_append, h]
  rfl
theorem rg_split {b s l : Int} {r : Rg} (hc : CfOk b s l) (hl : (r.segs.length : Int) = s) : (∃ rest, rgBytes s r = cat (rgNums r ++ usNums r.segs) ++ rest) ∧ (rgBytes s r).length = rgT s ∧ Closed (rgBytes s r) (rgT s - 4) := by
  obtain ⟨h1, h2, h3, h4⟩ := rlN_eq hc
  have hT : 43 + 5 * r.segs.length ≤ rgT s := by unfold rgT; omega
  have hw : (cat (rgNums r ++ usNums r.segs)).length = 39 + 5 * r.segs.length := by rw [cat_length, rg_wid]
  unfold rgBytes
  generalize rgT s = T at *
  generalize cat (rgNums r ++ usNums r.segs) = C at *
  have hbl : (lay (List.replicate T 0) 0 C).length = T := by rw [lay_length _ _ _ (by simp; omega)]; simp
  have hbe : lay (List.replicate T 0) 0 C = C ++ (List.replicate T 0).drop C.length := lay_zero _ _
  have hl4 : ∀ X : List UInt8, X.length = T → lay X (T - 4) (le 4 (csum (X.take (T - 4)))) = X.take (T - 4) ++ le 4 (csum (X.take (T - 4))) := by
    intro X hX
    unfold lay
    rw [List.drop_eq_nil_of_le (by simp; omega), List.append_nil]
  rw [hl4 _ hbl]
  generalize hX : lay (List.replicate T 0) 0 C = X at *
  refine ⟨⟨((List.replicate T 0).drop C.length).take (T - 4 - C.length) ++ le 4 (csum (X.take (T - 4))), ?_⟩, ?_, ?_⟩
  · rw [← List.append_assoc]
    congr 1
    rw [hbe, List.take_append, List.take_of_length_le (by omega)]
  · simp
    omega
  · unfold Closed
    rw [List.drop_left' (by simp; omega), List.take_left' (by simp; omega)]
theorem usNums_app (a b : List (Int × Int)) : usNums (a ++ b) = usNums a ++ usNums b := by simp [usNums]
theorem us_back (A : List (Nat × Int)) (us : List (Int × Int)) (rest : List UInt8) (hb : ∀ i (h : i < us.length), (0 ≤ us[i].1 ∧ us[i].1 < 256) ∧ (0 ≤ us[i].2 ∧ us[i].2 < 4294967296)) :
    ∀ j, j ≤ us.length → usPos (cat (A ++ usNums us) ++ rest) (wid A) j = wid A + 5 * j ∧ readUs (cat (A ++ usNums us) ++ rest) (wid A) j = us.take j
  | 0, _ => ⟨rfl, by simp [readUs]⟩
  | j + 1, hj => by
    obtain ⟨h1, h2⟩ := us_back A us rest hb j (by omega)
    have hbj := hb j (by omega)
    have e256 : (256 : Int) ^ 1 = 256 := rfl
    have e4 : (256 : Int) ^ 4 = 4294967296 := rfl
    have hsp : us = us.take j ++ us[j] :: us.drop (j + 1) := by rw [List.getElem_cons_drop, List.take_append_drop]
    have hw1 : wid (A ++ usNums (us.take j)) = wid A + 5 * j := by
      have h := usNums_wid (us.take j)
      unfold wid at h ⊢
      rw [List.map_append, List.sum_append, h, List.length_take, Nat.min_eq_left (by omega)]
    have hw2 : wid (A ++ usNums (us.take j) ++ [(1, us[j].1)]) = wid A + 5 * j + 1 := by
      unfold wid at hw1 ⊢
      rw [List.map_append, List.sum_append, hw1]
      rfl
    have hn : usNums us = usNums (us.take j) ++ (1, us[j].1) :: (4, us[j].2) :: usNums (us.drop (j + 1)) := by
      conv => lhs; rw [hsp]
      rw [usNums_app]
      rfl
    have g1 := cat_get (A ++ usNums (us.take j)) 1 us[j].1 ((4, us[j].2) :: usNums (us.drop (j + 1))) rest (by omega)
    have g2 := cat_get (A ++ usNums (us.take j) ++ [(1, us[j].1)]) 4 us[j].2 (usNums (us.drop (j + 1))) rest (by omega)
    rw [List.append_assoc, ← hn, hw1] at g1
    rw [List.append_assoc, List.append_assoc, List.singleton_append, ← hn, hw2] at g2
    have hlen : wid A + 5 * j + 5 ≤ (cat (A ++ usNums us) ++ rest).length := by
      have h := usNums_wid us
      have hwa : wid (A ++ usNums us) = wid A + 5 * us.length := by
        unfold wid at h ⊢
        rw [List.map_append, List.sum_append, h]
      rw [List.length_append, cat_length, hwa]
      omega
    generalize cat (A ++ usNums us) ++ rest = bs at *
    have q1 := got_at (bs := bs) (k := wid A + 5 * j) (n := 1) (by omega) (by omega)
    have q2 := got_at (bs := bs) (k := wid A + 5 * j + 1) (n := 4) (by omega) (by omega)
    have q1k : getK bs (wid A + 5 * j) 1 = wid A + 5 * j + 1 := q1.2
    have q1n : ((getN bs (wid A + 5 * j) 1 : Nat) : Int) = rd bs (wid A + 5 * j) 1 := q1.1
    have q2k : getK bs (wid A + 5 * j + 1) 4 = wid A + 5 * j + 1 + 4 := q2.2
    have q2n : ((getN bs (wid A + 5 * j + 1) 4 : Nat) : Int) = rd bs (wid A + 5 * j + 1) 4 := q2.1
    refine ⟨?_, ?_⟩
    · simp only [usPos]
      rw [h1, q1k, q2k]
      omega
    · simp only [readUs]
      rw [h1, h2, q1k, q1n, q2n, g1, g2, List.take_succ_eq_append_getElem (by omega)]
set_option maxRecDepth 10000 in
set_option maxHeartbeats 2000000 in
theorem rg_of_back {b s l : Int} {r : Rg} (hc : CfOk b s l) (h : rgMay b s l r = true) : rgOf (pgN b) s.toNat (rgBytes s r) = r := by
  obtain ⟨hn, hp, hba, hov, hsl, hsg⟩ := rgMay_parts h
  obtain ⟨n0, n1, n2, n3, n4, n5⟩ := numOk_parts hn
  obtain ⟨p0, p1, p2, p3, p4⟩ := posMay_parts hp
  obtain ⟨hbl, hba⟩ := slotsOk_parts hba
  obtain ⟨hol, hov⟩ := slotsOk_parts hov
  have hpb := pgs_bounds hc
  have hcs : s ≤ 32 ∧ 8 ≤ s := by unfold CfOk at hc; omega
  have hcl : l ≤ 64 := by unfold CfOk at hc; omega
  have hblt := bitsN_lt r.base hba
  have holt := bitsN_lt r.over hov
  have h2b : 2 ^ r.base.length ≤ 2 ^ 5 := Nat.pow_le_pow_right (by omega) (by omega)
  have h2o : 2 ^ r.over.length ≤ 2 ^ 5 := Nat.pow_le_pow_right (by omega) (by omega)
  have e32 : (2 : Nat) ^ 5 = 32 := rfl
  have e1 : (256 : Int) ^ 1 = 256 := rfl
  have e4 : (256 : Int) ^ 4 = 4294967296 := rfl
  obtain ⟨⟨rest, hR⟩, hlen, _⟩ := rg_split hc hsl
  have hub := us_back (rgNums r) r.segs rest (fun i hi => by have := segsOk_at hsg i hi; omega) r.segs.length (Nat.le_refl _)
  have hw39 : wid (rgNums r) = 39 := rfl
  rw [hw39, List.take_length, ← hR] at hub
  have hT : 64 ≤ (rgBytes s r).length := by rw [hlen]; have := rlN_eq hc; unfold rgT; omega
  have hPN : pgN b = r.base.length := by unfold pgN; omega
  have hPO : pgN b = r.over.length := by unfold pgN; omega
  have hSN : s.toNat = r.segs.length := by omega
  have hub0 := unbits_bitsN r.base hba
  have huo0 := unbits_bitsN r.over hov
  have hk0 : rgK0 (rgBytes s r) = 2 := by have := (took_at (bs := rgBytes s r) (k := 0) (n := 2) (by omega)).2; exact this
  have g0 : rd (rgBytes s r) 2 4 = r.g := by rw [hR]; exact cat_get [(1, 75), (1, 67)] 4 r.g ((4, r.v) :: (1, r.m) :: (4, r.e) :: (4, r.s) :: (4, r.d) :: (1, r.ps) :: (1, r.po) :: (4, r.pl) :: (4, r.pp) :: (4, r.pm) :: (1, (bitsN r.base : Int)) :: (1, (bitsN r.over : Int)) :: usNums r.segs) rest (by omega)
  have g1 : rd (rgBytes s r) 6 4 = r.v := by rw [hR]; exact cat_get [(1, 75), (1, 67), (4, r.g)] 4 r.v ((1, r.m) :: (4, r.e) :: (4, r.s) :: (4, r.d) :: (1, r.ps) :: (1, r.po) :: (4, r.pl) :: (4, r.pp) :: (4, r.pm) :: (1, (bitsN r.base : Int)) :: (1, (bitsN r.over : Int)) :: usNums r.segs) rest (by omega)
  have g2 : rd (rgBytes s r) 10 1 = r.m := by rw [hR]; exact cat_get [(1, 75), (1, 67), (4, r.g), (4, r.v)] 1 r.m ((4, r.e) :: (4, r.s) :: (4, r.d) :: (1, r.ps) :: (1, r.po) :: (4, r.pl) :: (4, r.pp) :: (4, r.pm) :: (1, (bitsN r.base : Int)) :: (1, (bitsN r.over : Int)) :: usNums r.segs) rest (by omega)
  have g3 : rd (rgBytes s r) 11 4 = r.e := by rw [hR]; exact cat_get [(1, 75), (1, 67), (4, r.g), (4, r.v), (1, r.m)] 4 r.e ((4, r.s) :: (4, r.d) :: (1, r.ps) :: (1, r.po) :: (4, r.pl) :: (4, r.pp) :: (4, r.pm) :: (1, (bitsN r.base : Int)) :: (1, (bitsN r.over : Int)) :: usNums r.segs) rest (by omega)
  have g4 : rd (rgBytes s r) 15 4 = r.s := by rw [hR]; exact cat_get [(1, 75), (1, 67), (4, r.g), (4, r.v), (1, r.m), (4, r.e)] 4 r.s ((4, r.d) :: (1, r.ps) :: (1, r.po) :: (4, r.pl) :: (4, r.pp) :: (4, r.pm) :: (1, (bitsN r.base : Int)) :: (1, (bitsN r.over : Int)) :: usNums r.segs) rest (by omega)
  have g5 : rd (rgBytes s r) 19 4 = r.d := by rw [hR]; exact cat_get [(1, 75), (1, 67), (4, r.g), (4, r.v), (1, r.m), (4, r.e), (4, r.s)] 4 r.d ((1, r.ps) :: (1, r.po) :: (4, r.pl) :: (4, r.pp) :: (4, r.pm) :: (1, (bitsN r.base : Int)) :: (1, (bitsN r.over : Int)) :: usNums r.segs) rest (by omega)
  have g6 : rd (rgBytes s r) 23 1 = r.ps := by rw [hR]; exact cat_get [(1, 75), (1, 67), (4, r.g), (4, r.v), (1, r.m), (4, r.e), (4, r.s), (4, r.d)] 1 r.ps ((1, r.po) :: (4, r.pl) :: (4, r.pp) :: (4, r.pm) :: (1, (bitsN r.base : Int)) :: (1, (bitsN r.over : Int)) :: usNums r.segs) rest (by omega)
  have g7 : rd (rgBytes s r) 24 1 = r.po := by rw [hR]; exact cat_get [(1, 75), (1, 67), (4, r.g), (4, r.v), (1, r.m), (4, r.e), (4, r.s), (4, r.d), (1, r.ps)] 1 r.po ((4, r.pl) :: (4, r.pp) :: (4, r.pm) :: (1, (bitsN r.base : Int)) :: (1, (bitsN r.over : Int)) :: usNums r.segs) rest (by omega)
  have g8 : rd (rgBytes s r) 25 4 = r.pl := by rw [hR]; exact cat_get [(1, 75), (1, 67), (4, r.g), (4, r.v), (1, r.m), (4, r.e), (4, r.s), (4, r.d), (1, r.ps), (1, r.po)] 4 r.pl ((4, r.pp) :: (4, r.pm) :: (1, (bitsN r.base : Int)) :: (1, (bitsN r.over : Int)) :: usNums r.segs) rest (by omega)
  have g9 : rd (rgBytes s r) 29 4 = r.pp := by rw [hR]; exact cat_get [(1, 75), (1, 67), (4, r.g), (4, r.v), (1, r.m), (4, r.e), (4, r.s), (4, r.d), (1, r.ps), (1, r.po), (4, r.pl)] 4 r.pp ((4, r.pm) :: (1, (bitsN r.base : Int)) :: (1, (bitsN r.over : Int)) :: usNums r.segs) rest (by omega)
  have g10 : rd (rgBytes s r) 33 4 = r.pm := by rw [hR]; exact cat_get [(1, 75), (1, 67), (4, r.g), (4, r.v), (1, r.m), (4, r.e), (4, r.s), (4, r.d), (1, r.ps), (1, r.po), (4, r.pl), (4, r.pp)] 4 r.pm ((1, (bitsN r.base : Int)) :: (1, (bitsN r.over : Int)) :: usNums r.segs) rest (by omega)
  have g11 : rd (rgBytes s r) 37 1 = (bitsN r.base : Int) := by rw [hR]; exact cat_get [(1, 75), (1, 67), (4, r.g), (4, r.v), (1, r.m), (4, r.e), (4, r.s), (4, r.d), (1, r.ps), (1, r.po), (4, r.pl), (4, r.pp), (4, r.pm)] 1 (bitsN r.base : Int) ((1, (bitsN r.over : Int)) :: usNums r.segs) rest (by omega)
  have g12 : rd (rgBytes s r) 38 1 = (bitsN r.over : Int) := by rw [hR]; exact cat_get [(1, 75), (1, 67), (4, r.g), (4, r.v), (1, r.m), (4, r.e), (4, r.s), (4, r.d), (1, r.ps), (1, r.po), (4, r.pl), (4, r.pp), (4, r.pm), (1, (bitsN r.base : Int))] 1 (bitsN r.over : Int) (usNums r.segs) rest (by omega)
  generalize rgBytes s r = bs at *
  have q0 := got_at (bs := bs) (k := 2) (n := 4) (by omega) (by omega)
  have v0 : ((getN bs 2 4 : Nat) : Int) = r.g := q0.1.trans g0
  have hk1 : rgK1 bs = 6 := by unfold rgK1; rw [hk0]; exact q0.2
  have q1 := got_at (bs := bs) (k := 6) (n := 4) (by omega) (by omega)
  have v1 : ((getN bs 6 4 : Nat) : Int) = r.v := q1.1.trans g1
  have hk2 : rgK2 bs = 10 := by unfold rgK2; rw [hk1]; exact q1.2
  have q2 := got_at (bs := bs) (k := 10) (n := 1) (by omega) (by omega)
  have v2 : ((getN bs 10 1 : Nat) : Int) = r.m := q2.1.trans g2
  have hk3 : rgK3 bs = 11 := by unfold rgK3; rw [hk2]; exact q2.2
  have q3 := got_at (bs := bs) (k := 11) (n := 4) (by omega) (by omega)
  have v3 : ((getN bs 11 4 : Nat) : Int) = r.e := q3.1.trans g3
  have hk4 : rgK4 bs = 15 := by unfold rgK4; rw [hk3]; exact q3.2
  have q4 := got_at (bs := bs) (k := 15) (n := 4) (by omega) (by omega)
  have v4 : ((getN bs 15 4 : Nat) : Int) = r.s := q4.1.trans g4
  have hk5 : rgK5 bs = 19 := by unfold rgK5; rw [hk4]; exact q4.2
  have q5 := got_at (bs := bs) (k := 19) (n := 4) (by omega) (by omega)
  have v5 : ((getN bs 19 4 : Nat) : Int) = r.d := q5.1.trans g5
  have hk6 : rgK6 bs = 23 := by unfold rgK6; rw [hk5]; exact q5.2
  have q6 := got_at (bs := bs) (k := 23) (n := 1) (by omega) (by omega)
  have v6 : ((getN bs 23 1 : Nat) : Int) = r.ps := q6.1.trans g6
  have hk7 : rgK7 bs = 24 := by unfold rgK7; rw [hk6]; exact q6.2
  have q7 := got_at (bs := bs) (k := 24) (n := 1) (by omega) (by omega)
  have v7 : ((getN bs 24 1 : Nat) : Int) = r.po := q7.1.trans g7
  have hk8 : rgK8 bs = 25 := by unfold rgK8; rw [hk7]; exact q7.2
  have q8 := got_at (bs := bs) (k := 25) (n := 4) (by omega) (by omega)
  have v8 : ((getN bs 25 4 : Nat) : Int) = r.pl := q8.1.trans g8
  have hk9 : rgK9 bs = 29 := by unfold rgK9; rw [hk8]; exact q8.2
  have q9 := got_at (bs := bs) (k := 29) (n := 4) (by omega) (by omega)
  have v9 : ((getN bs 29 4 : Nat) : Int) = r.pp := q9.1.trans g9
  have hk10 : rgK10 bs = 33 := by unfold rgK10; rw [hk9]; exact q9.2
  have q10 := got_at (bs := bs) (k := 33) (n := 4) (by omega) (by omega)
  have v10 : ((getN bs 33 4 : Nat) : Int) = r.pm := q10.1.trans g10
  have hk11 : rgK11 bs = 37 := by unfold rgK11; rw [hk10]; exact q10.2
  have q11 := got_at (bs := bs) (k := 37) (n := 1) (by omega) (by omega)
  have v11 : ((getN bs 37 1 : Nat) : Int) = (bitsN r.base : Int) := q11.1.trans g11
  have hk12 : rgK12 bs = 38 := by unfold rgK12; rw [hk11]; exact q11.2
  have q12 := got_at (bs := bs) (k := 38) (n := 1) (by omega) (by omega)
  have v12 : ((getN bs 38 1 : Nat) : Int) = (bitsN r.over : Int) := q12.1.trans g12
  have hk13 : rgK13 bs = 39 := by unfold rgK13; rw [hk12]; exact q12.2
  have vb : getN bs 37 1 = bitsN r.base := by omega
  have vo : getN bs 38 1 = bitsN r.over := by omega
  unfold rgOf
  rw [hk0, hk1, hk2, hk3, hk4, hk5, hk6, hk7, hk8, hk9, hk10, hk11, hk12, hk13, v0, v1, v2, v3, v4, v5, v6, v7, v8, v9, v10, vb, vo, hSN, hub.2]
  rw [show unbits (bitsN r.base) (pgN b) = r.base by rw [hPN]; exact hub0, show unbits (bitsN r.over) (pgN b) = r.over by rw [hPO]; exact huo0]
theorem encRg_some {b s l : Int} {r : Rg} {bs : List UInt8} (h : encRg b s l r = some bs) : rgMay b s l r = true ∧ bs = rgBytes s r := by
  unfold encRg at h
  split at h
  · injection h with h
    exact ⟨by assumption, h.symm⟩
  · cases h
theorem encRg_len {b s l : Int} {r : Rg} {bs : List UInt8} (hc : CfOk b s l) (h : encRg b s l r = some bs) : bs.length = rgT s := by
  obtain ⟨hm, rfl⟩ := encRg_some h
  exact (rg_split hc (rgMay_parts hm).2.2.2.2.1).2.1
theorem encRg_closed {b s l : Int} {r : Rg} {bs : List UInt8} (hc : CfOk b s l) (h : encRg b s l r = some bs) : Closed bs (bs.length - 4) := by
  rw [encRg_len hc h, (encRg_some h).2]
  exact (rg_split hc (rgMay_parts (encRg_some h).1).2.2.2.2.1).2.2
theorem rg_back {b s l : Int} {r : Rg} (hc : CfOk b s l) (h : rgMay b s l r = true) : encRg b s l r = some (rgBytes s r) ∧ decRg b s l (rgBytes s r) = some r := by
  have he : encRg b s l r = some (rgBytes s r) := by unfold encRg; rw [if_pos h]
  exact ⟨he, decBy_back (rg_of_back hc h) he⟩
theorem encRg_begun {b s l : Int} {r : Rg} {bs : List UInt8} (hc : CfOk b s l) (h : encRg b s l r = some bs) : bs[0]? = some 75 ∧ bs[1]? = some 67 := by
  obtain ⟨hm, rfl⟩ := encRg_some h
  obtain ⟨⟨rest, hR⟩, _, _⟩ := rg_split hc (rgMay_parts hm).2.2.2.2.1
  rw [hR]
  exact ⟨rfl, rfl⟩
theorem decRg_begun {b s l : Int} {bs : List UInt8} (hc : CfOk b s l) (h : ¬ (bs.length = rgT s ∧ bs[0]? = some 75 ∧ bs[1]? = some 67)) : decRg b s l bs = none := by
  unfold decRg decBy
  rw [if_neg]
  intro he
  exact h ⟨encRg_len hc he, encRg_begun hc he⟩
theorem rg_turned {b s l : Int} {bs : List UInt8} {first pat : Nat} (hc : CfOk b s l) (h4 : 4 ≤ bs.length) (hb : Closed bs (bs.length - 4)) (ha : turnA first (8 * (bs.length - 4)) pat 32 = true) : decRg b s l (turnB bs first (8 * (bs.length - 4)) pat 32) = none :=
  decBy_turned (fun x y h => encRg_closed hc h) (by omega) hb ha
end Go.Kn
