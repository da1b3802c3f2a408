/- The law package of chapter 7: made, plain. -/
import Derived.Test.YtoibehikojkoiaaWcR
import Derived.Test.YtoibehikojkoiaaFill
set_option linter.unusedVariables false
namespace Go.Kn
open Go Go.RowKit
def mkIt (z : Int) (i : Nat) : It := if z % 5 = 0 then ⟨2, i, 1 + i, 0⟩ else if z % 5 = 1 then ⟨3, 0, 0, 1 + i⟩ else if z % 5 = 2 then ⟨1, i, 0, 0⟩ else if z % 5 = 3 then ⟨4, i, 0, 20 + i⟩ else ⟨5, i, 0, 0⟩
def mkBl (z fl : Int) (i : Nat) : List (List UInt8) := if z % 5 = 2 then [fillB (IntKind.i64.wrap (fl + i))] else if z % 5 = 3 then [fillB (IntKind.i64.wrap (fl - i))] else if z % 5 = 4 then [List.replicate 64 0] else []
def mkIts (ks : List Int) : Nat → List It
  | 0 => []
  | j + 1 => mkIts ks j ++ [mkIt (ks.getD j 0) j]
def mkBls (ks : List Int) (fl : Int) : Nat → List (List UInt8)
  | 0 => []
  | j + 1 => mkBls ks fl j ++ mkBl (ks.getD j 0) fl j
def mkRc (ks : List Int) (lsn prev fl : Int) : Rc := ⟨1 + fl % 1000, 1 + lsn % 2147483647, prev % 4294967296, mkIts ks ks.length, mkBls ks fl ks.length⟩
theorem mkIts_length (ks : List Int) : ∀ j, (mkIts ks j).length = j
  | 0 => rfl
  | j + 1 => by unfold mkIts; rw [List.length_append, mkIts_length ks j]; rfl
theorem five (z : Int) : z % 5 = 0 ∨ z % 5 = 1 ∨ z % 5 = 2 ∨ z % 5 = 3 ∨ z % 5 = 4 := by omega
theorem mkIt_may (z : Int) (i : Nat) (h : i < 6) : (mkIt z i).may = true := by
  unfold mkIt
  split
  · simp [It.may]; omega
  split
  · simp [It.may]; omega
  split
  · simp [It.may]; omega
  split
  · simp [It.may]; omega
  · simp [It.may]; omega
theorem mkIts_may (ks : List Int) : ∀ j, j ≤ 6 → (mkIts ks j).all It.may = true
  | 0, _ => rfl
  | j + 1, h => by
    unfold mkIts
    rw [List.all_append, mkIts_may ks j (by omega)]
    simp [mkIt_may _ j (by omega)]
theorem mkBl_length (z fl : Int) (i : Nat) (h6 : i < 6) : (mkBl z fl i).length = if (mkIt z i).loaded then 1 else 0 := by
  have hm := mkIt_may z i h6
  unfold mkBl mkIt at *
  rcases five z with h | h | h | h | h <;> simp [h] at hm <;> simp [h, hm, It.loaded]
theorem mkBls_length (ks : List Int) (fl : Int) : ∀ j, j ≤ 6 → (mkBls ks fl j).length = loads (mkIts ks j)
  | 0, _ => rfl
  | j + 1, h => by
    unfold mkIts mkBls
    rw [List.length_append, loads_snoc, mkBls_length ks fl j (by omega), mkBl_length _ _ _ (by omega)]
theorem mkBl_full (z fl : Int) (i : Nat) : full64 (mkBl z fl i) = true := by
  unfold mkBl full64
  rcases five z with h | h | h | h | h <;> simp [h]
theorem mkBls_full (ks : List Int) (fl : Int) : ∀ j, full64 (mkBls ks fl j) = true
  | 0 => rfl
  | j + 1 => by
    have h1 := mkBls_full ks fl j
    have h2 := mkBl_full (ks.getD j 0) fl j
    unfold full64 at *
    unfold mkBls
    rw [List.all_append, h1, h2]
    rfl
theorem mkBl_le (z fl : Int) (i : Nat) : (mkBl z fl i).length ≤ 1 := by
  unfold mkBl
  rcases five z with h | h | h | h | h <;> simp [h]
theorem mkBls_le (ks : List Int) (fl : Int) : ∀ j, (mkBls ks fl j).length ≤ j
  | 0 => Nat.le_refl _
  | j + 1 => by
    have h1 := mkBls_le ks fl j
    have h2 := mkBl_le (ks.getD j 0) fl j
    unfold mkBls
    rw [List.length_append]
    omega
theorem mkRc_may {ks : List Int} (lsn prev fl : Int) (h1 : 1 ≤ ks.length) (h6 : ks.length ≤ 6) : rcMay (mkRc ks lsn prev fl) = true := by
  rw [rcMay_iff]
  refine ⟨⟨?_, ?_, ?_, ?_⟩, mkIts_may ks _ h6, mkBls_length ks fl _ h6, mkBls_full ks fl _⟩
  · show 1 ≤ 1 + fl % 1000 ∧ 1 + fl % 1000 ≤ 2147483647
    omega
  · show 1 ≤ 1 + lsn % 2147483647 ∧ 1 + lsn % 2147483647 ≤ 2147483647
    omega
  · show 0 ≤ prev % 4294967296 ∧ prev % 4294967296 ≤ 4294967295
    omega
  · show 1 ≤ (mkIts ks ks.length).length ∧ (mkIts ks ks.length).length ≤ 6
    rw [mkIts_length]
    omega
theorem mkRc_bl_le {ks : List Int} (lsn prev fl : Int) (h6 : ks.length ≤ 6) : (mkRc ks lsn prev fl).bl.length ≤ 6 := by
  have := mkBls_le ks fl ks.length
  show (mkBls ks fl ks.length).length ≤ 6
  omega
/-- a record that was just built: all of it lies in new blocks -/
def RcNew (w : World) (r : Rc) (e : Ending) (w' : World) : Prop :=
  ∃ s t : Option Addr × Nat × Nat, e = .returned (.agg (r.cells s t)) ∧ Fc w' (fun k => k < w.heap.size) (fun W => RcAt W r s t) ∧ Only [] w w'
theorem Wc.rcNew {w0 w w' : World} {L : List (Nat × List Value)} {G : List Gs} {F : List (World → Prop)} (h : Wc w0 w L G F) {r : Rc} {e : Ending} (he : RcNew w r e w') : ∃ s t : Option Addr × Nat × Nat, e = .returned (.agg (r.cells s t)) ∧ Wc w0 w' L G ((fun W => RcAt W r s t) :: F) := by
  obtain ⟨s, t, rfl, h1, h2⟩ := he
  exact ⟨s, t, rfl, h.addFc h2 h1⟩
/-- amid made: what was gathered makes a record -/
theorem Wc.mkNew {w0 w : World} {L : List (Nat × List Value)} {e1 e2 na ca nb cb : Nat} {A B : Option Addr} {its : List It} {bl : List (List UInt8)} {sl : List (Option Addr × Nat × Nat)} {F : List (World → Prop)} {m n p : Int}
    (h : Wc w0 w L [⟨e1, 4, .slice A na ca, na, itsV its⟩, ⟨e2, 1, .slice B nb cb, nb, sl.map slv⟩] F) (hl : its.length = na) (hf : (fun W => Bls W sl bl) ∈ F) (hfr : ∀ s ∈ sl, ∀ a, s.1 = some a → w0.heap.size ≤ a.block) :
    Fc w (fun k => k < w0.heap.size) (fun W => RcAt W ⟨m, n, p, its, bl⟩ (A, na, ca) (B, nb, cb)) := by
  obtain ⟨A', c', hv, hits, hown⟩ := (h.gath (x := ⟨e1, 4, .slice A na ca, na, itsV its⟩) (by simp)).its hl
  injection hv with e1 _ e2
  subst e1 e2
  obtain ⟨r1, r2⟩ := Row1.of_owns (h.gi 1 rfl)
  refine RcAt.fc (sl := sl) (hits.fc fun h0 a ha hm => ?_) (r1.fc fun h0 a ha hm => ?_) ((h.fact _ hf).fc fun s hs _ a ha hm => ?_)
  · obtain ⟨_, _, hv, _, _, hg, _⟩ := (h.gath (x := ⟨e1, 4, .slice A na ca, na, itsV its⟩) (by simp)).form (by simp)
    injection hv with q1 _ q2
    subst q1
    obtain ⟨g, hA, hb, _⟩ := hg h0
    rw [hA] at ha
    injection ha with ha
    subst ha
    exact Nat.lt_irrefl _ (Nat.lt_of_lt_of_le hm hb)
  · have := r2 h0 a ha
    omega
  · have := hfr s hs a ha
    omega
theorem rcK_take {b : List UInt8} {n : Nat} (h : 16 ≤ n) : rcK (b.take n) = rcK b := by
  unfold rcK
  rw [List.drop_take, List.take_take, Nat.min_eq_left (by omega)]
theorem rcK_append {b z : List UInt8} (h : 16 ≤ b.length) : rcK (b ++ z) = rcK b := by
  unfold rcK
  rw [List.drop_append_of_le_length (by omega), List.take_append_of_le_length (by rw [List.length_drop]; omega)]
theorem rcK_of_may {r : Rc} (h : rcMay r = true) : rcK (rcBytes r) = r.bl.length := by
  obtain ⟨⟨_, _, _, _, h6⟩, _, h7, _⟩ := rcMay_iff.1 h
  have := loads_le r.its
  exact rcK_bytes (by omega)
theorem dec_rc_short {r : Rc} (h : rcMay r = true) : decRc ((rcBytes r).take ((rcBytes r).length - 1)) = none := by
  have hl := rcBytes_length h
  refine dec_rc_len ?_
  rw [rcK_take (by omega), rcK_of_may h, List.length_take]
  omega
theorem dec_rc_long {r : Rc} (h : rcMay r = true) : decRc (rcBytes r ++ List.replicate 64 0) = none := by
  have hl := rcBytes_length h
  refine dec_rc_len ?_
  rw [rcK_append (by omega), rcK_of_may h, List.length_append, List.length_replicate]
  omega
end Go.Kn
