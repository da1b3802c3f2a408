
/- The rows' calls, each for every state and argument, the program's and the reference's alike. -/
import Derived.Test.YtkpagiokjihmhaaRefC
set_option linter.unusedVariables false
namespace Go.Kn
open Go Go.RowKit

/-- may the numbers be put -/
def putOk (bs : List UInt8) (k : Nat) (n : Int) (zs : List Int) : Bool := decide ((n = 1 ∨ n = 2 ∨ n = 4) ∧ n.toNat * zs.length ≤ bs.length - k ∧ Fit n.toNat zs)
def putB (bs : List UInt8) (k : Nat) (n : Int) (zs : List Int) : List UInt8 := if putOk bs k n zs then lay bs k (les n.toNat zs) else bs
def putK (bs : List UInt8) (k : Nat) (n : Int) (zs : List Int) : Nat := if putOk bs k n zs then k + n.toNat * zs.length else k
/-- what a row is behind a call of Put, and what the call answers -/
def PutSays (w : World) (p g k : Nat) (bs : List UInt8) (n : Int) (zs : List Int) (e : Ending) (w' : World) : Prop :=
  e = .returned (.bool (putOk bs k n zs)) ∧ RowAt w' p g (putB bs k n zs) (putK bs k n zs) ∧ Only [p, g] w w'
theorem PutSays.no {w w' : World} {p g k : Nat} {bs : List UInt8} {n : Int} {zs : List Int} (hr : RowAt w p g bs k) (h : putOk bs k n zs = false) (hw : ∃ m, w' = w.drewN m) : PutSays w p g k bs n zs (.returned (.bool false)) w' := by
  obtain ⟨m, rfl⟩ := hw
  refine ⟨by rw [h], ?_, (Only.refl _ _).drewN _⟩
  simp only [putB, putK, h]
  exact hr.drewN m
theorem PutSays.yes {w w' : World} {p g k n : Nat} {bs : List UInt8} {zs : List Int} (h : putOk bs k n zs = true) (hr : RowAt w' p g (lay bs k (les n zs)) (k + n * zs.length)) (hO : Only [p, g] w w') : PutSays w p g k bs n zs (.returned (.bool true)) w' := by
  refine ⟨by rw [h], ?_, hO⟩
  simp only [putB, putK, h, if_true, Int.toNat_natCast]
  exact hr

def getOk (bs : List UInt8) (k : Nat) (n : Int) : Bool := decide ((n = 1 ∨ n = 2 ∨ n = 4) ∧ n ≤ ((bs.length - k : Nat) : Int))
def getN (bs : List UInt8) (k : Nat) (n : Int) : Nat := if getOk bs k n then num ((bs.drop k).take n.toNat) else 0
def getK (bs : List UInt8) (k : Nat) (n : Int) : Nat := if getOk bs k n then k + n.toNat else k
def GetSays (w : World) (p g k : Nat) (bs : List UInt8) (n : Int) (e : Ending) (w' : World) : Prop :=
  e = .returned (.tuple #[.int .i64 (getN bs k n), .bool (getOk bs k n)]) ∧ RowAt w' p g bs (getK bs k n) ∧ Only [p] w w'
theorem GetSays.no {w w' : World} {p g k : Nat} {bs : List UInt8} {n : Int} (hr : RowAt w p g bs k) (h : getOk bs k n = false) (hw : ∃ m, w' = w.drewN m) : GetSays w p g k bs n (.returned (.tuple #[.int .i64 0, .bool false])) w' := by
  obtain ⟨m, rfl⟩ := hw
  refine ⟨by simp [getN, h], ?_, (Only.refl _ _).drewN _⟩
  simp only [getK, h]
  exact hr.drewN m
theorem GetSays.yes {w w' : World} {p g k n : Nat} {bs : List UInt8} (h : getOk bs k n = true) (hr : RowAt w' p g bs (k + n)) (hO : Only [p] w w') : GetSays w p g k bs n (.returned (.tuple #[.int .i64 (num ((bs.drop k).take n)), .bool true])) w' := by
  refine ⟨by simp [getN, h], ?_, hO⟩
  simp only [getK, h, if_true, Int.toNat_natCast]
  exact hr

def layOk (bs : List UInt8) (k : Nat) (xs : List UInt8) : Bool := decide (xs.length ≤ bs.length - k)
def layB (bs : List UInt8) (k : Nat) (xs : List UInt8) : List UInt8 := if layOk bs k xs then lay bs k xs else bs
def layK (bs : List UInt8) (k : Nat) (xs : List UInt8) : Nat := if layOk bs k xs then k + xs.length else k
def LaySays (w : World) (p g k : Nat) (bs : List UInt8) (xs : List UInt8) (e : Ending) (w' : World) : Prop :=
  e = .returned (.bool (layOk bs k xs)) ∧ RowAt w' p g (layB bs k xs) (layK bs k xs) ∧ Only [p, g] w w'
theorem LaySays.no {w w' : World} {p g k : Nat} {bs : List UInt8} {xs : List UInt8} (hr : RowAt w p g bs k) (h : layOk bs k xs = false) (hw : ∃ m, w' = w.drewN m) : LaySays w p g k bs xs (.returned (.bool false)) w' := by
  obtain ⟨m, rfl⟩ := hw
  refine ⟨by rw [h], ?_, (Only.refl _ _).drewN _⟩
  simp only [layB, layK, h]
  exact hr.drewN m
theorem LaySays.yes {w w' : World} {p g k : Nat} {bs : List UInt8} {xs : List UInt8} (h : layOk bs k xs = true) (hr : RowAt w' p g (lay bs k xs) (k + xs.length)) (hO : Only [p, g] w w') : LaySays w p g k bs xs (.returned (.bool true)) w' := by
  refine ⟨by rw [h], ?_, hO⟩
  simp only [layB, layK, h, if_true]
  exact hr

def takeOk (bs : List UInt8) (k : Nat) (n : Int) : Bool := decide (0 ≤ n ∧ n ≤ ((bs.length - k : Nat) : Int))
def takeB (bs : List UInt8) (k : Nat) (n : Int) : List UInt8 := if takeOk bs k n then (bs.drop k).take n.toNat else []
def takeK (bs : List UInt8) (k : Nat) (n : Int) : Nat := if takeOk bs k n then k + n.toNat else k
def TakeSays (w : World) (p g k : Nat) (bs : List UInt8) (n : Int) (e : Ending) (w' : World) : Prop :=
  ∃ A c, e = .returned (.tuple #[.slice A (takeB bs k n).length c, .bool (takeOk bs k n)]) ∧ Bys w' A (takeB bs k n).length c (takeB bs k n) ∧ (0 < (takeB bs k n).length → ∀ a, A = some a → w.heap.size ≤ a.block) ∧ RowAt w' p g bs (takeK bs k n) ∧ Only [p] w w'
theorem TakeSays.no {w w' : World} {p g k : Nat} {bs : List UInt8} {n : Int} (hr : RowAt w p g bs k) (h : takeOk bs k n = false) (hw : ∃ m, w' = w.drewN m) : TakeSays w p g k bs n (.returned (.tuple #[.slice none 0 0, .bool false])) w' := by
  obtain ⟨m, rfl⟩ := hw
  have e : takeB bs k n = [] := by simp [takeB, h]
  refine ⟨none, 0, by rw [e, h]; rfl, by rw [e]; exact Row1.nil _, by simp, ?_, (Only.refl _ _).drewN _⟩
  simp only [takeK, h]
  exact hr.drewN m
end Go.Kn

namespace Go.Proofs.Ytkpagiokjihmhaa
open Go Go.RowKit Go.Kn
theorem TakeSays.yes {w w' : World} {p g k n : Nat} {bs : List UInt8} {e : Ending} (h : takeOk bs k n = true) (hl : n ≤ bs.length - k) (ht : TookBys w p g bs k n e w') : TakeSays w p g k bs n e w' := by
  obtain ⟨A, c, rfl, hc, hm, hpos, hr, hO⟩ := ht
  have eb : takeB bs k n = (bs.drop k).take n := by simp [takeB, h]
  have el : (takeB bs k n).length = n := by rw [eb]; simp; omega
  refine ⟨A, c, by rw [el, h], ?_, ?_, ?_, hO⟩
  · rw [el, eb]
    rcases Nat.eq_zero_or_pos n with h0 | h0
    · subst h0; exact ⟨by simp, hc, hm, fun h => absurd h (by omega)⟩
    · obtain ⟨b, rfl, _, ho⟩ := hpos h0
      exact Row1.of_Own ho (by simp; omega) hc hm
  · intro h0 a ha
    rw [el] at h0
    obtain ⟨b, rfl, hb, _⟩ := hpos h0
    injection ha with ha
    subst ha
    exact hb
  · simp only [takeK, h, if_true, Int.toNat_natCast]
    exact hr

theorem put_all (p g k : Nat) (bs : List UInt8) (n : Int) (A : Option Addr) (m c : Nat) (zs : List Int) (w : World) (h : RowAt w p g bs k) (hi : Ins w A m c zs) (hA : 0 < m → ∀ a, A = some a → a.block ≠ p ∧ a.block ≠ g) :
    Calls Try.prog 41 #[.pointer (some ⟨p, 0, none⟩), .int .i64 n, .slice A m c] w (PutSays w p g k bs n zs) := by
  have hl := hi.len
  rw [ivs_length] at hl
  have hm : m ≤ maxLen := Nat.le_trans hi.le hi.cm
  by_cases hw : n = 1 ∨ n = 2 ∨ n = 4
  · obtain ⟨d, rfl⟩ : ∃ d : Nat, n = d := ⟨n.toNat, by omega⟩
    have hw' : d = 1 ∨ d = 2 ∨ d = 4 := by omega
    by_cases hn : d * m ≤ bs.length - k
    · by_cases hf : Fit d zs
      · refine (put_anyP p g k bs d A m c zs w h hi hA hw' hn hf).mono ?_
        rintro e w' ⟨rfl, hr, hO⟩
        exact PutSays.yes (by simp [putOk, hw, hf, hl, hn]) (by rw [hl]; exact hr) hO
      · refine (put_bad p g k bs d A m c zs w h hi hw' hn hf).mono ?_
        rintro e w' ⟨rfl, hq⟩
        exact PutSays.no h (by simp [putOk, hf]) hq
    · refine (put_full p g k bs d A m c w h hw' (by omega) hm).mono ?_
      rintro e w' ⟨rfl, hq⟩
      exact PutSays.no h (by simp [putOk, hl]; omega) hq
  · refine (put_narrow p g k bs n A m c w hw).mono ?_
    rintro e w' ⟨rfl, rfl⟩
    exact PutSays.no h (by simp [putOk, hw]) ⟨0, rfl⟩

theorem ref_put_all (p g k : Nat) (bs : List UInt8) (n : Int) (A : Option Addr) (m c : Nat) (zs : List Int) (w : World) (h : RowAt w p g bs k) (hi : Ins w A m c zs) (hA : 0 < m → ∀ a, A = some a → a.block ≠ p ∧ a.block ≠ g) :
    Calls Try.prog 47 #[.pointer (some ⟨p, 0, none⟩), .int .i64 n, .slice A m c] w (PutSays w p g k bs n zs) := by
  have hl := hi.len
  rw [ivs_length] at hl
  have hm : m ≤ maxLen := Nat.le_trans hi.le hi.cm
  by_cases hw : n = 1 ∨ n = 2 ∨ n = 4
  · obtain ⟨d, rfl⟩ : ∃ d : Nat, n = d := ⟨n.toNat, by omega⟩
    have hw' : d = 1 ∨ d = 2 ∨ d = 4 := by omega
    by_cases hn : d * m ≤ bs.length - k
    · by_cases hf : Fit d zs
      · refine (ref_put_anyP p g k bs d A m c zs w h hi hA hw' hn hf).mono ?_
        rintro e w' ⟨rfl, hr, hO⟩
        exact PutSays.yes (by simp [putOk, hw, hf, hl, hn]) (by rw [hl]; exact hr) hO
      · refine (ref_put_bad p g k bs d A m c zs w h hi hw' hn hf).mono ?_
        rintro e w' ⟨rfl, hq⟩
        exact PutSays.no h (by simp [putOk, hf]) hq
    · refine (ref_put_full p g k bs d A m c w h hw' (by omega) hm).mono ?_
      rintro e w' ⟨rfl, hq⟩
      exact PutSays.no h (by simp [putOk, hl]; omega) hq
  · refine (ref_put_narrow p g k bs n A m c w h hw hm).mono ?_
    rintro e w' ⟨rfl, hq⟩
    exact PutSays.no h (by simp [putOk, hw]) hq

theorem get_all (p g k : Nat) (bs : List UInt8) (n : Int) (w : World) (h : RowAt w p g bs k) :
    Calls Try.prog 51 #[.pointer (some ⟨p, 0, none⟩), .int .i64 n] w (GetSays w p g k bs n) := by
  by_cases hw : (n = 1 ∨ n = 2 ∨ n = 4) ∧ n ≤ ((bs.length - k : Nat) : Int)
  · obtain ⟨d, rfl⟩ : ∃ d : Nat, n = d := ⟨n.toNat, by omega⟩
    refine (get_any p g k bs d w h (by omega) (by omega)).mono ?_
    rintro e w' ⟨rfl, hr, hO⟩
    exact GetSays.yes (decide_eq_true hw) hr hO
  · refine (get_none p g k bs n w h hw).mono ?_
    rintro e w' ⟨rfl, hq⟩
    exact GetSays.no h (decide_eq_false hw) hq
theorem ref_get_all (p g k : Nat) (bs : List UInt8) (n : Int) (w : World) (h : RowAt w p g bs k) :
    Calls Try.prog 103 #[.pointer (some ⟨p, 0, none⟩), .int .i64 n] w (GetSays w p g k bs n) := by
  by_cases hw : (n = 1 ∨ n = 2 ∨ n = 4) ∧ n ≤ ((bs.length - k : Nat) : Int)
  · obtain ⟨d, rfl⟩ : ∃ d : Nat, n = d := ⟨n.toNat, by omega⟩
    refine (ref_get_any p g k bs d w h (by omega) (by omega)).mono ?_
    rintro e w' ⟨rfl, hr, hO⟩
    exact GetSays.yes (decide_eq_true hw) hr hO
  · refine (ref_get_none p g k bs n w h hw).mono ?_
    rintro e w' ⟨rfl, hq⟩
    exact GetSays.no h (decide_eq_false hw) hq
theorem lay_alls (p g k : Nat) (bs : List UInt8) (A : Option Addr) (n c : Nat) (xs : List UInt8) (w : World) (h : RowAt w p g bs k) (hi : Bys w A n c xs) :
    Calls Try.prog 140 #[.pointer (some ⟨p, 0, none⟩), .slice A n c] w (LaySays w p g k bs xs) := by
  have hl := hi.len
  rw [bvs_length] at hl
  by_cases hn : n ≤ bs.length - k
  · refine (lay_any p g k bs A n c xs w h hi hn).mono ?_
    rintro e w' ⟨rfl, hr, hO⟩
    exact LaySays.yes (decide_eq_true (by omega)) (by rw [hl]; exact hr) hO
  · refine (lay_none p g k bs A n c w h (by omega)).mono ?_
    rintro e w' ⟨rfl, hq⟩
    exact LaySays.no h (decide_eq_false (by omega)) hq
theorem ref_lay_alls (p g k : Nat) (bs : List UInt8) (A : Option Addr) (n c : Nat) (xs : List UInt8) (w : World) (h : RowAt w p g bs k) (hi : Bys w A n c xs) :
    Calls Try.prog 45 #[.pointer (some ⟨p, 0, none⟩), .slice A n c] w (LaySays w p g k bs xs) := by
  have hl := hi.len
  rw [bvs_length] at hl
  by_cases hn : n ≤ bs.length - k
  · refine (ref_lay_any p g k bs A n c xs w h hi hn).mono ?_
    rintro e w' ⟨rfl, hr, hO⟩
    exact LaySays.yes (decide_eq_true (by omega)) (by rw [hl]; exact hr) hO
  · refine (ref_lay_none p g k bs A n c w h (by omega)).mono ?_
    rintro e w' ⟨rfl, hq⟩
    exact LaySays.no h (decide_eq_false (by omega)) hq
theorem take_all (p g k : Nat) (bs : List UInt8) (n : Int) (w : World) (h : RowAt w p g bs k) :
    Calls Try.prog 50 #[.pointer (some ⟨p, 0, none⟩), .int .i64 n] w (TakeSays w p g k bs n) := by
  by_cases hw : 0 ≤ n ∧ n ≤ ((bs.length - k : Nat) : Int)
  · obtain ⟨d, rfl⟩ : ∃ d : Nat, n = d := ⟨n.toNat, by omega⟩
    exact (take_any p g k bs d w h (by omega)).mono fun e w' ht => TakeSays.yes (decide_eq_true hw) (by omega) ht
  · refine (take_none p g k bs n w h (by omega)).mono ?_
    rintro e w' ⟨rfl, hq⟩
    exact TakeSays.no h (decide_eq_false hw) hq
theorem ref_take_all (p g k : Nat) (bs : List UInt8) (n : Int) (w : World) (h : RowAt w p g bs k) :
    Calls Try.prog 55 #[.pointer (some ⟨p, 0, none⟩), .int .i64 n] w (TakeSays w p g k bs n) := by
  by_cases hw : 0 ≤ n ∧ n ≤ ((bs.length - k : Nat) : Int)
  · obtain ⟨d, rfl⟩ : ∃ d : Nat, n = d := ⟨n.toNat, by omega⟩
    exact (ref_take_any p g k bs d w h (by omega)).mono fun e w' ht => TakeSays.yes (decide_eq_true hw) (by omega) ht
  · refine (ref_take_none p g k bs n w h (by omega)).mono ?_
    rintro e w' ⟨rfl, hq⟩
    exact TakeSays.no h (decide_eq_false hw) hq
end Go.Proofs.Ytkpagiokjihmhaa
