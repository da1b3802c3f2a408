
/- Regions: which may be. Plain, and in memory. -/
import Derived.Test.YtkpagiokjihmhaaGeoC
import Derived.Test.YtkpagiokjihmhaaScrE
set_option linter.unusedVariables false
namespace Go.Kn
open Go Go.RowKit
/-- a region -/
structure Rg where
  g : Int
  v : Int
  m : Int
  e : Int
  s : Int
  d : Int
  ps : Int
  po : Int
  pl : Int
  pp : Int
  pm : Int
  base : List Int
  over : List Int
  segs : List (Int × Int)
def numOk (r : Rg) : Bool := decide (1 ≤ r.g ∧ r.g ≤ 2147483647) && (decide (1 ≤ r.v ∧ r.v ≤ 2147483647) && (decide (1 ≤ r.m ∧ r.m ≤ 2) && (decide (0 ≤ r.e ∧ r.e ≤ 2147483647) && (decide (0 ≤ r.s ∧ r.s ≤ 2147483647) && decide (0 ≤ r.d ∧ r.d ≤ r.s)))))
def inSlot (z : Int) : Bool := decide (0 ≤ z ∧ z ≤ 1)
def slotsOk (P : Int) (xs : List Int) : Bool := decide ((xs.length : Int) = P) && xs.all inSlot
def segOk (ps : Int) (i : Nat) (u : Int × Int) : Bool := decide (0 ≤ u.1 ∧ u.1 ≤ 2) && (decide (0 ≤ u.2 ∧ u.2 ≤ 2147483647) && ((u.1 == 1) == ((i : Int) == ps)))
def segsOk (ps : Int) (us : List (Int × Int)) : Bool := decide (∀ i (h : i < us.length), segOk ps i us[i] = true)
def rgMay (b s l : Int) (r : Rg) : Bool := numOk r && (posMay s l r.ps r.po r.pl r.pp r.pm && (slotsOk (pgs b) r.base && (slotsOk (pgs b) r.over && (decide ((r.segs.length : Int) = s) && segsOk r.ps r.segs))))
theorem all_take_slot {zs : List Int} {j : Nat} (hj : j < zs.length) (h : (zs.take j).all inSlot = true) (hm : inSlot zs[j] = true) : (zs.take (j + 1)).all inSlot = true := by
  rw [List.take_succ_eq_append_getElem hj, List.all_append, h]
  simp [hm]
theorem all_slot_no {zs : List Int} {j : Nat} (hj : j < zs.length) (hm : inSlot zs[j] = false) : zs.all inSlot = false := by
  cases h : zs.all inSlot with
  | false => rfl
  | true =>
    have := List.all_eq_true.1 h zs[j] (List.getElem_mem _)
    rw [hm] at this
    cases this
/-- a slice of segments' uses that reads as a list -/
structure Uss (w : World) (A : Option Addr) (n c : Nat) (l : List (Int × Int)) : Prop where
  len : l.length = n
  le : n ≤ c
  cm : c ≤ maxLen
  at_ : 0 < n → ∃ g o, A = some ⟨g, o, none⟩ ∧ ∀ i (h : i < l.length), w.cell? ⟨g, o + i * 2, none⟩ = some (.int .i64 l[i].1) ∧ w.cell? ⟨g, o + i * 2 + 1, none⟩ = some (.int .i64 l[i].2)
theorem Uss.keep0 {w w' : World} {A : Option Addr} {n c : Nat} {l : List (Int × Int)} (h : Uss w A n c l) (ho : Only [] w w') : Uss w' A n c l :=
  ⟨h.len, h.le, h.cm, fun hn => by
    obtain ⟨g, o, e, hc⟩ := h.at_ hn
    exact ⟨g, o, e, fun i hi => ⟨ho.cell (hc i hi).1 (by simp), ho.cell (hc i hi).2 (by simp)⟩⟩⟩
theorem Uss.nil (w : World) : Uss w none 0 0 [] := ⟨rfl, Nat.le_refl _, by simp [maxLen], fun h => absurd h (by omega)⟩
/-- a region as an argument: its fourteen cells -/
def Rg.cells (r : Rg) (B O S : Sl) : List Value := [.int .i64 r.g, .int .i64 r.v, .int .i64 r.m, .int .i64 r.e, .int .i64 r.s, .int .i64 r.d, .int .i64 r.ps, .int .i64 r.po, .int .i64 r.pl, .int .i64 r.pp, .int .i64 r.pm, .slice B.1 B.2.1 B.2.2, .slice O.1 O.2.1 O.2.2, .slice S.1 S.2.1 S.2.2]
/-- a region's slices in memory -/
structure RgAt (w : World) (r : Rg) (B O S : Sl) : Prop where
  base : Ins w B.1 B.2.1 B.2.2 r.base
  over : Ins w O.1 O.2.1 O.2.2 r.over
  segs : Uss w S.1 S.2.1 S.2.2 r.segs
theorem RgAt.keep0 {w w' : World} {r : Rg} {B O S : Sl} (h : RgAt w r B O S) (ho : Only [] w w') : RgAt w' r B O S := ⟨h.base.keep0 ho, h.over.keep0 ho, h.segs.keep0 ho⟩
end Go.Kn
