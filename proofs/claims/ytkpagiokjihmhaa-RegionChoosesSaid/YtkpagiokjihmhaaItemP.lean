
/- Items as bytes: plain laws; a slice of items in memory. -/
import Derived.Test.YtkpagiokjihmhaaItemA
import Derived.Test.YtkpagiokjihmhaaPlain
set_option linter.unusedVariables false
namespace Go.Kn
open Go Go.RowKit

/-- an item as bytes -/
def It.bytes (i : It) : List UInt8 := les 1 [i.k, i.b, i.c] ++ les 4 [i.v]
theorem It.bytes_length (i : It) : i.bytes.length = 7 := by simp [It.bytes]
def itsB (l : List It) : List UInt8 := l.flatMap It.bytes
theorem itsB_length (l : List It) : (itsB l).length = 7 * l.length := by
  induction l with
  | nil => rfl
  | cons i l ih =>
    have : itsB (i :: l) = i.bytes ++ itsB l := rfl
    rw [this, List.length_append, ih, It.bytes_length, List.length_cons]
    omega
theorem itsB_snoc (l : List It) (i : It) : itsB (l ++ [i]) = itsB l ++ i.bytes := by simp [itsB]
theorem itsB_cons (i : It) (l : List It) : itsB (i :: l) = i.bytes ++ itsB l := rfl
/-- the numbers of an item that may be -/
theorem It.may_bounds {i : It} (h : i.may = true) : (1 ≤ i.k ∧ i.k ≤ 7) ∧ (0 ≤ i.b ∧ i.b ≤ 63) ∧ (0 ≤ i.c ∧ i.c ≤ 64) ∧ (0 ≤ i.v ∧ i.v ≤ 2147483647) := by
  obtain ⟨k, b, c, v⟩ := i
  unfold It.may at h
  simp only at h ⊢
  split at h
  · simp at h; omega
  split at h
  · simp at h; omega
  split at h
  · simp at h; omega
  split at h
  · simp at h; omega
  split at h
  · simp at h; omega
  · cases h
theorem It.fit1 {i : It} (h : i.may = true) : Fit 1 [i.k, i.b, i.c] := by
  obtain ⟨h1, h2, h3, h4⟩ := i.may_bounds h
  intro z hz
  simp at hz
  have e : (256 : Int) ^ 1 = 256 := rfl
  rw [e]
  rcases hz with rfl | rfl | rfl <;> omega
theorem It.fit4 {i : It} (h : i.may = true) : Fit 4 [i.v] := by
  obtain ⟨h1, h2, h3, h4⟩ := i.may_bounds h
  exact fit_one ⟨by omega, by have e : (256 : Int) ^ 4 = 4294967296 := rfl
                              omega⟩

/-- items as bytes, or refused -/
def encItems (l : List It) : Option (List UInt8) := if l.length ≤ 6 ∧ l.all It.may = true then some (itsB l) else none

/-- a slice of items that reads as a list -/
structure Its (w : World) (A : Option Addr) (n c : Nat) (l : List It) : Prop where
  len : l.length = n
  le : n ≤ c
  cm : c ≤ maxLen
  at_ : 0 < n → ∃ g o, A = some ⟨g, o, none⟩ ∧ ∀ i (h : i < l.length), w.cell? ⟨g, o + i * 4, none⟩ = some (.int .i64 l[i].k) ∧ w.cell? ⟨g, o + i * 4 + 1, none⟩ = some (.int .i64 l[i].b) ∧
    w.cell? ⟨g, o + i * 4 + 2, none⟩ = some (.int .i64 l[i].c) ∧ w.cell? ⟨g, o + i * 4 + 3, none⟩ = some (.int .i64 l[i].v)
section
variable {S : List Nat} {w w' : World} {A : Option Addr} {n c : Nat} {l : List It}
theorem Its.keepP (h : Its w A n c l) (ho : Only S w w') (hs : 0 < n → ∀ a, A = some a → a.block ∉ S) : Its w' A n c l :=
  ⟨h.len, h.le, h.cm, fun hn => by
    obtain ⟨g, o, e, hc⟩ := h.at_ hn
    have hg := hs hn _ e
    refine ⟨g, o, e, fun i hi => ?_⟩
    obtain ⟨c0, c1, c2, c3⟩ := hc i hi
    exact ⟨ho.cell c0 hg, ho.cell c1 hg, ho.cell c2 hg, ho.cell c3 hg⟩⟩
theorem Its.keep0 (h : Its w A n c l) (ho : Only [] w w') : Its w' A n c l := h.keepP ho (by simp)
theorem Its.block_lt (h : Its w A n c l) (hn : 0 < n) : ∀ a, A = some a → a.block < w.heap.size := by
  obtain ⟨g, o, e, hc⟩ := h.at_ hn
  intro a ha
  rw [e] at ha
  injection ha with ha
  subst ha
  exact lt_of_cell (p := ⟨g, o + 0 * 4, none⟩) (hc 0 (by have := h.len; omega)).1
theorem Its.nil (w : World) : Its w none 0 0 [] := ⟨rfl, Nat.le_refl _, by simp [maxLen], fun h => absurd h (by omega)⟩
end

/-- what an encoder answers: bytes and no error, or none and the error of an argument -/
def EncSays (w : World) (o : Option (List UInt8)) (e : Ending) (w' : World) : Prop :=
  ∃ A c, e = .returned (.tuple #[.slice A (o.getD []).length c, .int .i64 (if o.isSome then 0 else 1)]) ∧ Bys w' A (o.getD []).length c (o.getD []) ∧
    (0 < (o.getD []).length → ∀ a, A = some a → w.heap.size ≤ a.block) ∧ Only [] w w'
theorem EncSays.no {w w' : World} {o : Option (List UInt8)} (h : o = none) (hO : Only [] w w') : EncSays w o (.returned (.tuple #[.slice none 0 0, .int .i64 1])) w' := by
  subst h
  exact ⟨none, 0, rfl, Row1.nil _, by simp, hO⟩
end Go.Kn
