
/- Contracts of item.Decode and the reference's ItemOf. -/
import Derived.Test.YtkpagiokjihmhaaItemQ
import Derived.Test.YtkpagiokjihmhaaItemB
import Derived.Test.YtkpagiokjihmhaaBytesEq
set_option linter.unusedVariables false
namespace Go.Kn
open Go Go.RowKit
theorem RowAt.far {w : World} {p g k : Nat} {bs : List UInt8} (h : RowAt w p g bs k) {q : Addr} (h1 : q.block ≠ p) (h2 : q.block ≠ g) (u : Value) : RowAt (w.setCell q u) p g bs k :=
  h.keep (S := [q.block]) ((Only.refl _ _).set (by simp) u) (by simpa using Ne.symm h1) (by simpa using Ne.symm h2)

/-- what a reader of items answers -/
def DecSays (w : World) (o : Option (List It)) (err : Int) (e : Ending) (w' : World) : Prop :=
  ∃ A c, e = .returned (.tuple #[.slice A (o.getD []).length c, .int .i64 (if o.isSome then 0 else err)]) ∧ Its w' A (o.getD []).length c (o.getD []) ∧
    (0 < (o.getD []).length → ∀ a, A = some a → w.heap.size ≤ a.block) ∧ Only [] w w'
theorem DecSays.no {w w' : World} {o : Option (List It)} {err : Int} (h : o = none) (hO : Only [] w w') : DecSays w o err (.returned (.tuple #[.slice none 0 0, .int .i64 err])) w' := by
  subst h
  exact ⟨none, 0, rfl, Its.nil _, by simp, hO⟩

/-- the item that the four calls of Get give, and the place behind it -/
def gotK (bs : List UInt8) (k : Nat) : Nat := getK bs (getK bs (getK bs (getK bs k 1) 1) 1) 4
def gotIt (bs : List UInt8) (k : Nat) : It := ⟨getN bs k 1, getN bs (getK bs k 1) 1, getN bs (getK bs (getK bs k 1) 1) 1, getN bs (getK bs (getK bs (getK bs k 1) 1) 1) 4⟩
theorem got_ok {bs : List UInt8} {k : Nat} {n : Nat} (hw : n = 1 ∨ n = 4) (h : k + n ≤ bs.length) : getN bs k n = num ((bs.drop k).take n) ∧ getK bs k n = k + n := by
  have e : getOk bs k n = true := by unfold getOk; exact decide_eq_true ⟨by omega, by omega⟩
  simp [getN, getK, e]
theorem got_good {bs : List UInt8} {j : Nat} (h : 7 * j + 7 ≤ bs.length) : gotIt bs (7 * j) = itAt bs j ∧ gotK bs (7 * j) = 7 * (j + 1) := by
  obtain ⟨a1, b1⟩ := got_ok (bs := bs) (k := 7 * j) (n := 1) (by omega) (by omega)
  obtain ⟨a2, b2⟩ := got_ok (bs := bs) (k := 7 * j + 1) (n := 1) (by omega) (by omega)
  obtain ⟨a3, b3⟩ := got_ok (bs := bs) (k := 7 * j + 1 + 1) (n := 1) (by omega) (by omega)
  obtain ⟨a4, b4⟩ := got_ok (bs := bs) (k := 7 * j + 1 + 1 + 1) (n := 4) (by omega) (by omega)
  have c4 : ((4 : Nat) : Int) = 4 := rfl
  simp only [Int.natCast_one] at *
  rw [c4] at a4 b4
  constructor
  · simp only [gotIt, itAt, b1, b2, b3, a1, a2, a3, a4]
  · simp only [gotK, b1, b2, b3, b4]
    omega

theorem news_new (w : World) (cs : Array Value) (t : TypeId) (hm : cs.toList.length ≤ maxLen) : ∀ j u, cs.toList[j]? = some u → (w.alloc (.cells cs t)).cell? ((⟨w.heap.size, 0, none⟩ : Addr).add j) = some u :=
  (Row1.of_Own (Own.new w cs t) rfl (Nat.le_refl _) hm).news rfl
theorem got_facts {bs : List UInt8} {k k0 k1 k2 k3 j : Nat} {x0 x1 x2 x3 : Int} {l : List It} (hx0 : ((getN bs k 1 : Nat) : Int) = x0) (hk0 : getK bs k 1 = k0) (hx1 : ((getN bs k0 1 : Nat) : Int) = x1) (hk1 : getK bs k0 1 = k1)
    (hx2 : ((getN bs k1 1 : Nat) : Int) = x2) (hk2 : getK bs k1 1 = k2) (hx3 : ((getN bs k2 4 : Nat) : Int) = x3) (hk3 : getK bs k2 4 = k3) (hpar : 7 * j ≤ bs.length → k = 7 * j ∧ l = parse bs j) (h : 7 * (j + 1) ≤ bs.length) :
    k3 = 7 * (j + 1) ∧ l ++ [⟨x0, x1, x2, x3⟩] = parse bs (j + 1) := by
  obtain ⟨rfl, rfl⟩ := hpar (by omega)
  subst hx0 hk0 hx1 hk1 hx2 hk2 hx3 hk3
  obtain ⟨h1, h2⟩ := got_good (bs := bs) (j := j) (by omega)
  exact ⟨h2, by rw [parse_succ, ← h1]; rfl⟩

/-- amid a round that reads an item: the row, the item's own cells, and what was gathered -/
structure Mid (w0 w : World) (p g k f e : Nat) (bs : List UInt8) (v : Value) (n : Nat) (ys : List Value) (xs : List Value) : Prop where
  row : RowAt w p g bs k
  box : Own w f xs
  only : Only [] w0 w
  gath : GathN w w0.heap.size e 4 v n ys
  ne : ∀ q, v.ownBlock = some q → q ≠ p ∧ q ≠ g ∧ q ≠ f
  fp : p ≠ f
  fg : g ≠ f
  hf : w0.heap.size ≤ f
  hp : w0.heap.size ≤ p
section
variable {w0 w w' : World} {p g k k' f e n : Nat} {bs : List UInt8} {v : Value} {xs ys : List Value}
theorem Mid.got (h : Mid w0 w p g k f e bs v n ys xs) (hr : RowAt w' p g bs k') (hO : Only [p] w w') : Mid w0 w' p g k' f e bs v n ys xs :=
  ⟨hr, h.box.keep hO (by simpa using Ne.symm h.fp), h.only.trans hO (by simpa using h.hp), h.gath.keep hO (fun q hq => by simpa using (h.ne q hq).1), h.ne, h.fp, h.fg, h.hf, h.hp⟩
theorem Mid.put (h : Mid w0 w p g k f e bs v n ys xs) (i : Nat) (u : Value) : Mid w0 (w.setCell ⟨f, i, none⟩ u) p g k f e bs v n ys (xs.set i u) :=
  ⟨h.row.far (Ne.symm h.fp) (Ne.symm h.fg) u, h.box.set i u, h.only.set (.inr h.hf) u, h.gath.keep (S := [f]) ((Only.refl _ _).set (by simp) u) (fun q hq => by simpa using (h.ne q hq).2.2), h.ne, h.fp, h.fg, h.hf, h.hp⟩
end
end Go.Kn
namespace Go.Proofs.Ytkpagiokjihmhaa
open Go Go.RowKit Go.Kn

theorem Try.infoItem : (Try.prog.info? 77).map (fun i => (i.zero, i.size, i.bytes)) = some (some (.agg #[.int .i64 0, .int .i64 0, .int .i64 0, .int .i64 0]), 4, 32) := by kernel_rfl

end Go.Proofs.Ytkpagiokjihmhaa
