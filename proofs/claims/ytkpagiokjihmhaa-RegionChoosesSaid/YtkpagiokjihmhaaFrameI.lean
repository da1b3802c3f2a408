
/- What the row's frame hands to a walk: a slice of items that came in. -/
import Derived.Test.YtkpagiokjihmhaaFrame
import Derived.Test.YtkpagiokjihmhaaItemP
set_option linter.unusedVariables false
namespace Go.Proofs.Ytkpagiokjihmhaa
open Go.ChangeShapes Go.WideShapes Go.ChangeAt Go.RowKit Go.Kn Go.Deep
variable {H : Type} {enc : TypeId × Value → H}

theorem list_of {α : Type} {n : Nat} {p : Nat → α → Prop} (h : ∀ i, i < n → ∃ x, p i x) : ∃ l : List α, l.length = n ∧ ∀ i (hi : i < l.length), p i l[i] := by
  induction n with
  | zero => exact ⟨[], rfl, fun i hi => by simp at hi⟩
  | succ n ih =>
    obtain ⟨l, hl, hp⟩ := ih fun i hi => h i (by omega)
    obtain ⟨x, hx⟩ := h n (by omega)
    refine ⟨l ++ [x], by simp [hl], fun i hi => ?_⟩
    by_cases h1 : i < l.length
    · rw [List.getElem_append_left h1]; exact hp i h1
    · have : i = l.length := by simp at hi; omega
      subst this
      simpa [hl] using hx

theorem open_items {w : World} {base : Nat} {spare : Nat → Bool} {held : Bool} {fuel : Nat} {a : Option Addr} {len cap : Nat} {x : DataW H × List MemPlace}
    (h : DataW.trod enc Try.prog w base spare held fuel 140 [.slice a len cap] = some x) : ∃ l, Its w a len cap l := by
  rcases open_slice_fields Try.underlying140 Try.underlying77 (by kernel_rfl) (by kernel_rfl) h with ⟨hcs, _⟩ | ⟨b, l, c, m, hcs, hl, hm, hmm, hf⟩
  · simp at hcs
    obtain ⟨rfl, rfl, rfl⟩ := hcs
    exact ⟨[], Its.nil _⟩
  · simp at hcs
    obtain ⟨rfl, rfl, rfl⟩ := hcs
    have hx : ∀ i, i < len → ∃ it : It, w.cell? (b.add (i * 4)) = some (.int .i64 it.k) ∧ w.cell? (b.add (i * 4 + 1)) = some (.int .i64 it.b) ∧ w.cell? (b.add (i * 4 + 2)) = some (.int .i64 it.c) ∧ w.cell? (b.add (i * 4 + 3)) = some (.int .i64 it.v) := by
      intro i hi
      obtain ⟨ys, n, hy, hj⟩ := hf i (by omega)
      obtain ⟨v0, y0, h0, t0⟩ := hj 0 _ rfl
      obtain ⟨v1, y1, h1, t1⟩ := hj 1 _ rfl
      obtain ⟨v2, y2, h2, t2⟩ := hj 2 _ rfl
      obtain ⟨v3, y3, h3, t3⟩ := hj 3 _ rfl
      obtain ⟨z0, rfl, _⟩ := open_int1 (k := .i64) (by kernel_rfl) t0
      obtain ⟨z1, rfl, _⟩ := open_int1 (k := .i64) (by kernel_rfl) t1
      obtain ⟨z2, rfl, _⟩ := open_int1 (k := .i64) (by kernel_rfl) t2
      obtain ⟨z3, rfl, _⟩ := open_int1 (k := .i64) (by kernel_rfl) t3
      exact ⟨⟨z0, z1, z2, z3⟩, h0, h1, h2, h3⟩
    obtain ⟨L, hL, hp⟩ := list_of hx
    refine ⟨L, ⟨hL, hl, hm, fun hn => ?_⟩⟩
    have h00 := (hp 0 (by omega)).1
    have hz : ∃ u, w.cell? (b.add 0) = some u := ⟨_, by simpa using h00⟩
    have hb := add_none (i := 0) (by simpa using h00) hz
    have hb' : b = ⟨b.block, b.off, none⟩ := by
      have := hb
      unfold Addr.add at this
      simpa using this
    refine ⟨b.block, b.off, by rw [← hb'], fun i hi => ?_⟩
    obtain ⟨p0, p1, p2, p3⟩ := hp i hi
    rw [add_none p0 hz] at p0
    rw [add_none p1 hz] at p1
    rw [add_none p2 hz] at p2
    rw [add_none p3 hz] at p3
    exact ⟨p0, p1, p2, p3⟩
end Go.Proofs.Ytkpagiokjihmhaa
