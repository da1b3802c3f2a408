/- What the row's frame hands to a walk: a slice of arrays of four numbers that came in; an item by value. -/
import Derived.Test.YtcojleippbneoaaFrameI
import Derived.Laws.IdiomArrays
set_option linter.unusedVariables false
namespace Go.Proofs.Ytcojleippbneoaa
open Go.ChangeShapes Go.WideShapes Go.ChangeAt Go.RowKit Go.Kn Go.Deep
variable {H : Type} {enc : TypeId × Value → H}

/-- four numbers that int can hold -/
def Wf4 (i : It) : Prop := (Lit.int .i64 i.k).wf = true ∧ (Lit.int .i64 i.b).wf = true ∧ (Lit.int .i64 i.c).wf = true ∧ (Lit.int .i64 i.v).wf = true

theorem open_quads {w : World} {base : Nat} {spare : Nat → Bool} {held : Bool} {fuel : Nat} {a : Option Addr} {len cap : Nat} {x : DataW H × List MemPlace}
    (h : DataW.trod enc Try.prog w base spare held fuel 65 [.slice a len cap] = some x) : ∃ l, Its w a len cap l ∧ ∀ i (hi : i < l.length), Wf4 l[i] := by
  have hC : Try.prog.cellsOf 67 = 4 := by kernel_rfl
  rcases open_slice Try.underlying65 h with ⟨hcs, _⟩ | ⟨b, l, c, m, n, D, Pl, hcs, hb, hl, hm, hmm, hx, hi⟩
  · simp at hcs
    obtain ⟨rfl, rfl, rfl⟩ := hcs
    exact ⟨[], Its.nil _, fun i hi => by simp at hi⟩
  · simp at hcs
    obtain ⟨rfl, rfl, rfl⟩ := hcs
    have hle : len ≤ m := by rw [hmm]; split <;> omega
    have hx : ∀ i, i < len → ∃ it : It, (w.cell? (b.add (i * 4)) = some (.int .i64 it.k) ∧ w.cell? (b.add (i * 4 + 1)) = some (.int .i64 it.b) ∧ w.cell? (b.add (i * 4 + 2)) = some (.int .i64 it.c) ∧ w.cell? (b.add (i * 4 + 3)) = some (.int .i64 it.v)) ∧ Wf4 it := by
      intro i hil
      obtain ⟨cs', hc, ht'⟩ := hi i (by omega)
      rw [hC] at hc
      obtain ⟨_, hcl, hat⟩ := World.cells?_some hc
      obtain ⟨c0, c1, c2, c3, rfl⟩ : ∃ c0 c1 c2 c3, cs' = [c0, c1, c2, c3] := by
        match cs', hcl with
        | [c0, c1, c2, c3], _ => exact ⟨c0, c1, c2, c3, rfl⟩
      obtain ⟨y0, y1, y2, y3, n', _, t0, t1, t2, t3⟩ := trod_array4 Try.underlying67 (by kernel_rfl) ht'
      obtain ⟨z0, rfl, w0⟩ := open_int1 (k := .i64) Try.underlying3 t0
      obtain ⟨z1, rfl, w1⟩ := open_int1 (k := .i64) Try.underlying3 t1
      obtain ⟨z2, rfl, w2⟩ := open_int1 (k := .i64) Try.underlying3 t2
      obtain ⟨z3, rfl, w3⟩ := open_int1 (k := .i64) Try.underlying3 t3
      have h0 := hat 0 (by omega)
      have h1 := hat 1 (by omega)
      have h2 := hat 2 (by omega)
      have h3 := hat 3 (by omega)
      rw [Go.Deep.add_add] at h0 h1 h2 h3
      exact ⟨⟨z0, z1, z2, z3⟩, ⟨by simpa using h0, by simpa using h1, by simpa using h2, by simpa using h3⟩, w0, w1, w2, w3⟩
    obtain ⟨L, hL, hp⟩ := list_of hx
    refine ⟨L, ⟨hL, hl, hm, fun hn => ?_⟩, fun i hi => (hp i hi).2⟩
    have h00 := (hp 0 (by omega)).1.1
    have hz : ∃ u, w.cell? (b.add 0) = some u := ⟨_, by simpa using h00⟩
    have hb := add_none (i := 0) (by simpa using h00) hz
    have hb' : b = ⟨b.block, b.off, none⟩ := by
      have := hb
      unfold Addr.add at this
      simpa using this
    refine ⟨b.block, b.off, by rw [← hb'], fun i hi => ?_⟩
    obtain ⟨⟨p0, p1, p2, p3⟩, _⟩ := hp i hi
    rw [add_none p0 hz] at p0
    rw [add_none p1 hz] at p1
    rw [add_none p2 hz] at p2
    rw [add_none p3 hz] at p3
    exact ⟨p0, p1, p2, p3⟩
end Go.Proofs.Ytcojleippbneoaa
