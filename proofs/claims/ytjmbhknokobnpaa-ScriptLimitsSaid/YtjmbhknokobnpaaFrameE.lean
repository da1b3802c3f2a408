/- What the row's frame hands to a walk: a slice of events that came in. -/
import Derived.Test.YtjmbhknokobnpaaFrameI
import Derived.Test.YtjmbhknokobnpaaScrM
set_option linter.unusedVariables false
namespace Go.Kn
open Go Go.RowKit
/-- the numbers of an event fit their kinds -/
structure WfE (e : Ev) : Prop where
  k : (Lit.int .i64 e.k).wf = true
  a : (Lit.int .i64 e.a).wf = true
  b : (Lit.int .i64 e.b).wf = true
  y : (Lit.int .i64 e.y).wf = true
  ps : ∀ z ∈ e.ps, (Lit.int .i64 z).wf = true
end Go.Kn
namespace Go.Proofs.Ytjmbhknokobnpaa
open Go.ChangeShapes Go.WideShapes Go.ChangeAt Go.RowKit Go.Kn Go.Deep
variable {H : Type} {enc : TypeId × Value → H}

theorem open_events {w : World} {base : Nat} {held : Bool} {fuel : Nat} {a : Option Addr} {len cap : Nat} {x : DataW H × List MemPlace}
    (h : DataW.trod enc Try.prog w base (fun _ => true) held fuel 42 [.slice a len cap] = some x) : ∃ l, Evs w a len cap l ∧ ∀ e ∈ l, WfE e := by
  rcases open_slice_fields Try.underlying42 Try.underlying54 (by kernel_rfl) (by kernel_rfl) h with ⟨hcs, _⟩ | ⟨b, l, c, m, hcs, hl, hm, hmm, hf⟩
  · simp at hcs
    obtain ⟨rfl, rfl, rfl⟩ := hcs
    exact ⟨[], Evs.nil _, by simp⟩
  · simp at hcs
    obtain ⟨rfl, rfl, rfl⟩ := hcs
    have hx : ∀ i, i < len → ∃ e : Ev, (w.cell? (b.add (i * 5)) = some (.int .i64 e.k) ∧ w.cell? (b.add (i * 5 + 1)) = some (.int .i64 e.a) ∧ w.cell? (b.add (i * 5 + 2)) = some (.int .i64 e.b) ∧ w.cell? (b.add (i * 5 + 3)) = some (.int .i64 e.y) ∧
        ∃ B m d, w.cell? (b.add (i * 5 + 4)) = some (.slice B m d) ∧ Ins w B m d e.ps) ∧ WfE e := by
      intro i hi
      obtain ⟨ys, n, hy, hj⟩ := hf i (by omega)
      obtain ⟨v0, y0, h0, t0⟩ := hj 0 _ rfl
      obtain ⟨v1, y1, h1, t1⟩ := hj 1 _ rfl
      obtain ⟨v2, y2, h2, t2⟩ := hj 2 _ rfl
      obtain ⟨v3, y3, h3, t3⟩ := hj 3 _ rfl
      obtain ⟨v4, y4, h4, t4⟩ := hj 4 _ rfl
      obtain ⟨z0, rfl, w0⟩ := open_int1 (k := .i64) (by kernel_rfl) t0
      obtain ⟨z1, rfl, w1⟩ := open_int1 (k := .i64) (by kernel_rfl) t1
      obtain ⟨z2, rfl, w2⟩ := open_int1 (k := .i64) (by kernel_rfl) t2
      obtain ⟨z3, rfl, w3⟩ := open_int1 (k := .i64) (by kernel_rfl) t3
      obtain ⟨B, m, d, zs, rfl, w4⟩ := open_row Try.underlying52 Try.underlying3 (by kernel_rfl) t4
      exact ⟨⟨z0, z1, z2, z3, zs.take m⟩, ⟨h0, h1, h2, h3, B, m, d, h4, w4.ins⟩, w0, w1, w2, w3, w4.wf⟩
    obtain ⟨L, hL, hp⟩ := list_of hx
    refine ⟨L, ⟨hL, hl, hm, fun hn => ?_⟩, fun e he => ?_⟩
    · have h00 := (hp 0 (by omega)).1.1
      have hz : ∃ u, w.cell? (b.add 0) = some u := ⟨_, by simpa using h00⟩
      have hb := add_none (i := 0) (by simpa using h00) hz
      have hb' : b = ⟨b.block, b.off, none⟩ := by
        have := hb
        unfold Addr.add at this
        simpa using this
      refine ⟨b.block, b.off, by rw [← hb'], fun i hi => ?_⟩
      obtain ⟨⟨p0, p1, p2, p3, B, m, d, p4, p5⟩, _⟩ := hp i hi
      rw [add_none p0 hz] at p0
      rw [add_none p1 hz] at p1
      rw [add_none p2 hz] at p2
      rw [add_none p3 hz] at p3
      rw [add_none p4 hz] at p4
      exact ⟨p0, p1, p2, p3, B, m, d, p4, p5⟩
    · obtain ⟨i, hi, rfl⟩ := List.getElem_of_mem he
      exact (hp i hi).2
end Go.Proofs.Ytjmbhknokobnpaa
