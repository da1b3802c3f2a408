/- What the row's frame hands to a walk: a record by value. -/
import Derived.Test.YtoibehikojkoiaaFrameI
import Derived.Test.YtoibehikojkoiaaRecP
set_option linter.unusedVariables false
namespace Go.Proofs.Ytoibehikojkoiaa
open Go.ChangeShapes Go.WideShapes Go.ChangeAt Go.RowKit Go.Kn Go.Deep
variable {H : Type} {enc : TypeId × Value → H}

theorem open_blks {w : World} {base : Nat} {held : Bool} {fuel : Nat} {v : Value} {x : DataW H × List MemPlace}
    (h : DataW.trod enc Try.prog w base (fun _ => true) held fuel 45 [v] = some x) : ∃ a len cap l, v = .slice a len cap ∧ Blks w a len cap l := by
  rcases open_slice Try.underlying45 h with ⟨hcs, _⟩ | ⟨b, len, cap, m, n, D, Pl, hcs, hb, hl, hm, hmm, hx, hi⟩
  · simp at hcs
    subst hcs
    exact ⟨none, 0, 0, [], rfl, Blks.nil _⟩
  · simp at hcs
    subst hcs
    rw [show Try.prog.cellsOf 35 = 1 from by kernel_rfl] at hi
    have hml : len ≤ m := by rw [hmm]; split <;> omega
    have hg : ∀ i, i < len → ∃ p : (Option Addr × Nat × Nat) × List UInt8, w.cell? (b.add i) = some (slv p.1) ∧ Bys w p.1.1 p.1.2.1 p.1.2.2 p.2 := by
      intro i hi'
      obtain ⟨cs', hc, ht⟩ := hi i (by omega)
      obtain ⟨_, hcl, hat⟩ := World.cells?_some hc
      obtain ⟨v0, rfl⟩ : ∃ v0, cs' = [v0] := by
        match cs', hcl with
        | [v0], _ => exact ⟨v0, rfl⟩
      have h0 := hat 0 (by decide)
      obtain ⟨B, k, d, zs, rfl, w4⟩ := open_row Try.underlying35 Try.underlying5 (by kernel_rfl) ht
      obtain ⟨bs, hbs⟩ := w4.bys
      rw [Nat.mul_one, Go.Deep.add_add, Nat.add_zero] at h0
      exact ⟨⟨(B, k, d), bs⟩, h0, hbs⟩
    obtain ⟨L, hL, hp⟩ := list_of hg
    refine ⟨_, _, _, L.map (·.2), rfl, L.map (·.1), ⟨by simp [hL], hl, hm, fun hn => ?_⟩, by simp, fun i h1 h2 => ?_⟩
    · have h00 := (hp 0 (by omega)).1
      have hz : ∃ u, w.cell? (b.add 0) = some u := ⟨_, h00⟩
      have hb := add_none (i := 0) h00 hz
      have hb' : b = ⟨b.block, b.off, none⟩ := by
        have := hb
        unfold Addr.add at this
        simpa using this
      refine ⟨b.block, b.off, by rw [← hb'], fun i hi' => ?_⟩
      have p0 := (hp i (by simpa using hi')).1
      rw [add_none p0 hz] at p0
      simpa using p0
    · simpa using (hp i (by simpa using h1)).2

theorem open_rec {w : World} {base : Nat} {held : Bool} {v : Value} {d : DataW H} {p : List MemPlace} (hok : ∃ cs, v = .agg cs ∧ cs.size = Try.prog.cellsOf 47)
    (h : DataW.Trod enc Try.prog w base (fun _ => true) held 47 v d p) :
    ∃ m n q : Int, ∃ (a : Option Addr) (na ca : Nat) (its : List It) (b : Option Addr) (nb cb : Nat) (bl : List (List UInt8)), v = .agg #[.int .i64 m, .int .i64 n, .int .i64 q, .slice a na ca, .slice b nb cb] ∧ Its w a na ca its ∧ Blks w b nb cb bl := by
  obtain ⟨cs, rfl, hs⟩ := hok
  have hC : Try.prog.cellsOf 47 = 5 := by kernel_rfl
  rw [hC] at hs
  obtain ⟨c0, c1, c2, c3, c4, rfl⟩ : ∃ c0 c1 c2 c3 c4, cs = #[c0, c1, c2, c3, c4] := by
    match cs, hs with
    | ⟨[c0, c1, c2, c3, c4]⟩, _ => exact ⟨c0, c1, c2, c3, c4, rfl⟩
  obtain ⟨fuel, hf⟩ := h
  have hf' : DataW.trod enc Try.prog w base (fun _ => true) held fuel 47 [c0, c1, c2, c3, c4] = some (d, p) := hf
  obtain ⟨xs, n1, _, _, _, hl1, hfs⟩ := DataW.trod_struct Try.underlying47 hf'
  have hm1 : xs.length = 5 := hl1
  obtain ⟨y0, y1, y2, y3, y4, rfl⟩ : ∃ y0 y1 y2 y3 y4, xs = [y0, y1, y2, y3, y4] := by
    match xs, hm1 with
    | [y0, y1, y2, y3, y4], _ => exact ⟨y0, y1, y2, y3, y4, rfl⟩
  have e0 : DataW.trod enc Try.prog w base (fun _ => true) held n1 3 (([c0, c1, c2, c3, c4].drop 0).take (Try.prog.cellsOf 3)) = some y0 := hfs 0 _ rfl
  have e1 : DataW.trod enc Try.prog w base (fun _ => true) held n1 3 (([c0, c1, c2, c3, c4].drop 1).take (Try.prog.cellsOf 3)) = some y1 := hfs 1 _ rfl
  have e2 : DataW.trod enc Try.prog w base (fun _ => true) held n1 3 (([c0, c1, c2, c3, c4].drop 2).take (Try.prog.cellsOf 3)) = some y2 := hfs 2 _ rfl
  have e3 : DataW.trod enc Try.prog w base (fun _ => true) held n1 44 (([c0, c1, c2, c3, c4].drop 3).take (Try.prog.cellsOf 44)) = some y3 := hfs 3 _ rfl
  have e4 : DataW.trod enc Try.prog w base (fun _ => true) held n1 45 (([c0, c1, c2, c3, c4].drop 4).take (Try.prog.cellsOf 45)) = some y4 := hfs 4 _ rfl
  rw [show Try.prog.cellsOf 3 = 1 from by kernel_rfl] at e0 e1 e2
  rw [show Try.prog.cellsOf 44 = 1 from by kernel_rfl] at e3
  rw [show Try.prog.cellsOf 45 = 1 from by kernel_rfl] at e4
  simp only [List.drop_zero, List.drop_succ_cons, List.take_succ_cons, List.take_zero] at e0 e1 e2 e3 e4
  obtain ⟨z0, rfl, _⟩ := open_int1 (k := .i64) Try.underlying3 e0
  obtain ⟨z1, rfl, _⟩ := open_int1 (k := .i64) Try.underlying3 e1
  obtain ⟨z2, rfl, _⟩ := open_int1 (k := .i64) Try.underlying3 e2
  obtain ⟨b, nb, cb, bl, rfl, hbl⟩ := open_blks e4
  obtain ⟨a, na, ca, rfl⟩ : ∃ a na ca, c3 = .slice a na ca := by
    rcases open_slice Try.underlying44 e3 with ⟨hcs, _⟩ | ⟨x, len, cap, _, _, _, _, hcs, _⟩
    · simp at hcs; exact ⟨_, _, _, hcs⟩
    · simp at hcs; exact ⟨_, _, _, hcs⟩
  obtain ⟨its, hits⟩ := open_items e3
  exact ⟨z0, z1, z2, a, na, ca, its, b, nb, cb, bl, rfl, hits, hbl⟩
end Go.Proofs.Ytoibehikojkoiaa
