/- RowPlays: for every input the call returns true, and each argument reads behind the call as it read before. -/
import Derived.Test.YtcojleippbneoaaRowPlaysW
set_option linter.unusedVariables false
namespace Go.Proofs.Ytcojleippbneoaa.rowPlays
open Go Go.RowKit Go.Kn Go.ChangeShapes Go.WideShapes Go.ChangeAt

theorem walk (a0 : Int) (A : Option Addr) (n c : Nat) (w : World) (w0 : (Lit.int .i64 a0).wf = true) (h : Acts w A n c) :
    Calls Try.prog 6 #[.int .i64 a0, .slice A n c] w fun e w' => e = .returned (.bool true) ∧ Below w.heap.size w w' := by
  have done : ∀ e w', (e = .returned (.bool true) ∧ Only [] w w') → e = Ending.returned (.bool true) ∧ Below w.heap.size w w' := fun e w' h => ⟨h.1, h.2.below0⟩
  by_cases hn : n ≤ 60
  · by_cases hs : 0 ≤ a0 ∧ a0 ≤ 65536
    · exact (walk_play a0 A n c w h hn hs.1 hs.2).mono done
    · exact (walk_none a0 A n c w hn (by omega)).mono done
  · exact (walk_many a0 A n c w (by omega) (Nat.le_trans h.1 h.2.1)).mono done

theorem open_acts {H : Type} {enc : TypeId × Value → H} {w : World} {base : Nat} {held : Bool} {fuel : Nat} {a : Option Addr} {len cap : Nat} {x : DataW H × List MemPlace}
    (h : DataW.trod enc Try.prog w base (fun _ => true) held fuel 37 (Value.slice a len cap).cells.toList = some x) : Acts w a len cap := by
  rcases open_slice_fields Try.underlying37 Try.underlying41 (by kernel_rfl) (by kernel_rfl) h with ⟨hcs, _⟩ | ⟨b, l, c, m, hcs, hl, hm, hlm, hf⟩
  · simp [Value.cells] at hcs
    obtain ⟨rfl, rfl, rfl⟩ := hcs
    exact ⟨Nat.le_refl _, by simp [maxLen], fun h => absurd h (by omega)⟩
  · simp [Value.cells] at hcs
    obtain ⟨rfl, rfl, rfl⟩ := hcs
    refine ⟨hl, hm, fun hn => ?_⟩
    obtain ⟨ys, n0, hyl, hf0⟩ := hf 0 (by omega)
    obtain ⟨v00, y00, hc00, _⟩ := hf0 0 _ rfl
    have hsp : b.spot = none := by
      have := World.cell?_spot hc00
      simpa [Addr.add] using this
    obtain ⟨blk, off, spot⟩ := b
    simp only at hsp
    subst hsp
    refine ⟨blk, off, rfl, fun j hj => ?_⟩
    obtain ⟨ys, n1, hyl, hfj⟩ := hf j (by omega)
    obtain ⟨v0, y0, c0, t0⟩ := hfj 0 _ rfl
    obtain ⟨v1, y1, c1, t1⟩ := hfj 1 _ rfl
    obtain ⟨v2, y2, c2, t2⟩ := hfj 2 _ rfl
    obtain ⟨v3, y3, c3, t3⟩ := hfj 3 _ rfl
    obtain ⟨v4, y4, c4, t4⟩ := hfj 4 _ rfl
    have hadd : ∀ i, (⟨blk, off, none⟩ : Addr).add i = ⟨blk, off + i, none⟩ := fun i => by unfold Addr.add; split <;> simp_all
    rw [hadd] at c0 c1 c2 c3 c4
    obtain ⟨z0, rfl, _⟩ := open_int1 Try.underlying3 t0
    obtain ⟨z1, rfl, _⟩ := open_int1 Try.underlying3 t1
    obtain ⟨z2, rfl, _⟩ := open_int1 Try.underlying3 t2
    obtain ⟨A1, n1, k1, zs, rfl, r1⟩ := open_row Try.underlying22 Try.underlying3 (by kernel_rfl) t3
    obtain ⟨A2, n2, k2, zs2, rfl, r2⟩ := open_row Try.underlying29 Try.underlying5 (by kernel_rfl) t4
    obtain ⟨bs, rb⟩ := r2.bys
    exact ⟨z0, z1, z2, A1, n1, k1, _, A2, n2, k2, bs, c0, c1, c2, c3, c4, r1.ins, rb⟩
-- FRAME: walk : (a0 : Int) (a1 : Option Addr) (len1 cap1 : Nat) (w : World) (w0 : (Lit.int .i64 a0).wf = true) (w1 : Acts w a1 len1 cap1) : Calls Try.prog 6 #[.int .i64 a0, .slice a1 len1 cap1] w fun e w' => e = .returned (.bool true) ∧ Below w.heap.size w w'

set_option maxRecDepth 100000 in
theorem lifted (os : Os) (started : os.Started) (H : Type) (enc : TypeId × Value → H) :
    ReturnsInHanded {} Try.checked os 6 .any (Rows.rowPlaysSpec.pre6 enc Try.prog Try.f6 Rows.rowPlaysRow.domain false) (Rows.rowPlaysSpec.post enc Try.prog Try.f6 false true false false) := by
  refine returnsInHanded_of_change (C := Try.checked) own started (by kernel_rfl) Try.func6
    (ChangeSpec.witness6 (enc := enc) (C := Try.checked) false ⟨#[], #[.int .i64 0, .slice none 0 0], []⟩ 8 (by kernel_rfl) (by kernel_rfl) (by kernel_rfl) (by kernel_rfl)) ?_
  intro W base args ds gs before hval0 hW hcnd _
  have hval : ∀ (j : Nat) t v, Try.f6.params[j]? = some t → args[j]? = some v → Value.okWide Try.prog W .any base t v := hval0
  have hW' := hW
  obtain ⟨p, q, hA0, hV, rfl, hfz, hnd⟩ := hW
  have hA : DataW.TrodAll enc Try.prog W 0 (fun _ => true) true Try.f6.params.toList args.toList ds p := hA0
  rw [Try.params6] at hA hval
  obtain ⟨v0, vs0, d0, ds0, p0, q0, hargs, rfl, rfl, h0, r0⟩ := trodAll_cons hA
  obtain ⟨v1, vs1, d1, ds1, p1, q1, rfl, rfl, rfl, h1, r1⟩ := trodAll_cons r0
  obtain ⟨rfl, rfl, rfl⟩ := trodAll_nil r1
  obtain rfl : args = #[v0, v1] := by cases args; simp_all
  obtain ⟨rfl, rfl⟩ := trodVars_none hV
  obtain ⟨a0, rfl, rfl, rfl, w0⟩ := open_int Try.underlying3 (hval 0 3 v0 rfl rfl) h0
  obtain ⟨a1, len1, cap1, rfl⟩ := okWide_slice Try.underlying37 (hval 1 37 v1 rfl rfl)
  have k1 := h1
  have lt1 : ∀ x ∈ p1, x.block < W.heap.size := by obtain ⟨m, hm⟩ := k1; exact DataW.trod_lt m _ _ _ hm
  have w1 : Acts W a1 len1 cap1 := by
    obtain ⟨fuel, hf⟩ := h1
    exact open_acts hf
  clear hA0 hval0
  refine (walk a0 a1 len1 cap1 W w0 w1).mono fun e W' ⟨he, bel⟩ => ?_
  subst he
  exact ⟨_, rfl, _, _, _, [], _, [], hW', trodAll_mk1 (shut_bool Try.underlying4 _), (trodAll_cons_mk (shut_int Try.underlying3 w0) (trodAll_cons_mk (Below.trod laidOut (by kernel_rfl) (of_decide_eq_true (by kernel_rfl)) k1 bel lt1) trodAll_mk0)), rfl, bel.frame _, fun h => by cases h⟩

theorem over : Rows.rowPlaysRow.holds Try.pinned (OpenSpec.ofChange Rows.rowPlaysSpec) :=
  OpenClaim.holds_of_wide 6 Try.f6 rfl rfl rfl rfl rfl rfl rfl ⟨rfl, rfl, rfl, rfl, rfl⟩ rfl rfl rfl rfl rfl (by kernel_rfl) Try.func6 (by kernel_rfl)
    (of_decide_eq_true (by kernel_rfl)) (by unfold Func.isWrapper; first | (rw [if_pos (by decide +kernel)]; kernel_rfl) | (rw [if_neg (by decide +kernel)]; exact ⟨rfl, rfl⟩))
    (fun os started H enc _ => lifted os started H enc)

theorem proved : Rows.RowPlaysSaid := over

end Go.Proofs.Ytcojleippbneoaa.rowPlays
