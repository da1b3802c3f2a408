/- A store of a whole struct into a box of the call's own, in one step. Plain. -/
import Derived.Test.YtoibehikojkoiaaItemQ
set_option linter.unusedVariables false
namespace Go.Kn
open Go Go.RowKit
theorem run_storeAt_part {P : Program} (w : World) (t : TypeId) (b i : Nat) (olds vs : List Value) (hs : (P.info? t).map (·.size) = some vs.length) (ho : Own w b olds) (hl : i + vs.length ≤ olds.length) (h1 : ∀ v ∈ vs, v.oneCell' = true) :
    ∃ w', (Instr.storeAt t (.pointer (some ⟨b, i, none⟩)) (.agg vs.toArray)).run P w = .ok () w' ∧ Own w' b (olds.take i ++ vs ++ olds.drop (i + vs.length)) ∧ Only [b] w w' := by
  obtain ⟨cur, ty, hc, ht⟩ := ho
  have hcl : olds.length ≤ cur.size := by
    have : (cur.toList.take olds.length).length = olds.length := by rw [ht]
    simp at this
    omega
  cases hq : P.info? t with
  | none => simp [hq] at hs
  | some inf =>
    simp [hq] at hs
    have hrun := run_storeCells_at (P := P) b i ty vs 0 cur w hc (by omega) h1
    refine ⟨w.setRow b (cur.toList.take (i + 0) ++ vs ++ cur.toList.drop (i + 0 + vs.length)).toArray, ?_, ⟨_, ty, setRow_heap w b cur _ ty _ hc, ?_⟩, ⟨rfl, rfl, rfl, by simp [World.setRow], fun k _ hk => setRow_other w b k _ (by simpa using hk)⟩⟩
    · have hq2 : (Instr.sureAddr (Value.pointer (some ⟨b, i, none⟩))).run P w = .ok ⟨b, i, none⟩ w := rfl
      simp only [Nat.add_zero] at hrun ⊢
      unfold Instr.storeAt storeVar
      simp [sizeOf, typeInfo, hq, hs, Value.cells, hq2, Result.andThen, hrun]
    · have e1 : cur.toList.take i = olds.take i := by rw [← ht, List.take_take, Nat.min_eq_left (by omega)]
      have e2 : (cur.toList.drop (i + vs.length)).take (olds.length - (i + vs.length)) = olds.drop (i + vs.length) := by rw [← List.drop_take, ht]
      have e3 : (olds.take i ++ vs ++ olds.drop (i + vs.length)).length = olds.length := by simp; omega
      have e4 : (olds.take i ++ vs).length = i + vs.length := by simp; omega
      simp only [Nat.add_zero]
      rw [e3, e1, List.take_append, e4, List.take_of_length_le (by omega), e2]
theorem run_storeAt_own {P : Program} (w : World) (t : TypeId) (b : Nat) (olds vs : List Value) (hs : (P.info? t).map (·.size) = some vs.length) (ho : Own w b olds) (hl : olds.length = vs.length) (h1 : ∀ v ∈ vs, v.oneCell' = true) :
    ∃ w', (Instr.storeAt t (.pointer (some ⟨b, 0, none⟩)) (.agg vs.toArray)).run P w = .ok () w' ∧ Own w' b vs ∧ Only [b] w w' := by
  obtain ⟨w', h2, h3, h4⟩ := run_storeAt_part (P := P) w t b 0 olds vs hs ho (by omega) h1
  refine ⟨w', h2, ?_, h4⟩
  have e : olds.take 0 ++ vs ++ olds.drop (0 + vs.length) = vs := by
    rw [List.take_zero, List.nil_append, List.drop_of_length_le (by omega), List.append_nil]
  rwa [e] at h3
theorem step_store_own {P : Program} {w : World} {ops : Array Oper} {o : Oper} {a : Act} {K : Act → World → Prop} {Q : Exit → Act → World → Prop} {E : Prop} (hgd : o.guard = none) (t : TypeId) (x y : Operand)
    (hop : o.op = .store t x y) (b : Nat) (olds vs : List Value) (hs : (P.info? t).map (·.size) = some vs.length) (hx : a.eval x = .pointer (some ⟨b, 0, none⟩)) (hy : a.eval y = .agg vs.toArray) (ho : Own w b olds) (hl : olds.length = vs.length) (h1 : ∀ v ∈ vs, v.oneCell' = true)
    (h : ∀ w', Own w' b vs → Only [b] w w' → K (a.put o.dst undef) w') :
    if Region.wanted o (yielded ops a.tmps) = true then Oper.wp P o a w K Q else E := by
  have hw : Region.wanted o (yielded ops a.tmps) = true := by simp [Region.wanted, hgd]
  rw [if_pos hw]
  obtain ⟨w', hrun, h2, h3⟩ := run_storeAt_own (P := P) w t b olds vs hs ho hl h1
  unfold Oper.wp execOp
  simp only [hop, Sem.run_bind, Sem.run_pure, Result.andThen_ok, hx, hy, hrun]
  exact h w' h2 h3
end Go.Kn
