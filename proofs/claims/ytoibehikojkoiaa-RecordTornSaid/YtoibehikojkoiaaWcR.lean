/- What a call leaves fast, where no box is written into; what the readers of records answer, as facts. Plain. -/
import Derived.Test.YtoibehikojkoiaaRecH
import Derived.Test.YtoibehikojkoiaaFill
set_option linter.unusedVariables false
namespace Go.Kn
open Go Go.RowKit
section
variable {w0 w w' : World} {M : Nat → Prop} {L : List (Nat × List Value)} {G : List Gs} {F : List (World → Prop)}
theorem Wc.fact0 (h : Wc w0 w [] [] F) {f : World → Prop} (hf : Fc w (fun _ => False) f) : Wc w0 w [] [] (f :: F) := h.addF f fun W hW => hf W fun k o _ hk hc => hW k o (by simp [Mut]) hk hc
theorem Wc.newF (h : Wc w0 w [] [] F) (cs : Array Value) (t : TypeId) {b : Nat} (hb : w.heap.size = b) : Wc w0 (w.alloc (.cells cs t)) [] [] ((fun W => Kn.Own W b cs.toList) :: F) := by
  subst hb
  exact (h.alloc _).fact0 ((Own.new w cs t).fc (by simp))
theorem Wc.rcSays (h : Wc w0 w L G F) {o : Option (Rc × Nat)} {err : Int} {e : Ending} (he : RcSays w o err e w') : ∃ s t : Option Addr × Nat × Nat, e = .returned (.tuple #[.agg (((o.map (·.1)).getD rcZ).cells s t), .int .i64 ((o.map (·.2)).getD 0 : Nat), .int .i64 (if o.isSome then 0 else err)]) ∧ Wc w0 w' L G ((fun W => RcAt W ((o.map (·.1)).getD rcZ) s t) :: F) := by
  obtain ⟨s, t, rfl, h1, h2⟩ := he
  exact ⟨s, t, rfl, h.addFc h2 h1⟩
theorem Wc.encRc (h : Wc w0 w L G F) {bs : List UInt8} {s : Nat} {err : Int} {e : Ending} (he : EncRc w (some (bs, s)) err e w') : ∃ g c, e = .returned (.tuple #[.slice (some ⟨g, 0, none⟩) bs.length c, .int .i64 (s : Nat), .int .i64 0]) ∧ bs.length ≤ c ∧ c ≤ maxLen ∧ w.heap.size ≤ g ∧ Wc w0 w' L G ((fun W => Bys W (some ⟨g, 0, none⟩) bs.length c bs) :: F) := by
  obtain ⟨g, c, rfl, h1, h2, h3, h4, h5⟩ := he.of_some
  exact ⟨g, c, rfl, h1, h2, h3, h.addFc h5 (Row1.fc (Row1.of_Own h4 (bvs_length _) h1 h2) (fun _ a ha hm => by injection ha with ha; subst ha; simp at hm; omega))⟩
end
theorem cells5 {w : World} {b : Nat} {c0 c1 c2 c3 c4 : Value} (h : Kn.Own w b [c0, c1, c2, c3, c4]) : w.cell? ⟨b, 0, none⟩ = some c0 ∧ w.cell? ⟨b, 1, none⟩ = some c1 ∧ w.cell? ⟨b, 2, none⟩ = some c2 ∧ w.cell? ⟨b, 3, none⟩ = some c3 ∧ w.cell? ⟨b, 4, none⟩ = some c4 ∧ b < w.heap.size :=
  ⟨h.cell 0 (by simp), h.cell 1 (by simp), h.cell 2 (by simp), h.cell 3 (by simp), h.cell 4 (by simp), h.lt⟩
/-- items that were just built -/
theorem its_built {w : World} {b : Nat} {l : List It} {n : Nat} (h : Kn.Own w b (itsV l)) (hn : l.length = n) (hm : n ≤ maxLen) : Its w (some ⟨b, 0, none⟩) n n l :=
  ⟨hn, Nat.le_refl _, hm, fun h0 => ⟨b, 0, rfl, fun i hi => by
    obtain ⟨a0, a1, a2, a3⟩ := itsV_get l i hi
    have hl := itsV_length l
    have hc : ∀ j u, (itsV l)[j]? = some u → w.cell? ⟨b, j, none⟩ = some u := fun j u hu => by
      obtain ⟨hj, e⟩ := List.getElem?_eq_some_iff.1 hu
      rw [h.cell j hj, e]
    simp only [Nat.zero_add]
    exact ⟨hc _ _ a0, hc _ _ a1, hc _ _ a2, hc _ _ a3⟩⟩⟩
theorem blks_built {w : World} {b : Nat} {sl : List (Option Addr × Nat × Nat)} {bl : List (List UInt8)} {n : Nat} (h : Kn.Own w b (sl.map slv)) (hb : Bls w sl bl) (hn : sl.length = n) (hm : n ≤ maxLen) : Blks w (some ⟨b, 0, none⟩) n n bl :=
  ⟨sl, Row1.of_Own h (by rw [List.length_map, hn]) (Nat.le_refl _) hm, hb⟩
@[simp] theorem fillB_length (x : Int) : (fillB x).length = 64 := by simp [fillB]
def aw7 : Rc := ⟨2, 1, 0, [⟨1, 3, 0, 0⟩, ⟨3, 0, 0, 1⟩], [fillB 5]⟩
theorem aw7_may : rcMay aw7 = true := by
  rw [rcMay_iff]
  refine ⟨⟨by decide, by decide, by decide, by decide⟩, by decide, by decide, ?_⟩
  unfold full64 aw7
  simp
theorem rcBytes_signs {r : Rc} (h : rcMay r = true) : (rcBytes r)[0]? = some 75 ∧ (rcBytes r)[1]? = some 82 := by
  have h2 := rcBytes_length h
  have h3 : (rcBytes r).take 2 = [75, 82] := by rw [rcB_eq]; rfl
  generalize rcBytes r = b at *
  rcases b with _ | ⟨p, _ | ⟨q, t⟩⟩
  · simp at h2; omega
  · simp at h2; omega
  · simpa using h3
theorem rc_size_bytes {r : Rc} (h : rcMay r = true) : sizeRc ((rcBytes r).take 64) = 1 + r.bl.length := by
  have h1 := (rcOf_bytes h).2
  have h2 := rcBytes_length h
  rw [rcFit_ref (by omega)] at h1
  have := of_decide_eq_true h1
  omega
end Go.Kn
