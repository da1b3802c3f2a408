/- A world amid a walk, as in Wd, but that what lies fast is said of blocks of cells alone: so it abides the turn of a block that holds none (the records of a range over a function). Plain. -/
import Derived.Test.YtoibehikojkoiaaWd
import Derived.Test.YtoibehikojkoiaaRnd
set_option linter.unusedVariables false
namespace Go.Kn
open Go Go.RowKit
/-- what stays as it is while the cells outside of M stay -/
def Fc (w : World) (M : Nat → Prop) (f : World → Prop) : Prop := ∀ w', (∀ k o, ¬ M k → w.heap[k]? = some o → o.isCells = true → w'.heap[k]? = some o) → f w'
theorem lt_of_obj {w : World} {k : Nat} {o : Obj} (h : w.heap[k]? = some o) : k < w.heap.size := (Array.getElem?_eq_some_iff.1 h).1
structure Wc (w0 w : World) (L : List (Nat × List Value)) (G : List Gs) (F : List (World → Prop)) : Prop where
  only : Only [] w0 w
  own : ∀ x ∈ L, Own w x.1 x.2
  lo : ∀ x ∈ L, w0.heap.size ≤ x.1
  nd : (L.map (·.1)).Nodup
  g1 : ∀ x ∈ G, w.ownsRow w0.heap.size x.e x.sz x.v x.n x.xs
  g2 : G.Pairwise fun x y => ∀ k, x.v.ownBlock = some k → y.v.ownBlock ≠ some k
  g3 : ∀ x ∈ L, ∀ y ∈ G, y.v.ownBlock ≠ some x.1
  fx : ∀ f ∈ F, Fc w (Mut L G) f
section
variable {w0 w w' w1 : World} {L : List (Nat × List Value)} {G : List Gs} {F : List (World → Prop)}
theorem Wc.start (w : World) : Wc w w [] [] [] := ⟨Only.refl _ _, by simp, by simp, by simp, by simp, by simp, by simp, by simp⟩
theorem Wc.mlt (h : Wc w0 w L G F) {k : Nat} (hk : Mut L G k) : k < w.heap.size := by
  rcases hk with hk | ⟨g, hg, hk⟩
  · obtain ⟨x, hx, rfl⟩ := List.mem_map.1 hk
    exact (h.own x hx).lt
  · exact ((h.g1 g hg).lt k hk).2
theorem Wc.mlo (h : Wc w0 w L G F) {k : Nat} (hk : Mut L G k) : w0.heap.size ≤ k := by
  rcases hk with hk | ⟨g, hg, hk⟩
  · obtain ⟨x, hx, rfl⟩ := List.mem_map.1 hk
    exact h.lo x hx
  · exact ((h.g1 g hg).lt k hk).1
theorem Wc.keep0 (h : Wc w0 w L G F) (hO : Only [] w w') : Wc w0 w' L G F :=
  ⟨h.only.trans' hO, fun x hx => (h.own x hx).keep0 hO, h.lo, h.nd, fun x hx => ownsRow_keep (h.g1 x hx) hO (by simp), h.g2, h.g3, fun f hf w2 h2 => h.fx f hf w2 fun k o hm hk hc => h2 k o hm (by rw [hO.block k (lt_of_obj hk) (by simp)]; exact hk) hc⟩
theorem Wc.drew (h : Wc w0 w L G F) : Wc w0 w.drew L G F := h.keep0 (Only.refl _ _).drew
theorem Wc.drewN (h : Wc w0 w L G F) (n : Nat) : Wc w0 (w.drewN n) L G F := h.keep0 ((Only.refl _ _).drewN n)
theorem Wc.alloc (h : Wc w0 w L G F) (o : Obj) : Wc w0 (w.alloc o) L G F := h.keep0 ((Only.refl _ _).alloc o)
/-- a box that is new: a block that is not older than the world w1, in which all of the others lay -/
theorem Wc.cons (h : Wc w0 w L G F) (hO : Only [] w w') {p : Nat} {cs : List Value} (hp : w.heap.size ≤ p) (ho : Own w' p cs) : Wc w0 w' ((p, cs) :: L) G F := by
  have h' := h.keep0 hO
  refine ⟨h'.only, ?_, ?_, ?_, h'.g1, h'.g2, ?_, ?_⟩
  · intro x hx
    rcases List.mem_cons.1 hx with rfl | hx
    · exact ho
    · exact h'.own x hx
  · intro x hx
    rcases List.mem_cons.1 hx with rfl | hx
    · exact Nat.le_trans h.only.size hp
    · exact h.lo x hx
  · rw [List.map_cons, List.nodup_cons]
    exact ⟨fun hm => by have := h.mlt (.inl hm); simp at this; omega, h.nd⟩
  · intro x hx y hy
    rcases List.mem_cons.1 hx with rfl | hx
    · intro hk
      have := ((h.g1 y hy).lt _ hk).2
      simp at this
      omega
    · exact h.g3 x hx y hy
  · intro f hf w2 h2
    refine h.fx f hf w2 fun k o hm hk hc => h2 k o ?_ (by rw [hO.block k (lt_of_obj hk) (by simp)]; exact hk) hc
    have hk' := lt_of_obj hk
    rintro (hm2 | hm2)
    · rcases List.mem_cons.1 hm2 with e | hm2
      · have e2 : k = p := e
        omega
      · exact hm (.inl hm2)
    · exact hm (.inr hm2)
theorem Wc.new (h : Wc w0 w L G F) (cs : Array Value) (t : TypeId) : Wc w0 (w.alloc (.cells cs t)) ((w.heap.size, cs.toList) :: L) G F := h.cons ((Only.refl _ _).alloc _) (Nat.le_refl _) (Own.new _ _ _)
theorem Wc.newB (h : Wc w0 w L G F) (cs : Array Value) (t : TypeId) {b : Nat} (hb : w.heap.size = b) : Wc w0 (w.alloc (.cells cs t)) ((b, cs.toList) :: L) G F := by subst hb; exact h.new cs t
/-- a call that writes into one box alone -/
theorem Wc.call1 (h : Wc w0 w L G F) (i : Nat) {p : Nat} {cs cs' : List Value} (hi : L[i]? = some (p, cs)) (ho : Own w' p cs') (hO : Only [p] w w') : Wc w0 w' (L.set i (p, cs')) G F := by
  have hpm : (p, cs) ∈ L := List.mem_of_getElem? hi
  have hplo := h.lo _ hpm
  refine ⟨h.only.trans hO (by simpa using hplo), ?_, ?_, by rw [mut_set hi]; exact h.nd, ?_, h.g2, ?_, ?_⟩
  · intro x hx
    obtain ⟨j, hj⟩ := List.mem_iff_getElem?.1 hx
    rw [List.getElem?_set] at hj
    split at hj
    · split at hj
      · injection hj with hj; subst hj; exact ho
      · cases hj
    · rename_i hne
      refine (h.own x (List.mem_of_getElem? hj)).keep hO ?_
      simp only [List.mem_singleton]
      intro e
      apply hne
      have hnd := h.nd
      have h1 : (L.map (·.1))[i]? = some p := by simp [hi]
      have h2 : (L.map (·.1))[j]? = some p := by simp [hj, e]
      obtain ⟨l1, e1⟩ := List.getElem?_eq_some_iff.1 h1
      obtain ⟨l2, e2⟩ := List.getElem?_eq_some_iff.1 h2
      rcases Nat.lt_trichotomy i j with hl | hl | hl
      · exact absurd (e1.trans e2.symm) (List.pairwise_iff_getElem.1 hnd i j l1 l2 hl)
      · exact hl
      · exact absurd (e2.trans e1.symm) (List.pairwise_iff_getElem.1 hnd j i l2 l1 hl)
  · intro x hx
    have : x.1 ∈ L.map (·.1) := by rw [← mut_set (cs' := cs') hi]; exact List.mem_map_of_mem hx
    obtain ⟨y, hy, e⟩ := List.mem_map.1 this
    rw [← e]; exact h.lo y hy
  · intro x hx
    exact ownsRow_keep (h.g1 x hx) hO (fun k hk => by
      simp only [List.mem_singleton]
      intro e
      subst e
      exact h.g3 _ hpm x hx hk)
  · intro x hx y hy
    have : x.1 ∈ L.map (·.1) := by rw [← mut_set (cs' := cs') hi]; exact List.mem_map_of_mem hx
    obtain ⟨z, hz, e⟩ := List.mem_map.1 this
    rw [← e]; exact h.g3 z hz y hy
  · intro f hf w2 h2
    refine h.fx f hf w2 fun k o hm hk hc => h2 k o ?_ ?_ hc
    · unfold Mut
      rw [mut_set hi]
      exact hm
    · rw [hO.block k (lt_of_obj hk) ?_]
      · exact hk
      · simp only [List.mem_singleton]
        intro e
        subst e
        exact hm (.inl (List.mem_map_of_mem hpm))
theorem Wc.put (h : Wc w0 w L G F) (i : Nat) {p : Nat} {cs : List Value} (hi : L[i]? = some (p, cs)) (j : Nat) (u : Value) : Wc w0 (w.setCell ⟨p, j, none⟩ u) (L.set i (p, cs.set j u)) G F :=
  h.call1 i hi ((h.own _ (List.mem_of_getElem? hi)).set j u) ((Only.refl [p] w).set (by simp) u)
/-- a slice that is to be gathered: nil at first -/
theorem Wc.gnew (h : Wc w0 w L G F) (e sz : Nat) : Wc w0 w L (⟨e, sz, .slice none 0 0, 0, []⟩ :: G) F := by
  have hm : ∀ k, Mut L (⟨e, sz, .slice none 0 0, 0, []⟩ :: G) k ↔ Mut L G k := by
    intro k
    unfold Mut
    constructor
    · rintro (h1 | ⟨g, hg, h1⟩)
      · exact .inl h1
      · rcases List.mem_cons.1 hg with rfl | hg
        · simp [Value.ownBlock] at h1
        · exact .inr ⟨g, hg, h1⟩
    · rintro (h1 | ⟨g, hg, h1⟩)
      · exact .inl h1
      · exact .inr ⟨g, List.mem_cons_of_mem _ hg, h1⟩
  refine ⟨h.only, h.own, h.lo, h.nd, ?_, ?_, ?_, ?_⟩
  · intro x hx
    rcases List.mem_cons.1 hx with rfl | hx
    · exact World.ownsRow_nil w _ _ _
    · exact h.g1 x hx
  · exact List.Pairwise.cons (fun y _ k hk => by simp [Value.ownBlock] at hk) h.g2
  · intro x hx y hy
    rcases List.mem_cons.1 hy with rfl | hy
    · simp [Value.ownBlock]
    · exact h.g3 x hx y hy
  · intro f hf w2 h2
    exact h.fx f hf w2 fun k o hn hk hc => h2 k o (fun h3 => hn ((hm k).1 h3)) hk hc
theorem Wc.gchange (h : Wc w0 w L G F) (i : Nat) {x y : Gs} (hi : G[i]? = some x) (hsz : w.heap.size ≤ w'.heap.size) (hos : w'.os = w.os ∧ w'.tape = w.tape ∧ w'.output = w.output)
    (hb : ∀ k, k < w.heap.size → x.v.ownBlock ≠ some k → w'.heap[k]? = w.heap[k]?) (ho : w'.ownsRow w0.heap.size y.e y.sz y.v y.n y.xs) (hat : y.v.ownBlock = x.v.ownBlock ∨ y.v.ownBlock = some w.heap.size) : Wc w0 w' L (G.set i y) F := by
  have hxm : x ∈ G := List.mem_of_getElem? hi
  have hxlt := (h.g1 x hxm).lt
  have hlt : ∀ z ∈ G, ∀ k, z.v.ownBlock = some k → k < w.heap.size := fun z hz k hk => ((h.g1 z hz).lt k hk).2
  have hO : Only x.v.ownBlock.toList w w' := ⟨hos.1, hos.2.1, hos.2.2, hsz, fun k hk hn => hb k hk (fun e => hn (by simp [e]))⟩
  have hset : ∀ z ∈ G.set i y, z = y ∨ ∃ j, j ≠ i ∧ G[j]? = some z := by
    intro z hz
    obtain ⟨j, hj⟩ := List.mem_iff_getElem?.1 hz
    rw [List.getElem?_set] at hj
    split at hj
    · split at hj
      · injection hj with hj; exact .inl hj.symm
      · cases hj
    · rename_i hne
      exact .inr ⟨j, fun e => hne e.symm, hj⟩
  have hap : ∀ j z, j ≠ i → G[j]? = some z → ∀ k, z.v.ownBlock = some k → x.v.ownBlock ≠ some k := by
    intro j z hj hz k hk hx
    have hp := List.pairwise_iff_getElem.1 h.g2
    obtain ⟨l1, e1⟩ := List.getElem?_eq_some_iff.1 hi
    obtain ⟨l2, e2⟩ := List.getElem?_eq_some_iff.1 hz
    rcases Nat.lt_or_gt_of_ne hj with h1 | h1
    · exact hp j i l2 l1 h1 k (by rw [e2]; exact hk) (by rw [e1]; exact hx)
    · exact hp i j l1 l2 h1 k (by rw [e1]; exact hx) (by rw [e2]; exact hk)
  refine ⟨h.only.trans hO ?_, ?_, h.lo, h.nd, ?_, ?_, ?_, ?_⟩
  · intro k hk
    exact .inr (hxlt k (by simpa using hk)).1
  · intro z hz
    refine (h.own z hz).keep hO ?_
    intro hk
    exact h.g3 z hz x hxm (by simpa using hk)
  · intro z hz
    rcases hset z hz with rfl | ⟨j, hj, hz⟩
    · exact ho
    · exact ownsRow_keep (h.g1 z (List.mem_of_getElem? hz)) hO (fun k hk hin => hap j z hj hz k hk (by simpa using hin))
  · rw [List.pairwise_iff_getElem]
    have hp := List.pairwise_iff_getElem.1 h.g2
    intro a b ha hb' hab k hk hk2
    rw [List.getElem_set] at hk hk2
    have la : a < G.length := by simpa using ha
    have lb : b < G.length := by simpa using hb'
    split at hk
    · rename_i e1
      split at hk2
      · omega
      · rename_i e2
        have hz : G[b]? = some G[b] := List.getElem?_eq_getElem lb
        rcases hat with hat | hat
        · exact hap b G[b] (fun e => e2 e.symm) hz k hk2 (by rw [← hat]; exact hk)
        · have := hlt _ (List.getElem_mem lb) k hk2
          rw [hat] at hk
          injection hk with hk
          omega
    · rename_i e1
      split at hk2
      · rename_i e2
        have hz : G[a]? = some G[a] := List.getElem?_eq_getElem la
        rcases hat with hat | hat
        · exact hap a G[a] (fun e => e1 e.symm) hz k hk (by rw [← hat]; exact hk2)
        · have := hlt _ (List.getElem_mem la) k hk
          rw [hat] at hk2
          injection hk2 with hk2
          omega
      · exact hp a b la lb hab k hk hk2
  · intro z hz u hu
    rcases hset u hu with rfl | ⟨j, hj, hu⟩
    · rcases hat with hat | hat
      · rw [hat]; exact h.g3 z hz x hxm
      · rw [hat]
        intro e
        injection e with e
        have := (h.own z hz).lt
        omega
    · exact h.g3 z hz u (List.mem_of_getElem? hu)
  · intro f hf w2 h2
    refine h.fx f hf w2 fun k o hm hk hc => h2 k o ?_ (by rw [hb k (lt_of_obj hk) (fun e => hm (.inr ⟨x, hxm, e⟩))]; exact hk) hc
    have hk' := lt_of_obj hk
    rintro (hm2 | ⟨g, hg, hk2⟩)
    · exact hm (.inl hm2)
    · rcases hset g hg with rfl | ⟨j, hj, hg⟩
      · rcases hat with hat | hat
        · exact hm (.inr ⟨x, hxm, by rw [← hat]; exact hk2⟩)
        · rw [hat] at hk2
          injection hk2 with hk2
          omega
      · exact hm (.inr ⟨g, List.mem_of_getElem? hg, hk2⟩)
/-- what an append leaves -/
theorem Wc.gapp (h : Wc w0 w L G F) (i : Nat) {x : Gs} (hi : G[i]? = some x) {v' : Value} {n' : Nat} {ys : List Value} (ho : w'.ownsRow w0.heap.size x.e x.sz v' n' ys) (hg : w.grownBy w' x.v.ownBlock) (hat : v'.ownBlock = x.v.ownBlock ∨ v'.ownBlock = some w.heap.size) :
    Wc w0 w' L (G.set i ⟨x.e, x.sz, v', n', ys⟩) F :=
  h.gchange i hi hg.size ⟨hg.os, hg.tape, hg.output⟩ (fun k hk hn => hg.block k hk (fun e => hn e.symm)) ho hat
/-- a store into a slice that was gathered -/
theorem Wc.gset (h : Wc w0 w L G F) (i : Nat) {x : Gs} (hi : G[i]? = some x) {g : Nat} (hg : x.v.ownBlock = some g) (o : Nat) (u : Value) : Wc w0 (w.setCell ⟨g, o, none⟩ u) L (G.set i ⟨x.e, x.sz, x.v, x.n, x.xs.set o u⟩) F :=
  h.gchange i hi (by simp [World.setCell]) ⟨rfl, rfl, rfl⟩ (fun k hk hn => by
    refine ((Only.refl [g] w).set (p := ⟨g, o, none⟩) (by simp) u).block k hk ?_
    simp only [List.mem_singleton]
    intro e
    subst e
    exact hn hg) (ownsRow_set (c := 0) (h.g1 x (List.mem_of_getElem? hi)) hg) (.inl rfl)
/-- what a call leaves fast: it lies in blocks that are new -/
theorem Wc.keepF (h : Wc w0 w L G F) (hO : Only [] w w') (f : World → Prop) (hf : ∀ W : World, (∀ k o, w.heap.size ≤ k → w'.heap[k]? = some o → o.isCells = true → W.heap[k]? = some o) → f W) : Wc w0 w' L G (f :: F) := by
  have h' := h.keep0 hO
  refine ⟨h'.only, h'.own, h'.lo, h'.nd, h'.g1, h'.g2, h'.g3, ?_⟩
  intro f' hf' w2 h2
  rcases List.mem_cons.1 hf' with rfl | hf'
  · refine hf w2 fun k o hk ho hc => h2 k o (fun hm => ?_) ho hc
    have := h.mlt hm
    omega
  · exact h'.fx f' hf' w2 h2
/-- what lies fast in blocks of which none is written into -/
theorem Wc.addF (h : Wc w0 w L G F) (f : World → Prop) (hf : Fc w (Mut L G) f) : Wc w0 w L G (f :: F) :=
  ⟨h.only, h.own, h.lo, h.nd, h.g1, h.g2, h.g3, fun f' hf' => by
    rcases List.mem_cons.1 hf' with rfl | hf'
    · exact hf
    · exact h.fx f' hf'⟩
theorem Wc.fact (h : Wc w0 w L G F) (f : World → Prop) (hm : f ∈ F) : f w := h.fx f hm w fun _ _ _ h _ => h
theorem Wc.box (h : Wc w0 w L G F) {p : Nat} {cs : List Value} (hm : (p, cs) ∈ L) : Own w p cs := h.own _ hm
theorem Wc.gath (h : Wc w0 w L G F) {x : Gs} (hm : x ∈ G) : GathN w w0.heap.size x.e x.sz x.v x.n x.xs := ⟨h.g1 x hm, h.only.size⟩
theorem Wc.boxi (h : Wc w0 w L G F) (i : Nat) {p : Nat} {cs : List Value} (hi : L[i]? = some (p, cs)) : Own w p cs := h.own _ (List.mem_of_getElem? hi)
theorem Wc.gi (h : Wc w0 w L G F) (i : Nat) {x : Gs} (hi : G[i]? = some x) : w.ownsRow w0.heap.size x.e x.sz x.v x.n x.xs := h.g1 _ (List.mem_of_getElem? hi)
theorem Wc.loi (h : Wc w0 w L G F) (i : Nat) {p : Nat} {cs : List Value} (hi : L[i]? = some (p, cs)) : w0.heap.size ≤ p := h.lo _ (List.mem_of_getElem? hi)
theorem Wc.fi (h : Wc w0 w L G F) (i : Nat) {f : World → Prop} (hi : F[i]? = some f) : f w := h.fact _ (List.mem_of_getElem? hi)
theorem Wc.gform (h : Wc w0 w L G F) (i : Nat) {e sz n : Nat} {v : Value} {xs : List Value} (hi : G[i]? = some ⟨e, sz, v, n, xs⟩) : ∃ A c, v = .slice A n c := by
  rcases (h.gi i hi).2 with ⟨h1, h2⟩ | ⟨g, cap, cur, h1, _⟩
  · exact ⟨none, 0, by rw [show n = 0 from h2]; exact h1⟩
  · exact ⟨_, _, h1⟩
/-- a block that is no cells is turned -/
theorem Wc.turn (h : Wc w0 w L G F) (hC : Cs w w') (hb : ∀ k, k < w0.heap.size → w'.heap[k]? = w.heap[k]?) (hs : w.heap.size ≤ w'.heap.size) (ho : w'.os = w.os ∧ w'.tape = w.tape ∧ w'.output = w.output) : Wc w0 w' L G F :=
  ⟨h.only.turn hb hs ho, fun x hx => (h.own x hx).cs hC, h.lo, h.nd, fun x hx => ownsRow_cs (h.g1 x hx) hC, h.g2, h.g3, fun f hf w2 h2 => h.fx f hf w2 fun k o hm hk hc => h2 k o hm (hC k o hk hc) hc⟩
theorem Wc.putObj (h : Wc w0 w L G F) {D : Nat} {o : Obj} (o' : Obj) (hD : w.heap[D]? = some o) (ho : o.isCells = false) (hw : w0.heap.size ≤ D) : Wc w0 (w.putObj D o') L G F :=
  h.turn (Cs.of_grown (grownBy_putObj' w D o') (fun r e => by cases e; exact ⟨o, hD, ho⟩)) (fun k hk => World.putObj_heap_other (by omega)) (by simp) ⟨rfl, rfl, rfl⟩
/-- it goes into the invariant of a range over a function -/
theorem Wc.ownFrom {β : Type} {B : Nat} {L : β → List (Nat × List Value)} {G : β → List Gs} {F : β → List (World → Prop)} (hB : w0.heap.size ≤ B) : OwnFrom B (fun s W => Wc w0 W (L s) (G s) (F s)) := fun s W W' row hs hg hr =>
  hs.turn (Cs.of_grown hg fun r e => (hr r e).2) (fun k hk => hg.block k (Nat.lt_of_lt_of_le hk hs.only.size) (fun e => by have := (hr k e.symm).1; omega)) hg.size ⟨hg.os, hg.tape, hg.output⟩
theorem Wc.grown {B : Nat} {row : Option Nat} (h : Wc w0 w L G F) (hB : w0.heap.size ≤ B) (hg : w.grownBy w' row) (hr : ∀ r, row = some r → B ≤ r ∧ ∃ o : Obj, w.heap[r]? = some o ∧ o.isCells = false) : Wc w0 w' L G F :=
  h.turn (Cs.of_grown hg fun r e => (hr r e).2) (fun k hk => hg.block k (Nat.lt_of_lt_of_le hk h.only.size) (fun e => by have := (hr k e.symm).1; omega)) hg.size ⟨hg.os, hg.tape, hg.output⟩
/-- what a walk from w to w' left: all that is no cells, and all that lay below n₀ -/
theorem Wc.cellsBlock (h : Wc w0 w L G F) {k : Nat} (hk : Mut L G k) : ∀ o, w.heap[k]? = some o → o.isCells = true := by
  rcases hk with hk | ⟨g, hg, hk⟩
  · obtain ⟨x, hx, rfl⟩ := List.mem_map.1 hk
    exact (h.own x hx).isCells
  · exact ownsRow_isCells (h.g1 g hg) k hk
/-- a fact more out of two -/
theorem Wc.fuse (h : Wc w0 w L G F) {f1 f2 f : World → Prop} (h1 : f1 ∈ F) (h2 : f2 ∈ F) (hf : ∀ W, f1 W → f2 W → f W) : Wc w0 w L G (f :: F) :=
  h.addF f fun w' hw' => hf w' (h.fx f1 h1 w' hw') (h.fx f2 h2 w' hw')
/-- other facts, each out of one that was -/
theorem Wc.refact (h : Wc w0 w L G F) {F' : List (World → Prop)} (hF : ∀ f ∈ F', ∃ f1 ∈ F, ∀ W, f1 W → f W) : Wc w0 w L G F' :=
  ⟨h.only, h.own, h.lo, h.nd, h.g1, h.g2, h.g3, fun f hf w2 h2 => by
    obtain ⟨f1, hf1, hi⟩ := hF f hf
    exact hi _ (h.fx f1 hf1 w2 h2)⟩
/-- fewer boxes -/
theorem Wc.sub (h : Wc w0 w L G F) {L' : List (Nat × List Value)} {F' : List (World → Prop)} (hL : L'.Sublist L) (hF : ∀ f ∈ F', f ∈ F) : Wc w0 w L' G F' :=
  ⟨h.only, fun x hx => h.own x (hL.subset hx), fun x hx => h.lo x (hL.subset hx), h.nd.sublist (hL.map _), h.g1, h.g2, fun x hx => h.g3 x (hL.subset hx), fun f hf w2 h2 => h.fx f (hF f hf) w2 fun k o hm hk hc => h2 k o (fun h3 => hm (by
    rcases h3 with h3 | h3
    · exact .inl ((hL.map _).subset h3)
    · exact .inr h3)) hk hc⟩
end
section
variable {w0 w w' : World} {M : Nat → Prop} {L : List (Nat × List Value)} {G : List Gs} {F : List (World → Prop)}
theorem fc_cell {p : Addr} {v : Value} (hc : w.cell? p = some v) (hp : ¬ M p.block) : Fc w M (fun W => W.cell? p = some v) := fun W hW => by
  obtain ⟨o, ho, hcc⟩ := cells_of_cell hc
  exact (World.cell?_of_block (by rw [hW _ _ hp ho hcc, ho])).trans hc
theorem Row1.fc {A : Option Addr} {n c : Nat} {xs : List Value} (h : Row1 w A n c xs) (hA : 0 < n → ∀ a, A = some a → ¬ M a.block) : Fc w M (fun W => Row1 W A n c xs) := fun W hW =>
  ⟨h.len, h.le, h.cm, fun hn => by
    obtain ⟨g, o, e, hc⟩ := h.at_ hn
    exact ⟨g, o, e, fun i hi => fc_cell (hc i hi) (show ¬ M g from hA hn _ e) W hW⟩⟩
theorem Its.fc {A : Option Addr} {n c : Nat} {l : List It} (h : Its w A n c l) (hA : 0 < n → ∀ a, A = some a → ¬ M a.block) : Fc w M (fun W => Its W A n c l) := fun W hW =>
  ⟨h.len, h.le, h.cm, fun hn => by
    obtain ⟨g, o, e, hc⟩ := h.at_ hn
    exact ⟨g, o, e, fun i hi => ⟨fc_cell (hc i hi).1 (show ¬ M g from hA hn _ e) W hW, fc_cell (hc i hi).2.1 (show ¬ M g from hA hn _ e) W hW, fc_cell (hc i hi).2.2.1 (show ¬ M g from hA hn _ e) W hW, fc_cell (hc i hi).2.2.2 (show ¬ M g from hA hn _ e) W hW⟩⟩⟩
theorem Own.fc {p : Nat} {cs : List Value} (h : Own w p cs) (hp : ¬ M p) : Fc w M (fun W => Own W p cs) := fun W hW => by
  obtain ⟨cur, t, h1, h2⟩ := h
  exact ⟨cur, t, hW p _ hp h1 rfl, h2⟩
theorem Bls.fc {sl : List (Option Addr × Nat × Nat)} {bl : List (List UInt8)} (h : Bls w sl bl) (hA : ∀ s ∈ sl, 0 < s.2.1 → ∀ a, s.1 = some a → ¬ M a.block) : Fc w M (fun W => Bls W sl bl) := fun W hW =>
  ⟨h.1, fun i h1 h2 => Row1.fc (h.2 i h1 h2) (hA _ (List.getElem_mem h1)) W hW⟩
/-- what lay below the walk's beginning -/
theorem Wc.old (h : Wc w0 w L G F) {f : World → Prop} (hf : Fc w0 (fun _ => False) f) : Wc w0 w L G (f :: F) :=
  h.addF f fun W hW => hf W fun k o _ hk hc => by
    have hk' := lt_of_obj hk
    refine hW k o (fun hm => ?_) ((h.only.block k hk' (by simp)).trans hk) hc
    have := h.mlo hm
    omega
/-- what a call leaves in blocks of its own -/
theorem Wc.addFc (h : Wc w0 w L G F) (hO : Only [] w w') {f : World → Prop} (hf : Fc w' (fun k => k < w.heap.size) f) : Wc w0 w' L G (f :: F) :=
  (h.keep0 hO).addF f fun W hW => hf W fun k o hn hk hc => hW k o (fun hm => hn (h.mlt hm)) hk hc
end
end Go.Kn
