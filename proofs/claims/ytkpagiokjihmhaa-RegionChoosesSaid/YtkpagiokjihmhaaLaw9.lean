
/- Joined by merge.py: Wd, WdR, Flip, Law9A, Law9B, Law9C. -/
import Derived.Test.YtkpagiokjihmhaaItemQ
import Derived.Test.YtkpagiokjihmhaaRegN
import Derived.Test.YtkpagiokjihmhaaRegL
import Derived.Test.YtkpagiokjihmhaaTurnW
import Derived.BigQuiet
import Derived.Deep.QuietTactic
import Derived.Deep.RegionHeld3
import Derived.Deep.RegionLaw
import Derived.Deep.DeepCutAuto
import Derived.Test.YtkpagiokjihmhaaRegJ
/- A world amid a walk, in one word: the boxes of the call's own (blocks known from their beginning), the slices that it gathers by append, and what lies fast in blocks that neither touches. Plain. -/
set_option linter.unusedVariables false
namespace Go.Kn
open Go Go.RowKit
/-- a slice that is gathered: element type, cells of an element, value, length, cells -/
structure Gs where
  e : Nat
  sz : Nat
  v : Value
  n : Nat
  xs : List Value
/-- the blocks that a walk writes into -/
def Mut (L : List (Nat × List Value)) (G : List Gs) (k : Nat) : Prop := k ∈ L.map (·.1) ∨ ∃ g ∈ G, g.v.ownBlock = some k
/-- what stays as it is while blocks outside of M stay -/
def Fx (w : World) (M : Nat → Prop) (f : World → Prop) : Prop := ∀ w', (∀ k, k < w.heap.size → ¬ M k → w'.heap[k]? = w.heap[k]?) → f w'
structure Wd (w0 w : World) (L : List (Nat × List Value)) (G : List Gs) (F : List (World → Prop)) : Prop where
  only : Only [] w0 w
  own : ∀ x ∈ L, Own w x.1 x.2
  lo : ∀ x ∈ L, w0.heap.size ≤ x.1
  nd : (L.map (·.1)).Nodup
  g1 : ∀ x ∈ G, w.ownsRow w0.heap.size x.e x.sz x.v x.n x.xs
  g2 : G.Pairwise fun x y => ∀ k, x.v.ownBlock = some k → y.v.ownBlock ≠ some k
  g3 : ∀ x ∈ L, ∀ y ∈ G, y.v.ownBlock ≠ some x.1
  fx : ∀ f ∈ F, Fx w (Mut L G) f
section
variable {w0 w w' w1 : World} {L : List (Nat × List Value)} {G : List Gs} {F : List (World → Prop)}
theorem Wd.start (w : World) : Wd w w [] [] [] := ⟨Only.refl _ _, by simp, by simp, by simp, by simp, by simp, by simp, by simp⟩
theorem Wd.mlt (h : Wd w0 w L G F) {k : Nat} (hk : Mut L G k) : k < w.heap.size := by
  rcases hk with hk | ⟨g, hg, hk⟩
  · obtain ⟨x, hx, rfl⟩ := List.mem_map.1 hk
    exact (h.own x hx).lt
  · exact ((h.g1 g hg).lt k hk).2
theorem Wd.mlo (h : Wd w0 w L G F) {k : Nat} (hk : Mut L G k) : w0.heap.size ≤ k := by
  rcases hk with hk | ⟨g, hg, hk⟩
  · obtain ⟨x, hx, rfl⟩ := List.mem_map.1 hk
    exact h.lo x hx
  · exact ((h.g1 g hg).lt k hk).1
theorem ownsRow_keep {S : List Nat} {base e sz n : Nat} {v : Value} {xs : List Value} (h : w.ownsRow base e sz v n xs) (ho : Only S w w') (hs : ∀ k, v.ownBlock = some k → k ∉ S) : w'.ownsRow base e sz v n xs := by
  obtain ⟨h1, h2⟩ := h
  refine ⟨h1, ?_⟩
  rcases h2 with h2 | ⟨g, cap, cur, rfl, hb', hh, rest⟩
  · exact .inl h2
  · exact .inr ⟨g, cap, cur, rfl, hb', (ho.block g (lt_of_block hh) (hs g rfl)).trans hh, rest⟩
theorem Wd.keep0 (h : Wd w0 w L G F) (hO : Only [] w w') : Wd w0 w' L G F :=
  ⟨h.only.trans' hO, fun x hx => (h.own x hx).keep0 hO, h.lo, h.nd, fun x hx => ownsRow_keep (h.g1 x hx) hO (by simp), h.g2, h.g3, fun f hf w2 h2 => h.fx f hf w2 fun k hk hm => by
    rw [h2 k (Nat.lt_of_lt_of_le hk hO.size) hm]
    exact hO.block k hk (by simp)⟩
theorem Wd.drew (h : Wd w0 w L G F) : Wd w0 w.drew L G F := h.keep0 (Only.refl _ _).drew
theorem Wd.drewN (h : Wd w0 w L G F) (n : Nat) : Wd w0 (w.drewN n) L G F := h.keep0 ((Only.refl _ _).drewN n)
theorem Wd.alloc (h : Wd w0 w L G F) (o : Obj) : Wd w0 (w.alloc o) L G F := h.keep0 ((Only.refl _ _).alloc o)
/-- a box that is new: a block that is not older than the world w1, in which all of the others lay -/
theorem Wd.cons (h : Wd w0 w L G F) (hO : Only [] w w') {p : Nat} {cs : List Value} (hp : w.heap.size ≤ p) (ho : Own w' p cs) : Wd w0 w' ((p, cs) :: L) G F := by
  have h' := h.keep0 hO
  refine ⟨h'.only, ?_, ?_, ?_, h'.g1, h'.g2, ?_, ?_⟩
  · intro x hx
    rcases List.mem_cons.1 hx with rfl | hx
    · exact ho
    · exact h'.own x hx
  · intro x hx
    rcases List.mem_cons.1 hx with rfl | hx
    · exact Nat.le_trans h.only.size hp
    · exact h.lo x hx
  · rw [List.map_cons, List.nodup_cons]
    exact ⟨fun hm => by have := h.mlt (.inl hm); simp at this; omega, h.nd⟩
  · intro x hx y hy
    rcases List.mem_cons.1 hx with rfl | hx
    · intro hk
      have := ((h.g1 y hy).lt _ hk).2
      simp at this
      omega
    · exact h.g3 x hx y hy
  · intro f hf w2 h2
    refine h.fx f hf w2 fun k hk hm => ?_
    rw [h2 k (Nat.lt_of_lt_of_le hk hO.size) ?_]
    · exact hO.block k hk (by simp)
    · rintro (hm2 | hm2)
      · rcases List.mem_cons.1 hm2 with e | hm2
        · have e2 : k = p := e
          omega
        · exact hm (.inl hm2)
      · exact hm (.inr hm2)
theorem Wd.new (h : Wd w0 w L G F) (cs : Array Value) (t : TypeId) : Wd w0 (w.alloc (.cells cs t)) ((w.heap.size, cs.toList) :: L) G F := h.cons ((Only.refl _ _).alloc _) (Nat.le_refl _) (Own.new _ _ _)
theorem Wd.newB (h : Wd w0 w L G F) (cs : Array Value) (t : TypeId) {b : Nat} (hb : w.heap.size = b) : Wd w0 (w.alloc (.cells cs t)) ((b, cs.toList) :: L) G F := by subst hb; exact h.new cs t
theorem mut_set {p : Nat} {cs cs' : List Value} {i : Nat} (hi : L[i]? = some (p, cs)) : (L.set i (p, cs')).map (·.1) = L.map (·.1) := by
  rw [List.map_set]
  apply List.ext_getElem?
  intro j
  rw [List.getElem?_set]
  split
  · rename_i hj
    subst hj
    split
    · simp [hi]
    · rename_i hl
      rw [List.getElem?_eq_none (by simpa using hl)]
  · rfl
/-- a call that writes into one box alone -/
theorem Wd.call1 (h : Wd w0 w L G F) (i : Nat) {p : Nat} {cs cs' : List Value} (hi : L[i]? = some (p, cs)) (ho : Own w' p cs') (hO : Only [p] w w') : Wd w0 w' (L.set i (p, cs')) G F := by
  have hpm : (p, cs) ∈ L := List.mem_of_getElem? hi
  have hplo := h.lo _ hpm
  refine ⟨h.only.trans hO (by simpa using hplo), ?_, ?_, by rw [mut_set hi]; exact h.nd, ?_, h.g2, ?_, ?_⟩
  · intro x hx
    obtain ⟨j, hj⟩ := List.mem_iff_getElem?.1 hx
    rw [List.getElem?_set] at hj
    split at hj
    · split at hj
      · injection hj with hj; subst hj; exact ho
      · cases hj
    · rename_i hne
      refine (h.own x (List.mem_of_getElem? hj)).keep hO ?_
      simp only [List.mem_singleton]
      intro e
      apply hne
      have hnd := h.nd
      have h1 : (L.map (·.1))[i]? = some p := by simp [hi]
      have h2 : (L.map (·.1))[j]? = some p := by simp [hj, e]
      obtain ⟨l1, e1⟩ := List.getElem?_eq_some_iff.1 h1
      obtain ⟨l2, e2⟩ := List.getElem?_eq_some_iff.1 h2
      rcases Nat.lt_trichotomy i j with hl | hl | hl
      · exact absurd (e1.trans e2.symm) (List.pairwise_iff_getElem.1 hnd i j l1 l2 hl)
      · exact hl
      · exact absurd (e2.trans e1.symm) (List.pairwise_iff_getElem.1 hnd j i l2 l1 hl)
  · intro x hx
    have : x.1 ∈ L.map (·.1) := by rw [← mut_set (cs' := cs') hi]; exact List.mem_map_of_mem hx
    obtain ⟨y, hy, e⟩ := List.mem_map.1 this
    rw [← e]; exact h.lo y hy
  · intro x hx
    exact ownsRow_keep (h.g1 x hx) hO (fun k hk => by
      simp only [List.mem_singleton]
      intro e
      subst e
      exact h.g3 _ hpm x hx hk)
  · intro x hx y hy
    have : x.1 ∈ L.map (·.1) := by rw [← mut_set (cs' := cs') hi]; exact List.mem_map_of_mem hx
    obtain ⟨z, hz, e⟩ := List.mem_map.1 this
    rw [← e]; exact h.g3 z hz y hy
  · intro f hf w2 h2
    refine h.fx f hf w2 fun k hk hm => ?_
    rw [h2 k (Nat.lt_of_lt_of_le hk hO.size) ?_]
    · refine hO.block k hk ?_
      simp only [List.mem_singleton]
      intro e
      subst e
      exact hm (.inl (List.mem_map_of_mem hpm))
    · unfold Mut
      rw [mut_set hi]
      exact hm
theorem Wd.put (h : Wd w0 w L G F) (i : Nat) {p : Nat} {cs : List Value} (hi : L[i]? = some (p, cs)) (j : Nat) (u : Value) : Wd w0 (w.setCell ⟨p, j, none⟩ u) (L.set i (p, cs.set j u)) G F :=
  h.call1 i hi ((h.own _ (List.mem_of_getElem? hi)).set j u) ((Only.refl [p] w).set (by simp) u)
/-- a slice that is to be gathered: nil at first -/
theorem Wd.gnew (h : Wd w0 w L G F) (e sz : Nat) : Wd w0 w L (⟨e, sz, .slice none 0 0, 0, []⟩ :: G) F := by
  have hm : ∀ k, Mut L (⟨e, sz, .slice none 0 0, 0, []⟩ :: G) k ↔ Mut L G k := by
    intro k
    unfold Mut
    constructor
    · rintro (h1 | ⟨g, hg, h1⟩)
      · exact .inl h1
      · rcases List.mem_cons.1 hg with rfl | hg
        · simp [Value.ownBlock] at h1
        · exact .inr ⟨g, hg, h1⟩
    · rintro (h1 | ⟨g, hg, h1⟩)
      · exact .inl h1
      · exact .inr ⟨g, List.mem_cons_of_mem _ hg, h1⟩
  refine ⟨h.only, h.own, h.lo, h.nd, ?_, ?_, ?_, ?_⟩
  · intro x hx
    rcases List.mem_cons.1 hx with rfl | hx
    · exact World.ownsRow_nil w _ _ _
    · exact h.g1 x hx
  · exact List.Pairwise.cons (fun y _ k hk => by simp [Value.ownBlock] at hk) h.g2
  · intro x hx y hy
    rcases List.mem_cons.1 hy with rfl | hy
    · simp [Value.ownBlock]
    · exact h.g3 x hx y hy
  · intro f hf w2 h2
    exact h.fx f hf w2 fun k hk hn => h2 k hk (fun h3 => hn ((hm k).1 h3))
theorem Wd.gchange (h : Wd w0 w L G F) (i : Nat) {x y : Gs} (hi : G[i]? = some x) (hsz : w.heap.size ≤ w'.heap.size) (hos : w'.os = w.os ∧ w'.tape = w.tape ∧ w'.output = w.output)
    (hb : ∀ k, k < w.heap.size → x.v.ownBlock ≠ some k → w'.heap[k]? = w.heap[k]?) (ho : w'.ownsRow w0.heap.size y.e y.sz y.v y.n y.xs) (hat : y.v.ownBlock = x.v.ownBlock ∨ y.v.ownBlock = some w.heap.size) : Wd w0 w' L (G.set i y) F := by
  have hxm : x ∈ G := List.mem_of_getElem? hi
  have hxlt := (h.g1 x hxm).lt
  have hlt : ∀ z ∈ G, ∀ k, z.v.ownBlock = some k → k < w.heap.size := fun z hz k hk => ((h.g1 z hz).lt k hk).2
  have hO : Only x.v.ownBlock.toList w w' := ⟨hos.1, hos.2.1, hos.2.2, hsz, fun k hk hn => hb k hk (fun e => hn (by simp [e]))⟩
  have hset : ∀ z ∈ G.set i y, z = y ∨ ∃ j, j ≠ i ∧ G[j]? = some z := by
    intro z hz
    obtain ⟨j, hj⟩ := List.mem_iff_getElem?.1 hz
    rw [List.getElem?_set] at hj
    split at hj
    · split at hj
      · injection hj with hj; exact .inl hj.symm
      · cases hj
    · rename_i hne
      exact .inr ⟨j, fun e => hne e.symm, hj⟩
  have hap : ∀ j z, j ≠ i → G[j]? = some z → ∀ k, z.v.ownBlock = some k → x.v.ownBlock ≠ some k := by
    intro j z hj hz k hk hx
    have hp := List.pairwise_iff_getElem.1 h.g2
    obtain ⟨l1, e1⟩ := List.getElem?_eq_some_iff.1 hi
    obtain ⟨l2, e2⟩ := List.getElem?_eq_some_iff.1 hz
    rcases Nat.lt_or_gt_of_ne hj with h1 | h1
    · exact hp j i l2 l1 h1 k (by rw [e2]; exact hk) (by rw [e1]; exact hx)
    · exact hp i j l1 l2 h1 k (by rw [e1]; exact hx) (by rw [e2]; exact hk)
  refine ⟨h.only.trans hO ?_, ?_, h.lo, h.nd, ?_, ?_, ?_, ?_⟩
  · intro k hk
    exact .inr (hxlt k (by simpa using hk)).1
  · intro z hz
    refine (h.own z hz).keep hO ?_
    intro hk
    exact h.g3 z hz x hxm (by simpa using hk)
  · intro z hz
    rcases hset z hz with rfl | ⟨j, hj, hz⟩
    · exact ho
    · exact ownsRow_keep (h.g1 z (List.mem_of_getElem? hz)) hO (fun k hk hin => hap j z hj hz k hk (by simpa using hin))
  · rw [List.pairwise_iff_getElem]
    have hp := List.pairwise_iff_getElem.1 h.g2
    intro a b ha hb' hab k hk hk2
    rw [List.getElem_set] at hk hk2
    have la : a < G.length := by simpa using ha
    have lb : b < G.length := by simpa using hb'
    split at hk
    · rename_i e1
      split at hk2
      · omega
      · rename_i e2
        have hz : G[b]? = some G[b] := List.getElem?_eq_getElem lb
        rcases hat with hat | hat
        · exact hap b G[b] (fun e => e2 e.symm) hz k hk2 (by rw [← hat]; exact hk)
        · have := hlt _ (List.getElem_mem lb) k hk2
          rw [hat] at hk
          injection hk with hk
          omega
    · rename_i e1
      split at hk2
      · rename_i e2
        have hz : G[a]? = some G[a] := List.getElem?_eq_getElem la
        rcases hat with hat | hat
        · exact hap a G[a] (fun e => e1 e.symm) hz k hk (by rw [← hat]; exact hk2)
        · have := hlt _ (List.getElem_mem la) k hk
          rw [hat] at hk2
          injection hk2 with hk2
          omega
      · exact hp a b la lb hab k hk hk2
  · intro z hz u hu
    rcases hset u hu with rfl | ⟨j, hj, hu⟩
    · rcases hat with hat | hat
      · rw [hat]; exact h.g3 z hz x hxm
      · rw [hat]
        intro e
        injection e with e
        have := (h.own z hz).lt
        omega
    · exact h.g3 z hz u (List.mem_of_getElem? hu)
  · intro f hf w2 h2
    refine h.fx f hf w2 fun k hk hm => ?_
    rw [h2 k (Nat.lt_of_lt_of_le hk hsz) ?_]
    · exact hb k hk (fun e => hm (.inr ⟨x, hxm, e⟩))
    · rintro (hm2 | ⟨g, hg, hk2⟩)
      · exact hm (.inl hm2)
      · rcases hset g hg with rfl | ⟨j, hj, hg⟩
        · rcases hat with hat | hat
          · exact hm (.inr ⟨x, hxm, by rw [← hat]; exact hk2⟩)
          · rw [hat] at hk2
            injection hk2 with hk2
            omega
        · exact hm (.inr ⟨g, List.mem_of_getElem? hg, hk2⟩)
/-- what an append leaves -/
theorem Wd.gapp (h : Wd w0 w L G F) (i : Nat) {x : Gs} (hi : G[i]? = some x) {v' : Value} {n' : Nat} {ys : List Value} (ho : w'.ownsRow w0.heap.size x.e x.sz v' n' ys) (hg : w.grownBy w' x.v.ownBlock) (hat : v'.ownBlock = x.v.ownBlock ∨ v'.ownBlock = some w.heap.size) :
    Wd w0 w' L (G.set i ⟨x.e, x.sz, v', n', ys⟩) F :=
  h.gchange i hi hg.size ⟨hg.os, hg.tape, hg.output⟩ (fun k hk hn => hg.block k hk (fun e => hn e.symm)) ho hat
theorem ownsRow_set {base e sz n : Nat} {g o : Nat} {c : Nat} {v u : Value} {xs : List Value} (h : w.ownsRow base e sz v n xs) (hv : v.ownBlock = some g) : (w.setCell ⟨g, o, none⟩ u).ownsRow base e sz v n (xs.set o u) := by
  obtain ⟨h1, h2⟩ := h
  refine ⟨by simpa using h1, ?_⟩
  rcases h2 with ⟨rfl, h0⟩ | ⟨g', cap, cur, rfl, hb', hh, hn, hm, hs, ht⟩
  · simp [Value.ownBlock] at hv
  · simp [Value.ownBlock] at hv
    subst hv
    refine .inr ⟨g', cap, cur.setIfInBounds o u, rfl, hb', ?_, hn, hm, by simpa using hs, ?_⟩
    · simp [World.setCell, Array.getElem?_modify, hh]
    · simp only [Array.toList_setIfInBounds]
      exact take_set_le _ _ _ _ _ ht
/-- a store into a slice that was gathered -/
theorem Wd.gset (h : Wd w0 w L G F) (i : Nat) {x : Gs} (hi : G[i]? = some x) {g : Nat} (hg : x.v.ownBlock = some g) (o : Nat) (u : Value) : Wd w0 (w.setCell ⟨g, o, none⟩ u) L (G.set i ⟨x.e, x.sz, x.v, x.n, x.xs.set o u⟩) F :=
  h.gchange i hi (by simp [World.setCell]) ⟨rfl, rfl, rfl⟩ (fun k hk hn => by
    refine ((Only.refl [g] w).set (p := ⟨g, o, none⟩) (by simp) u).block k hk ?_
    simp only [List.mem_singleton]
    intro e
    subst e
    exact hn hg) (ownsRow_set (c := 0) (h.g1 x (List.mem_of_getElem? hi)) hg) (.inl rfl)
/-- what a call leaves fast: it lies in blocks that are new -/
theorem Wd.keepF (h : Wd w0 w L G F) (hO : Only [] w w') (f : World → Prop) (hf : ∀ W : World, (∀ k, w.heap.size ≤ k → k < w'.heap.size → W.heap[k]? = w'.heap[k]?) → f W) : Wd w0 w' L G (f :: F) := by
  have h' := h.keep0 hO
  refine ⟨h'.only, h'.own, h'.lo, h'.nd, h'.g1, h'.g2, h'.g3, ?_⟩
  intro f' hf' w2 h2
  rcases List.mem_cons.1 hf' with rfl | hf'
  · refine hf w2 fun k hk hk2 => h2 k hk2 fun hm => ?_
    have := h.mlt hm
    omega
  · exact h'.fx f' hf' w2 h2
/-- what lies fast in blocks of which none is written into -/
theorem Wd.addF (h : Wd w0 w L G F) (f : World → Prop) (hf : Fx w (Mut L G) f) : Wd w0 w L G (f :: F) :=
  ⟨h.only, h.own, h.lo, h.nd, h.g1, h.g2, h.g3, fun f' hf' => by
    rcases List.mem_cons.1 hf' with rfl | hf'
    · exact hf
    · exact h.fx f' hf'⟩
theorem Wd.fact (h : Wd w0 w L G F) (f : World → Prop) (hm : f ∈ F) : f w := h.fx f hm w fun _ _ _ => rfl
theorem Wd.box (h : Wd w0 w L G F) {p : Nat} {cs : List Value} (hm : (p, cs) ∈ L) : Own w p cs := h.own _ hm
theorem Wd.gath (h : Wd w0 w L G F) {x : Gs} (hm : x ∈ G) : GathN w w0.heap.size x.e x.sz x.v x.n x.xs := ⟨h.g1 x hm, h.only.size⟩
theorem Wd.boxi (h : Wd w0 w L G F) (i : Nat) {p : Nat} {cs : List Value} (hi : L[i]? = some (p, cs)) : Own w p cs := h.own _ (List.mem_of_getElem? hi)
theorem Wd.gi (h : Wd w0 w L G F) (i : Nat) {x : Gs} (hi : G[i]? = some x) : w.ownsRow w0.heap.size x.e x.sz x.v x.n x.xs := h.g1 _ (List.mem_of_getElem? hi)
theorem Wd.loi (h : Wd w0 w L G F) (i : Nat) {p : Nat} {cs : List Value} (hi : L[i]? = some (p, cs)) : w0.heap.size ≤ p := h.lo _ (List.mem_of_getElem? hi)
theorem Wd.fi (h : Wd w0 w L G F) (i : Nat) {f : World → Prop} (hi : F[i]? = some f) : f w := h.fact _ (List.mem_of_getElem? hi)
theorem Wd.gform (h : Wd w0 w L G F) (i : Nat) {e sz n : Nat} {v : Value} {xs : List Value} (hi : G[i]? = some ⟨e, sz, v, n, xs⟩) : ∃ A c, v = .slice A n c := by
  rcases (h.gi i hi).2 with ⟨h1, h2⟩ | ⟨g, cap, cur, h1, _⟩
  · exact ⟨none, 0, by rw [show n = 0 from h2]; exact h1⟩
  · exact ⟨_, _, h1⟩
/-- fewer boxes -/
theorem Wd.sub (h : Wd w0 w L G F) {L' : List (Nat × List Value)} {F' : List (World → Prop)} (hL : L'.Sublist L) (hF : ∀ f ∈ F', f ∈ F) : Wd w0 w L' G F' :=
  ⟨h.only, fun x hx => h.own x (hL.subset hx), fun x hx => h.lo x (hL.subset hx), h.nd.sublist (hL.map _), h.g1, h.g2, fun x hx => h.g3 x (hL.subset hx), fun f hf w2 h2 => h.fx f (hF f hf) w2 fun k hk hm => h2 k hk fun h3 => hm (by
    rcases h3 with h3 | h3
    · exact .inl ((hL.map _).subset h3)
    · exact .inr h3)⟩
end
theorem heap_cell {w w' : World} {p : Addr} {v : Value} (hb : w'.heap[p.block]? = w.heap[p.block]?) (hc : w.cell? p = some v) : w'.cell? p = some v := (World.cell?_of_block (w := w) hb).trans hc
/-- a row in new blocks lies fast -/
theorem Row1.fast {w w' : World} {A : Option Addr} {n c B : Nat} {xs : List Value} (h : Row1 w' A n c xs) (hA : ∀ a, A = some a → B ≤ a.block) : ∀ W : World, (∀ k, B ≤ k → k < w'.heap.size → W.heap[k]? = w'.heap[k]?) → Row1 W A n c xs := fun W hW =>
  ⟨h.len, h.le, h.cm, fun hn => by
    obtain ⟨g, o, e, hc⟩ := h.at_ hn
    exact ⟨g, o, e, fun i hi => heap_cell (hW g (hA _ e) (lt_of_cell (hc i hi))) (hc i hi)⟩⟩
end Go.Kn

/- What lies fast: rows, regions, a geometry. Plain. -/
set_option linter.unusedVariables false
namespace Go.Kn
open Go Go.RowKit
section
variable {w0 w w' : World} {M : Nat → Prop} {L : List (Nat × List Value)} {G : List Gs} {F : List (World → Prop)}
theorem Row1.fx {A : Option Addr} {n c : Nat} {xs : List Value} (h : Row1 w A n c xs) (hA : 0 < n → ∀ a, A = some a → ¬ M a.block) : Fx w M (fun W => Row1 W A n c xs) := fun W hW =>
  ⟨h.len, h.le, h.cm, fun hn => by
    obtain ⟨g, o, e, hc⟩ := h.at_ hn
    exact ⟨g, o, e, fun i hi => heap_cell (hW g (lt_of_cell (hc i hi)) (hA hn _ e)) (hc i hi)⟩⟩
theorem Uss.fx {A : Option Addr} {n c : Nat} {l : List (Int × Int)} (h : Uss w A n c l) (hA : 0 < n → ∀ a, A = some a → ¬ M a.block) : Fx w M (fun W => Uss W A n c l) := fun W hW =>
  ⟨h.len, h.le, h.cm, fun hn => by
    obtain ⟨g, o, e, hc⟩ := h.at_ hn
    have hl := h.len
    exact ⟨g, o, e, fun i hi => ⟨heap_cell (hW g (lt_of_cell (hc i hi).1) (hA hn _ e)) (hc i hi).1, heap_cell (hW g (lt_of_cell (hc i hi).1) (hA hn _ e)) (hc i hi).2⟩⟩⟩
theorem RgAt.fx {r : Rg} {B O S : Sl} (h : RgAt w r B O S) (h1 : ∀ a, B.1 = some a → ¬ M a.block) (h2 : ∀ a, O.1 = some a → ¬ M a.block) (h3 : ∀ a, S.1 = some a → ¬ M a.block) : Fx w M (fun W => RgAt W r B O S) := fun W hW =>
  ⟨h.base.fx (fun _ => h1) W hW, h.over.fx (fun _ => h2) W hW, h.segs.fx (fun _ => h3) W hW⟩
theorem GeoAt.fx {p : Nat} {b s l : Int} (h : GeoAt w p b s l) (hp : ¬ M p) : Fx w M (fun W => GeoAt W p b s l) := fun W hW =>
  ⟨heap_cell (hW p h.lt hp) h.c0, heap_cell (hW p h.lt hp) h.c1, heap_cell (hW p h.lt hp) h.c2⟩
/-- what a call leaves in blocks of its own -/
theorem Wd.addFx (h : Wd w0 w L G F) (hO : Only [] w w') {f : World → Prop} (hf : Fx w' (fun k => k < w.heap.size) f) : Wd w0 w' L G (f :: F) :=
  (h.keep0 hO).addF f fun W hW => hf W fun k hk hn => hW k hk fun hm => hn (h.mlt hm)
/-- what an encoder answers -/
theorem Wd.encSays (h : Wd w0 w L G F) {o : Option (List UInt8)} {e : Ending} (he : EncSays w o e w') : ∃ A c, e = .returned (.tuple #[.slice A (o.getD []).length c, .int .i64 (if o.isSome then 0 else 1)]) ∧ Wd w0 w' L G ((fun W => Bys W A (o.getD []).length c (o.getD [])) :: F) := by
  obtain ⟨A, c, rfl, hb, hA, hO⟩ := he
  exact ⟨A, c, rfl, h.addFx hO (hb.fx fun hn a ha => by have := hA hn a ha; omega)⟩
theorem Wd.rgSays (h : Wd w0 w L G F) {o : Option Rg} {err : Int} {e : Ending} (he : RgSays w o err e w') : ∃ B O S : Sl, e = .returned (.tuple #[.agg ((o.getD rgZero).cells B O S).toArray, .int .i64 (if o.isSome then 0 else err)]) ∧ Wd w0 w' L G ((fun W => RgAt W (o.getD rgZero) B O S) :: F) := by
  obtain ⟨B, O, S, rfl, hr, ⟨h1, h2, h3⟩, hO⟩ := he
  exact ⟨B, O, S, rfl, h.addFx hO (hr.fx (fun a ha => by have := h1 a ha; omega) (fun a ha => by have := h2 a ha; omega) (fun a ha => by have := h3 a ha; omega))⟩
theorem fx0 {f : World → Prop} (hf : Fx w (fun _ => False) f) : Fx w (Mut [] []) f := fun W hW => hf W fun k hk _ => hW k hk (by simp [Mut])
theorem Own.fx {p : Nat} {cs : List Value} (h : Own w p cs) (hp : ¬ M p) : Fx w M (fun W => Own W p cs) := fun W hW => by
  obtain ⟨cur, t, h1, h2⟩ := h
  exact ⟨cur, t, (hW p (lt_of_block h1) hp).trans h1, h2⟩
/-- where nothing is written into, all stays -/
theorem Wd.fact0 (h : Wd w0 w [] [] F) {f : World → Prop} (hf : Fx w (fun _ => False) f) : Wd w0 w [] [] (f :: F) := h.addF f (fx0 hf)
theorem Wd.newF (h : Wd w0 w [] [] F) (cs : Array Value) (t : TypeId) {b : Nat} (hb : w.heap.size = b) : Wd w0 (w.alloc (.cells cs t)) [] [] ((fun W => Own W b cs.toList) :: F) := by
  subst hb
  exact (h.alloc _).fact0 ((Own.new w cs t).fx (by simp))
theorem Wd.encOwn (h : Wd w0 w [] [] F) {bs : List UInt8} {e : Ending} (he : EncOwn w (some bs) e w') : ∃ g c, e = .returned (.tuple #[.slice (some ⟨g, 0, none⟩) bs.length c, .int .i64 0]) ∧ bs.length ≤ c ∧ c ≤ maxLen ∧ w.heap.size ≤ g ∧ Wd w0 w' [] [] ((fun W => Own W g (bvs bs)) :: F) := by
  obtain ⟨g, c, rfl, h1, h2, h3, h4, h5⟩ := he.of_some
  exact ⟨g, c, rfl, h1, h2, h3, (h.keep0 h5).fact0 (h4.fx (by simp))⟩
theorem Wd.rcSays (h : Wd w0 w [] [] F) {o : Option Rg × Int} {e : Ending} (he : RcSays w o e w') : ∃ B O S : Sl, e = .returned (.tuple #[.agg ((o.1.getD rgZero).cells B O S).toArray, .int .i64 o.2, .int .i64 (if o.1.isSome then 0 else 2)]) ∧ Wd w0 w' [] [] ((fun W => RgAt W (o.1.getD rgZero) B O S) :: F) := by
  obtain ⟨B, O, S, rfl, h1, h2⟩ := he
  exact ⟨B, O, S, rfl, (h.keep0 h2).fact0 (h1.fx (by simp) (by simp) (by simp))⟩
theorem Wd.calls0 (h : Wd w0 w L G F) {P : Prop} (hP : P) (hO : Only [] w w') : Wd w0 w' L G F := h.keep0 hO
end
end Go.Kn

/- Turned bits in a region's bytes; a struct of fourteen cells stored. Plain. -/
set_option linter.unusedVariables false
namespace Go.Kn
open Go Go.RowKit
theorem bits_and9 (z : Int) (m : Nat) (hm : m < 4) : bits .and .i64 z (m : Int) = (((z % 4).toNat &&& m : Nat) : Int) := by
  have h1 : (BitVec.ofInt 64 (m : Int)).toNat = m := by rw [BitVec.ofInt_natCast, BitVec.toNat_ofNat]; omega
  show IntKind.i64.wrap ((BitVec.ofInt 64 z &&& BitVec.ofInt 64 (m : Int)).toNat : Int) = _
  have h2 : m = 3 &&& m := by
    have : ∀ m : Fin 4, m.val = 3 &&& m.val := by decide
    exact this ⟨m, hm⟩
  have h3 : (BitVec.ofInt 64 z).toNat &&& m = (z % 4).toNat &&& m := by
    conv => lhs; rw [h2, ← Nat.and_assoc]
    congr 1
    rw [show 3 = 2 ^ 2 - 1 from rfl, Nat.and_two_pow_sub_one_eq_mod, BitVec.toNat_ofInt]
    omega
  have h4 : (z % 4).toNat &&& m ≤ m := Nat.and_le_right
  rw [BitVec.toNat_and, h1, h3, IntKind.wrap_i64]
  omega
theorem turnB_one9 (bs : List UInt8) (first lim : Nat) (h : first < lim) : ∀ k, turnB bs first lim 1 (k + 1) = flipAt bs first
  | 0 => by simp [turnB, h]
  | k + 1 => by
    have ih := turnB_one9 bs first lim h k
    rw [turnB, if_neg, ih]
    rintro ⟨h1, _⟩
    rw [Nat.testBit_succ] at h1
    simp at h1
theorem rg_flipped {b s l : Int} {bs : List UInt8} (hc : CfOk b s l) (h4 : 8 ≤ bs.length) (hb : Closed bs (bs.length - 4)) : decRg b s l (flipAt bs 18) = none := by
  have h := rg_turned (first := 18) (pat := 1) hc (by omega) hb ((turnA_iff _ _ _ _).2 ⟨0, by decide, by decide, by omega⟩)
  rwa [turnB_one9 bs 18 _ (by omega) 31] at h
theorem rg_flipped_end {b s l : Int} {bs : List UInt8} (hc : CfOk b s l) (h4 : 4 ≤ bs.length) (hb : Closed bs (bs.length - 4)) : decRg b s l (flipAt bs (8 * (bs.length - 1))) = none := by
  cases hd : decRg b s l (flipAt bs (8 * (bs.length - 1))) with
  | none => rfl
  | some x =>
    have h1 := encRg_closed hc (decBy_enc hd)
    rw [flipAt_length] at h1
    unfold Closed at h1 hb
    have ht : (flipAt bs (8 * (bs.length - 1))).take (bs.length - 4) = bs.take (bs.length - 4) := by
      unfold flipAt
      rw [List.take_set_of_le (by omega)]
    rw [ht, ← hb] at h1
    have he : flipAt bs (8 * (bs.length - 1)) = bs := by
      rw [← List.take_append_drop (bs.length - 4) (flipAt bs (8 * (bs.length - 1))), ht, h1, List.take_append_drop]
    have h5 := bitAt_flip bs (8 * (bs.length - 1)) (8 * (bs.length - 1)) (by omega)
    rw [he] at h5
    simp at h5
theorem Own.flipN {w : World} {g : Nat} {bs : List UInt8} (h : Own w g (bvs bs)) {j : Nat} (i : Nat) {m : Int} (hm : m = 2 ^ i) (hj : j < bs.length) (hi : i < 8) : ∃ ob nb : Int, w.cell? ⟨g, j, none⟩ = some (.int .u8 ob) ∧ w.frozen? ⟨g, j, none⟩ = false ∧ bits .xor .u8 ob m = nb ∧ Own (w.setCell ⟨g, j, none⟩ (.int .u8 nb)) g (bvs (flipAt bs (8 * j + i))) := by
  subst hm
  refine ⟨_, _, ?_, h.frozen j, flip_byte bs[j] i hi, ?_⟩
  · have := h.cell j (by simpa using hj)
    rwa [bvs_get] at this
  · have h1 := h.set j (.int .u8 ((UInt8.ofNat (bs[j].toNat ^^^ 2 ^ i)).toNat : Int))
    have e : (bvs bs).set j (.int .u8 ((UInt8.ofNat (bs[j].toNat ^^^ 2 ^ i)).toNat : Int)) = bvs (flipAt bs (8 * j + i)) := by
      unfold flipAt bvs
      rw [List.map_set, List.getD_eq_getElem?_getD, show (8 * j + i) / 8 = j by omega, show (8 * j + i) % 8 = i by omega, List.getElem?_eq_getElem hj, Option.getD_some]
    rwa [e] at h1
section
variable {w0 w w' : World} {L : List (Nat × List Value)} {G : List Gs} {F : List (World → Prop)}
theorem Wd.put14 (h : Wd w0 w L G F) (i : Nat) {p : Nat} {c0 c1 c2 c3 c4 c5 c6 c7 c8 c9 c10 c11 c12 c13 : Value} (hi : L[i]? = some (p, [c0, c1, c2, c3, c4, c5, c6, c7, c8, c9, c10, c11, c12, c13])) (v0 v1 v2 v3 v4 v5 v6 v7 v8 v9 v10 v11 v12 v13 : Value) : Wd w0 ((((((((((((((w.setCell ⟨p, 0, none⟩ v0).setCell ⟨p, 1, none⟩ v1).setCell ⟨p, 2, none⟩ v2).setCell ⟨p, 3, none⟩ v3).setCell ⟨p, 4, none⟩ v4).setCell ⟨p, 5, none⟩ v5).setCell ⟨p, 6, none⟩ v6).setCell ⟨p, 7, none⟩ v7).setCell ⟨p, 8, none⟩ v8).setCell ⟨p, 9, none⟩ v9).setCell ⟨p, 10, none⟩ v10).setCell ⟨p, 11, none⟩ v11).setCell ⟨p, 12, none⟩ v12).setCell ⟨p, 13, none⟩ v13) (L.set i (p, [v0, v1, v2, v3, v4, v5, v6, v7, v8, v9, v10, v11, v12, v13])) G F :=
  h.call1 i hi (((((((((((((((h.own _ (List.mem_of_getElem? hi)).set 0 v0).set 1 v1).set 2 v2).set 3 v3).set 4 v4).set 5 v5).set 6 v6).set 7 v7).set 8 v8).set 9 v9).set 10 v10).set 11 v11).set 12 v12).set 13 v13) (((((((((((((((Only.refl [p] w).set (.inl (by simp)) v0).set (.inl (by simp)) v1).set (.inl (by simp)) v2).set (.inl (by simp)) v3).set (.inl (by simp)) v4).set (.inl (by simp)) v5).set (.inl (by simp)) v6).set (.inl (by simp)) v7).set (.inl (by simp)) v8).set (.inl (by simp)) v9).set (.inl (by simp)) v10).set (.inl (by simp)) v11).set (.inl (by simp)) v12).set (.inl (by simp)) v13)
theorem Wd.drop (h : Wd w0 w L [] F) : Wd w0 w [] [] F := h.sub (L' := []) (by simp) (fun f hf => hf)
end
end Go.Kn

/- The law package of chapter 9: the numbers that are taken one by one. -/
set_option linter.unusedVariables false
set_option linter.unusedSimpArgs false
namespace Go.Kn
open Go Go.RowKit
def nx (zs : List Int) (k : Nat) (m : Int) : Int := zs.getD k 0 % m
theorem nx_bd (zs : List Int) (k : Nat) (m : Int) (h : 0 < m) : 0 ≤ nx zs k m ∧ nx zs k m < m := ⟨Int.emod_nonneg _ (by omega), Int.emod_lt_of_pos _ h⟩
def mkBase (zs : List Int) (P : Nat) : List Int := (List.range P).map fun i => nx zs (10 + 2 * i) 2
def mkOver (zs : List Int) (P : Nat) : List Int := (List.range P).map fun i => nx zs (11 + 2 * i) 2
def mkSegs (zs : List Int) (P S : Nat) : List (Int × Int) := (List.range S).map fun i => (2 * nx zs (10 + 2 * P + 2 * i) 2, nx zs (11 + 2 * P + 2 * i) 2147483648)
@[simp] theorem mkBase_length (zs : List Int) (P : Nat) : (mkBase zs P).length = P := by simp [mkBase]
@[simp] theorem mkOver_length (zs : List Int) (P : Nat) : (mkOver zs P).length = P := by simp [mkOver]
@[simp] theorem mkSegs_length (zs : List Int) (P S : Nat) : (mkSegs zs P S).length = S := by simp [mkSegs]
theorem mkBase_succ (zs : List Int) (j : Nat) : mkBase zs (j + 1) = mkBase zs j ++ [nx zs (10 + 2 * j) 2] := by simp [mkBase, List.range_succ]
theorem mkOver_succ (zs : List Int) (j : Nat) : mkOver zs (j + 1) = mkOver zs j ++ [nx zs (11 + 2 * j) 2] := by simp [mkOver, List.range_succ]
theorem mkSegs_succ (zs : List Int) (P j : Nat) : mkSegs zs P (j + 1) = mkSegs zs P j ++ [(2 * nx zs (10 + 2 * P + 2 * j) 2, nx zs (11 + 2 * P + 2 * j) 2147483648)] := by simp [mkSegs, List.range_succ]
def setOpen (us : List (Int × Int)) (i : Nat) : List (Int × Int) := us.set i (1, (us.getD i (0, 0)).2)
def madeRg (b s l : Int) (zs : List Int) (op : Int) : Rg :=
  ⟨1 + nx zs 0 2147483647, 1 + nx zs 1 2147483647, 1 + nx zs 2 2, nx zs 3 2147483648, nx zs 4 2147483648, nx zs 5 (nx zs 4 2147483648 + 1), op % s, nx zs 6 l, 1 + nx zs 7 2147483647, nx zs 8 4294967296, 1 + nx zs 9 2147483647,
    mkBase zs (pgN b), mkOver zs (pgN b), setOpen (mkSegs zs (pgN b) s.toNat) (op % s).toNat⟩
theorem madeRg_may {b s l : Int} (hc : CfOk b s l) (zs : List Int) (op : Int) : rgMay b s l (madeRg b s l zs op) = true := by
  have hp := pgs_bounds hc
  have hPN : (pgN b : Int) = pgs b := by unfold pgN; omega
  unfold CfOk at hc
  have h0 := nx_bd zs 0 2147483647 (by omega)
  have h1 := nx_bd zs 1 2147483647 (by omega)
  have h2 := nx_bd zs 2 2 (by omega)
  have h3 := nx_bd zs 3 2147483648 (by omega)
  have h4 := nx_bd zs 4 2147483648 (by omega)
  have h5 := nx_bd zs 5 (nx zs 4 2147483648 + 1) (by omega)
  have h6 := nx_bd zs 6 l (by omega)
  have h7 := nx_bd zs 7 2147483647 (by omega)
  have h8 := nx_bd zs 8 4294967296 (by omega)
  have h9 := nx_bd zs 9 2147483647 (by omega)
  have h10 : 0 ≤ op % s ∧ op % s < s := ⟨Int.emod_nonneg _ (by omega), Int.emod_lt_of_pos _ (by omega)⟩
  have hsl : ∀ (xs : List Int), (∀ z ∈ xs, 0 ≤ z ∧ z < 2) → xs.all inSlot = true := fun xs h => by
    rw [List.all_eq_true]
    intro z hz
    have := h z hz
    unfold inSlot
    simp
    omega
  unfold rgMay
  simp only [Bool.and_eq_true, decide_eq_true_eq]
  refine ⟨?_, ?_, ?_, ?_, ?_, ?_⟩
  · unfold numOk madeRg
    simp only [Bool.and_eq_true, decide_eq_true_eq]
    omega
  · unfold posMay madeRg
    simp only [Bool.and_eq_true, decide_eq_true_eq]
    omega
  · unfold slotsOk madeRg
    simp only [Bool.and_eq_true, decide_eq_true_eq, mkBase_length]
    refine ⟨hPN, hsl _ fun z hz => ?_⟩
    obtain ⟨i, _, rfl⟩ := List.mem_map.1 hz
    exact nx_bd zs _ 2 (by omega)
  · unfold slotsOk madeRg
    simp only [Bool.and_eq_true, decide_eq_true_eq, mkOver_length]
    refine ⟨hPN, hsl _ fun z hz => ?_⟩
    obtain ⟨i, _, rfl⟩ := List.mem_map.1 hz
    exact nx_bd zs _ 2 (by omega)
  · simp only [madeRg, setOpen, List.length_set, mkSegs_length]
    omega
  · unfold segsOk
    rw [decide_eq_true_eq]
    intro i hi
    simp only [madeRg, setOpen, List.length_set, mkSegs_length] at hi ⊢
    have hu : ∀ j, j < s.toNat → ((mkSegs zs (pgN b) s.toNat).getD j (0, 0)).1 = 2 * nx zs (10 + 2 * pgN b + 2 * j) 2 ∧ ((mkSegs zs (pgN b) s.toNat).getD j (0, 0)).2 = nx zs (11 + 2 * pgN b + 2 * j) 2147483648 := fun j hj => by
      rw [List.getD_eq_getElem?_getD, List.getElem?_eq_getElem (by simpa using hj)]
      simp [mkSegs]
    have hi' := hu i hi
    have b1 := nx_bd zs (10 + 2 * pgN b + 2 * i) 2 (by omega)
    have b2 := nx_bd zs (11 + 2 * pgN b + 2 * i) 2147483648 (by omega)
    rw [List.getElem_set]
    unfold segOk
    split
    · rename_i he
      rw [he]
      simp only [Bool.and_eq_true, decide_eq_true_eq]
      refine ⟨by omega, by omega, ?_⟩
      have : ((i : Int) == op % s) = true := by simp; omega
      rw [this]
      rfl
    · rename_i he
      rw [List.getD_eq_getElem?_getD, List.getElem?_eq_getElem (by simpa using hi), Option.getD_some] at hi'
      simp only [Bool.and_eq_true, decide_eq_true_eq]
      refine ⟨by omega, by omega, ?_⟩
      have e1 : (((mkSegs zs (pgN b) s.toNat)[i]'(by simpa using hi)).1 == 1) = false := by
        rw [hi'.1]
        simp
        omega
      have e2 : ((i : Int) == op % s) = false := by simp; omega
      rw [e1, e2]
      rfl
end Go.Kn
namespace Go.Proofs.Ytkpagiokjihmhaa
open Go Go.RowKit Go.Kn

set_option maxRecDepth 100000 in
set_option maxHeartbeats 4000000 in
theorem next9_any (p k : Nat) (A : Option Addr) (n c : Nat) (zs : List Int) (m : Int) (w : World) (hb : Own w p [.slice A n c, .int .i64 (k : Int)]) (hi : Ins w A n c zs) (hk : k ≤ 1000) (hw : ∀ z ∈ zs, (Lit.int .i64 z).wf = true) (hm : 0 < m) (hm2 : m ≤ 4294967296) :
    Calls Try.prog 64 #[.pointer (some ⟨p, 0, none⟩), .int .i64 m] w fun e w' => e = .returned (.int .i64 (nx zs k m)) ∧ Own w' p [.slice A n c, .int .i64 ((k + 1 : Nat) : Int)] ∧ Only [p] w w' := by
  have hlen := hi.len
  rw [ivs_length] at hlen
  have c0 := hb.cell 0 (by simp)
  have c1 := hb.cell 1 (by simp)
  simp only [List.getElem_cons_zero, List.getElem_cons_succ] at c0 c1
  have f1 := hb.frozen 1
  have lp := hb.lt
  have hcm := hi.cm
  have hcl := hi.le
  unfold maxLen at hcm
  have HB := Lib.hid hb
  have HI := Lib.hid hi
  have HL := Lib.hid hlen
  have HW := Lib.hid hw
  clear hb hi hlen hw
  have hx1 := IntWalk.i64_in ((k : Int) + 1) (by omega)
  by_cases hlt : k < n
  · have hkz : k < zs.length := by rw [HL.out]; exact hlt
    obtain ⟨g, o, rfl, hc⟩ := HI.out.at_ (by omega)
    have ck := hc k (by simpa using hkz)
    rw [ivs_get] at ck
    have hz := HW.out zs[k] (List.getElem_mem _)
    have hnx : zs[k] % m = nx zs k m := by unfold nx; rw [List.getD_eq_getElem?_getD, List.getElem?_eq_getElem hkz]; rfl
    have HNX := Lib.hid hnx
    have HZ := Lib.hid hz
    clear hc hz hnx
    generalize zs[k] = z at *
    have hd : decide ((k : Int) < (n : Int)) = true := by simpa using hlt
    have hge : 0 ≤ (k : Int) := by omega
    have hlt2 : (k : Int) < (n : Int) := by omega
    have htn : ((k : Int)).toNat = k := by omega
    go_enter Try.func64, Try.ntmps64
    go_wp2_with fail
    go_quiet (fail)
    go_wp2_with fail
    go_quiet (fail)
    go_wp2_with fail
    refine (round_any _ _ _ HZ.out hm (by omega)).mono ?_
    rintro e w' ⟨rfl, rfl⟩
    go_wp2
    go_ret
    have e1 : ((k + 1 : Nat) : Int) = (k : Int) + 1 := by omega
    rw [e1]
    exact ⟨by rw [← HNX.out]; rfl, (HB.out.drewN _).set 1 _, ((Only.refl _ _).drewN _).set (by simp) _⟩
  · have hnx : 0 % m = nx zs k m := by unfold nx; rw [List.getD_eq_getElem?_getD, List.getElem?_eq_none (by rw [HL.out]; omega)]; rfl
    have HNX := Lib.hid hnx
    clear hnx
    have hd : decide ((k : Int) < (n : Int)) = false := by simpa using hlt
    go_enter Try.func64, Try.ntmps64
    go_wp2_with fail
    go_quiet (fail)
    go_wp2_with fail
    refine (round_any _ _ _ (by decide) hm (by omega)).mono ?_
    rintro e w' ⟨rfl, rfl⟩
    go_wp2
    go_ret
    have e1 : ((k + 1 : Nat) : Int) = (k : Int) + 1 := by omega
    rw [e1]
    exact ⟨by rw [← HNX.out]; rfl, (HB.out.drewN _).set 1 _, ((Only.refl _ _).drewN _).set (by simp) _⟩
end Go.Proofs.Ytkpagiokjihmhaa

/- The law package of chapter 9: made. Printed by mklaw9.py. -/
set_option linter.unusedVariables false
set_option linter.unusedSimpArgs false
namespace Go.Kn
open Go Go.RowKit
def Made9 (w : World) (r : Rg) (e : Ending) (w' : World) : Prop :=
  ∃ B O S : Sl, e = .returned (.agg (r.cells B O S).toArray) ∧ RgAt w' r B O S ∧ ((∀ a, B.1 = some a → w.heap.size ≤ a.block) ∧ (∀ a, O.1 = some a → w.heap.size ≤ a.block) ∧ (∀ a, S.1 = some a → w.heap.size ≤ a.block)) ∧ Only [] w w'
theorem ivs_snoc (xs : List Int) (x : Int) : ivs (xs ++ [x]) = ivs xs ++ [.int .i64 x] := by simp [ivs]
theorem usV_snoc1 (l : List (Int × Int)) (x y : Int) : usV l ++ [.int .i64 x, .int .i64 y] = usV (l ++ [(x, y)]) := by simp [usV]
@[simp] theorem usV_len (l : List (Int × Int)) : (usV l).length = 2 * l.length := by
  induction l with
  | nil => rfl
  | cons a r ih => simp only [usV, List.flatMap_cons, List.length_append, List.length_cons, List.length_nil] at *; omega
theorem usV_set : ∀ (l : List (Int × Int)) (i : Nat) (x : Int), (usV l).set (i * 2) (.int .i64 x) = usV (l.set i (x, (l.getD i (0, 0)).2))
  | [], i, x => by simp [usV]
  | (a, b) :: r, 0, x => by simp [usV]
  | (a, b) :: r, i + 1, x => by
    have h := usV_set r i x
    have e : usV ((a, b) :: r) = .int .i64 a :: .int .i64 b :: usV r := by simp [usV]
    have e2 : usV (((a, b) :: r).set (i + 1) (x, (((a, b) :: r).getD (i + 1) (0, 0)).2)) = .int .i64 a :: .int .i64 b :: usV (r.set i (x, (r.getD i (0, 0)).2)) := by simp [usV]
    rw [e, e2, show (i + 1) * 2 = i * 2 + 1 + 1 by omega, List.set_cons_succ, List.set_cons_succ, h]
theorem ownsRow_uss {w : World} {base e n c : Nat} {A : Option Addr} {l : List (Int × Int)} (h : w.ownsRow base e 2 (.slice A n c) n (usV l)) (hB : base ≤ w.heap.size) (hl : l.length = n) : Uss w A n c l ∧ (∀ a, A = some a → base ≤ a.block) := by
  obtain ⟨A', c', e1, hu, hf⟩ := GathN.uss (l := l) ⟨h, hB⟩ hl
  injection e1 with e1 _ e3
  subst e1 e3
  exact ⟨hu, fun a ha => (hf a.block (by subst ha; rfl)).1⟩
theorem ownsRow_row1 {w : World} {base e n c : Nat} {A : Option Addr} {xs : List Value} (h : w.ownsRow base e 1 (.slice A n c) n xs) (hB : base ≤ w.heap.size) : Row1 w A n c xs ∧ (∀ a, A = some a → base ≤ a.block) := by
  have hn : xs.length = n := by have := h.1; omega
  subst hn
  obtain ⟨A', c', e1, hr, hf⟩ := Gath.form ⟨h, hB⟩
  injection e1 with e1 _ e3
  subst e1 e3
  exact ⟨hr, fun a ha => (hf a ha).1⟩
theorem ownsRow_own {w : World} {base e sz n c : Nat} {A : Option Addr} {xs : List Value} (h : w.ownsRow base e sz (.slice A n c) n xs) (hn : 0 < n) : ∃ g, A = some ⟨g, 0, none⟩ ∧ Own w g xs ∧ n ≤ c ∧ c ≤ maxLen ∧ base ≤ g := by
  obtain ⟨h1, h2⟩ := h
  rcases h2 with ⟨h3, h4⟩ | ⟨g, cap, cur, h3, hb', hh, hn, hm, hs, ht⟩
  · omega
  · injection h3 with e1 e2 e3
    subst e1 e3
    exact ⟨g, rfl, ⟨cur, e, hh, by rw [h1]; exact ht⟩, hn, hm, hb'⟩
end Go.Kn
namespace Go.Proofs.Ytkpagiokjihmhaa
open Go Go.RowKit Go.Kn

set_option maxRecDepth 100000 in
set_option maxHeartbeats 16000000 in
theorem made9_any (z0 z1 z2 op : Int) (A : Option Addr) (n c : Nat) (zs : List Int) (w : World) (h0 : (Lit.int .i64 z0).wf = true) (h1 : (Lit.int .i64 z1).wf = true) (h2 : (Lit.int .i64 z2).wf = true) (hop : (Lit.int .i64 op).wf = true) (hi : Ins w A n c zs) (hw : ∀ z ∈ zs, (Lit.int .i64 z).wf = true) :
    Calls Try.prog 18 #[.agg #[.int .i64 z0, .int .i64 z1, .int .i64 z2], .slice A n c, .int .i64 op] w (Made9 w (madeRg (1 + z0 % 64) (8 + z1 % 25) (24 + z2 % 41) zs op)) := by
  have hres : Try.f18.results = #[.cell 6 52] := by kernel_rfl
  have HRES := Lib.hid hres
  obtain ⟨i0, hi0, hz0, hz1, hz2⟩ := info_parts Try.infoUse
  obtain ⟨i1, hi1, hy0, hy1, hy2⟩ := info_parts Try.infoInt
  have HI := Lib.hid hi
  have HWF := Lib.hid hw
  have HOP := Lib.hid hop
  have hcf := cf_ok z0 z1 z2
  have hl9 : 24 + z2 % 41 ≤ 64 ∧ 24 ≤ 24 + z2 % 41 := by omega
  obtain ⟨b, hb⟩ : ∃ b, 1 + z0 % 64 = b := ⟨_, rfl⟩
  obtain ⟨s, hs⟩ : ∃ b, 8 + z1 % 25 = b := ⟨_, rfl⟩
  obtain ⟨l, hl⟩ : ∃ b, 24 + z2 % 41 = b := ⟨_, rfl⟩
  rw [hb, hs, hl]
  rw [hb, hs, hl] at hcf
  rw [hl] at hl9
  have HC : Hid (∀ W : World, Calls Try.prog 62 #[.agg #[.int .i64 z0, .int .i64 z1, .int .i64 z2], .bool false] W fun e w' => e = .returned (.agg #[.int .i64 b, .int .i64 s, .int .i64 l]) ∧ Only [] W w') := Lib.hid fun W => by
    have h := alike_config_any z0 z1 z2 W h0 h1 h2
    rw [hb, hs, hl] at h
    exact h
  clear hb hs hl h0 h1 h2 hop hi hw hres
  obtain ⟨sN, rfl⟩ : ∃ sN : Nat, s = (sN : Int) := ⟨s.toNat, by unfold CfOk at hcf; omega⟩
  have hsN : sN ≤ 32 ∧ 8 ≤ sN := by unfold CfOk at hcf; omega
  have hpg := pgs_bounds hcf
  obtain ⟨P, hP⟩ : ∃ P, pgN b = P := ⟨_, rfl⟩
  have hPN : pgs b = (P : Int) := by rw [← hP]; unfold pgN; omega
  have hP5 : P ≤ 5 := by omega
  have HPN := Lib.hid hPN
  have HCF := Lib.hid hcf
  obtain ⟨x0, hx0⟩ : ∃ x, nx zs 0 2147483647 = x := ⟨_, rfl⟩
  have b0 := nx_bd zs 0 2147483647 (by omega)
  rw [hx0] at b0
  obtain ⟨x1, hx1⟩ : ∃ x, nx zs 1 2147483647 = x := ⟨_, rfl⟩
  have b1 := nx_bd zs 1 2147483647 (by omega)
  rw [hx1] at b1
  obtain ⟨x2, hx2⟩ : ∃ x, nx zs 2 2 = x := ⟨_, rfl⟩
  have b2 := nx_bd zs 2 2 (by omega)
  rw [hx2] at b2
  obtain ⟨x3, hx3⟩ : ∃ x, nx zs 3 2147483648 = x := ⟨_, rfl⟩
  have b3 := nx_bd zs 3 2147483648 (by omega)
  rw [hx3] at b3
  obtain ⟨x4, hx4⟩ : ∃ x, nx zs 4 2147483648 = x := ⟨_, rfl⟩
  have b4 := nx_bd zs 4 2147483648 (by omega)
  rw [hx4] at b4
  obtain ⟨x5, hx5⟩ : ∃ x, nx zs 5 (x4 + 1) = x := ⟨_, rfl⟩
  have b5 := nx_bd zs 5 (x4 + 1) (by omega)
  rw [hx5] at b5
  obtain ⟨x6, hx6⟩ : ∃ x, nx zs 6 l = x := ⟨_, rfl⟩
  have b6 := nx_bd zs 6 l (by omega)
  rw [hx6] at b6
  obtain ⟨x7, hx7⟩ : ∃ x, nx zs 7 2147483647 = x := ⟨_, rfl⟩
  have b7 := nx_bd zs 7 2147483647 (by omega)
  rw [hx7] at b7
  obtain ⟨x8, hx8⟩ : ∃ x, nx zs 8 4294967296 = x := ⟨_, rfl⟩
  have b8 := nx_bd zs 8 4294967296 (by omega)
  rw [hx8] at b8
  obtain ⟨x9, hx9⟩ : ∃ x, nx zs 9 2147483647 = x := ⟨_, rfl⟩
  have b9 := nx_bd zs 9 2147483647 (by omega)
  rw [hx9] at b9
  obtain ⟨ps, hps⟩ : ∃ x, op % (sN : Int) = x := ⟨_, rfl⟩
  have bps : 0 ≤ ps ∧ ps < (sN : Int) := by rw [← hps]; exact ⟨Int.emod_nonneg _ (by omega), Int.emod_lt_of_pos _ (by omega)⟩
  obtain ⟨pN, rfl⟩ : ∃ pN : Nat, ps = (pN : Int) := ⟨ps.toNat, by omega⟩
  have hmr : madeRg b (sN : Int) l zs op = ⟨1 + x0, 1 + x1, 1 + x2, x3, x4, x5, (pN : Int), x6, 1 + x7, x8, 1 + x9, mkBase zs P, mkOver zs P, setOpen (mkSegs zs P sN) pN⟩ := by
    unfold madeRg
    rw [hx0, hx1, hx2, hx3, hx4, hx5, hx6, hx7, hx8, hx9, hps, hP, Int.toNat_natCast, Int.toNat_natCast]
  rw [hmr]
  have HX0 := Lib.hid hx0
  have HX1 := Lib.hid hx1
  have HX2 := Lib.hid hx2
  have HX3 := Lib.hid hx3
  have HX4 := Lib.hid hx4
  have HX5 := Lib.hid hx5
  have HX6 := Lib.hid hx6
  have HX7 := Lib.hid hx7
  have HX8 := Lib.hid hx8
  have HX9 := Lib.hid hx9
  have HPS := Lib.hid hps
  clear hmr hps hP hPN hpg hcf hx0 hx1 hx2 hx3 hx4 hx5 hx6 hx7 hx8 hx9
  have hD0 := ((Wd.start w).newB #[.int .i64 z0, .int .i64 z1, .int .i64 z2] 42 rfl).newB #[.int .i64 0, .int .i64 0, .int .i64 0, .int .i64 0, .int .i64 0, .int .i64 0, .int .i64 0, .int .i64 0, .int .i64 0, .int .i64 0, .int .i64 0, .slice none 0 0, .slice none 0 0, .slice none 0 0] 52 (b := w.heap.size + 1) (by simp)
  replace hD0 := hD0.sub (L' := [(w.heap.size + 1, [.int .i64 0, .int .i64 0, .int .i64 0, .int .i64 0, .int .i64 0, .int .i64 0, .int .i64 0, .int .i64 0, .int .i64 0, .int .i64 0, .int .i64 0, .slice none 0 0, .slice none 0 0, .slice none 0 0])]) (F' := []) (by simp) (by simp)
  go_enter Try.func18, Try.ntmps18
  go_wp2_with fail
  generalize hwa : (w.alloc (.cells #[.int .i64 z0, .int .i64 z1, .int .i64 z2] 42)).alloc (.cells #[.int .i64 0, .int .i64 0, .int .i64 0, .int .i64 0, .int .i64 0, .int .i64 0, .int .i64 0, .int .i64 0, .int .i64 0, .int .i64 0, .int .i64 0, .slice none 0 0, .slice none 0 0, .slice none 0 0] 52) = w0 at *
  clear hwa
  generalize w.heap.size + 1 = z at *
  refine (HC.out _).mono ?_
  rintro en w1 ⟨rfl, hO1⟩
  have hD1 := ((hD0.keep0 hO1).newB #[.int .i64 b, .int .i64 (sN : Int), .int .i64 l] 44 (b := w1.heap.size) rfl).newB #[.slice A n c, .int .i64 0] 117 (b := w1.heap.size + 1) (by simp)
  have HD1 : Hid _ := Lib.hid hD1
  clear hD0 hD1 hO1
  go_wp2_with fail
  generalize hwa : (w1.alloc (.cells #[.int .i64 b, .int .i64 (sN : Int), .int .i64 l] 44)).alloc (.cells #[.slice A n c, .int .i64 0] 117) = v0 at *
  clear hwa
  generalize w1.heap.size = cq at *
  generalize cq + 1 = p at *
  refine (next9_any p 0 A n c zs 2147483647 _ (by exact (HD1.out.boxi 0 rfl)) (HI.out.keep0 HD1.out.only) (by omega) HWF.out (by decide) (by decide)).mono ?_
  rintro en v1 ⟨rfl, hb, hO⟩
  rw [HX0.out]
  have HD2 : Hid (Wd w v1 [(p, [.slice A n c, .int .i64 (((0 + 1 : Nat)) : Int)]), (cq, [.int .i64 b, .int .i64 (sN : Int), .int .i64 l]), (z, [.int .i64 0, .int .i64 0, .int .i64 0, .int .i64 0, .int .i64 0, .int .i64 0, .int .i64 0, .int .i64 0, .int .i64 0, .int .i64 0, .int .i64 0, .slice none 0 0, .slice none 0 0, .slice none 0 0])] [] []) := Lib.hid (HD1.out.call1 0 rfl hb hO)
  clear HD1
  clear hb hO
  go_wp2_with fail
  refine (next9_any p 1 A n c zs 2147483647 _ (by exact (HD2.out.boxi 0 rfl)) (HI.out.keep0 HD2.out.only) (by omega) HWF.out (by decide) (by decide)).mono ?_
  rintro en v2 ⟨rfl, hb, hO⟩
  rw [HX1.out]
  have HD3 : Hid (Wd w v2 [(p, [.slice A n c, .int .i64 (((1 + 1 : Nat)) : Int)]), (cq, [.int .i64 b, .int .i64 (sN : Int), .int .i64 l]), (z, [.int .i64 0, .int .i64 0, .int .i64 0, .int .i64 0, .int .i64 0, .int .i64 0, .int .i64 0, .int .i64 0, .int .i64 0, .int .i64 0, .int .i64 0, .slice none 0 0, .slice none 0 0, .slice none 0 0])] [] []) := Lib.hid (HD2.out.call1 0 rfl hb hO)
  clear HD2
  clear hb hO
  go_wp2_with fail
  refine (next9_any p 2 A n c zs 2 _ (by exact (HD3.out.boxi 0 rfl)) (HI.out.keep0 HD3.out.only) (by omega) HWF.out (by decide) (by decide)).mono ?_
  rintro en v3 ⟨rfl, hb, hO⟩
  rw [HX2.out]
  have HD4 : Hid (Wd w v3 [(p, [.slice A n c, .int .i64 (((2 + 1 : Nat)) : Int)]), (cq, [.int .i64 b, .int .i64 (sN : Int), .int .i64 l]), (z, [.int .i64 0, .int .i64 0, .int .i64 0, .int .i64 0, .int .i64 0, .int .i64 0, .int .i64 0, .int .i64 0, .int .i64 0, .int .i64 0, .int .i64 0, .slice none 0 0, .slice none 0 0, .slice none 0 0])] [] []) := Lib.hid (HD3.out.call1 0 rfl hb hO)
  clear HD3
  clear hb hO
  go_wp2_with fail
  refine (next9_any p 3 A n c zs 2147483648 _ (by exact (HD4.out.boxi 0 rfl)) (HI.out.keep0 HD4.out.only) (by omega) HWF.out (by decide) (by decide)).mono ?_
  rintro en v4 ⟨rfl, hb, hO⟩
  rw [HX3.out]
  have HD5 : Hid (Wd w v4 [(p, [.slice A n c, .int .i64 (((3 + 1 : Nat)) : Int)]), (cq, [.int .i64 b, .int .i64 (sN : Int), .int .i64 l]), (z, [.int .i64 0, .int .i64 0, .int .i64 0, .int .i64 0, .int .i64 0, .int .i64 0, .int .i64 0, .int .i64 0, .int .i64 0, .int .i64 0, .int .i64 0, .slice none 0 0, .slice none 0 0, .slice none 0 0])] [] []) := Lib.hid (HD4.out.call1 0 rfl hb hO)
  clear HD4
  clear hb hO
  go_wp2_with fail
  refine (next9_any p 4 A n c zs 2147483648 _ (by exact (HD5.out.boxi 0 rfl)) (HI.out.keep0 HD5.out.only) (by omega) HWF.out (by decide) (by decide)).mono ?_
  rintro en v5 ⟨rfl, hb, hO⟩
  rw [HX4.out]
  have HD6 : Hid (Wd w v5 [(p, [.slice A n c, .int .i64 (((4 + 1 : Nat)) : Int)]), (cq, [.int .i64 b, .int .i64 (sN : Int), .int .i64 l]), (z, [.int .i64 0, .int .i64 0, .int .i64 0, .int .i64 0, .int .i64 0, .int .i64 0, .int .i64 0, .int .i64 0, .int .i64 0, .int .i64 0, .int .i64 0, .slice none 0 0, .slice none 0 0, .slice none 0 0])] [] []) := Lib.hid (HD5.out.call1 0 rfl hb hO)
  clear HD5
  clear hb hO
  go_wp2_with fail
  have HD7 : Hid (Wd w (World.alloc v5 (.cells #[.int .i64 (1 + x0), .int .i64 (1 + x1), .int .i64 (1 + x2), .int .i64 x3, .int .i64 x4, .int .i64 0, .int .i64 0, .int .i64 0, .int .i64 0, .int .i64 0, .int .i64 0, .slice none 0 0, .slice none 0 0, .slice none 0 0] 52)) [(v5.heap.size, [.int .i64 (1 + x0), .int .i64 (1 + x1), .int .i64 (1 + x2), .int .i64 x3, .int .i64 x4, .int .i64 0, .int .i64 0, .int .i64 0, .int .i64 0, .int .i64 0, .int .i64 0, .slice none 0 0, .slice none 0 0, .slice none 0 0]), (p, [.slice A n c, .int .i64 (((4 + 1 : Nat)) : Int)]), (cq, [.int .i64 b, .int .i64 (sN : Int), .int .i64 l]), (z, [.int .i64 0, .int .i64 0, .int .i64 0, .int .i64 0, .int .i64 0, .int .i64 0, .int .i64 0, .int .i64 0, .int .i64 0, .int .i64 0, .int .i64 0, .slice none 0 0, .slice none 0 0, .slice none 0 0])] [] []) := Lib.hid (HD6.out.newB #[.int .i64 (1 + x0), .int .i64 (1 + x1), .int .i64 (1 + x2), .int .i64 x3, .int .i64 x4, .int .i64 0, .int .i64 0, .int .i64 0, .int .i64 0, .int .i64 0, .int .i64 0, .slice none 0 0, .slice none 0 0, .slice none 0 0] 52 rfl)
  clear HD6
  generalize hwa : v5.alloc (.cells #[.int .i64 (1 + x0), .int .i64 (1 + x1), .int .i64 (1 + x2), .int .i64 x3, .int .i64 x4, .int .i64 0, .int .i64 0, .int .i64 0, .int .i64 0, .int .i64 0, .int .i64 0, .slice none 0 0, .slice none 0 0, .slice none 0 0] 52) = v6 at *
  clear hwa
  generalize v5.heap.size = f at *
  refine (next9_any p 5 A n c zs (x4 + 1) _ (by exact (HD7.out.boxi 1 rfl)) (HI.out.keep0 HD7.out.only) (by omega) HWF.out (by omega) (by omega)).mono ?_
  rintro en v7 ⟨rfl, hb, hO⟩
  rw [HX5.out]
  have HD8 : Hid (Wd w v7 [(f, [.int .i64 (1 + x0), .int .i64 (1 + x1), .int .i64 (1 + x2), .int .i64 x3, .int .i64 x4, .int .i64 0, .int .i64 0, .int .i64 0, .int .i64 0, .int .i64 0, .int .i64 0, .slice none 0 0, .slice none 0 0, .slice none 0 0]), (p, [.slice A n c, .int .i64 (((5 + 1 : Nat)) : Int)]), (cq, [.int .i64 b, .int .i64 (sN : Int), .int .i64 l]), (z, [.int .i64 0, .int .i64 0, .int .i64 0, .int .i64 0, .int .i64 0, .int .i64 0, .int .i64 0, .int .i64 0, .int .i64 0, .int .i64 0, .int .i64 0, .slice none 0 0, .slice none 0 0, .slice none 0 0])] [] []) := Lib.hid (HD7.out.call1 1 rfl hb hO)
  clear HD7
  clear hb hO
  have y5 : World.cell? v7 ⟨f, 5, none⟩ = some (.int .i64 0) := (HD8.out.boxi 0 rfl).cell 5 (by simp)
  have zy5 := (HD8.out.boxi 0 rfl).frozen 5
  have ly := (HD8.out.boxi 0 rfl).lt
  go_wp2_with fail
  have HD9 : Hid (Wd w (World.setCell v7 ⟨f, 5, none⟩ (.int .i64 x5)) [(f, [.int .i64 (1 + x0), .int .i64 (1 + x1), .int .i64 (1 + x2), .int .i64 x3, .int .i64 x4, .int .i64 x5, .int .i64 0, .int .i64 0, .int .i64 0, .int .i64 0, .int .i64 0, .slice none 0 0, .slice none 0 0, .slice none 0 0]), (p, [.slice A n c, .int .i64 (((5 + 1 : Nat)) : Int)]), (cq, [.int .i64 b, .int .i64 (sN : Int), .int .i64 l]), (z, [.int .i64 0, .int .i64 0, .int .i64 0, .int .i64 0, .int .i64 0, .int .i64 0, .int .i64 0, .int .i64 0, .int .i64 0, .int .i64 0, .int .i64 0, .slice none 0 0, .slice none 0 0, .slice none 0 0])] [] []) := Lib.hid (HD8.out.put 0 rfl 5 (.int .i64 x5))
  clear HD8
  clear y5 zy5 ly
  have HD10 : Hid (Wd w ((World.setCell v7 ⟨f, 5, none⟩ (.int .i64 x5))).drew [(f, [.int .i64 (1 + x0), .int .i64 (1 + x1), .int .i64 (1 + x2), .int .i64 x3, .int .i64 x4, .int .i64 x5, .int .i64 0, .int .i64 0, .int .i64 0, .int .i64 0, .int .i64 0, .slice none 0 0, .slice none 0 0, .slice none 0 0]), (p, [.slice A n c, .int .i64 (((5 + 1 : Nat)) : Int)]), (cq, [.int .i64 b, .int .i64 (sN : Int), .int .i64 l]), (z, [.int .i64 0, .int .i64 0, .int .i64 0, .int .i64 0, .int .i64 0, .int .i64 0, .int .i64 0, .int .i64 0, .int .i64 0, .int .i64 0, .int .i64 0, .slice none 0 0, .slice none 0 0, .slice none 0 0])] [] []) := Lib.hid (HD9.out.drew)
  clear HD9
  have hw7 := IntWalk.i64_in (1 + x7) (by omega)
  have hw9 := IntWalk.i64_in (1 + x9) (by omega)
  refine wp_region_held_drew (S := (fun w' => w'.cell? ⟨cq, 1, none⟩ = some (.int .i64 (sN : Int)) ∧ w'.cell? ⟨cq, 2, none⟩ = some (.int .i64 l))) (by kernel_rfl) ⟨(HD10.out.boxi 2 rfl).cell 1 (by simp), (HD10.out.boxi 2 rfl).cell 2 (by simp)⟩ (fun hSw0 => ?_)
  refine wpAnyH_take (i := 0) (oi := ⟨some 37, _, _, _, _, _⟩) (v := ?_) rfl (by kernel_rfl) (by kernel_rfl) (by kernel_rfl) (fun _ _ _ h => h) (Or.inl ⟨by rfl, ?_⟩) (by assumption) ?_
  rotate_left
  · intro w hSw
    obtain ⟨hS1, hS2⟩ := hSw
    go_simp
    all_goals (try with_reducible rfl)
  (try simp only [Act.put, List.setIfInBounds_toArray, List.set_cons_zero, List.set_cons_succ])
  refine wpAnyH_take (i := 1) (oi := ⟨some 38, _, _, _, _, _⟩) (v := ?_) rfl (by kernel_rfl) (by kernel_rfl) (by kernel_rfl) (fun _ _ _ h => h) (Or.inl ⟨by rfl, ?_⟩) (by assumption) ?_
  rotate_left
  · intro w hSw
    obtain ⟨hS1, hS2⟩ := hSw
    go_simp
    all_goals (try with_reducible rfl)
  (try simp only [Act.put, List.setIfInBounds_toArray, List.set_cons_zero, List.set_cons_succ])
  refine wpAnyH_take (i := 2) (oi := ⟨some 39, _, _, _, _, _⟩) (v := ?_) rfl (by kernel_rfl) (by kernel_rfl) (by kernel_rfl) (fun _ _ _ h => h) (Or.inl ⟨by rfl, ?_⟩) (by assumption) ?_
  rotate_left
  · intro w hSw
    obtain ⟨hS1, hS2⟩ := hSw
    go_simp
    all_goals (try with_reducible rfl)
  (try simp only [Act.put, List.setIfInBounds_toArray, List.set_cons_zero, List.set_cons_succ])
  refine wpAnyH_take (i := 4) (oi := ⟨some 41, _, _, _, _, _⟩) (v := ?_) rfl (by kernel_rfl) (by kernel_rfl) (by kernel_rfl) (fun _ _ _ h => h) (Or.inl ⟨by rfl, ?_⟩) (by assumption) ?_
  rotate_left
  · intro w hSw
    obtain ⟨hS1, hS2⟩ := hSw
    go_simp
    all_goals (try with_reducible rfl)
  (try simp only [Act.put, List.setIfInBounds_toArray, List.set_cons_zero, List.set_cons_succ])
  refine wpAnyH_take (i := 5) (oi := ⟨some 42, _, _, _, _, _⟩) (v := ?_) rfl (by kernel_rfl) (by kernel_rfl) (by kernel_rfl) (fun _ _ _ h => h) (Or.inl ⟨by rfl, ?_⟩) (by assumption) ?_
  rotate_left
  · intro w hSw
    obtain ⟨hS1, hS2⟩ := hSw
    go_simp
    all_goals (try with_reducible rfl)
  (try simp only [Act.put, List.setIfInBounds_toArray, List.set_cons_zero, List.set_cons_succ])
  refine wpAnyH_take (i := 6) (oi := ⟨some 43, _, _, _, _, _⟩) (v := ?_) rfl (by kernel_rfl) (by kernel_rfl) (by kernel_rfl) (fun _ _ _ h => h) (Or.inl ⟨by rfl, ?_⟩) (by assumption) ?_
  rotate_left
  · intro w hSw
    obtain ⟨hS1, hS2⟩ := hSw
    go_simp
    all_goals (try with_reducible rfl)
  (try simp only [Act.put, List.setIfInBounds_toArray, List.set_cons_zero, List.set_cons_succ])
  refine wpAnyH_take (i := 8) (oi := ⟨some 45, _, _, _, _, _⟩) (v := ?_) rfl (by kernel_rfl) (by kernel_rfl) (by kernel_rfl) (fun _ _ _ h => h) (Or.inl ⟨by rfl, ?_⟩) (by assumption) ?_
  rotate_left
  · intro w hSw
    obtain ⟨hS1, hS2⟩ := hSw
    go_simp
    all_goals (try with_reducible rfl)
  (try simp only [Act.put, List.setIfInBounds_toArray, List.set_cons_zero, List.set_cons_succ])
  refine wpAnyH_take (i := 11) (oi := ⟨some 48, _, _, _, _, _⟩) (v := ?_) rfl (by kernel_rfl) (by kernel_rfl) (by kernel_rfl) (fun _ _ _ h => h) (Or.inl ⟨by rfl, ?_⟩) (by assumption) ?_
  rotate_left
  · intro w hSw
    obtain ⟨hS1, hS2⟩ := hSw
    go_simp
    all_goals (try with_reducible rfl)
  (try simp only [Act.put, List.setIfInBounds_toArray, List.set_cons_zero, List.set_cons_succ])
  refine wpAnyH_take (i := 13) (oi := ⟨some 50, _, _, _, _, _⟩) (v := ?_) rfl (by kernel_rfl) (by kernel_rfl) (by kernel_rfl) (fun _ _ _ h => h) (Or.inl ⟨by rfl, ?_⟩) (by assumption) ?_
  rotate_left
  · intro w hSw
    obtain ⟨hS1, hS2⟩ := hSw
    go_simp
    all_goals (try with_reducible rfl)
  (try simp only [Act.put, List.setIfInBounds_toArray, List.set_cons_zero, List.set_cons_succ])
  refine wpAnyH_ready (rs := [3]) (by kernel_rfl) (by simp) ?_
  refine AllReadyH.cons (o := ⟨some 40, _, _, _, _, _⟩) rfl (fun K hK => ?_) AllReadyH.nil
  go_simp
  refine (round_any _ _ _ HOP.out (by omega) (by omega)).mono ?_
  rintro en v8 ⟨rfl, rfl⟩
  rw [HPS.out]
  refine hK.out _ _ ⟨(HD10.out.boxi 2 rfl).cell 1 (by simp), (HD10.out.boxi 2 rfl).cell 2 (by simp)⟩ (fun hSn => ?_)
  clear hK K hSw0
  have hSw0 := hSn
  clear hSn
  (try simp only [Act.put, List.setIfInBounds_toArray, List.set_cons_zero, List.set_cons_succ])
  refine wpAnyH_ready (rs := [7]) (by kernel_rfl) (by simp) ?_
  refine AllReadyH.cons (o := ⟨some 44, _, _, _, _, _⟩) rfl (fun K hK => ?_) AllReadyH.nil
  go_simp
  refine (next9_any p 6 A n c zs l _ (by exact (HD10.out.boxi 1 rfl)) (HI.out.keep0 HD10.out.only) (by omega) HWF.out (by omega) (by omega)).mono ?_
  rintro en v9 ⟨rfl, hb, hO⟩
  rw [HX6.out]
  have HD11 : Hid (Wd w v9 [(f, [.int .i64 (1 + x0), .int .i64 (1 + x1), .int .i64 (1 + x2), .int .i64 x3, .int .i64 x4, .int .i64 x5, .int .i64 0, .int .i64 0, .int .i64 0, .int .i64 0, .int .i64 0, .slice none 0 0, .slice none 0 0, .slice none 0 0]), (p, [.slice A n c, .int .i64 (((6 + 1 : Nat)) : Int)]), (cq, [.int .i64 b, .int .i64 (sN : Int), .int .i64 l]), (z, [.int .i64 0, .int .i64 0, .int .i64 0, .int .i64 0, .int .i64 0, .int .i64 0, .int .i64 0, .int .i64 0, .int .i64 0, .int .i64 0, .int .i64 0, .slice none 0 0, .slice none 0 0, .slice none 0 0])] [] []) := Lib.hid (HD10.out.call1 1 rfl hb hO)
  clear HD10
  clear hb hO
  refine hK.out _ _ ⟨(HD11.out.boxi 2 rfl).cell 1 (by simp), (HD11.out.boxi 2 rfl).cell 2 (by simp)⟩ (fun hSn => ?_)
  clear hK K hSw0
  have hSw0 := hSn
  clear hSn
  (try simp only [Act.put, List.setIfInBounds_toArray, List.set_cons_zero, List.set_cons_succ])
  refine wpAnyH_ready (rs := [9]) (by kernel_rfl) (by simp) ?_
  refine AllReadyH.cons (o := ⟨some 46, _, _, _, _, _⟩) rfl (fun K hK => ?_) AllReadyH.nil
  go_simp
  refine (next9_any p 7 A n c zs 2147483647 _ (by exact (HD11.out.boxi 1 rfl)) (HI.out.keep0 HD11.out.only) (by omega) HWF.out (by omega) (by omega)).mono ?_
  rintro en v10 ⟨rfl, hb, hO⟩
  rw [HX7.out]
  have HD12 : Hid (Wd w v10 [(f, [.int .i64 (1 + x0), .int .i64 (1 + x1), .int .i64 (1 + x2), .int .i64 x3, .int .i64 x4, .int .i64 x5, .int .i64 0, .int .i64 0, .int .i64 0, .int .i64 0, .int .i64 0, .slice none 0 0, .slice none 0 0, .slice none 0 0]), (p, [.slice A n c, .int .i64 (((7 + 1 : Nat)) : Int)]), (cq, [.int .i64 b, .int .i64 (sN : Int), .int .i64 l]), (z, [.int .i64 0, .int .i64 0, .int .i64 0, .int .i64 0, .int .i64 0, .int .i64 0, .int .i64 0, .int .i64 0, .int .i64 0, .int .i64 0, .int .i64 0, .slice none 0 0, .slice none 0 0, .slice none 0 0])] [] []) := Lib.hid (HD11.out.call1 1 rfl hb hO)
  clear HD11
  clear hb hO
  refine hK.out _ _ ⟨(HD12.out.boxi 2 rfl).cell 1 (by simp), (HD12.out.boxi 2 rfl).cell 2 (by simp)⟩ (fun hSn => ?_)
  clear hK K hSw0
  have hSw0 := hSn
  clear hSn
  (try simp only [Act.put, List.setIfInBounds_toArray, List.set_cons_zero, List.set_cons_succ])
  refine wpAnyH_take (i := 10) (oi := ⟨some 47, _, _, _, _, _⟩) (v := ?_) rfl (by kernel_rfl) (by kernel_rfl) (by kernel_rfl) (fun _ _ _ h => h) (Or.inl ⟨by rfl, ?_⟩) (by assumption) ?_
  rotate_left
  · intro w hSw
    obtain ⟨hS1, hS2⟩ := hSw
    go_simp
    all_goals (try with_reducible rfl)
  (try simp only [Act.put, List.setIfInBounds_toArray, List.set_cons_zero, List.set_cons_succ])
  refine wpAnyH_ready (rs := [12]) (by kernel_rfl) (by simp) ?_
  refine AllReadyH.cons (o := ⟨some 49, _, _, _, _, _⟩) rfl (fun K hK => ?_) AllReadyH.nil
  go_simp
  refine (next9_any p 8 A n c zs 4294967296 _ (by exact (HD12.out.boxi 1 rfl)) (HI.out.keep0 HD12.out.only) (by omega) HWF.out (by omega) (by omega)).mono ?_
  rintro en v11 ⟨rfl, hb, hO⟩
  rw [HX8.out]
  have HD13 : Hid (Wd w v11 [(f, [.int .i64 (1 + x0), .int .i64 (1 + x1), .int .i64 (1 + x2), .int .i64 x3, .int .i64 x4, .int .i64 x5, .int .i64 0, .int .i64 0, .int .i64 0, .int .i64 0, .int .i64 0, .slice none 0 0, .slice none 0 0, .slice none 0 0]), (p, [.slice A n c, .int .i64 (((8 + 1 : Nat)) : Int)]), (cq, [.int .i64 b, .int .i64 (sN : Int), .int .i64 l]), (z, [.int .i64 0, .int .i64 0, .int .i64 0, .int .i64 0, .int .i64 0, .int .i64 0, .int .i64 0, .int .i64 0, .int .i64 0, .int .i64 0, .int .i64 0, .slice none 0 0, .slice none 0 0, .slice none 0 0])] [] []) := Lib.hid (HD12.out.call1 1 rfl hb hO)
  clear HD12
  clear hb hO
  refine hK.out _ _ ⟨(HD13.out.boxi 2 rfl).cell 1 (by simp), (HD13.out.boxi 2 rfl).cell 2 (by simp)⟩ (fun hSn => ?_)
  clear hK K hSw0
  have hSw0 := hSn
  clear hSn
  (try simp only [Act.put, List.setIfInBounds_toArray, List.set_cons_zero, List.set_cons_succ])
  refine wpAnyH_ready (rs := [14]) (by kernel_rfl) (by simp) ?_
  refine AllReadyH.cons (o := ⟨some 51, _, _, _, _, _⟩) rfl (fun K hK => ?_) AllReadyH.nil
  go_simp
  refine (next9_any p 9 A n c zs 2147483647 _ (by exact (HD13.out.boxi 1 rfl)) (HI.out.keep0 HD13.out.only) (by omega) HWF.out (by omega) (by omega)).mono ?_
  rintro en v12 ⟨rfl, hb, hO⟩
  rw [HX9.out]
  have HD14 : Hid (Wd w v12 [(f, [.int .i64 (1 + x0), .int .i64 (1 + x1), .int .i64 (1 + x2), .int .i64 x3, .int .i64 x4, .int .i64 x5, .int .i64 0, .int .i64 0, .int .i64 0, .int .i64 0, .int .i64 0, .slice none 0 0, .slice none 0 0, .slice none 0 0]), (p, [.slice A n c, .int .i64 (((9 + 1 : Nat)) : Int)]), (cq, [.int .i64 b, .int .i64 (sN : Int), .int .i64 l]), (z, [.int .i64 0, .int .i64 0, .int .i64 0, .int .i64 0, .int .i64 0, .int .i64 0, .int .i64 0, .int .i64 0, .int .i64 0, .int .i64 0, .int .i64 0, .slice none 0 0, .slice none 0 0, .slice none 0 0])] [] []) := Lib.hid (HD13.out.call1 1 rfl hb hO)
  clear HD13
  clear hb hO
  refine hK.out _ _ ⟨(HD14.out.boxi 2 rfl).cell 1 (by simp), (HD14.out.boxi 2 rfl).cell 2 (by simp)⟩ (fun hSn => ?_)
  clear hK K hSw0
  have hSw0 := hSn
  clear hSn
  (try simp only [Act.put, List.setIfInBounds_toArray, List.set_cons_zero, List.set_cons_succ])
  refine wpAnyH_take (i := 15) (oi := ⟨some 52, _, _, _, _, _⟩) (v := ?_) rfl (by kernel_rfl) (by kernel_rfl) (by kernel_rfl) (fun _ _ _ h => h) (Or.inl ⟨by rfl, ?_⟩) (by assumption) ?_
  rotate_left
  · intro w hSw
    obtain ⟨hS1, hS2⟩ := hSw
    go_simp
    all_goals (try with_reducible rfl)
  (try simp only [Act.put, List.setIfInBounds_toArray, List.set_cons_zero, List.set_cons_succ])
  refine wpAnyH_take (i := 16) (oi := ⟨some 53, _, _, _, _, _⟩) (v := ?_) rfl (by kernel_rfl) (by kernel_rfl) (by kernel_rfl) (fun _ _ _ h => h) (Or.inl ⟨by rfl, ?_⟩) (by assumption) ?_
  rotate_left
  · intro w hSw
    obtain ⟨hS1, hS2⟩ := hSw
    go_simp
    all_goals (try with_reducible rfl)
  (try simp only [Act.put, List.setIfInBounds_toArray, List.set_cons_zero, List.set_cons_succ])
  refine wpAnyH_take (i := 17) (oi := ⟨some 54, _, _, _, _, _⟩) (v := ?_) rfl (by kernel_rfl) (by kernel_rfl) (by kernel_rfl) (fun _ _ _ h => h) (Or.inl ⟨by rfl, ?_⟩) (by assumption) ?_
  rotate_left
  · intro w hSw
    obtain ⟨hS1, hS2⟩ := hSw
    go_simp
    all_goals (try with_reducible rfl)
  (try simp only [Act.put, List.setIfInBounds_toArray, List.set_cons_zero, List.set_cons_succ])
  refine wpAnyH_ready (rs := [18]) (by kernel_rfl) (by simp) ?_
  refine AllReadyH.cons (o := ⟨none, _, _, _, _, _⟩) rfl (fun K hK => ?_) AllReadyH.nil
  have y6 : World.cell? v12 ⟨f, 6, none⟩ = some (.int .i64 0) := (HD14.out.boxi 0 rfl).cell 6 (by simp)
  have y7 : World.cell? v12 ⟨f, 7, none⟩ = some (.int .i64 0) := (HD14.out.boxi 0 rfl).cell 7 (by simp)
  have y8 : World.cell? v12 ⟨f, 8, none⟩ = some (.int .i64 0) := (HD14.out.boxi 0 rfl).cell 8 (by simp)
  have y9 : World.cell? v12 ⟨f, 9, none⟩ = some (.int .i64 0) := (HD14.out.boxi 0 rfl).cell 9 (by simp)
  have y10 : World.cell? v12 ⟨f, 10, none⟩ = some (.int .i64 0) := (HD14.out.boxi 0 rfl).cell 10 (by simp)
  have zy6 := (HD14.out.boxi 0 rfl).frozen 6
  have zy7 := (HD14.out.boxi 0 rfl).frozen 7
  have zy8 := (HD14.out.boxi 0 rfl).frozen 8
  have zy9 := (HD14.out.boxi 0 rfl).frozen 9
  have zy10 := (HD14.out.boxi 0 rfl).frozen 10
  have ly := (HD14.out.boxi 0 rfl).lt
  go_simp
  have HE6 : Hid (Wd w (World.setCell v12 ⟨f, 6, none⟩ (.int .i64 (pN : Int))) [(f, [.int .i64 (1 + x0), .int .i64 (1 + x1), .int .i64 (1 + x2), .int .i64 x3, .int .i64 x4, .int .i64 x5, .int .i64 (pN : Int), .int .i64 0, .int .i64 0, .int .i64 0, .int .i64 0, .slice none 0 0, .slice none 0 0, .slice none 0 0]), (p, [.slice A n c, .int .i64 (((9 + 1 : Nat)) : Int)]), (cq, [.int .i64 b, .int .i64 (sN : Int), .int .i64 l]), (z, [.int .i64 0, .int .i64 0, .int .i64 0, .int .i64 0, .int .i64 0, .int .i64 0, .int .i64 0, .int .i64 0, .int .i64 0, .int .i64 0, .int .i64 0, .slice none 0 0, .slice none 0 0, .slice none 0 0])] [] []) := Lib.hid (HD14.out.put 0 rfl 6 (.int .i64 (pN : Int)))
  clear HD14
  have HE7 : Hid (Wd w (World.setCell (World.setCell v12 ⟨f, 6, none⟩ (.int .i64 (pN : Int))) ⟨f, 7, none⟩ (.int .i64 x6)) [(f, [.int .i64 (1 + x0), .int .i64 (1 + x1), .int .i64 (1 + x2), .int .i64 x3, .int .i64 x4, .int .i64 x5, .int .i64 (pN : Int), .int .i64 x6, .int .i64 0, .int .i64 0, .int .i64 0, .slice none 0 0, .slice none 0 0, .slice none 0 0]), (p, [.slice A n c, .int .i64 (((9 + 1 : Nat)) : Int)]), (cq, [.int .i64 b, .int .i64 (sN : Int), .int .i64 l]), (z, [.int .i64 0, .int .i64 0, .int .i64 0, .int .i64 0, .int .i64 0, .int .i64 0, .int .i64 0, .int .i64 0, .int .i64 0, .int .i64 0, .int .i64 0, .slice none 0 0, .slice none 0 0, .slice none 0 0])] [] []) := Lib.hid (HE6.out.put 0 rfl 7 (.int .i64 x6))
  clear HE6
  have HE8 : Hid (Wd w (World.setCell (World.setCell (World.setCell v12 ⟨f, 6, none⟩ (.int .i64 (pN : Int))) ⟨f, 7, none⟩ (.int .i64 x6)) ⟨f, 8, none⟩ (.int .i64 (1 + x7))) [(f, [.int .i64 (1 + x0), .int .i64 (1 + x1), .int .i64 (1 + x2), .int .i64 x3, .int .i64 x4, .int .i64 x5, .int .i64 (pN : Int), .int .i64 x6, .int .i64 (1 + x7), .int .i64 0, .int .i64 0, .slice none 0 0, .slice none 0 0, .slice none 0 0]), (p, [.slice A n c, .int .i64 (((9 + 1 : Nat)) : Int)]), (cq, [.int .i64 b, .int .i64 (sN : Int), .int .i64 l]), (z, [.int .i64 0, .int .i64 0, .int .i64 0, .int .i64 0, .int .i64 0, .int .i64 0, .int .i64 0, .int .i64 0, .int .i64 0, .int .i64 0, .int .i64 0, .slice none 0 0, .slice none 0 0, .slice none 0 0])] [] []) := Lib.hid (HE7.out.put 0 rfl 8 (.int .i64 (1 + x7)))
  clear HE7
  have HE9 : Hid (Wd w (World.setCell (World.setCell (World.setCell (World.setCell v12 ⟨f, 6, none⟩ (.int .i64 (pN : Int))) ⟨f, 7, none⟩ (.int .i64 x6)) ⟨f, 8, none⟩ (.int .i64 (1 + x7))) ⟨f, 9, none⟩ (.int .i64 x8)) [(f, [.int .i64 (1 + x0), .int .i64 (1 + x1), .int .i64 (1 + x2), .int .i64 x3, .int .i64 x4, .int .i64 x5, .int .i64 (pN : Int), .int .i64 x6, .int .i64 (1 + x7), .int .i64 x8, .int .i64 0, .slice none 0 0, .slice none 0 0, .slice none 0 0]), (p, [.slice A n c, .int .i64 (((9 + 1 : Nat)) : Int)]), (cq, [.int .i64 b, .int .i64 (sN : Int), .int .i64 l]), (z, [.int .i64 0, .int .i64 0, .int .i64 0, .int .i64 0, .int .i64 0, .int .i64 0, .int .i64 0, .int .i64 0, .int .i64 0, .int .i64 0, .int .i64 0, .slice none 0 0, .slice none 0 0, .slice none 0 0])] [] []) := Lib.hid (HE8.out.put 0 rfl 9 (.int .i64 x8))
  clear HE8
  have HE10 : Hid (Wd w (World.setCell (World.setCell (World.setCell (World.setCell (World.setCell v12 ⟨f, 6, none⟩ (.int .i64 (pN : Int))) ⟨f, 7, none⟩ (.int .i64 x6)) ⟨f, 8, none⟩ (.int .i64 (1 + x7))) ⟨f, 9, none⟩ (.int .i64 x8)) ⟨f, 10, none⟩ (.int .i64 (1 + x9))) [(f, [.int .i64 (1 + x0), .int .i64 (1 + x1), .int .i64 (1 + x2), .int .i64 x3, .int .i64 x4, .int .i64 x5, .int .i64 (pN : Int), .int .i64 x6, .int .i64 (1 + x7), .int .i64 x8, .int .i64 (1 + x9), .slice none 0 0, .slice none 0 0, .slice none 0 0]), (p, [.slice A n c, .int .i64 (((9 + 1 : Nat)) : Int)]), (cq, [.int .i64 b, .int .i64 (sN : Int), .int .i64 l]), (z, [.int .i64 0, .int .i64 0, .int .i64 0, .int .i64 0, .int .i64 0, .int .i64 0, .int .i64 0, .int .i64 0, .int .i64 0, .int .i64 0, .int .i64 0, .slice none 0 0, .slice none 0 0, .slice none 0 0])] [] []) := Lib.hid (HE9.out.put 0 rfl 10 (.int .i64 (1 + x9)))
  clear HE9
  clear y6 zy6 y7 zy7 y8 zy8 y9 zy9 y10 zy10 ly
  refine hK.out _ _ ⟨(HE10.out.boxi 2 rfl).cell 1 (by simp), (HE10.out.boxi 2 rfl).cell 2 (by simp)⟩ (fun hSn => ?_)
  clear hK K hSw0
  have hSw0 := hSn
  clear hSn
  (try simp only [Act.put, List.setIfInBounds_toArray, List.set_cons_zero, List.set_cons_succ])
  refine wpAnyH_done (by kernel_rfl) ?_ _
  clear hSw0 hw7 hw9
  generalize (World.setCell (World.setCell (World.setCell (World.setCell (World.setCell v12 ⟨f, 6, none⟩ (.int .i64 (pN : Int))) ⟨f, 7, none⟩ (.int .i64 x6)) ⟨f, 8, none⟩ (.int .i64 (1 + x7))) ⟨f, 9, none⟩ (.int .i64 x8)) ⟨f, 10, none⟩ (.int .i64 (1 + x9))) = v13 at *
  have HF : Hid (Wd w v13 [(f, [.int .i64 (1 + x0), .int .i64 (1 + x1), .int .i64 (1 + x2), .int .i64 x3, .int .i64 x4, .int .i64 x5, .int .i64 (pN : Int), .int .i64 x6, .int .i64 (1 + x7), .int .i64 x8, .int .i64 (1 + x9), .slice none 0 0, .slice none 0 0, .slice none 0 0]), (p, [.slice A n c, .int .i64 ((10 : Nat) : Int)]), (cq, [.int .i64 b, .int .i64 (sN : Int), .int .i64 l]), (z, [.int .i64 0, .int .i64 0, .int .i64 0, .int .i64 0, .int .i64 0, .int .i64 0, .int .i64 0, .int .i64 0, .int .i64 0, .int .i64 0, .int .i64 0, .slice none 0 0, .slice none 0 0, .slice none 0 0])] [⟨3, 1, .slice none 0 0, 0, (ivs (mkBase zs (0)))⟩, ⟨3, 1, .slice none 0 0, 0, (ivs (mkOver zs (0)))⟩, ⟨120, 2, .slice none 0 0, 0, (usV (mkSegs zs P (0)))⟩] []) := Lib.hid (((HE10.out.gnew 120 2).gnew 3 1).gnew 3 1)
  clear HE10
  go_wp2_with fail
  go_loopg [10] P (fun r i wr => ∃ (j k : Nat) (B1 O1 : Option Addr) (cB cO : Nat), j + r = P ∧ k = 10 + 2 * j ∧ i = .int .i64 j ∧ Wd w wr [(f, [.int .i64 (1 + x0), .int .i64 (1 + x1), .int .i64 (1 + x2), .int .i64 x3, .int .i64 x4, .int .i64 x5, .int .i64 (pN : Int), .int .i64 x6, .int .i64 (1 + x7), .int .i64 x8, .int .i64 (1 + x9), .slice B1 j cB, .slice O1 j cO, .slice none 0 0]), (p, [.slice A n c, .int .i64 ((k : Nat) : Int)]), (cq, [.int .i64 b, .int .i64 (sN : Int), .int .i64 l]), (z, [.int .i64 0, .int .i64 0, .int .i64 0, .int .i64 0, .int .i64 0, .int .i64 0, .int .i64 0, .int .i64 0, .int .i64 0, .int .i64 0, .int .i64 0, .slice none 0 0, .slice none 0 0, .slice none 0 0])] [⟨3, 1, .slice B1 j cB, j, (ivs (mkBase zs (j)))⟩, ⟨3, 1, .slice O1 j cO, j, (ivs (mkOver zs (j)))⟩, ⟨120, 2, .slice none 0 0, 0, (usV (mkSegs zs P (0)))⟩] [])
  case atStart => exact ⟨0, 10, none, none, 0, 0, by omega, rfl, rfl, HF.out⟩
  obtain ⟨j, k, B1, O1, cB, cO, hj, hk, rfl, hd⟩ := hrel
  have HDr := Lib.hid hd
  have hk99 : k ≤ 20 := by omega
  clear hd HF
  have g0 : World.cell? wr ⟨cq, 0, none⟩ = some (.int .i64 b) := (HDr.out.boxi 2 rfl).cell 0 (by simp)
  have g1 : World.cell? wr ⟨cq, 1, none⟩ = some (.int .i64 (sN : Int)) := (HDr.out.boxi 2 rfl).cell 1 (by simp)
  have g2 : World.cell? wr ⟨cq, 2, none⟩ = some (.int .i64 l) := (HDr.out.boxi 2 rfl).cell 2 (by simp)
  have lg := (HDr.out.boxi 2 rfl).lt
  go_wp2_with fail
  refine (ref_pages_any b _ l _ HCF.out).mono ?_
  rintro en w2 ⟨rfl, hO⟩
  rw [HPN.out]
  have HDs : Hid (Wd w w2 [(f, [.int .i64 (1 + x0), .int .i64 (1 + x1), .int .i64 (1 + x2), .int .i64 x3, .int .i64 x4, .int .i64 x5, .int .i64 (pN : Int), .int .i64 x6, .int .i64 (1 + x7), .int .i64 x8, .int .i64 (1 + x9), .slice B1 j cB, .slice O1 j cO, .slice none 0 0]), (p, [.slice A n c, .int .i64 ((k : Nat) : Int)]), (cq, [.int .i64 b, .int .i64 (sN : Int), .int .i64 l]), (z, [.int .i64 0, .int .i64 0, .int .i64 0, .int .i64 0, .int .i64 0, .int .i64 0, .int .i64 0, .int .i64 0, .int .i64 0, .int .i64 0, .int .i64 0, .slice none 0 0, .slice none 0 0, .slice none 0 0])] [⟨3, 1, .slice B1 j cB, j, (ivs (mkBase zs (j)))⟩, ⟨3, 1, .slice O1 j cO, j, (ivs (mkOver zs (j)))⟩, ⟨120, 2, .slice none 0 0, 0, (usV (mkSegs zs P (0)))⟩] []) := Lib.hid (HDr.out.keep0 hO)
  clear HDr
  clear hO g0 g1 g2 lg
  by_cases hlt : j < P
  · have hlt2 : (j : Int) < (P : Int) := by omega
    obtain ⟨xb, hxb⟩ : ∃ x, nx zs (10 + 2 * j) 2 = x := ⟨_, rfl⟩
    have bxb := nx_bd zs (10 + 2 * j) 2 (by omega)
    rw [hxb] at bxb
    obtain ⟨xo, hxo⟩ : ∃ x, nx zs (11 + 2 * j) 2 = x := ⟨_, rfl⟩
    have bxo := nx_bd zs (11 + 2 * j) 2 (by omega)
    rw [hxo] at bxo
    have HXB := Lib.hid hxb
    have HXO := Lib.hid hxo
    have HJK := Lib.hid hk
    clear hxb hxo hk
    go_wp2_with fail
    go_cut [10] (fun s10 wz => s10 = .int .i64 (j : Int) ∧ ∃ (B1 : Option Addr) (cB : Nat), Wd w wz [(f, [.int .i64 (1 + x0), .int .i64 (1 + x1), .int .i64 (1 + x2), .int .i64 x3, .int .i64 x4, .int .i64 x5, .int .i64 (pN : Int), .int .i64 x6, .int .i64 (1 + x7), .int .i64 x8, .int .i64 (1 + x9), .slice B1 (j + 1) cB, .slice O1 j cO, .slice none 0 0]), (p, [.slice A n c, .int .i64 ((k + 1 : Nat) : Int)]), (cq, [.int .i64 b, .int .i64 (sN : Int), .int .i64 l]), (z, [.int .i64 0, .int .i64 0, .int .i64 0, .int .i64 0, .int .i64 0, .int .i64 0, .int .i64 0, .int .i64 0, .int .i64 0, .int .i64 0, .int .i64 0, .slice none 0 0, .slice none 0 0, .slice none 0 0])] [⟨3, 1, .slice B1 (j + 1) cB, j + 1, (ivs (mkBase zs (j + 1)))⟩, ⟨3, 1, .slice O1 j cO, j, (ivs (mkOver zs (j)))⟩, ⟨120, 2, .slice none 0 0, 0, (usV (mkSegs zs P (0)))⟩] [])
    case first =>
      have HDd : Hid (Wd w w2.drew [(f, [.int .i64 (1 + x0), .int .i64 (1 + x1), .int .i64 (1 + x2), .int .i64 x3, .int .i64 x4, .int .i64 x5, .int .i64 (pN : Int), .int .i64 x6, .int .i64 (1 + x7), .int .i64 x8, .int .i64 (1 + x9), .slice B1 j cB, .slice O1 j cO, .slice none 0 0]), (p, [.slice A n c, .int .i64 ((k : Nat) : Int)]), (cq, [.int .i64 b, .int .i64 (sN : Int), .int .i64 l]), (z, [.int .i64 0, .int .i64 0, .int .i64 0, .int .i64 0, .int .i64 0, .int .i64 0, .int .i64 0, .int .i64 0, .int .i64 0, .int .i64 0, .int .i64 0, .slice none 0 0, .slice none 0 0, .slice none 0 0])] [⟨3, 1, .slice B1 j cB, j, (ivs (mkBase zs (j)))⟩, ⟨3, 1, .slice O1 j cO, j, (ivs (mkOver zs (j)))⟩, ⟨120, 2, .slice none 0 0, 0, (usV (mkSegs zs P (0)))⟩] []) := Lib.hid (HDs.out.drew)
      clear HDs
      refine wp_region_held_drew (S := fun _ => True) (by kernel_rfl) trivial (fun hSw0 => ?_)
      refine wpAnyH_take (i := 0) (oi := ⟨some 61, _, _, _, _, _⟩) (v := ?_) rfl (by kernel_rfl) (by kernel_rfl) (by kernel_rfl) (fun _ _ _ h => h) (Or.inl ⟨by rfl, ?_⟩) (by assumption) ?_
      rotate_left
      · intro w hSw
      
        go_simp
        all_goals (try with_reducible rfl)
      (try simp only [Act.put, List.setIfInBounds_toArray, List.set_cons_zero, List.set_cons_succ])
      refine wpAnyH_take (i := 2) (oi := ⟨some 63, _, _, _, _, _⟩) (v := ?_) rfl (by kernel_rfl) (by kernel_rfl) (by kernel_rfl) (fun _ _ _ h => h) (Or.inl ⟨by rfl, ?_⟩) (by assumption) ?_
      rotate_left
      · intro w hSw
      
        go_simp
        all_goals (try with_reducible rfl)
      (try simp only [Act.put, List.setIfInBounds_toArray, List.set_cons_zero, List.set_cons_succ])
      refine wpAnyH_ready (rs := [1, 3]) (by kernel_rfl) (by simp) ?_
      refine AllReadyH.cons (o := ⟨some 62, _, _, _, _, _⟩) rfl (fun K hK => ?_) ?_
      · have y11 : World.cell? w2.drew ⟨f, 11, none⟩ = some (.slice B1 j cB) := (HDd.out.boxi 0 rfl).cell 11 (by simp)
        have ly := (HDd.out.boxi 0 rfl).lt
        go_simp
        clear y11 ly
        refine hK.out _ _ trivial (fun hSn => ?_)
        clear hK K hSw0
        have hSw0 := hSn
        clear hSn
        (try simp only [Act.put, List.setIfInBounds_toArray, List.set_cons_zero, List.set_cons_succ])
        refine wpAnyH_ready (rs := [3]) (by kernel_rfl) (by simp) ?_
        refine AllReadyH.cons (o := ⟨some 64, _, _, _, _, _⟩) rfl (fun K hK => ?_) AllReadyH.nil
        go_simp
        refine (next9_any p (k) A n c zs 2 _ (by exact (HDd.out.boxi 1 rfl)) (HI.out.keep0 HDd.out.only) (by omega) HWF.out (by decide) (by decide)).mono ?_
        rintro en va ⟨rfl, hb, hO⟩
        rw [show nx zs (k) 2 = xb by rw [HJK.out]; exact HXB.out]
        have HDa : Hid (Wd w va [(f, [.int .i64 (1 + x0), .int .i64 (1 + x1), .int .i64 (1 + x2), .int .i64 x3, .int .i64 x4, .int .i64 x5, .int .i64 (pN : Int), .int .i64 x6, .int .i64 (1 + x7), .int .i64 x8, .int .i64 (1 + x9), .slice B1 j cB, .slice O1 j cO, .slice none 0 0]), (p, [.slice A n c, .int .i64 (((k + 1 : Nat)) : Int)]), (cq, [.int .i64 b, .int .i64 (sN : Int), .int .i64 l]), (z, [.int .i64 0, .int .i64 0, .int .i64 0, .int .i64 0, .int .i64 0, .int .i64 0, .int .i64 0, .int .i64 0, .int .i64 0, .int .i64 0, .int .i64 0, .slice none 0 0, .slice none 0 0, .slice none 0 0])] [⟨3, 1, .slice B1 j cB, j, (ivs (mkBase zs (j)))⟩, ⟨3, 1, .slice O1 j cO, j, (ivs (mkOver zs (j)))⟩, ⟨120, 2, .slice none 0 0, 0, (usV (mkSegs zs P (0)))⟩] []) := Lib.hid (HDd.out.call1 1 rfl hb hO)
        clear HDd
        clear hb hO
        refine hK.out _ _ trivial (fun hSn => ?_)
        clear hK K hSw0
        have hSw0 := hSn
        clear hSn
        (try simp only [Act.put, List.setIfInBounds_toArray, List.set_cons_zero, List.set_cons_succ])
        refine wpAnyH_ready (rs := [4]) (by kernel_rfl) (by simp) ?_
        refine AllReadyH.cons (o := ⟨some 65, _, _, _, _, _⟩) rfl (fun K hK => ?_) AllReadyH.nil
        go_simp
        have HDe : Hid (Wd w (World.alloc va (.cells #[.int .i64 xb] 3)) [(f, [.int .i64 (1 + x0), .int .i64 (1 + x1), .int .i64 (1 + x2), .int .i64 x3, .int .i64 x4, .int .i64 x5, .int .i64 (pN : Int), .int .i64 x6, .int .i64 (1 + x7), .int .i64 x8, .int .i64 (1 + x9), .slice B1 j cB, .slice O1 j cO, .slice none 0 0]), (p, [.slice A n c, .int .i64 (((k + 1 : Nat)) : Int)]), (cq, [.int .i64 b, .int .i64 (sN : Int), .int .i64 l]), (z, [.int .i64 0, .int .i64 0, .int .i64 0, .int .i64 0, .int .i64 0, .int .i64 0, .int .i64 0, .int .i64 0, .int .i64 0, .int .i64 0, .int .i64 0, .slice none 0 0, .slice none 0 0, .slice none 0 0])] [⟨3, 1, .slice B1 j cB, j, (ivs (mkBase zs (j)))⟩, ⟨3, 1, .slice O1 j cO, j, (ivs (mkOver zs (j)))⟩, ⟨120, 2, .slice none 0 0, 0, (usV (mkSegs zs P (0)))⟩] []) := Lib.hid (HDa.out.alloc (.cells #[.int .i64 xb] 3))
        clear HDa
        refine hK.out _ _ trivial (fun hSn => ?_)
        clear hK K hSw0
        have hSw0 := hSn
        clear hSn
        (try simp only [Act.put, List.setIfInBounds_toArray, List.set_cons_zero, List.set_cons_succ])
        refine wpAnyH_ready (rs := [5]) (by kernel_rfl) (by simp) ?_
        refine AllReadyH.cons (o := ⟨some 66, _, _, _, _, _⟩) rfl (fun K hK => ?_) AllReadyH.nil
        refine step_append_elems rfl (.tmp 62) (.tmp 65) 36 rfl w.heap.size 3 i1 _ 1 8 Try.underlying36 hi1 hy0 hy1 hy2 rfl (by decide) (.slice B1 j cB) j (ivs (mkBase zs (j))) rfl (HDe.out.gi 0 rfl) ⟨va.heap.size, 0, none⟩ 1 1 [.int .i64 xb] rfl rfl (news_new va #[.int .i64 xb] 3 (by simp [maxLen])) (by simp [Value.oneCell']) (by unfold maxLen; omega) (by omega) HDe.out.only.size ?_
        intro v' wa hown hgrow hat
        rw [← ivs_snoc, show mkBase zs j ++ [xb] = mkBase zs (j + 1) by rw [mkBase_succ, HXB.out]] at hown
        obtain ⟨A5, c5, rfl⟩ : ∃ A5 c5, v' = .slice A5 (j + 1) c5 := (show GathN wa w.heap.size 3 1 v' (j + 1) _ from ⟨hown, Nat.le_trans HDe.out.only.size hgrow.size⟩).form (by decide) |>.elim fun A h => h.elim fun c h => ⟨A, c, h.1⟩
        have HDf : Hid (Wd w wa [(f, [.int .i64 (1 + x0), .int .i64 (1 + x1), .int .i64 (1 + x2), .int .i64 x3, .int .i64 x4, .int .i64 x5, .int .i64 (pN : Int), .int .i64 x6, .int .i64 (1 + x7), .int .i64 x8, .int .i64 (1 + x9), .slice B1 j cB, .slice O1 j cO, .slice none 0 0]), (p, [.slice A n c, .int .i64 (((k + 1 : Nat)) : Int)]), (cq, [.int .i64 b, .int .i64 (sN : Int), .int .i64 l]), (z, [.int .i64 0, .int .i64 0, .int .i64 0, .int .i64 0, .int .i64 0, .int .i64 0, .int .i64 0, .int .i64 0, .int .i64 0, .int .i64 0, .int .i64 0, .slice none 0 0, .slice none 0 0, .slice none 0 0])] [⟨3, 1, .slice A5 (j + 1) c5, j + 1, (ivs (mkBase zs (j + 1)))⟩, ⟨3, 1, .slice O1 j cO, j, (ivs (mkOver zs (j)))⟩, ⟨120, 2, .slice none 0 0, 0, (usV (mkSegs zs P (0)))⟩] []) := Lib.hid (HDe.out.gapp 0 rfl hown hgrow hat)
        clear HDe
        clear hown hgrow hat
        refine hK.out _ _ trivial (fun hSn => ?_)
        clear hK K hSw0
        have hSw0 := hSn
        clear hSn
        (try simp only [Act.put, List.setIfInBounds_toArray, List.set_cons_zero, List.set_cons_succ])
        refine wpAnyH_take (i := 6) (oi := ⟨some 67, _, _, _, _, _⟩) (v := ?_) rfl (by kernel_rfl) (by kernel_rfl) (by kernel_rfl) (fun _ _ _ h => h) (Or.inl ⟨by rfl, ?_⟩) (by assumption) ?_
        rotate_left
        · intro w hSw
        
          go_simp
          all_goals (try with_reducible rfl)
        (try simp only [Act.put, List.setIfInBounds_toArray, List.set_cons_zero, List.set_cons_succ])
        refine wpAnyH_ready (rs := [7]) (by kernel_rfl) (by simp) ?_
        refine AllReadyH.cons (o := ⟨none, _, _, _, _, _⟩) rfl (fun K hK => ?_) AllReadyH.nil
        have y11 : World.cell? wa ⟨f, 11, none⟩ = some (.slice B1 j cB) := (HDf.out.boxi 0 rfl).cell 11 (by simp)
        have zy11 := (HDf.out.boxi 0 rfl).frozen 11
        have ly := (HDf.out.boxi 0 rfl).lt
        go_simp
        have HDg : Hid (Wd w (World.setCell wa ⟨f, 11, none⟩ (.slice A5 (j + 1) c5)) [(f, [.int .i64 (1 + x0), .int .i64 (1 + x1), .int .i64 (1 + x2), .int .i64 x3, .int .i64 x4, .int .i64 x5, .int .i64 (pN : Int), .int .i64 x6, .int .i64 (1 + x7), .int .i64 x8, .int .i64 (1 + x9), .slice A5 (j + 1) c5, .slice O1 j cO, .slice none 0 0]), (p, [.slice A n c, .int .i64 (((k + 1 : Nat)) : Int)]), (cq, [.int .i64 b, .int .i64 (sN : Int), .int .i64 l]), (z, [.int .i64 0, .int .i64 0, .int .i64 0, .int .i64 0, .int .i64 0, .int .i64 0, .int .i64 0, .int .i64 0, .int .i64 0, .int .i64 0, .int .i64 0, .slice none 0 0, .slice none 0 0, .slice none 0 0])] [⟨3, 1, .slice A5 (j + 1) c5, j + 1, (ivs (mkBase zs (j + 1)))⟩, ⟨3, 1, .slice O1 j cO, j, (ivs (mkOver zs (j)))⟩, ⟨120, 2, .slice none 0 0, 0, (usV (mkSegs zs P (0)))⟩] []) := Lib.hid (HDf.out.put 0 rfl 11 (.slice A5 (j + 1) c5))
        clear HDf
        clear y11 zy11 ly
        refine hK.out _ _ trivial (fun hSn => ?_)
        clear hK K hSw0
        have hSw0 := hSn
        clear hSn
        (try simp only [Act.put, List.setIfInBounds_toArray, List.set_cons_zero, List.set_cons_succ])
        refine wpAnyH_done (by kernel_rfl) ?_ _
        clear hSw0
        go_wp2
        go_meet
        case rel => exact ⟨rfl, A5, c5, HDg.out⟩
      refine AllReadyH.cons (o := ⟨some 64, _, _, _, _, _⟩) rfl (fun K hK => ?_) ?_
      · go_simp
        refine (next9_any p (k) A n c zs 2 _ (by exact (HDd.out.boxi 1 rfl)) (HI.out.keep0 HDd.out.only) (by omega) HWF.out (by decide) (by decide)).mono ?_
        rintro en va ⟨rfl, hb, hO⟩
        rw [show nx zs (k) 2 = xb by rw [HJK.out]; exact HXB.out]
        have HDa : Hid (Wd w va [(f, [.int .i64 (1 + x0), .int .i64 (1 + x1), .int .i64 (1 + x2), .int .i64 x3, .int .i64 x4, .int .i64 x5, .int .i64 (pN : Int), .int .i64 x6, .int .i64 (1 + x7), .int .i64 x8, .int .i64 (1 + x9), .slice B1 j cB, .slice O1 j cO, .slice none 0 0]), (p, [.slice A n c, .int .i64 (((k + 1 : Nat)) : Int)]), (cq, [.int .i64 b, .int .i64 (sN : Int), .int .i64 l]), (z, [.int .i64 0, .int .i64 0, .int .i64 0, .int .i64 0, .int .i64 0, .int .i64 0, .int .i64 0, .int .i64 0, .int .i64 0, .int .i64 0, .int .i64 0, .slice none 0 0, .slice none 0 0, .slice none 0 0])] [⟨3, 1, .slice B1 j cB, j, (ivs (mkBase zs (j)))⟩, ⟨3, 1, .slice O1 j cO, j, (ivs (mkOver zs (j)))⟩, ⟨120, 2, .slice none 0 0, 0, (usV (mkSegs zs P (0)))⟩] []) := Lib.hid (HDd.out.call1 1 rfl hb hO)
        clear HDd
        clear hb hO
        refine hK.out _ _ trivial (fun hSn => ?_)
        clear hK K hSw0
        have hSw0 := hSn
        clear hSn
        (try simp only [Act.put, List.setIfInBounds_toArray, List.set_cons_zero, List.set_cons_succ])
        refine wpAnyH_ready (rs := [1, 4]) (by kernel_rfl) (by simp) ?_
        refine AllReadyH.cons (o := ⟨some 62, _, _, _, _, _⟩) rfl (fun K hK => ?_) ?_
        · have y11 : World.cell? va ⟨f, 11, none⟩ = some (.slice B1 j cB) := (HDa.out.boxi 0 rfl).cell 11 (by simp)
          have ly := (HDa.out.boxi 0 rfl).lt
          go_simp
          clear y11 ly
          refine hK.out _ _ trivial (fun hSn => ?_)
          clear hK K hSw0
          have hSw0 := hSn
          clear hSn
          (try simp only [Act.put, List.setIfInBounds_toArray, List.set_cons_zero, List.set_cons_succ])
          refine wpAnyH_ready (rs := [4]) (by kernel_rfl) (by simp) ?_
          refine AllReadyH.cons (o := ⟨some 65, _, _, _, _, _⟩) rfl (fun K hK => ?_) AllReadyH.nil
          go_simp
          have HDe : Hid (Wd w (World.alloc va (.cells #[.int .i64 xb] 3)) [(f, [.int .i64 (1 + x0), .int .i64 (1 + x1), .int .i64 (1 + x2), .int .i64 x3, .int .i64 x4, .int .i64 x5, .int .i64 (pN : Int), .int .i64 x6, .int .i64 (1 + x7), .int .i64 x8, .int .i64 (1 + x9), .slice B1 j cB, .slice O1 j cO, .slice none 0 0]), (p, [.slice A n c, .int .i64 (((k + 1 : Nat)) : Int)]), (cq, [.int .i64 b, .int .i64 (sN : Int), .int .i64 l]), (z, [.int .i64 0, .int .i64 0, .int .i64 0, .int .i64 0, .int .i64 0, .int .i64 0, .int .i64 0, .int .i64 0, .int .i64 0, .int .i64 0, .int .i64 0, .slice none 0 0, .slice none 0 0, .slice none 0 0])] [⟨3, 1, .slice B1 j cB, j, (ivs (mkBase zs (j)))⟩, ⟨3, 1, .slice O1 j cO, j, (ivs (mkOver zs (j)))⟩, ⟨120, 2, .slice none 0 0, 0, (usV (mkSegs zs P (0)))⟩] []) := Lib.hid (HDa.out.alloc (.cells #[.int .i64 xb] 3))
          clear HDa
          refine hK.out _ _ trivial (fun hSn => ?_)
          clear hK K hSw0
          have hSw0 := hSn
          clear hSn
          (try simp only [Act.put, List.setIfInBounds_toArray, List.set_cons_zero, List.set_cons_succ])
          refine wpAnyH_ready (rs := [5]) (by kernel_rfl) (by simp) ?_
          refine AllReadyH.cons (o := ⟨some 66, _, _, _, _, _⟩) rfl (fun K hK => ?_) AllReadyH.nil
          refine step_append_elems rfl (.tmp 62) (.tmp 65) 36 rfl w.heap.size 3 i1 _ 1 8 Try.underlying36 hi1 hy0 hy1 hy2 rfl (by decide) (.slice B1 j cB) j (ivs (mkBase zs (j))) rfl (HDe.out.gi 0 rfl) ⟨va.heap.size, 0, none⟩ 1 1 [.int .i64 xb] rfl rfl (news_new va #[.int .i64 xb] 3 (by simp [maxLen])) (by simp [Value.oneCell']) (by unfold maxLen; omega) (by omega) HDe.out.only.size ?_
          intro v' wa hown hgrow hat
          rw [← ivs_snoc, show mkBase zs j ++ [xb] = mkBase zs (j + 1) by rw [mkBase_succ, HXB.out]] at hown
          obtain ⟨A5, c5, rfl⟩ : ∃ A5 c5, v' = .slice A5 (j + 1) c5 := (show GathN wa w.heap.size 3 1 v' (j + 1) _ from ⟨hown, Nat.le_trans HDe.out.only.size hgrow.size⟩).form (by decide) |>.elim fun A h => h.elim fun c h => ⟨A, c, h.1⟩
          have HDf : Hid (Wd w wa [(f, [.int .i64 (1 + x0), .int .i64 (1 + x1), .int .i64 (1 + x2), .int .i64 x3, .int .i64 x4, .int .i64 x5, .int .i64 (pN : Int), .int .i64 x6, .int .i64 (1 + x7), .int .i64 x8, .int .i64 (1 + x9), .slice B1 j cB, .slice O1 j cO, .slice none 0 0]), (p, [.slice A n c, .int .i64 (((k + 1 : Nat)) : Int)]), (cq, [.int .i64 b, .int .i64 (sN : Int), .int .i64 l]), (z, [.int .i64 0, .int .i64 0, .int .i64 0, .int .i64 0, .int .i64 0, .int .i64 0, .int .i64 0, .int .i64 0, .int .i64 0, .int .i64 0, .int .i64 0, .slice none 0 0, .slice none 0 0, .slice none 0 0])] [⟨3, 1, .slice A5 (j + 1) c5, j + 1, (ivs (mkBase zs (j + 1)))⟩, ⟨3, 1, .slice O1 j cO, j, (ivs (mkOver zs (j)))⟩, ⟨120, 2, .slice none 0 0, 0, (usV (mkSegs zs P (0)))⟩] []) := Lib.hid (HDe.out.gapp 0 rfl hown hgrow hat)
          clear HDe
          clear hown hgrow hat
          refine hK.out _ _ trivial (fun hSn => ?_)
          clear hK K hSw0
          have hSw0 := hSn
          clear hSn
          (try simp only [Act.put, List.setIfInBounds_toArray, List.set_cons_zero, List.set_cons_succ])
          refine wpAnyH_take (i := 6) (oi := ⟨some 67, _, _, _, _, _⟩) (v := ?_) rfl (by kernel_rfl) (by kernel_rfl) (by kernel_rfl) (fun _ _ _ h => h) (Or.inl ⟨by rfl, ?_⟩) (by assumption) ?_
          rotate_left
          · intro w hSw
          
            go_simp
            all_goals (try with_reducible rfl)
          (try simp only [Act.put, List.setIfInBounds_toArray, List.set_cons_zero, List.set_cons_succ])
          refine wpAnyH_ready (rs := [7]) (by kernel_rfl) (by simp) ?_
          refine AllReadyH.cons (o := ⟨none, _, _, _, _, _⟩) rfl (fun K hK => ?_) AllReadyH.nil
          have y11 : World.cell? wa ⟨f, 11, none⟩ = some (.slice B1 j cB) := (HDf.out.boxi 0 rfl).cell 11 (by simp)
          have zy11 := (HDf.out.boxi 0 rfl).frozen 11
          have ly := (HDf.out.boxi 0 rfl).lt
          go_simp
          have HDg : Hid (Wd w (World.setCell wa ⟨f, 11, none⟩ (.slice A5 (j + 1) c5)) [(f, [.int .i64 (1 + x0), .int .i64 (1 + x1), .int .i64 (1 + x2), .int .i64 x3, .int .i64 x4, .int .i64 x5, .int .i64 (pN : Int), .int .i64 x6, .int .i64 (1 + x7), .int .i64 x8, .int .i64 (1 + x9), .slice A5 (j + 1) c5, .slice O1 j cO, .slice none 0 0]), (p, [.slice A n c, .int .i64 (((k + 1 : Nat)) : Int)]), (cq, [.int .i64 b, .int .i64 (sN : Int), .int .i64 l]), (z, [.int .i64 0, .int .i64 0, .int .i64 0, .int .i64 0, .int .i64 0, .int .i64 0, .int .i64 0, .int .i64 0, .int .i64 0, .int .i64 0, .int .i64 0, .slice none 0 0, .slice none 0 0, .slice none 0 0])] [⟨3, 1, .slice A5 (j + 1) c5, j + 1, (ivs (mkBase zs (j + 1)))⟩, ⟨3, 1, .slice O1 j cO, j, (ivs (mkOver zs (j)))⟩, ⟨120, 2, .slice none 0 0, 0, (usV (mkSegs zs P (0)))⟩] []) := Lib.hid (HDf.out.put 0 rfl 11 (.slice A5 (j + 1) c5))
          clear HDf
          clear y11 zy11 ly
          refine hK.out _ _ trivial (fun hSn => ?_)
          clear hK K hSw0
          have hSw0 := hSn
          clear hSn
          (try simp only [Act.put, List.setIfInBounds_toArray, List.set_cons_zero, List.set_cons_succ])
          refine wpAnyH_done (by kernel_rfl) ?_ _
          clear hSw0
          go_wp2
          go_meet
          case rel => exact ⟨rfl, A5, c5, HDg.out⟩
        refine AllReadyH.cons (o := ⟨some 65, _, _, _, _, _⟩) rfl (fun K hK => ?_) ?_
        · go_simp
          have HDe : Hid (Wd w (World.alloc va (.cells #[.int .i64 xb] 3)) [(f, [.int .i64 (1 + x0), .int .i64 (1 + x1), .int .i64 (1 + x2), .int .i64 x3, .int .i64 x4, .int .i64 x5, .int .i64 (pN : Int), .int .i64 x6, .int .i64 (1 + x7), .int .i64 x8, .int .i64 (1 + x9), .slice B1 j cB, .slice O1 j cO, .slice none 0 0]), (p, [.slice A n c, .int .i64 (((k + 1 : Nat)) : Int)]), (cq, [.int .i64 b, .int .i64 (sN : Int), .int .i64 l]), (z, [.int .i64 0, .int .i64 0, .int .i64 0, .int .i64 0, .int .i64 0, .int .i64 0, .int .i64 0, .int .i64 0, .int .i64 0, .int .i64 0, .int .i64 0, .slice none 0 0, .slice none 0 0, .slice none 0 0])] [⟨3, 1, .slice B1 j cB, j, (ivs (mkBase zs (j)))⟩, ⟨3, 1, .slice O1 j cO, j, (ivs (mkOver zs (j)))⟩, ⟨120, 2, .slice none 0 0, 0, (usV (mkSegs zs P (0)))⟩] []) := Lib.hid (HDa.out.alloc (.cells #[.int .i64 xb] 3))
          clear HDa
          refine hK.out _ _ trivial (fun hSn => ?_)
          clear hK K hSw0
          have hSw0 := hSn
          clear hSn
          (try simp only [Act.put, List.setIfInBounds_toArray, List.set_cons_zero, List.set_cons_succ])
          refine wpAnyH_ready (rs := [1]) (by kernel_rfl) (by simp) ?_
          refine AllReadyH.cons (o := ⟨some 62, _, _, _, _, _⟩) rfl (fun K hK => ?_) AllReadyH.nil
          have y11 : World.cell? (World.alloc va (.cells #[.int .i64 xb] 3)) ⟨f, 11, none⟩ = some (.slice B1 j cB) := (HDe.out.boxi 0 rfl).cell 11 (by simp)
          have ly := (HDe.out.boxi 0 rfl).lt
          go_simp
          clear y11 ly
          refine hK.out _ _ trivial (fun hSn => ?_)
          clear hK K hSw0
          have hSw0 := hSn
          clear hSn
          (try simp only [Act.put, List.setIfInBounds_toArray, List.set_cons_zero, List.set_cons_succ])
          refine wpAnyH_ready (rs := [5]) (by kernel_rfl) (by simp) ?_
          refine AllReadyH.cons (o := ⟨some 66, _, _, _, _, _⟩) rfl (fun K hK => ?_) AllReadyH.nil
          refine step_append_elems rfl (.tmp 62) (.tmp 65) 36 rfl w.heap.size 3 i1 _ 1 8 Try.underlying36 hi1 hy0 hy1 hy2 rfl (by decide) (.slice B1 j cB) j (ivs (mkBase zs (j))) rfl (HDe.out.gi 0 rfl) ⟨va.heap.size, 0, none⟩ 1 1 [.int .i64 xb] rfl rfl (news_new va #[.int .i64 xb] 3 (by simp [maxLen])) (by simp [Value.oneCell']) (by unfold maxLen; omega) (by omega) HDe.out.only.size ?_
          intro v' wa hown hgrow hat
          rw [← ivs_snoc, show mkBase zs j ++ [xb] = mkBase zs (j + 1) by rw [mkBase_succ, HXB.out]] at hown
          obtain ⟨A5, c5, rfl⟩ : ∃ A5 c5, v' = .slice A5 (j + 1) c5 := (show GathN wa w.heap.size 3 1 v' (j + 1) _ from ⟨hown, Nat.le_trans HDe.out.only.size hgrow.size⟩).form (by decide) |>.elim fun A h => h.elim fun c h => ⟨A, c, h.1⟩
          have HDf : Hid (Wd w wa [(f, [.int .i64 (1 + x0), .int .i64 (1 + x1), .int .i64 (1 + x2), .int .i64 x3, .int .i64 x4, .int .i64 x5, .int .i64 (pN : Int), .int .i64 x6, .int .i64 (1 + x7), .int .i64 x8, .int .i64 (1 + x9), .slice B1 j cB, .slice O1 j cO, .slice none 0 0]), (p, [.slice A n c, .int .i64 (((k + 1 : Nat)) : Int)]), (cq, [.int .i64 b, .int .i64 (sN : Int), .int .i64 l]), (z, [.int .i64 0, .int .i64 0, .int .i64 0, .int .i64 0, .int .i64 0, .int .i64 0, .int .i64 0, .int .i64 0, .int .i64 0, .int .i64 0, .int .i64 0, .slice none 0 0, .slice none 0 0, .slice none 0 0])] [⟨3, 1, .slice A5 (j + 1) c5, j + 1, (ivs (mkBase zs (j + 1)))⟩, ⟨3, 1, .slice O1 j cO, j, (ivs (mkOver zs (j)))⟩, ⟨120, 2, .slice none 0 0, 0, (usV (mkSegs zs P (0)))⟩] []) := Lib.hid (HDe.out.gapp 0 rfl hown hgrow hat)
          clear HDe
          clear hown hgrow hat
          refine hK.out _ _ trivial (fun hSn => ?_)
          clear hK K hSw0
          have hSw0 := hSn
          clear hSn
          (try simp only [Act.put, List.setIfInBounds_toArray, List.set_cons_zero, List.set_cons_succ])
          refine wpAnyH_take (i := 6) (oi := ⟨some 67, _, _, _, _, _⟩) (v := ?_) rfl (by kernel_rfl) (by kernel_rfl) (by kernel_rfl) (fun _ _ _ h => h) (Or.inl ⟨by rfl, ?_⟩) (by assumption) ?_
          rotate_left
          · intro w hSw
          
            go_simp
            all_goals (try with_reducible rfl)
          (try simp only [Act.put, List.setIfInBounds_toArray, List.set_cons_zero, List.set_cons_succ])
          refine wpAnyH_ready (rs := [7]) (by kernel_rfl) (by simp) ?_
          refine AllReadyH.cons (o := ⟨none, _, _, _, _, _⟩) rfl (fun K hK => ?_) AllReadyH.nil
          have y11 : World.cell? wa ⟨f, 11, none⟩ = some (.slice B1 j cB) := (HDf.out.boxi 0 rfl).cell 11 (by simp)
          have zy11 := (HDf.out.boxi 0 rfl).frozen 11
          have ly := (HDf.out.boxi 0 rfl).lt
          go_simp
          have HDg : Hid (Wd w (World.setCell wa ⟨f, 11, none⟩ (.slice A5 (j + 1) c5)) [(f, [.int .i64 (1 + x0), .int .i64 (1 + x1), .int .i64 (1 + x2), .int .i64 x3, .int .i64 x4, .int .i64 x5, .int .i64 (pN : Int), .int .i64 x6, .int .i64 (1 + x7), .int .i64 x8, .int .i64 (1 + x9), .slice A5 (j + 1) c5, .slice O1 j cO, .slice none 0 0]), (p, [.slice A n c, .int .i64 (((k + 1 : Nat)) : Int)]), (cq, [.int .i64 b, .int .i64 (sN : Int), .int .i64 l]), (z, [.int .i64 0, .int .i64 0, .int .i64 0, .int .i64 0, .int .i64 0, .int .i64 0, .int .i64 0, .int .i64 0, .int .i64 0, .int .i64 0, .int .i64 0, .slice none 0 0, .slice none 0 0, .slice none 0 0])] [⟨3, 1, .slice A5 (j + 1) c5, j + 1, (ivs (mkBase zs (j + 1)))⟩, ⟨3, 1, .slice O1 j cO, j, (ivs (mkOver zs (j)))⟩, ⟨120, 2, .slice none 0 0, 0, (usV (mkSegs zs P (0)))⟩] []) := Lib.hid (HDf.out.put 0 rfl 11 (.slice A5 (j + 1) c5))
          clear HDf
          clear y11 zy11 ly
          refine hK.out _ _ trivial (fun hSn => ?_)
          clear hK K hSw0
          have hSw0 := hSn
          clear hSn
          (try simp only [Act.put, List.setIfInBounds_toArray, List.set_cons_zero, List.set_cons_succ])
          refine wpAnyH_done (by kernel_rfl) ?_ _
          clear hSw0
          go_wp2
          go_meet
          case rel => exact ⟨rfl, A5, c5, HDg.out⟩
        exact AllReadyH.nil
      exact AllReadyH.nil
    case rest =>
      obtain ⟨rfl, B2, cB2, hcut⟩ := hcut
      have HDm := Lib.hid hcut
      clear hcut HDs HXB
      go_wp2_with fail
      have HDd : Hid (Wd w wc.drew [(f, [.int .i64 (1 + x0), .int .i64 (1 + x1), .int .i64 (1 + x2), .int .i64 x3, .int .i64 x4, .int .i64 x5, .int .i64 (pN : Int), .int .i64 x6, .int .i64 (1 + x7), .int .i64 x8, .int .i64 (1 + x9), .slice B2 (j + 1) cB2, .slice O1 j cO, .slice none 0 0]), (p, [.slice A n c, .int .i64 ((k + 1 : Nat) : Int)]), (cq, [.int .i64 b, .int .i64 (sN : Int), .int .i64 l]), (z, [.int .i64 0, .int .i64 0, .int .i64 0, .int .i64 0, .int .i64 0, .int .i64 0, .int .i64 0, .int .i64 0, .int .i64 0, .int .i64 0, .int .i64 0, .slice none 0 0, .slice none 0 0, .slice none 0 0])] [⟨3, 1, .slice B2 (j + 1) cB2, j + 1, (ivs (mkBase zs (j + 1)))⟩, ⟨3, 1, .slice O1 j cO, j, (ivs (mkOver zs (j)))⟩, ⟨120, 2, .slice none 0 0, 0, (usV (mkSegs zs P (0)))⟩] []) := Lib.hid (HDm.out.drew)
      clear HDm
      refine wp_region_held_drew (S := fun _ => True) (by kernel_rfl) trivial (fun hSw0 => ?_)
      refine wpAnyH_take (i := 0) (oi := ⟨some 68, _, _, _, _, _⟩) (v := ?_) rfl (by kernel_rfl) (by kernel_rfl) (by kernel_rfl) (fun _ _ _ h => h) (Or.inl ⟨by rfl, ?_⟩) (by assumption) ?_
      rotate_left
      · intro w hSw
      
        go_simp
        all_goals (try with_reducible rfl)
      (try simp only [Act.put, List.setIfInBounds_toArray, List.set_cons_zero, List.set_cons_succ])
      refine wpAnyH_take (i := 2) (oi := ⟨some 70, _, _, _, _, _⟩) (v := ?_) rfl (by kernel_rfl) (by kernel_rfl) (by kernel_rfl) (fun _ _ _ h => h) (Or.inl ⟨by rfl, ?_⟩) (by assumption) ?_
      rotate_left
      · intro w hSw
      
        go_simp
        all_goals (try with_reducible rfl)
      (try simp only [Act.put, List.setIfInBounds_toArray, List.set_cons_zero, List.set_cons_succ])
      refine wpAnyH_ready (rs := [1, 3]) (by kernel_rfl) (by simp) ?_
      refine AllReadyH.cons (o := ⟨some 69, _, _, _, _, _⟩) rfl (fun K hK => ?_) ?_
      · have y12 : World.cell? wc.drew ⟨f, 12, none⟩ = some (.slice O1 j cO) := (HDd.out.boxi 0 rfl).cell 12 (by simp)
        have ly := (HDd.out.boxi 0 rfl).lt
        go_simp
        clear y12 ly
        refine hK.out _ _ trivial (fun hSn => ?_)
        clear hK K hSw0
        have hSw0 := hSn
        clear hSn
        (try simp only [Act.put, List.setIfInBounds_toArray, List.set_cons_zero, List.set_cons_succ])
        refine wpAnyH_ready (rs := [3]) (by kernel_rfl) (by simp) ?_
        refine AllReadyH.cons (o := ⟨some 71, _, _, _, _, _⟩) rfl (fun K hK => ?_) AllReadyH.nil
        go_simp
        refine (next9_any p (k + 1) A n c zs 2 _ (by exact (HDd.out.boxi 1 rfl)) (HI.out.keep0 HDd.out.only) (by omega) HWF.out (by decide) (by decide)).mono ?_
        rintro en va ⟨rfl, hb, hO⟩
        rw [show nx zs (k + 1) 2 = xo by rw [HJK.out, show 10 + 2 * j + 1 = 11 + 2 * j by omega]; exact HXO.out]
        have HDa : Hid (Wd w va [(f, [.int .i64 (1 + x0), .int .i64 (1 + x1), .int .i64 (1 + x2), .int .i64 x3, .int .i64 x4, .int .i64 x5, .int .i64 (pN : Int), .int .i64 x6, .int .i64 (1 + x7), .int .i64 x8, .int .i64 (1 + x9), .slice B2 (j + 1) cB2, .slice O1 j cO, .slice none 0 0]), (p, [.slice A n c, .int .i64 (((k + 1 + 1 : Nat)) : Int)]), (cq, [.int .i64 b, .int .i64 (sN : Int), .int .i64 l]), (z, [.int .i64 0, .int .i64 0, .int .i64 0, .int .i64 0, .int .i64 0, .int .i64 0, .int .i64 0, .int .i64 0, .int .i64 0, .int .i64 0, .int .i64 0, .slice none 0 0, .slice none 0 0, .slice none 0 0])] [⟨3, 1, .slice B2 (j + 1) cB2, j + 1, (ivs (mkBase zs (j + 1)))⟩, ⟨3, 1, .slice O1 j cO, j, (ivs (mkOver zs (j)))⟩, ⟨120, 2, .slice none 0 0, 0, (usV (mkSegs zs P (0)))⟩] []) := Lib.hid (HDd.out.call1 1 rfl hb hO)
        clear HDd
        clear hb hO
        refine hK.out _ _ trivial (fun hSn => ?_)
        clear hK K hSw0
        have hSw0 := hSn
        clear hSn
        (try simp only [Act.put, List.setIfInBounds_toArray, List.set_cons_zero, List.set_cons_succ])
        refine wpAnyH_ready (rs := [4]) (by kernel_rfl) (by simp) ?_
        refine AllReadyH.cons (o := ⟨some 72, _, _, _, _, _⟩) rfl (fun K hK => ?_) AllReadyH.nil
        go_simp
        have HDe : Hid (Wd w (World.alloc va (.cells #[.int .i64 xo] 3)) [(f, [.int .i64 (1 + x0), .int .i64 (1 + x1), .int .i64 (1 + x2), .int .i64 x3, .int .i64 x4, .int .i64 x5, .int .i64 (pN : Int), .int .i64 x6, .int .i64 (1 + x7), .int .i64 x8, .int .i64 (1 + x9), .slice B2 (j + 1) cB2, .slice O1 j cO, .slice none 0 0]), (p, [.slice A n c, .int .i64 (((k + 1 + 1 : Nat)) : Int)]), (cq, [.int .i64 b, .int .i64 (sN : Int), .int .i64 l]), (z, [.int .i64 0, .int .i64 0, .int .i64 0, .int .i64 0, .int .i64 0, .int .i64 0, .int .i64 0, .int .i64 0, .int .i64 0, .int .i64 0, .int .i64 0, .slice none 0 0, .slice none 0 0, .slice none 0 0])] [⟨3, 1, .slice B2 (j + 1) cB2, j + 1, (ivs (mkBase zs (j + 1)))⟩, ⟨3, 1, .slice O1 j cO, j, (ivs (mkOver zs (j)))⟩, ⟨120, 2, .slice none 0 0, 0, (usV (mkSegs zs P (0)))⟩] []) := Lib.hid (HDa.out.alloc (.cells #[.int .i64 xo] 3))
        clear HDa
        refine hK.out _ _ trivial (fun hSn => ?_)
        clear hK K hSw0
        have hSw0 := hSn
        clear hSn
        (try simp only [Act.put, List.setIfInBounds_toArray, List.set_cons_zero, List.set_cons_succ])
        refine wpAnyH_ready (rs := [5]) (by kernel_rfl) (by simp) ?_
        refine AllReadyH.cons (o := ⟨some 73, _, _, _, _, _⟩) rfl (fun K hK => ?_) AllReadyH.nil
        refine step_append_elems rfl (.tmp 69) (.tmp 72) 36 rfl w.heap.size 3 i1 _ 1 8 Try.underlying36 hi1 hy0 hy1 hy2 rfl (by decide) (.slice O1 j cO) j (ivs (mkOver zs (j))) rfl (HDe.out.gi 1 rfl) ⟨va.heap.size, 0, none⟩ 1 1 [.int .i64 xo] rfl rfl (news_new va #[.int .i64 xo] 3 (by simp [maxLen])) (by simp [Value.oneCell']) (by unfold maxLen; omega) (by omega) HDe.out.only.size ?_
        intro v' wa hown hgrow hat
        rw [← ivs_snoc, show mkOver zs j ++ [xo] = mkOver zs (j + 1) by rw [mkOver_succ, HXO.out]] at hown
        obtain ⟨A5, c5, rfl⟩ : ∃ A5 c5, v' = .slice A5 (j + 1) c5 := (show GathN wa w.heap.size 3 1 v' (j + 1) _ from ⟨hown, Nat.le_trans HDe.out.only.size hgrow.size⟩).form (by decide) |>.elim fun A h => h.elim fun c h => ⟨A, c, h.1⟩
        have HDf : Hid (Wd w wa [(f, [.int .i64 (1 + x0), .int .i64 (1 + x1), .int .i64 (1 + x2), .int .i64 x3, .int .i64 x4, .int .i64 x5, .int .i64 (pN : Int), .int .i64 x6, .int .i64 (1 + x7), .int .i64 x8, .int .i64 (1 + x9), .slice B2 (j + 1) cB2, .slice O1 j cO, .slice none 0 0]), (p, [.slice A n c, .int .i64 (((k + 1 + 1 : Nat)) : Int)]), (cq, [.int .i64 b, .int .i64 (sN : Int), .int .i64 l]), (z, [.int .i64 0, .int .i64 0, .int .i64 0, .int .i64 0, .int .i64 0, .int .i64 0, .int .i64 0, .int .i64 0, .int .i64 0, .int .i64 0, .int .i64 0, .slice none 0 0, .slice none 0 0, .slice none 0 0])] [⟨3, 1, .slice B2 (j + 1) cB2, j + 1, (ivs (mkBase zs (j + 1)))⟩, ⟨3, 1, .slice A5 (j + 1) c5, j + 1, (ivs (mkOver zs (j + 1)))⟩, ⟨120, 2, .slice none 0 0, 0, (usV (mkSegs zs P (0)))⟩] []) := Lib.hid (HDe.out.gapp 1 rfl hown hgrow hat)
        clear HDe
        clear hown hgrow hat
        refine hK.out _ _ trivial (fun hSn => ?_)
        clear hK K hSw0
        have hSw0 := hSn
        clear hSn
        (try simp only [Act.put, List.setIfInBounds_toArray, List.set_cons_zero, List.set_cons_succ])
        refine wpAnyH_take (i := 6) (oi := ⟨some 74, _, _, _, _, _⟩) (v := ?_) rfl (by kernel_rfl) (by kernel_rfl) (by kernel_rfl) (fun _ _ _ h => h) (Or.inl ⟨by rfl, ?_⟩) (by assumption) ?_
        rotate_left
        · intro w hSw
        
          go_simp
          all_goals (try with_reducible rfl)
        (try simp only [Act.put, List.setIfInBounds_toArray, List.set_cons_zero, List.set_cons_succ])
        refine wpAnyH_ready (rs := [7]) (by kernel_rfl) (by simp) ?_
        refine AllReadyH.cons (o := ⟨none, _, _, _, _, _⟩) rfl (fun K hK => ?_) AllReadyH.nil
        have y12 : World.cell? wa ⟨f, 12, none⟩ = some (.slice O1 j cO) := (HDf.out.boxi 0 rfl).cell 12 (by simp)
        have zy12 := (HDf.out.boxi 0 rfl).frozen 12
        have ly := (HDf.out.boxi 0 rfl).lt
        go_simp
        have HDg : Hid (Wd w (World.setCell wa ⟨f, 12, none⟩ (.slice A5 (j + 1) c5)) [(f, [.int .i64 (1 + x0), .int .i64 (1 + x1), .int .i64 (1 + x2), .int .i64 x3, .int .i64 x4, .int .i64 x5, .int .i64 (pN : Int), .int .i64 x6, .int .i64 (1 + x7), .int .i64 x8, .int .i64 (1 + x9), .slice B2 (j + 1) cB2, .slice A5 (j + 1) c5, .slice none 0 0]), (p, [.slice A n c, .int .i64 (((k + 1 + 1 : Nat)) : Int)]), (cq, [.int .i64 b, .int .i64 (sN : Int), .int .i64 l]), (z, [.int .i64 0, .int .i64 0, .int .i64 0, .int .i64 0, .int .i64 0, .int .i64 0, .int .i64 0, .int .i64 0, .int .i64 0, .int .i64 0, .int .i64 0, .slice none 0 0, .slice none 0 0, .slice none 0 0])] [⟨3, 1, .slice B2 (j + 1) cB2, j + 1, (ivs (mkBase zs (j + 1)))⟩, ⟨3, 1, .slice A5 (j + 1) c5, j + 1, (ivs (mkOver zs (j + 1)))⟩, ⟨120, 2, .slice none 0 0, 0, (usV (mkSegs zs P (0)))⟩] []) := Lib.hid (HDf.out.put 0 rfl 12 (.slice A5 (j + 1) c5))
        clear HDf
        clear y12 zy12 ly
        refine hK.out _ _ trivial (fun hSn => ?_)
        clear hK K hSw0
        have hSw0 := hSn
        clear hSn
        (try simp only [Act.put, List.setIfInBounds_toArray, List.set_cons_zero, List.set_cons_succ])
        refine wpAnyH_done (by kernel_rfl) ?_ _
        clear hSw0
        go_wp2
        go_roundg (gk - 1)
        case measure => omega
        case rel => exact ⟨j + 1, k + 1 + 1, B2, A5, cB2, c5, by omega, by rw [HJK.out]; omega, by go_num, HDg.out⟩
      refine AllReadyH.cons (o := ⟨some 71, _, _, _, _, _⟩) rfl (fun K hK => ?_) ?_
      · go_simp
        refine (next9_any p (k + 1) A n c zs 2 _ (by exact (HDd.out.boxi 1 rfl)) (HI.out.keep0 HDd.out.only) (by omega) HWF.out (by decide) (by decide)).mono ?_
        rintro en va ⟨rfl, hb, hO⟩
        rw [show nx zs (k + 1) 2 = xo by rw [HJK.out, show 10 + 2 * j + 1 = 11 + 2 * j by omega]; exact HXO.out]
        have HDa : Hid (Wd w va [(f, [.int .i64 (1 + x0), .int .i64 (1 + x1), .int .i64 (1 + x2), .int .i64 x3, .int .i64 x4, .int .i64 x5, .int .i64 (pN : Int), .int .i64 x6, .int .i64 (1 + x7), .int .i64 x8, .int .i64 (1 + x9), .slice B2 (j + 1) cB2, .slice O1 j cO, .slice none 0 0]), (p, [.slice A n c, .int .i64 (((k + 1 + 1 : Nat)) : Int)]), (cq, [.int .i64 b, .int .i64 (sN : Int), .int .i64 l]), (z, [.int .i64 0, .int .i64 0, .int .i64 0, .int .i64 0, .int .i64 0, .int .i64 0, .int .i64 0, .int .i64 0, .int .i64 0, .int .i64 0, .int .i64 0, .slice none 0 0, .slice none 0 0, .slice none 0 0])] [⟨3, 1, .slice B2 (j + 1) cB2, j + 1, (ivs (mkBase zs (j + 1)))⟩, ⟨3, 1, .slice O1 j cO, j, (ivs (mkOver zs (j)))⟩, ⟨120, 2, .slice none 0 0, 0, (usV (mkSegs zs P (0)))⟩] []) := Lib.hid (HDd.out.call1 1 rfl hb hO)
        clear HDd
        clear hb hO
        refine hK.out _ _ trivial (fun hSn => ?_)
        clear hK K hSw0
        have hSw0 := hSn
        clear hSn
        (try simp only [Act.put, List.setIfInBounds_toArray, List.set_cons_zero, List.set_cons_succ])
        refine wpAnyH_ready (rs := [1, 4]) (by kernel_rfl) (by simp) ?_
        refine AllReadyH.cons (o := ⟨some 69, _, _, _, _, _⟩) rfl (fun K hK => ?_) ?_
        · have y12 : World.cell? va ⟨f, 12, none⟩ = some (.slice O1 j cO) := (HDa.out.boxi 0 rfl).cell 12 (by simp)
          have ly := (HDa.out.boxi 0 rfl).lt
          go_simp
          clear y12 ly
          refine hK.out _ _ trivial (fun hSn => ?_)
          clear hK K hSw0
          have hSw0 := hSn
          clear hSn
          (try simp only [Act.put, List.setIfInBounds_toArray, List.set_cons_zero, List.set_cons_succ])
          refine wpAnyH_ready (rs := [4]) (by kernel_rfl) (by simp) ?_
          refine AllReadyH.cons (o := ⟨some 72, _, _, _, _, _⟩) rfl (fun K hK => ?_) AllReadyH.nil
          go_simp
          have HDe : Hid (Wd w (World.alloc va (.cells #[.int .i64 xo] 3)) [(f, [.int .i64 (1 + x0), .int .i64 (1 + x1), .int .i64 (1 + x2), .int .i64 x3, .int .i64 x4, .int .i64 x5, .int .i64 (pN : Int), .int .i64 x6, .int .i64 (1 + x7), .int .i64 x8, .int .i64 (1 + x9), .slice B2 (j + 1) cB2, .slice O1 j cO, .slice none 0 0]), (p, [.slice A n c, .int .i64 (((k + 1 + 1 : Nat)) : Int)]), (cq, [.int .i64 b, .int .i64 (sN : Int), .int .i64 l]), (z, [.int .i64 0, .int .i64 0, .int .i64 0, .int .i64 0, .int .i64 0, .int .i64 0, .int .i64 0, .int .i64 0, .int .i64 0, .int .i64 0, .int .i64 0, .slice none 0 0, .slice none 0 0, .slice none 0 0])] [⟨3, 1, .slice B2 (j + 1) cB2, j + 1, (ivs (mkBase zs (j + 1)))⟩, ⟨3, 1, .slice O1 j cO, j, (ivs (mkOver zs (j)))⟩, ⟨120, 2, .slice none 0 0, 0, (usV (mkSegs zs P (0)))⟩] []) := Lib.hid (HDa.out.alloc (.cells #[.int .i64 xo] 3))
          clear HDa
          refine hK.out _ _ trivial (fun hSn => ?_)
          clear hK K hSw0
          have hSw0 := hSn
          clear hSn
          (try simp only [Act.put, List.setIfInBounds_toArray, List.set_cons_zero, List.set_cons_succ])
          refine wpAnyH_ready (rs := [5]) (by kernel_rfl) (by simp) ?_
          refine AllReadyH.cons (o := ⟨some 73, _, _, _, _, _⟩) rfl (fun K hK => ?_) AllReadyH.nil
          refine step_append_elems rfl (.tmp 69) (.tmp 72) 36 rfl w.heap.size 3 i1 _ 1 8 Try.underlying36 hi1 hy0 hy1 hy2 rfl (by decide) (.slice O1 j cO) j (ivs (mkOver zs (j))) rfl (HDe.out.gi 1 rfl) ⟨va.heap.size, 0, none⟩ 1 1 [.int .i64 xo] rfl rfl (news_new va #[.int .i64 xo] 3 (by simp [maxLen])) (by simp [Value.oneCell']) (by unfold maxLen; omega) (by omega) HDe.out.only.size ?_
          intro v' wa hown hgrow hat
          rw [← ivs_snoc, show mkOver zs j ++ [xo] = mkOver zs (j + 1) by rw [mkOver_succ, HXO.out]] at hown
          obtain ⟨A5, c5, rfl⟩ : ∃ A5 c5, v' = .slice A5 (j + 1) c5 := (show GathN wa w.heap.size 3 1 v' (j + 1) _ from ⟨hown, Nat.le_trans HDe.out.only.size hgrow.size⟩).form (by decide) |>.elim fun A h => h.elim fun c h => ⟨A, c, h.1⟩
          have HDf : Hid (Wd w wa [(f, [.int .i64 (1 + x0), .int .i64 (1 + x1), .int .i64 (1 + x2), .int .i64 x3, .int .i64 x4, .int .i64 x5, .int .i64 (pN : Int), .int .i64 x6, .int .i64 (1 + x7), .int .i64 x8, .int .i64 (1 + x9), .slice B2 (j + 1) cB2, .slice O1 j cO, .slice none 0 0]), (p, [.slice A n c, .int .i64 (((k + 1 + 1 : Nat)) : Int)]), (cq, [.int .i64 b, .int .i64 (sN : Int), .int .i64 l]), (z, [.int .i64 0, .int .i64 0, .int .i64 0, .int .i64 0, .int .i64 0, .int .i64 0, .int .i64 0, .int .i64 0, .int .i64 0, .int .i64 0, .int .i64 0, .slice none 0 0, .slice none 0 0, .slice none 0 0])] [⟨3, 1, .slice B2 (j + 1) cB2, j + 1, (ivs (mkBase zs (j + 1)))⟩, ⟨3, 1, .slice A5 (j + 1) c5, j + 1, (ivs (mkOver zs (j + 1)))⟩, ⟨120, 2, .slice none 0 0, 0, (usV (mkSegs zs P (0)))⟩] []) := Lib.hid (HDe.out.gapp 1 rfl hown hgrow hat)
          clear HDe
          clear hown hgrow hat
          refine hK.out _ _ trivial (fun hSn => ?_)
          clear hK K hSw0
          have hSw0 := hSn
          clear hSn
          (try simp only [Act.put, List.setIfInBounds_toArray, List.set_cons_zero, List.set_cons_succ])
          refine wpAnyH_take (i := 6) (oi := ⟨some 74, _, _, _, _, _⟩) (v := ?_) rfl (by kernel_rfl) (by kernel_rfl) (by kernel_rfl) (fun _ _ _ h => h) (Or.inl ⟨by rfl, ?_⟩) (by assumption) ?_
          rotate_left
          · intro w hSw
          
            go_simp
            all_goals (try with_reducible rfl)
          (try simp only [Act.put, List.setIfInBounds_toArray, List.set_cons_zero, List.set_cons_succ])
          refine wpAnyH_ready (rs := [7]) (by kernel_rfl) (by simp) ?_
          refine AllReadyH.cons (o := ⟨none, _, _, _, _, _⟩) rfl (fun K hK => ?_) AllReadyH.nil
          have y12 : World.cell? wa ⟨f, 12, none⟩ = some (.slice O1 j cO) := (HDf.out.boxi 0 rfl).cell 12 (by simp)
          have zy12 := (HDf.out.boxi 0 rfl).frozen 12
          have ly := (HDf.out.boxi 0 rfl).lt
          go_simp
          have HDg : Hid (Wd w (World.setCell wa ⟨f, 12, none⟩ (.slice A5 (j + 1) c5)) [(f, [.int .i64 (1 + x0), .int .i64 (1 + x1), .int .i64 (1 + x2), .int .i64 x3, .int .i64 x4, .int .i64 x5, .int .i64 (pN : Int), .int .i64 x6, .int .i64 (1 + x7), .int .i64 x8, .int .i64 (1 + x9), .slice B2 (j + 1) cB2, .slice A5 (j + 1) c5, .slice none 0 0]), (p, [.slice A n c, .int .i64 (((k + 1 + 1 : Nat)) : Int)]), (cq, [.int .i64 b, .int .i64 (sN : Int), .int .i64 l]), (z, [.int .i64 0, .int .i64 0, .int .i64 0, .int .i64 0, .int .i64 0, .int .i64 0, .int .i64 0, .int .i64 0, .int .i64 0, .int .i64 0, .int .i64 0, .slice none 0 0, .slice none 0 0, .slice none 0 0])] [⟨3, 1, .slice B2 (j + 1) cB2, j + 1, (ivs (mkBase zs (j + 1)))⟩, ⟨3, 1, .slice A5 (j + 1) c5, j + 1, (ivs (mkOver zs (j + 1)))⟩, ⟨120, 2, .slice none 0 0, 0, (usV (mkSegs zs P (0)))⟩] []) := Lib.hid (HDf.out.put 0 rfl 12 (.slice A5 (j + 1) c5))
          clear HDf
          clear y12 zy12 ly
          refine hK.out _ _ trivial (fun hSn => ?_)
          clear hK K hSw0
          have hSw0 := hSn
          clear hSn
          (try simp only [Act.put, List.setIfInBounds_toArray, List.set_cons_zero, List.set_cons_succ])
          refine wpAnyH_done (by kernel_rfl) ?_ _
          clear hSw0
          go_wp2
          go_roundg (gk - 1)
          case measure => omega
          case rel => exact ⟨j + 1, k + 1 + 1, B2, A5, cB2, c5, by omega, by rw [HJK.out]; omega, by go_num, HDg.out⟩
        refine AllReadyH.cons (o := ⟨some 72, _, _, _, _, _⟩) rfl (fun K hK => ?_) ?_
        · go_simp
          have HDe : Hid (Wd w (World.alloc va (.cells #[.int .i64 xo] 3)) [(f, [.int .i64 (1 + x0), .int .i64 (1 + x1), .int .i64 (1 + x2), .int .i64 x3, .int .i64 x4, .int .i64 x5, .int .i64 (pN : Int), .int .i64 x6, .int .i64 (1 + x7), .int .i64 x8, .int .i64 (1 + x9), .slice B2 (j + 1) cB2, .slice O1 j cO, .slice none 0 0]), (p, [.slice A n c, .int .i64 (((k + 1 + 1 : Nat)) : Int)]), (cq, [.int .i64 b, .int .i64 (sN : Int), .int .i64 l]), (z, [.int .i64 0, .int .i64 0, .int .i64 0, .int .i64 0, .int .i64 0, .int .i64 0, .int .i64 0, .int .i64 0, .int .i64 0, .int .i64 0, .int .i64 0, .slice none 0 0, .slice none 0 0, .slice none 0 0])] [⟨3, 1, .slice B2 (j + 1) cB2, j + 1, (ivs (mkBase zs (j + 1)))⟩, ⟨3, 1, .slice O1 j cO, j, (ivs (mkOver zs (j)))⟩, ⟨120, 2, .slice none 0 0, 0, (usV (mkSegs zs P (0)))⟩] []) := Lib.hid (HDa.out.alloc (.cells #[.int .i64 xo] 3))
          clear HDa
          refine hK.out _ _ trivial (fun hSn => ?_)
          clear hK K hSw0
          have hSw0 := hSn
          clear hSn
          (try simp only [Act.put, List.setIfInBounds_toArray, List.set_cons_zero, List.set_cons_succ])
          refine wpAnyH_ready (rs := [1]) (by kernel_rfl) (by simp) ?_
          refine AllReadyH.cons (o := ⟨some 69, _, _, _, _, _⟩) rfl (fun K hK => ?_) AllReadyH.nil
          have y12 : World.cell? (World.alloc va (.cells #[.int .i64 xo] 3)) ⟨f, 12, none⟩ = some (.slice O1 j cO) := (HDe.out.boxi 0 rfl).cell 12 (by simp)
          have ly := (HDe.out.boxi 0 rfl).lt
          go_simp
          clear y12 ly
          refine hK.out _ _ trivial (fun hSn => ?_)
          clear hK K hSw0
          have hSw0 := hSn
          clear hSn
          (try simp only [Act.put, List.setIfInBounds_toArray, List.set_cons_zero, List.set_cons_succ])
          refine wpAnyH_ready (rs := [5]) (by kernel_rfl) (by simp) ?_
          refine AllReadyH.cons (o := ⟨some 73, _, _, _, _, _⟩) rfl (fun K hK => ?_) AllReadyH.nil
          refine step_append_elems rfl (.tmp 69) (.tmp 72) 36 rfl w.heap.size 3 i1 _ 1 8 Try.underlying36 hi1 hy0 hy1 hy2 rfl (by decide) (.slice O1 j cO) j (ivs (mkOver zs (j))) rfl (HDe.out.gi 1 rfl) ⟨va.heap.size, 0, none⟩ 1 1 [.int .i64 xo] rfl rfl (news_new va #[.int .i64 xo] 3 (by simp [maxLen])) (by simp [Value.oneCell']) (by unfold maxLen; omega) (by omega) HDe.out.only.size ?_
          intro v' wa hown hgrow hat
          rw [← ivs_snoc, show mkOver zs j ++ [xo] = mkOver zs (j + 1) by rw [mkOver_succ, HXO.out]] at hown
          obtain ⟨A5, c5, rfl⟩ : ∃ A5 c5, v' = .slice A5 (j + 1) c5 := (show GathN wa w.heap.size 3 1 v' (j + 1) _ from ⟨hown, Nat.le_trans HDe.out.only.size hgrow.size⟩).form (by decide) |>.elim fun A h => h.elim fun c h => ⟨A, c, h.1⟩
          have HDf : Hid (Wd w wa [(f, [.int .i64 (1 + x0), .int .i64 (1 + x1), .int .i64 (1 + x2), .int .i64 x3, .int .i64 x4, .int .i64 x5, .int .i64 (pN : Int), .int .i64 x6, .int .i64 (1 + x7), .int .i64 x8, .int .i64 (1 + x9), .slice B2 (j + 1) cB2, .slice O1 j cO, .slice none 0 0]), (p, [.slice A n c, .int .i64 (((k + 1 + 1 : Nat)) : Int)]), (cq, [.int .i64 b, .int .i64 (sN : Int), .int .i64 l]), (z, [.int .i64 0, .int .i64 0, .int .i64 0, .int .i64 0, .int .i64 0, .int .i64 0, .int .i64 0, .int .i64 0, .int .i64 0, .int .i64 0, .int .i64 0, .slice none 0 0, .slice none 0 0, .slice none 0 0])] [⟨3, 1, .slice B2 (j + 1) cB2, j + 1, (ivs (mkBase zs (j + 1)))⟩, ⟨3, 1, .slice A5 (j + 1) c5, j + 1, (ivs (mkOver zs (j + 1)))⟩, ⟨120, 2, .slice none 0 0, 0, (usV (mkSegs zs P (0)))⟩] []) := Lib.hid (HDe.out.gapp 1 rfl hown hgrow hat)
          clear HDe
          clear hown hgrow hat
          refine hK.out _ _ trivial (fun hSn => ?_)
          clear hK K hSw0
          have hSw0 := hSn
          clear hSn
          (try simp only [Act.put, List.setIfInBounds_toArray, List.set_cons_zero, List.set_cons_succ])
          refine wpAnyH_take (i := 6) (oi := ⟨some 74, _, _, _, _, _⟩) (v := ?_) rfl (by kernel_rfl) (by kernel_rfl) (by kernel_rfl) (fun _ _ _ h => h) (Or.inl ⟨by rfl, ?_⟩) (by assumption) ?_
          rotate_left
          · intro w hSw
          
            go_simp
            all_goals (try with_reducible rfl)
          (try simp only [Act.put, List.setIfInBounds_toArray, List.set_cons_zero, List.set_cons_succ])
          refine wpAnyH_ready (rs := [7]) (by kernel_rfl) (by simp) ?_
          refine AllReadyH.cons (o := ⟨none, _, _, _, _, _⟩) rfl (fun K hK => ?_) AllReadyH.nil
          have y12 : World.cell? wa ⟨f, 12, none⟩ = some (.slice O1 j cO) := (HDf.out.boxi 0 rfl).cell 12 (by simp)
          have zy12 := (HDf.out.boxi 0 rfl).frozen 12
          have ly := (HDf.out.boxi 0 rfl).lt
          go_simp
          have HDg : Hid (Wd w (World.setCell wa ⟨f, 12, none⟩ (.slice A5 (j + 1) c5)) [(f, [.int .i64 (1 + x0), .int .i64 (1 + x1), .int .i64 (1 + x2), .int .i64 x3, .int .i64 x4, .int .i64 x5, .int .i64 (pN : Int), .int .i64 x6, .int .i64 (1 + x7), .int .i64 x8, .int .i64 (1 + x9), .slice B2 (j + 1) cB2, .slice A5 (j + 1) c5, .slice none 0 0]), (p, [.slice A n c, .int .i64 (((k + 1 + 1 : Nat)) : Int)]), (cq, [.int .i64 b, .int .i64 (sN : Int), .int .i64 l]), (z, [.int .i64 0, .int .i64 0, .int .i64 0, .int .i64 0, .int .i64 0, .int .i64 0, .int .i64 0, .int .i64 0, .int .i64 0, .int .i64 0, .int .i64 0, .slice none 0 0, .slice none 0 0, .slice none 0 0])] [⟨3, 1, .slice B2 (j + 1) cB2, j + 1, (ivs (mkBase zs (j + 1)))⟩, ⟨3, 1, .slice A5 (j + 1) c5, j + 1, (ivs (mkOver zs (j + 1)))⟩, ⟨120, 2, .slice none 0 0, 0, (usV (mkSegs zs P (0)))⟩] []) := Lib.hid (HDf.out.put 0 rfl 12 (.slice A5 (j + 1) c5))
          clear HDf
          clear y12 zy12 ly
          refine hK.out _ _ trivial (fun hSn => ?_)
          clear hK K hSw0
          have hSw0 := hSn
          clear hSn
          (try simp only [Act.put, List.setIfInBounds_toArray, List.set_cons_zero, List.set_cons_succ])
          refine wpAnyH_done (by kernel_rfl) ?_ _
          clear hSw0
          go_wp2
          go_roundg (gk - 1)
          case measure => omega
          case rel => exact ⟨j + 1, k + 1 + 1, B2, A5, cB2, c5, by omega, by rw [HJK.out]; omega, by go_num, HDg.out⟩
        exact AllReadyH.nil
      exact AllReadyH.nil
  · obtain rfl : j = P := by omega
    have hk0 := hk
    have HF2 : Hid (∃ (S1 : Option Addr) (cS : Nat), Wd w w2 [(f, [.int .i64 (1 + x0), .int .i64 (1 + x1), .int .i64 (1 + x2), .int .i64 x3, .int .i64 x4, .int .i64 x5, .int .i64 (pN : Int), .int .i64 x6, .int .i64 (1 + x7), .int .i64 x8, .int .i64 (1 + x9), .slice B1 j cB, .slice O1 j cO, .slice S1 (0) cS]), (p, [.slice A n c, .int .i64 ((k : Nat) : Int)]), (cq, [.int .i64 b, .int .i64 (sN : Int), .int .i64 l]), (z, [.int .i64 0, .int .i64 0, .int .i64 0, .int .i64 0, .int .i64 0, .int .i64 0, .int .i64 0, .int .i64 0, .int .i64 0, .int .i64 0, .int .i64 0, .slice none 0 0, .slice none 0 0, .slice none 0 0])] [⟨3, 1, .slice B1 j cB, j, (ivs (mkBase zs (j)))⟩, ⟨3, 1, .slice O1 j cO, j, (ivs (mkOver zs (j)))⟩, ⟨120, 2, .slice S1 (0) cS, 0, (usV (mkSegs zs j (0)))⟩] []) := Lib.hid ⟨none, 0, by exact HDs.out⟩
    clear HDs hk
    go_wp2_with fail
    go_loopg [11] sN (fun r i wr => ∃ (t k : Nat) (S1 : Option Addr) (cS : Nat), t + r = sN ∧ k = 10 + 2 * j + 2 * t ∧ i = .int .i64 t ∧ Wd w wr [(f, [.int .i64 (1 + x0), .int .i64 (1 + x1), .int .i64 (1 + x2), .int .i64 x3, .int .i64 x4, .int .i64 x5, .int .i64 (pN : Int), .int .i64 x6, .int .i64 (1 + x7), .int .i64 x8, .int .i64 (1 + x9), .slice B1 j cB, .slice O1 j cO, .slice S1 (t) cS]), (p, [.slice A n c, .int .i64 ((k : Nat) : Int)]), (cq, [.int .i64 b, .int .i64 (sN : Int), .int .i64 l]), (z, [.int .i64 0, .int .i64 0, .int .i64 0, .int .i64 0, .int .i64 0, .int .i64 0, .int .i64 0, .int .i64 0, .int .i64 0, .int .i64 0, .int .i64 0, .slice none 0 0, .slice none 0 0, .slice none 0 0])] [⟨3, 1, .slice B1 j cB, j, (ivs (mkBase zs (j)))⟩, ⟨3, 1, .slice O1 j cO, j, (ivs (mkOver zs (j)))⟩, ⟨120, 2, .slice S1 (t) cS, t, (usV (mkSegs zs j (t)))⟩] [])
    case atStart =>
      obtain ⟨S1, cS, h⟩ := HF2.out
      exact ⟨0, k, S1, cS, by omega, by omega, rfl, h⟩
    obtain ⟨t, k, S1, cS, ht, hk, rfl, hd⟩ := hrel
    have HDt := Lib.hid hd
    have hk99 : k ≤ 100 := by omega
    clear hd HF2 hk0
    have g1 : World.cell? wr ⟨cq, 1, none⟩ = some (.int .i64 (sN : Int)) := (HDt.out.boxi 2 rfl).cell 1 (by simp)
    have lg := (HDt.out.boxi 2 rfl).lt
    by_cases hlt2 : t < sN
    · have hlt3 : (t : Int) < (sN : Int) := by omega
      obtain ⟨xb, hxb⟩ : ∃ x, nx zs (10 + 2 * j + 2 * t) 2 = x := ⟨_, rfl⟩
      have bxb := nx_bd zs (10 + 2 * j + 2 * t) 2 (by omega)
      rw [hxb] at bxb
      obtain ⟨xo, hxo⟩ : ∃ x, nx zs (11 + 2 * j + 2 * t) 2147483648 = x := ⟨_, rfl⟩
      have bxo := nx_bd zs (11 + 2 * j + 2 * t) 2147483648 (by omega)
      rw [hxo] at bxo
      have hsn : mkSegs zs j t ++ [(2 * xb, xo)] = mkSegs zs j (t + 1) := by rw [mkSegs_succ, hxb, hxo]
      have HSN := Lib.hid hsn
      have HXB := Lib.hid hxb
      have HXO := Lib.hid hxo
      have HJK := Lib.hid hk
      clear hxb hxo hk hsn
      have hw2 := IntWalk.i64_in (2 * xb) (by omega)
      go_wp2_with fail
      clear g1 lg
      have HDd : Hid (Wd w wr.drew [(f, [.int .i64 (1 + x0), .int .i64 (1 + x1), .int .i64 (1 + x2), .int .i64 x3, .int .i64 x4, .int .i64 x5, .int .i64 (pN : Int), .int .i64 x6, .int .i64 (1 + x7), .int .i64 x8, .int .i64 (1 + x9), .slice B1 j cB, .slice O1 j cO, .slice S1 (t) cS]), (p, [.slice A n c, .int .i64 ((k : Nat) : Int)]), (cq, [.int .i64 b, .int .i64 (sN : Int), .int .i64 l]), (z, [.int .i64 0, .int .i64 0, .int .i64 0, .int .i64 0, .int .i64 0, .int .i64 0, .int .i64 0, .int .i64 0, .int .i64 0, .int .i64 0, .int .i64 0, .slice none 0 0, .slice none 0 0, .slice none 0 0])] [⟨3, 1, .slice B1 j cB, j, (ivs (mkBase zs (j)))⟩, ⟨3, 1, .slice O1 j cO, j, (ivs (mkOver zs (j)))⟩, ⟨120, 2, .slice S1 (t) cS, t, (usV (mkSegs zs j (t)))⟩] []) := Lib.hid (HDt.out.drew)
      clear HDt
      refine wp_region_held_drew (S := fun _ => True) (by kernel_rfl) trivial (fun hSw0 => ?_)
      refine wpAnyH_take (i := 0) (oi := ⟨some 81, _, _, _, _, _⟩) (v := ?_) rfl (by kernel_rfl) (by kernel_rfl) (by kernel_rfl) (fun _ _ _ h => h) (Or.inl ⟨by rfl, ?_⟩) (by assumption) ?_
      rotate_left
      · intro w hSw
      
        go_simp
        all_goals (try with_reducible rfl)
      (try simp only [Act.put, List.setIfInBounds_toArray, List.set_cons_zero, List.set_cons_succ])
      refine wpAnyH_take (i := 2) (oi := ⟨some 83, _, _, _, _, _⟩) (v := ?_) rfl (by kernel_rfl) (by kernel_rfl) (by kernel_rfl) (fun _ _ _ h => h) (Or.inl ⟨by rfl, ?_⟩) (by assumption) ?_
      rotate_left
      · intro w hSw
      
        go_simp
        all_goals (try with_reducible rfl)
      (try simp only [Act.put, List.setIfInBounds_toArray, List.set_cons_zero, List.set_cons_succ])
      refine wpAnyH_take (i := 5) (oi := ⟨some 86, _, _, _, _, _⟩) (v := ?_) rfl (by kernel_rfl) (by kernel_rfl) (by kernel_rfl) (fun _ _ _ h => h) (Or.inl ⟨by rfl, ?_⟩) (by assumption) ?_
      rotate_left
      · intro w hSw
      
        go_simp
        all_goals (try with_reducible rfl)
      (try simp only [Act.put, List.setIfInBounds_toArray, List.set_cons_zero, List.set_cons_succ])
      refine wpAnyH_ready (rs := [1, 3]) (by kernel_rfl) (by simp) ?_
      refine AllReadyH.cons (o := ⟨some 82, _, _, _, _, _⟩) rfl (fun K hK => ?_) ?_
      · have y13 : World.cell? wr.drew ⟨f, 13, none⟩ = some (.slice S1 (t) cS) := (HDd.out.boxi 0 rfl).cell 13 (by simp)
        have ly := (HDd.out.boxi 0 rfl).lt
        go_simp
        clear y13 ly
        refine hK.out _ _ trivial (fun hSn => ?_)
        clear hK K hSw0
        have hSw0 := hSn
        clear hSn
        (try simp only [Act.put, List.setIfInBounds_toArray, List.set_cons_zero, List.set_cons_succ])
        refine wpAnyH_ready (rs := [3]) (by kernel_rfl) (by simp) ?_
        refine AllReadyH.cons (o := ⟨some 84, _, _, _, _, _⟩) rfl (fun K hK => ?_) AllReadyH.nil
        go_simp
        refine (next9_any p (k) A n c zs 2 _ (by exact (HDd.out.boxi 1 rfl)) (HI.out.keep0 HDd.out.only) (by omega) HWF.out (by decide) (by decide)).mono ?_
        rintro en va0 ⟨rfl, hb, hO⟩
        rw [show nx zs (k) 2 = xb by rw [HJK.out]; exact HXB.out]
        have HDa0 : Hid (Wd w va0 [(f, [.int .i64 (1 + x0), .int .i64 (1 + x1), .int .i64 (1 + x2), .int .i64 x3, .int .i64 x4, .int .i64 x5, .int .i64 (pN : Int), .int .i64 x6, .int .i64 (1 + x7), .int .i64 x8, .int .i64 (1 + x9), .slice B1 j cB, .slice O1 j cO, .slice S1 (t) cS]), (p, [.slice A n c, .int .i64 (((k + 1 : Nat)) : Int)]), (cq, [.int .i64 b, .int .i64 (sN : Int), .int .i64 l]), (z, [.int .i64 0, .int .i64 0, .int .i64 0, .int .i64 0, .int .i64 0, .int .i64 0, .int .i64 0, .int .i64 0, .int .i64 0, .int .i64 0, .int .i64 0, .slice none 0 0, .slice none 0 0, .slice none 0 0])] [⟨3, 1, .slice B1 j cB, j, (ivs (mkBase zs (j)))⟩, ⟨3, 1, .slice O1 j cO, j, (ivs (mkOver zs (j)))⟩, ⟨120, 2, .slice S1 (t) cS, t, (usV (mkSegs zs j (t)))⟩] []) := Lib.hid (HDd.out.call1 1 rfl hb hO)
        clear HDd
        clear hb hO
        refine hK.out _ _ trivial (fun hSn => ?_)
        clear hK K hSw0
        have hSw0 := hSn
        clear hSn
        (try simp only [Act.put, List.setIfInBounds_toArray, List.set_cons_zero, List.set_cons_succ])
        refine wpAnyH_take (i := 4) (oi := ⟨some 85, _, _, _, _, _⟩) (v := ?_) rfl (by kernel_rfl) (by kernel_rfl) (by kernel_rfl) (fun _ _ _ h => h) (Or.inl ⟨by rfl, ?_⟩) (by assumption) ?_
        rotate_left
        · intro w hSw
        
          go_simp
          all_goals (try with_reducible rfl)
        (try simp only [Act.put, List.setIfInBounds_toArray, List.set_cons_zero, List.set_cons_succ])
        refine wpAnyH_ready (rs := [6]) (by kernel_rfl) (by simp) ?_
        refine AllReadyH.cons (o := ⟨some 87, _, _, _, _, _⟩) rfl (fun K hK => ?_) AllReadyH.nil
        go_simp
        refine (next9_any p (k + 1) A n c zs 2147483648 _ (by exact (HDa0.out.boxi 1 rfl)) (HI.out.keep0 HDa0.out.only) (by omega) HWF.out (by decide) (by decide)).mono ?_
        rintro en va1 ⟨rfl, hb, hO⟩
        rw [show nx zs (k + 1) 2147483648 = xo by rw [HJK.out, show 10 + 2 * j + 2 * t + 1 = 11 + 2 * j + 2 * t by omega]; exact HXO.out]
        have HDa1 : Hid (Wd w va1 [(f, [.int .i64 (1 + x0), .int .i64 (1 + x1), .int .i64 (1 + x2), .int .i64 x3, .int .i64 x4, .int .i64 x5, .int .i64 (pN : Int), .int .i64 x6, .int .i64 (1 + x7), .int .i64 x8, .int .i64 (1 + x9), .slice B1 j cB, .slice O1 j cO, .slice S1 (t) cS]), (p, [.slice A n c, .int .i64 (((k + 1 + 1 : Nat)) : Int)]), (cq, [.int .i64 b, .int .i64 (sN : Int), .int .i64 l]), (z, [.int .i64 0, .int .i64 0, .int .i64 0, .int .i64 0, .int .i64 0, .int .i64 0, .int .i64 0, .int .i64 0, .int .i64 0, .int .i64 0, .int .i64 0, .slice none 0 0, .slice none 0 0, .slice none 0 0])] [⟨3, 1, .slice B1 j cB, j, (ivs (mkBase zs (j)))⟩, ⟨3, 1, .slice O1 j cO, j, (ivs (mkOver zs (j)))⟩, ⟨120, 2, .slice S1 (t) cS, t, (usV (mkSegs zs j (t)))⟩] []) := Lib.hid (HDa0.out.call1 1 rfl hb hO)
        clear HDa0
        clear hb hO
        refine hK.out _ _ trivial (fun hSn => ?_)
        clear hK K hSw0
        have hSw0 := hSn
        clear hSn
        (try simp only [Act.put, List.setIfInBounds_toArray, List.set_cons_zero, List.set_cons_succ])
        refine wpAnyH_take (i := 7) (oi := ⟨some 88, _, _, _, _, _⟩) (v := ?_) rfl (by kernel_rfl) (by kernel_rfl) (by kernel_rfl) (fun _ _ _ h => h) (Or.inl ⟨by rfl, ?_⟩) (by assumption) ?_
        rotate_left
        · intro w hSw
        
          go_simp
          all_goals (try with_reducible rfl)
        (try simp only [Act.put, List.setIfInBounds_toArray, List.set_cons_zero, List.set_cons_succ])
        refine wpAnyH_ready (rs := [8]) (by kernel_rfl) (by simp) ?_
        refine AllReadyH.cons (o := ⟨some 89, _, _, _, _, _⟩) rfl (fun K hK => ?_) AllReadyH.nil
        go_simp
        have HDe : Hid (Wd w (World.alloc va1 (.cells #[.int .i64 (2 * xb), .int .i64 xo] 120)) [(f, [.int .i64 (1 + x0), .int .i64 (1 + x1), .int .i64 (1 + x2), .int .i64 x3, .int .i64 x4, .int .i64 x5, .int .i64 (pN : Int), .int .i64 x6, .int .i64 (1 + x7), .int .i64 x8, .int .i64 (1 + x9), .slice B1 j cB, .slice O1 j cO, .slice S1 (t) cS]), (p, [.slice A n c, .int .i64 (((k + 1 + 1 : Nat)) : Int)]), (cq, [.int .i64 b, .int .i64 (sN : Int), .int .i64 l]), (z, [.int .i64 0, .int .i64 0, .int .i64 0, .int .i64 0, .int .i64 0, .int .i64 0, .int .i64 0, .int .i64 0, .int .i64 0, .int .i64 0, .int .i64 0, .slice none 0 0, .slice none 0 0, .slice none 0 0])] [⟨3, 1, .slice B1 j cB, j, (ivs (mkBase zs (j)))⟩, ⟨3, 1, .slice O1 j cO, j, (ivs (mkOver zs (j)))⟩, ⟨120, 2, .slice S1 (t) cS, t, (usV (mkSegs zs j (t)))⟩] []) := Lib.hid (HDa1.out.alloc (.cells #[.int .i64 (2 * xb), .int .i64 xo] 120))
        clear HDa1
        refine hK.out _ _ trivial (fun hSn => ?_)
        clear hK K hSw0
        have hSw0 := hSn
        clear hSn
        (try simp only [Act.put, List.setIfInBounds_toArray, List.set_cons_zero, List.set_cons_succ])
        refine wpAnyH_ready (rs := [9]) (by kernel_rfl) (by simp) ?_
        refine AllReadyH.cons (o := ⟨some 90, _, _, _, _, _⟩) rfl (fun K hK => ?_) AllReadyH.nil
        refine step_append_elems rfl (.tmp 82) (.tmp 89) 50 rfl w.heap.size 120 i0 _ 2 16 Try.underlying50 hi0 hz0 hz1 hz2 rfl (by decide) (.slice S1 t cS) t (usV (mkSegs zs j (t))) rfl (HDe.out.gi 2 rfl) ⟨va1.heap.size, 0, none⟩ 1 1 (usV [(2 * xb, xo)]) rfl rfl (news_new va1 #[.int .i64 (2 * xb), .int .i64 xo] 120 (by simp [maxLen])) (usV_one _) (by unfold maxLen; omega) (by omega) HDe.out.only.size ?_
        intro v' wa hown hgrow hat
        rw [show usV (mkSegs zs j t) ++ usV [(2 * xb, xo)] = usV (mkSegs zs j (t + 1)) by rw [← HSN.out]; simp [usV]] at hown
        obtain ⟨A5, c5, rfl⟩ : ∃ A5 c5, v' = .slice A5 (t + 1) c5 := (show GathN wa w.heap.size 120 2 v' (t + 1) _ from ⟨hown, Nat.le_trans HDe.out.only.size hgrow.size⟩).form (by decide) |>.elim fun A h => h.elim fun c h => ⟨A, c, h.1⟩
        have HDf : Hid (Wd w wa [(f, [.int .i64 (1 + x0), .int .i64 (1 + x1), .int .i64 (1 + x2), .int .i64 x3, .int .i64 x4, .int .i64 x5, .int .i64 (pN : Int), .int .i64 x6, .int .i64 (1 + x7), .int .i64 x8, .int .i64 (1 + x9), .slice B1 j cB, .slice O1 j cO, .slice S1 (t) cS]), (p, [.slice A n c, .int .i64 (((k + 1 + 1 : Nat)) : Int)]), (cq, [.int .i64 b, .int .i64 (sN : Int), .int .i64 l]), (z, [.int .i64 0, .int .i64 0, .int .i64 0, .int .i64 0, .int .i64 0, .int .i64 0, .int .i64 0, .int .i64 0, .int .i64 0, .int .i64 0, .int .i64 0, .slice none 0 0, .slice none 0 0, .slice none 0 0])] [⟨3, 1, .slice B1 j cB, j, (ivs (mkBase zs (j)))⟩, ⟨3, 1, .slice O1 j cO, j, (ivs (mkOver zs (j)))⟩, ⟨120, 2, .slice A5 (t + 1) c5, t + 1, (usV (mkSegs zs j (t + 1)))⟩] []) := Lib.hid (HDe.out.gapp 2 rfl hown hgrow hat)
        clear HDe
        clear hown hgrow hat
        refine hK.out _ _ trivial (fun hSn => ?_)
        clear hK K hSw0
        have hSw0 := hSn
        clear hSn
        (try simp only [Act.put, List.setIfInBounds_toArray, List.set_cons_zero, List.set_cons_succ])
        refine wpAnyH_take (i := 10) (oi := ⟨some 91, _, _, _, _, _⟩) (v := ?_) rfl (by kernel_rfl) (by kernel_rfl) (by kernel_rfl) (fun _ _ _ h => h) (Or.inl ⟨by rfl, ?_⟩) (by assumption) ?_
        rotate_left
        · intro w hSw
        
          go_simp
          all_goals (try with_reducible rfl)
        (try simp only [Act.put, List.setIfInBounds_toArray, List.set_cons_zero, List.set_cons_succ])
        refine wpAnyH_ready (rs := [11]) (by kernel_rfl) (by simp) ?_
        refine AllReadyH.cons (o := ⟨none, _, _, _, _, _⟩) rfl (fun K hK => ?_) AllReadyH.nil
        have y13 : World.cell? wa ⟨f, 13, none⟩ = some (.slice S1 (t) cS) := (HDf.out.boxi 0 rfl).cell 13 (by simp)
        have zy13 := (HDf.out.boxi 0 rfl).frozen 13
        have ly := (HDf.out.boxi 0 rfl).lt
        go_simp
        have HDg : Hid (Wd w (World.setCell wa ⟨f, 13, none⟩ (.slice A5 (t + 1) c5)) [(f, [.int .i64 (1 + x0), .int .i64 (1 + x1), .int .i64 (1 + x2), .int .i64 x3, .int .i64 x4, .int .i64 x5, .int .i64 (pN : Int), .int .i64 x6, .int .i64 (1 + x7), .int .i64 x8, .int .i64 (1 + x9), .slice B1 j cB, .slice O1 j cO, .slice A5 (t + 1) c5]), (p, [.slice A n c, .int .i64 (((k + 1 + 1 : Nat)) : Int)]), (cq, [.int .i64 b, .int .i64 (sN : Int), .int .i64 l]), (z, [.int .i64 0, .int .i64 0, .int .i64 0, .int .i64 0, .int .i64 0, .int .i64 0, .int .i64 0, .int .i64 0, .int .i64 0, .int .i64 0, .int .i64 0, .slice none 0 0, .slice none 0 0, .slice none 0 0])] [⟨3, 1, .slice B1 j cB, j, (ivs (mkBase zs (j)))⟩, ⟨3, 1, .slice O1 j cO, j, (ivs (mkOver zs (j)))⟩, ⟨120, 2, .slice A5 (t + 1) c5, t + 1, (usV (mkSegs zs j (t + 1)))⟩] []) := Lib.hid (HDf.out.put 0 rfl 13 (.slice A5 (t + 1) c5))
        clear HDf
        clear y13 zy13 ly
        refine hK.out _ _ trivial (fun hSn => ?_)
        clear hK K hSw0
        have hSw0 := hSn
        clear hSn
        (try simp only [Act.put, List.setIfInBounds_toArray, List.set_cons_zero, List.set_cons_succ])
        refine wpAnyH_done (by kernel_rfl) ?_ _
        clear hSw0
        go_wp2
        go_roundg (gk - 1)
        case measure => omega
        case rel => exact ⟨t + 1, k + 1 + 1, A5, c5, by omega, by rw [HJK.out]; omega, by go_num, HDg.out⟩
      refine AllReadyH.cons (o := ⟨some 84, _, _, _, _, _⟩) rfl (fun K hK => ?_) ?_
      · go_simp
        refine (next9_any p (k) A n c zs 2 _ (by exact (HDd.out.boxi 1 rfl)) (HI.out.keep0 HDd.out.only) (by omega) HWF.out (by decide) (by decide)).mono ?_
        rintro en va0 ⟨rfl, hb, hO⟩
        rw [show nx zs (k) 2 = xb by rw [HJK.out]; exact HXB.out]
        have HDa0 : Hid (Wd w va0 [(f, [.int .i64 (1 + x0), .int .i64 (1 + x1), .int .i64 (1 + x2), .int .i64 x3, .int .i64 x4, .int .i64 x5, .int .i64 (pN : Int), .int .i64 x6, .int .i64 (1 + x7), .int .i64 x8, .int .i64 (1 + x9), .slice B1 j cB, .slice O1 j cO, .slice S1 (t) cS]), (p, [.slice A n c, .int .i64 (((k + 1 : Nat)) : Int)]), (cq, [.int .i64 b, .int .i64 (sN : Int), .int .i64 l]), (z, [.int .i64 0, .int .i64 0, .int .i64 0, .int .i64 0, .int .i64 0, .int .i64 0, .int .i64 0, .int .i64 0, .int .i64 0, .int .i64 0, .int .i64 0, .slice none 0 0, .slice none 0 0, .slice none 0 0])] [⟨3, 1, .slice B1 j cB, j, (ivs (mkBase zs (j)))⟩, ⟨3, 1, .slice O1 j cO, j, (ivs (mkOver zs (j)))⟩, ⟨120, 2, .slice S1 (t) cS, t, (usV (mkSegs zs j (t)))⟩] []) := Lib.hid (HDd.out.call1 1 rfl hb hO)
        clear HDd
        clear hb hO
        refine hK.out _ _ trivial (fun hSn => ?_)
        clear hK K hSw0
        have hSw0 := hSn
        clear hSn
        (try simp only [Act.put, List.setIfInBounds_toArray, List.set_cons_zero, List.set_cons_succ])
        refine wpAnyH_take (i := 4) (oi := ⟨some 85, _, _, _, _, _⟩) (v := ?_) rfl (by kernel_rfl) (by kernel_rfl) (by kernel_rfl) (fun _ _ _ h => h) (Or.inl ⟨by rfl, ?_⟩) (by assumption) ?_
        rotate_left
        · intro w hSw
        
          go_simp
          all_goals (try with_reducible rfl)
        (try simp only [Act.put, List.setIfInBounds_toArray, List.set_cons_zero, List.set_cons_succ])
        refine wpAnyH_ready (rs := [1, 6]) (by kernel_rfl) (by simp) ?_
        refine AllReadyH.cons (o := ⟨some 82, _, _, _, _, _⟩) rfl (fun K hK => ?_) ?_
        · have y13 : World.cell? va0 ⟨f, 13, none⟩ = some (.slice S1 (t) cS) := (HDa0.out.boxi 0 rfl).cell 13 (by simp)
          have ly := (HDa0.out.boxi 0 rfl).lt
          go_simp
          clear y13 ly
          refine hK.out _ _ trivial (fun hSn => ?_)
          clear hK K hSw0
          have hSw0 := hSn
          clear hSn
          (try simp only [Act.put, List.setIfInBounds_toArray, List.set_cons_zero, List.set_cons_succ])
          refine wpAnyH_ready (rs := [6]) (by kernel_rfl) (by simp) ?_
          refine AllReadyH.cons (o := ⟨some 87, _, _, _, _, _⟩) rfl (fun K hK => ?_) AllReadyH.nil
          go_simp
          refine (next9_any p (k + 1) A n c zs 2147483648 _ (by exact (HDa0.out.boxi 1 rfl)) (HI.out.keep0 HDa0.out.only) (by omega) HWF.out (by decide) (by decide)).mono ?_
          rintro en va1 ⟨rfl, hb, hO⟩
          rw [show nx zs (k + 1) 2147483648 = xo by rw [HJK.out, show 10 + 2 * j + 2 * t + 1 = 11 + 2 * j + 2 * t by omega]; exact HXO.out]
          have HDa1 : Hid (Wd w va1 [(f, [.int .i64 (1 + x0), .int .i64 (1 + x1), .int .i64 (1 + x2), .int .i64 x3, .int .i64 x4, .int .i64 x5, .int .i64 (pN : Int), .int .i64 x6, .int .i64 (1 + x7), .int .i64 x8, .int .i64 (1 + x9), .slice B1 j cB, .slice O1 j cO, .slice S1 (t) cS]), (p, [.slice A n c, .int .i64 (((k + 1 + 1 : Nat)) : Int)]), (cq, [.int .i64 b, .int .i64 (sN : Int), .int .i64 l]), (z, [.int .i64 0, .int .i64 0, .int .i64 0, .int .i64 0, .int .i64 0, .int .i64 0, .int .i64 0, .int .i64 0, .int .i64 0, .int .i64 0, .int .i64 0, .slice none 0 0, .slice none 0 0, .slice none 0 0])] [⟨3, 1, .slice B1 j cB, j, (ivs (mkBase zs (j)))⟩, ⟨3, 1, .slice O1 j cO, j, (ivs (mkOver zs (j)))⟩, ⟨120, 2, .slice S1 (t) cS, t, (usV (mkSegs zs j (t)))⟩] []) := Lib.hid (HDa0.out.call1 1 rfl hb hO)
          clear HDa0
          clear hb hO
          refine hK.out _ _ trivial (fun hSn => ?_)
          clear hK K hSw0
          have hSw0 := hSn
          clear hSn
          (try simp only [Act.put, List.setIfInBounds_toArray, List.set_cons_zero, List.set_cons_succ])
          refine wpAnyH_take (i := 7) (oi := ⟨some 88, _, _, _, _, _⟩) (v := ?_) rfl (by kernel_rfl) (by kernel_rfl) (by kernel_rfl) (fun _ _ _ h => h) (Or.inl ⟨by rfl, ?_⟩) (by assumption) ?_
          rotate_left
          · intro w hSw
          
            go_simp
            all_goals (try with_reducible rfl)
          (try simp only [Act.put, List.setIfInBounds_toArray, List.set_cons_zero, List.set_cons_succ])
          refine wpAnyH_ready (rs := [8]) (by kernel_rfl) (by simp) ?_
          refine AllReadyH.cons (o := ⟨some 89, _, _, _, _, _⟩) rfl (fun K hK => ?_) AllReadyH.nil
          go_simp
          have HDe : Hid (Wd w (World.alloc va1 (.cells #[.int .i64 (2 * xb), .int .i64 xo] 120)) [(f, [.int .i64 (1 + x0), .int .i64 (1 + x1), .int .i64 (1 + x2), .int .i64 x3, .int .i64 x4, .int .i64 x5, .int .i64 (pN : Int), .int .i64 x6, .int .i64 (1 + x7), .int .i64 x8, .int .i64 (1 + x9), .slice B1 j cB, .slice O1 j cO, .slice S1 (t) cS]), (p, [.slice A n c, .int .i64 (((k + 1 + 1 : Nat)) : Int)]), (cq, [.int .i64 b, .int .i64 (sN : Int), .int .i64 l]), (z, [.int .i64 0, .int .i64 0, .int .i64 0, .int .i64 0, .int .i64 0, .int .i64 0, .int .i64 0, .int .i64 0, .int .i64 0, .int .i64 0, .int .i64 0, .slice none 0 0, .slice none 0 0, .slice none 0 0])] [⟨3, 1, .slice B1 j cB, j, (ivs (mkBase zs (j)))⟩, ⟨3, 1, .slice O1 j cO, j, (ivs (mkOver zs (j)))⟩, ⟨120, 2, .slice S1 (t) cS, t, (usV (mkSegs zs j (t)))⟩] []) := Lib.hid (HDa1.out.alloc (.cells #[.int .i64 (2 * xb), .int .i64 xo] 120))
          clear HDa1
          refine hK.out _ _ trivial (fun hSn => ?_)
          clear hK K hSw0
          have hSw0 := hSn
          clear hSn
          (try simp only [Act.put, List.setIfInBounds_toArray, List.set_cons_zero, List.set_cons_succ])
          refine wpAnyH_ready (rs := [9]) (by kernel_rfl) (by simp) ?_
          refine AllReadyH.cons (o := ⟨some 90, _, _, _, _, _⟩) rfl (fun K hK => ?_) AllReadyH.nil
          refine step_append_elems rfl (.tmp 82) (.tmp 89) 50 rfl w.heap.size 120 i0 _ 2 16 Try.underlying50 hi0 hz0 hz1 hz2 rfl (by decide) (.slice S1 t cS) t (usV (mkSegs zs j (t))) rfl (HDe.out.gi 2 rfl) ⟨va1.heap.size, 0, none⟩ 1 1 (usV [(2 * xb, xo)]) rfl rfl (news_new va1 #[.int .i64 (2 * xb), .int .i64 xo] 120 (by simp [maxLen])) (usV_one _) (by unfold maxLen; omega) (by omega) HDe.out.only.size ?_
          intro v' wa hown hgrow hat
          rw [show usV (mkSegs zs j t) ++ usV [(2 * xb, xo)] = usV (mkSegs zs j (t + 1)) by rw [← HSN.out]; simp [usV]] at hown
          obtain ⟨A5, c5, rfl⟩ : ∃ A5 c5, v' = .slice A5 (t + 1) c5 := (show GathN wa w.heap.size 120 2 v' (t + 1) _ from ⟨hown, Nat.le_trans HDe.out.only.size hgrow.size⟩).form (by decide) |>.elim fun A h => h.elim fun c h => ⟨A, c, h.1⟩
          have HDf : Hid (Wd w wa [(f, [.int .i64 (1 + x0), .int .i64 (1 + x1), .int .i64 (1 + x2), .int .i64 x3, .int .i64 x4, .int .i64 x5, .int .i64 (pN : Int), .int .i64 x6, .int .i64 (1 + x7), .int .i64 x8, .int .i64 (1 + x9), .slice B1 j cB, .slice O1 j cO, .slice S1 (t) cS]), (p, [.slice A n c, .int .i64 (((k + 1 + 1 : Nat)) : Int)]), (cq, [.int .i64 b, .int .i64 (sN : Int), .int .i64 l]), (z, [.int .i64 0, .int .i64 0, .int .i64 0, .int .i64 0, .int .i64 0, .int .i64 0, .int .i64 0, .int .i64 0, .int .i64 0, .int .i64 0, .int .i64 0, .slice none 0 0, .slice none 0 0, .slice none 0 0])] [⟨3, 1, .slice B1 j cB, j, (ivs (mkBase zs (j)))⟩, ⟨3, 1, .slice O1 j cO, j, (ivs (mkOver zs (j)))⟩, ⟨120, 2, .slice A5 (t + 1) c5, t + 1, (usV (mkSegs zs j (t + 1)))⟩] []) := Lib.hid (HDe.out.gapp 2 rfl hown hgrow hat)
          clear HDe
          clear hown hgrow hat
          refine hK.out _ _ trivial (fun hSn => ?_)
          clear hK K hSw0
          have hSw0 := hSn
          clear hSn
          (try simp only [Act.put, List.setIfInBounds_toArray, List.set_cons_zero, List.set_cons_succ])
          refine wpAnyH_take (i := 10) (oi := ⟨some 91, _, _, _, _, _⟩) (v := ?_) rfl (by kernel_rfl) (by kernel_rfl) (by kernel_rfl) (fun _ _ _ h => h) (Or.inl ⟨by rfl, ?_⟩) (by assumption) ?_
          rotate_left
          · intro w hSw
          
            go_simp
            all_goals (try with_reducible rfl)
          (try simp only [Act.put, List.setIfInBounds_toArray, List.set_cons_zero, List.set_cons_succ])
          refine wpAnyH_ready (rs := [11]) (by kernel_rfl) (by simp) ?_
          refine AllReadyH.cons (o := ⟨none, _, _, _, _, _⟩) rfl (fun K hK => ?_) AllReadyH.nil
          have y13 : World.cell? wa ⟨f, 13, none⟩ = some (.slice S1 (t) cS) := (HDf.out.boxi 0 rfl).cell 13 (by simp)
          have zy13 := (HDf.out.boxi 0 rfl).frozen 13
          have ly := (HDf.out.boxi 0 rfl).lt
          go_simp
          have HDg : Hid (Wd w (World.setCell wa ⟨f, 13, none⟩ (.slice A5 (t + 1) c5)) [(f, [.int .i64 (1 + x0), .int .i64 (1 + x1), .int .i64 (1 + x2), .int .i64 x3, .int .i64 x4, .int .i64 x5, .int .i64 (pN : Int), .int .i64 x6, .int .i64 (1 + x7), .int .i64 x8, .int .i64 (1 + x9), .slice B1 j cB, .slice O1 j cO, .slice A5 (t + 1) c5]), (p, [.slice A n c, .int .i64 (((k + 1 + 1 : Nat)) : Int)]), (cq, [.int .i64 b, .int .i64 (sN : Int), .int .i64 l]), (z, [.int .i64 0, .int .i64 0, .int .i64 0, .int .i64 0, .int .i64 0, .int .i64 0, .int .i64 0, .int .i64 0, .int .i64 0, .int .i64 0, .int .i64 0, .slice none 0 0, .slice none 0 0, .slice none 0 0])] [⟨3, 1, .slice B1 j cB, j, (ivs (mkBase zs (j)))⟩, ⟨3, 1, .slice O1 j cO, j, (ivs (mkOver zs (j)))⟩, ⟨120, 2, .slice A5 (t + 1) c5, t + 1, (usV (mkSegs zs j (t + 1)))⟩] []) := Lib.hid (HDf.out.put 0 rfl 13 (.slice A5 (t + 1) c5))
          clear HDf
          clear y13 zy13 ly
          refine hK.out _ _ trivial (fun hSn => ?_)
          clear hK K hSw0
          have hSw0 := hSn
          clear hSn
          (try simp only [Act.put, List.setIfInBounds_toArray, List.set_cons_zero, List.set_cons_succ])
          refine wpAnyH_done (by kernel_rfl) ?_ _
          clear hSw0
          go_wp2
          go_roundg (gk - 1)
          case measure => omega
          case rel => exact ⟨t + 1, k + 1 + 1, A5, c5, by omega, by rw [HJK.out]; omega, by go_num, HDg.out⟩
        refine AllReadyH.cons (o := ⟨some 87, _, _, _, _, _⟩) rfl (fun K hK => ?_) ?_
        · go_simp
          refine (next9_any p (k + 1) A n c zs 2147483648 _ (by exact (HDa0.out.boxi 1 rfl)) (HI.out.keep0 HDa0.out.only) (by omega) HWF.out (by decide) (by decide)).mono ?_
          rintro en va1 ⟨rfl, hb, hO⟩
          rw [show nx zs (k + 1) 2147483648 = xo by rw [HJK.out, show 10 + 2 * j + 2 * t + 1 = 11 + 2 * j + 2 * t by omega]; exact HXO.out]
          have HDa1 : Hid (Wd w va1 [(f, [.int .i64 (1 + x0), .int .i64 (1 + x1), .int .i64 (1 + x2), .int .i64 x3, .int .i64 x4, .int .i64 x5, .int .i64 (pN : Int), .int .i64 x6, .int .i64 (1 + x7), .int .i64 x8, .int .i64 (1 + x9), .slice B1 j cB, .slice O1 j cO, .slice S1 (t) cS]), (p, [.slice A n c, .int .i64 (((k + 1 + 1 : Nat)) : Int)]), (cq, [.int .i64 b, .int .i64 (sN : Int), .int .i64 l]), (z, [.int .i64 0, .int .i64 0, .int .i64 0, .int .i64 0, .int .i64 0, .int .i64 0, .int .i64 0, .int .i64 0, .int .i64 0, .int .i64 0, .int .i64 0, .slice none 0 0, .slice none 0 0, .slice none 0 0])] [⟨3, 1, .slice B1 j cB, j, (ivs (mkBase zs (j)))⟩, ⟨3, 1, .slice O1 j cO, j, (ivs (mkOver zs (j)))⟩, ⟨120, 2, .slice S1 (t) cS, t, (usV (mkSegs zs j (t)))⟩] []) := Lib.hid (HDa0.out.call1 1 rfl hb hO)
          clear HDa0
          clear hb hO
          refine hK.out _ _ trivial (fun hSn => ?_)
          clear hK K hSw0
          have hSw0 := hSn
          clear hSn
          (try simp only [Act.put, List.setIfInBounds_toArray, List.set_cons_zero, List.set_cons_succ])
          refine wpAnyH_take (i := 7) (oi := ⟨some 88, _, _, _, _, _⟩) (v := ?_) rfl (by kernel_rfl) (by kernel_rfl) (by kernel_rfl) (fun _ _ _ h => h) (Or.inl ⟨by rfl, ?_⟩) (by assumption) ?_
          rotate_left
          · intro w hSw
          
            go_simp
            all_goals (try with_reducible rfl)
          (try simp only [Act.put, List.setIfInBounds_toArray, List.set_cons_zero, List.set_cons_succ])
          refine wpAnyH_ready (rs := [1, 8]) (by kernel_rfl) (by simp) ?_
          refine AllReadyH.cons (o := ⟨some 82, _, _, _, _, _⟩) rfl (fun K hK => ?_) ?_
          · have y13 : World.cell? va1 ⟨f, 13, none⟩ = some (.slice S1 (t) cS) := (HDa1.out.boxi 0 rfl).cell 13 (by simp)
            have ly := (HDa1.out.boxi 0 rfl).lt
            go_simp
            clear y13 ly
            refine hK.out _ _ trivial (fun hSn => ?_)
            clear hK K hSw0
            have hSw0 := hSn
            clear hSn
            (try simp only [Act.put, List.setIfInBounds_toArray, List.set_cons_zero, List.set_cons_succ])
            refine wpAnyH_ready (rs := [8]) (by kernel_rfl) (by simp) ?_
            refine AllReadyH.cons (o := ⟨some 89, _, _, _, _, _⟩) rfl (fun K hK => ?_) AllReadyH.nil
            go_simp
            have HDe : Hid (Wd w (World.alloc va1 (.cells #[.int .i64 (2 * xb), .int .i64 xo] 120)) [(f, [.int .i64 (1 + x0), .int .i64 (1 + x1), .int .i64 (1 + x2), .int .i64 x3, .int .i64 x4, .int .i64 x5, .int .i64 (pN : Int), .int .i64 x6, .int .i64 (1 + x7), .int .i64 x8, .int .i64 (1 + x9), .slice B1 j cB, .slice O1 j cO, .slice S1 (t) cS]), (p, [.slice A n c, .int .i64 (((k + 1 + 1 : Nat)) : Int)]), (cq, [.int .i64 b, .int .i64 (sN : Int), .int .i64 l]), (z, [.int .i64 0, .int .i64 0, .int .i64 0, .int .i64 0, .int .i64 0, .int .i64 0, .int .i64 0, .int .i64 0, .int .i64 0, .int .i64 0, .int .i64 0, .slice none 0 0, .slice none 0 0, .slice none 0 0])] [⟨3, 1, .slice B1 j cB, j, (ivs (mkBase zs (j)))⟩, ⟨3, 1, .slice O1 j cO, j, (ivs (mkOver zs (j)))⟩, ⟨120, 2, .slice S1 (t) cS, t, (usV (mkSegs zs j (t)))⟩] []) := Lib.hid (HDa1.out.alloc (.cells #[.int .i64 (2 * xb), .int .i64 xo] 120))
            clear HDa1
            refine hK.out _ _ trivial (fun hSn => ?_)
            clear hK K hSw0
            have hSw0 := hSn
            clear hSn
            (try simp only [Act.put, List.setIfInBounds_toArray, List.set_cons_zero, List.set_cons_succ])
            refine wpAnyH_ready (rs := [9]) (by kernel_rfl) (by simp) ?_
            refine AllReadyH.cons (o := ⟨some 90, _, _, _, _, _⟩) rfl (fun K hK => ?_) AllReadyH.nil
            refine step_append_elems rfl (.tmp 82) (.tmp 89) 50 rfl w.heap.size 120 i0 _ 2 16 Try.underlying50 hi0 hz0 hz1 hz2 rfl (by decide) (.slice S1 t cS) t (usV (mkSegs zs j (t))) rfl (HDe.out.gi 2 rfl) ⟨va1.heap.size, 0, none⟩ 1 1 (usV [(2 * xb, xo)]) rfl rfl (news_new va1 #[.int .i64 (2 * xb), .int .i64 xo] 120 (by simp [maxLen])) (usV_one _) (by unfold maxLen; omega) (by omega) HDe.out.only.size ?_
            intro v' wa hown hgrow hat
            rw [show usV (mkSegs zs j t) ++ usV [(2 * xb, xo)] = usV (mkSegs zs j (t + 1)) by rw [← HSN.out]; simp [usV]] at hown
            obtain ⟨A5, c5, rfl⟩ : ∃ A5 c5, v' = .slice A5 (t + 1) c5 := (show GathN wa w.heap.size 120 2 v' (t + 1) _ from ⟨hown, Nat.le_trans HDe.out.only.size hgrow.size⟩).form (by decide) |>.elim fun A h => h.elim fun c h => ⟨A, c, h.1⟩
            have HDf : Hid (Wd w wa [(f, [.int .i64 (1 + x0), .int .i64 (1 + x1), .int .i64 (1 + x2), .int .i64 x3, .int .i64 x4, .int .i64 x5, .int .i64 (pN : Int), .int .i64 x6, .int .i64 (1 + x7), .int .i64 x8, .int .i64 (1 + x9), .slice B1 j cB, .slice O1 j cO, .slice S1 (t) cS]), (p, [.slice A n c, .int .i64 (((k + 1 + 1 : Nat)) : Int)]), (cq, [.int .i64 b, .int .i64 (sN : Int), .int .i64 l]), (z, [.int .i64 0, .int .i64 0, .int .i64 0, .int .i64 0, .int .i64 0, .int .i64 0, .int .i64 0, .int .i64 0, .int .i64 0, .int .i64 0, .int .i64 0, .slice none 0 0, .slice none 0 0, .slice none 0 0])] [⟨3, 1, .slice B1 j cB, j, (ivs (mkBase zs (j)))⟩, ⟨3, 1, .slice O1 j cO, j, (ivs (mkOver zs (j)))⟩, ⟨120, 2, .slice A5 (t + 1) c5, t + 1, (usV (mkSegs zs j (t + 1)))⟩] []) := Lib.hid (HDe.out.gapp 2 rfl hown hgrow hat)
            clear HDe
            clear hown hgrow hat
            refine hK.out _ _ trivial (fun hSn => ?_)
            clear hK K hSw0
            have hSw0 := hSn
            clear hSn
            (try simp only [Act.put, List.setIfInBounds_toArray, List.set_cons_zero, List.set_cons_succ])
            refine wpAnyH_take (i := 10) (oi := ⟨some 91, _, _, _, _, _⟩) (v := ?_) rfl (by kernel_rfl) (by kernel_rfl) (by kernel_rfl) (fun _ _ _ h => h) (Or.inl ⟨by rfl, ?_⟩) (by assumption) ?_
            rotate_left
            · intro w hSw
            
              go_simp
              all_goals (try with_reducible rfl)
            (try simp only [Act.put, List.setIfInBounds_toArray, List.set_cons_zero, List.set_cons_succ])
            refine wpAnyH_ready (rs := [11]) (by kernel_rfl) (by simp) ?_
            refine AllReadyH.cons (o := ⟨none, _, _, _, _, _⟩) rfl (fun K hK => ?_) AllReadyH.nil
            have y13 : World.cell? wa ⟨f, 13, none⟩ = some (.slice S1 (t) cS) := (HDf.out.boxi 0 rfl).cell 13 (by simp)
            have zy13 := (HDf.out.boxi 0 rfl).frozen 13
            have ly := (HDf.out.boxi 0 rfl).lt
            go_simp
            have HDg : Hid (Wd w (World.setCell wa ⟨f, 13, none⟩ (.slice A5 (t + 1) c5)) [(f, [.int .i64 (1 + x0), .int .i64 (1 + x1), .int .i64 (1 + x2), .int .i64 x3, .int .i64 x4, .int .i64 x5, .int .i64 (pN : Int), .int .i64 x6, .int .i64 (1 + x7), .int .i64 x8, .int .i64 (1 + x9), .slice B1 j cB, .slice O1 j cO, .slice A5 (t + 1) c5]), (p, [.slice A n c, .int .i64 (((k + 1 + 1 : Nat)) : Int)]), (cq, [.int .i64 b, .int .i64 (sN : Int), .int .i64 l]), (z, [.int .i64 0, .int .i64 0, .int .i64 0, .int .i64 0, .int .i64 0, .int .i64 0, .int .i64 0, .int .i64 0, .int .i64 0, .int .i64 0, .int .i64 0, .slice none 0 0, .slice none 0 0, .slice none 0 0])] [⟨3, 1, .slice B1 j cB, j, (ivs (mkBase zs (j)))⟩, ⟨3, 1, .slice O1 j cO, j, (ivs (mkOver zs (j)))⟩, ⟨120, 2, .slice A5 (t + 1) c5, t + 1, (usV (mkSegs zs j (t + 1)))⟩] []) := Lib.hid (HDf.out.put 0 rfl 13 (.slice A5 (t + 1) c5))
            clear HDf
            clear y13 zy13 ly
            refine hK.out _ _ trivial (fun hSn => ?_)
            clear hK K hSw0
            have hSw0 := hSn
            clear hSn
            (try simp only [Act.put, List.setIfInBounds_toArray, List.set_cons_zero, List.set_cons_succ])
            refine wpAnyH_done (by kernel_rfl) ?_ _
            clear hSw0
            go_wp2
            go_roundg (gk - 1)
            case measure => omega
            case rel => exact ⟨t + 1, k + 1 + 1, A5, c5, by omega, by rw [HJK.out]; omega, by go_num, HDg.out⟩
          refine AllReadyH.cons (o := ⟨some 89, _, _, _, _, _⟩) rfl (fun K hK => ?_) ?_
          · go_simp
            have HDe : Hid (Wd w (World.alloc va1 (.cells #[.int .i64 (2 * xb), .int .i64 xo] 120)) [(f, [.int .i64 (1 + x0), .int .i64 (1 + x1), .int .i64 (1 + x2), .int .i64 x3, .int .i64 x4, .int .i64 x5, .int .i64 (pN : Int), .int .i64 x6, .int .i64 (1 + x7), .int .i64 x8, .int .i64 (1 + x9), .slice B1 j cB, .slice O1 j cO, .slice S1 (t) cS]), (p, [.slice A n c, .int .i64 (((k + 1 + 1 : Nat)) : Int)]), (cq, [.int .i64 b, .int .i64 (sN : Int), .int .i64 l]), (z, [.int .i64 0, .int .i64 0, .int .i64 0, .int .i64 0, .int .i64 0, .int .i64 0, .int .i64 0, .int .i64 0, .int .i64 0, .int .i64 0, .int .i64 0, .slice none 0 0, .slice none 0 0, .slice none 0 0])] [⟨3, 1, .slice B1 j cB, j, (ivs (mkBase zs (j)))⟩, ⟨3, 1, .slice O1 j cO, j, (ivs (mkOver zs (j)))⟩, ⟨120, 2, .slice S1 (t) cS, t, (usV (mkSegs zs j (t)))⟩] []) := Lib.hid (HDa1.out.alloc (.cells #[.int .i64 (2 * xb), .int .i64 xo] 120))
            clear HDa1
            refine hK.out _ _ trivial (fun hSn => ?_)
            clear hK K hSw0
            have hSw0 := hSn
            clear hSn
            (try simp only [Act.put, List.setIfInBounds_toArray, List.set_cons_zero, List.set_cons_succ])
            refine wpAnyH_ready (rs := [1]) (by kernel_rfl) (by simp) ?_
            refine AllReadyH.cons (o := ⟨some 82, _, _, _, _, _⟩) rfl (fun K hK => ?_) AllReadyH.nil
            have y13 : World.cell? (World.alloc va1 (.cells #[.int .i64 (2 * xb), .int .i64 xo] 120)) ⟨f, 13, none⟩ = some (.slice S1 (t) cS) := (HDe.out.boxi 0 rfl).cell 13 (by simp)
            have ly := (HDe.out.boxi 0 rfl).lt
            go_simp
            clear y13 ly
            refine hK.out _ _ trivial (fun hSn => ?_)
            clear hK K hSw0
            have hSw0 := hSn
            clear hSn
            (try simp only [Act.put, List.setIfInBounds_toArray, List.set_cons_zero, List.set_cons_succ])
            refine wpAnyH_ready (rs := [9]) (by kernel_rfl) (by simp) ?_
            refine AllReadyH.cons (o := ⟨some 90, _, _, _, _, _⟩) rfl (fun K hK => ?_) AllReadyH.nil
            refine step_append_elems rfl (.tmp 82) (.tmp 89) 50 rfl w.heap.size 120 i0 _ 2 16 Try.underlying50 hi0 hz0 hz1 hz2 rfl (by decide) (.slice S1 t cS) t (usV (mkSegs zs j (t))) rfl (HDe.out.gi 2 rfl) ⟨va1.heap.size, 0, none⟩ 1 1 (usV [(2 * xb, xo)]) rfl rfl (news_new va1 #[.int .i64 (2 * xb), .int .i64 xo] 120 (by simp [maxLen])) (usV_one _) (by unfold maxLen; omega) (by omega) HDe.out.only.size ?_
            intro v' wa hown hgrow hat
            rw [show usV (mkSegs zs j t) ++ usV [(2 * xb, xo)] = usV (mkSegs zs j (t + 1)) by rw [← HSN.out]; simp [usV]] at hown
            obtain ⟨A5, c5, rfl⟩ : ∃ A5 c5, v' = .slice A5 (t + 1) c5 := (show GathN wa w.heap.size 120 2 v' (t + 1) _ from ⟨hown, Nat.le_trans HDe.out.only.size hgrow.size⟩).form (by decide) |>.elim fun A h => h.elim fun c h => ⟨A, c, h.1⟩
            have HDf : Hid (Wd w wa [(f, [.int .i64 (1 + x0), .int .i64 (1 + x1), .int .i64 (1 + x2), .int .i64 x3, .int .i64 x4, .int .i64 x5, .int .i64 (pN : Int), .int .i64 x6, .int .i64 (1 + x7), .int .i64 x8, .int .i64 (1 + x9), .slice B1 j cB, .slice O1 j cO, .slice S1 (t) cS]), (p, [.slice A n c, .int .i64 (((k + 1 + 1 : Nat)) : Int)]), (cq, [.int .i64 b, .int .i64 (sN : Int), .int .i64 l]), (z, [.int .i64 0, .int .i64 0, .int .i64 0, .int .i64 0, .int .i64 0, .int .i64 0, .int .i64 0, .int .i64 0, .int .i64 0, .int .i64 0, .int .i64 0, .slice none 0 0, .slice none 0 0, .slice none 0 0])] [⟨3, 1, .slice B1 j cB, j, (ivs (mkBase zs (j)))⟩, ⟨3, 1, .slice O1 j cO, j, (ivs (mkOver zs (j)))⟩, ⟨120, 2, .slice A5 (t + 1) c5, t + 1, (usV (mkSegs zs j (t + 1)))⟩] []) := Lib.hid (HDe.out.gapp 2 rfl hown hgrow hat)
            clear HDe
            clear hown hgrow hat
            refine hK.out _ _ trivial (fun hSn => ?_)
            clear hK K hSw0
            have hSw0 := hSn
            clear hSn
            (try simp only [Act.put, List.setIfInBounds_toArray, List.set_cons_zero, List.set_cons_succ])
            refine wpAnyH_take (i := 10) (oi := ⟨some 91, _, _, _, _, _⟩) (v := ?_) rfl (by kernel_rfl) (by kernel_rfl) (by kernel_rfl) (fun _ _ _ h => h) (Or.inl ⟨by rfl, ?_⟩) (by assumption) ?_
            rotate_left
            · intro w hSw
            
              go_simp
              all_goals (try with_reducible rfl)
            (try simp only [Act.put, List.setIfInBounds_toArray, List.set_cons_zero, List.set_cons_succ])
            refine wpAnyH_ready (rs := [11]) (by kernel_rfl) (by simp) ?_
            refine AllReadyH.cons (o := ⟨none, _, _, _, _, _⟩) rfl (fun K hK => ?_) AllReadyH.nil
            have y13 : World.cell? wa ⟨f, 13, none⟩ = some (.slice S1 (t) cS) := (HDf.out.boxi 0 rfl).cell 13 (by simp)
            have zy13 := (HDf.out.boxi 0 rfl).frozen 13
            have ly := (HDf.out.boxi 0 rfl).lt
            go_simp
            have HDg : Hid (Wd w (World.setCell wa ⟨f, 13, none⟩ (.slice A5 (t + 1) c5)) [(f, [.int .i64 (1 + x0), .int .i64 (1 + x1), .int .i64 (1 + x2), .int .i64 x3, .int .i64 x4, .int .i64 x5, .int .i64 (pN : Int), .int .i64 x6, .int .i64 (1 + x7), .int .i64 x8, .int .i64 (1 + x9), .slice B1 j cB, .slice O1 j cO, .slice A5 (t + 1) c5]), (p, [.slice A n c, .int .i64 (((k + 1 + 1 : Nat)) : Int)]), (cq, [.int .i64 b, .int .i64 (sN : Int), .int .i64 l]), (z, [.int .i64 0, .int .i64 0, .int .i64 0, .int .i64 0, .int .i64 0, .int .i64 0, .int .i64 0, .int .i64 0, .int .i64 0, .int .i64 0, .int .i64 0, .slice none 0 0, .slice none 0 0, .slice none 0 0])] [⟨3, 1, .slice B1 j cB, j, (ivs (mkBase zs (j)))⟩, ⟨3, 1, .slice O1 j cO, j, (ivs (mkOver zs (j)))⟩, ⟨120, 2, .slice A5 (t + 1) c5, t + 1, (usV (mkSegs zs j (t + 1)))⟩] []) := Lib.hid (HDf.out.put 0 rfl 13 (.slice A5 (t + 1) c5))
            clear HDf
            clear y13 zy13 ly
            refine hK.out _ _ trivial (fun hSn => ?_)
            clear hK K hSw0
            have hSw0 := hSn
            clear hSn
            (try simp only [Act.put, List.setIfInBounds_toArray, List.set_cons_zero, List.set_cons_succ])
            refine wpAnyH_done (by kernel_rfl) ?_ _
            clear hSw0
            go_wp2
            go_roundg (gk - 1)
            case measure => omega
            case rel => exact ⟨t + 1, k + 1 + 1, A5, c5, by omega, by rw [HJK.out]; omega, by go_num, HDg.out⟩
          exact AllReadyH.nil
        exact AllReadyH.nil
      exact AllReadyH.nil
    · obtain rfl : t = sN := by omega
      obtain ⟨g, rfl, ho, hgc, hgm, hgb⟩ := ownsRow_own (HDt.out.gi 2 rfl) (by omega)
      have lg := ho.lt
      have zg := ho.frozen (pN * 2)
      obtain ⟨vg, yg⟩ : ∃ v, World.cell? wr ⟨g, pN * 2, none⟩ = some v := ⟨_, ho.cell (pN * 2) (by rw [usV_len, mkSegs_length]; omega)⟩
      have hgf : ¬ (g = f) := fun e => HDt.out.g3 _ (List.mem_of_getElem? (i := 0) rfl) _ (List.mem_of_getElem? (i := 2) rfl) (by subst e; rfl)
      have hfg : ¬ (f = g) := fun e => hgf e.symm
      have hpn1 : 0 ≤ (pN : Int) := by omega
      have hpn2 : (pN : Int) < (t : Int) := by omega
      have htn : ((pN : Int)).toNat = pN := by omega
      clear ho
      have y6 : World.cell? wr ⟨f, 6, none⟩ = some (.int .i64 (pN : Int)) := (HDt.out.boxi 0 rfl).cell 6 (by simp)
      have y13 : World.cell? wr ⟨f, 13, none⟩ = some (.slice (some ⟨g, 0, none⟩) t cS) := (HDt.out.boxi 0 rfl).cell 13 (by simp)
      have ly := (HDt.out.boxi 0 rfl).lt
      go_upto_region 16 with (fail)
      clear y6 y13 ly g1 lg
      have HDf := Lib.hid (HDt.out.gset 2 rfl (g := g) rfl (pN * 2) (.int .i64 1))
      have hse : (usV (mkSegs zs j t)).set (pN * 2) (.int .i64 1) = usV (setOpen (mkSegs zs j t) pN) := by rw [usV_set]; rfl
      generalize hwa : wr.setCell ⟨g, pN * 2, none⟩ (.int .i64 1) = wf at *
      clear hwa HDt yg zg lg htn
      replace HDf : Hid (Wd w wf [(f, [.int .i64 (1 + x0), .int .i64 (1 + x1), .int .i64 (1 + x2), .int .i64 x3, .int .i64 x4, .int .i64 x5, .int .i64 (pN : Int), .int .i64 x6, .int .i64 (1 + x7), .int .i64 x8, .int .i64 (1 + x9), .slice B1 j cB, .slice O1 j cO, .slice (some ⟨g, 0, none⟩) t cS]), (p, [.slice A n c, .int .i64 ((k : Nat) : Int)]), (cq, [.int .i64 b, .int .i64 (t : Int), .int .i64 l]), (z, [.int .i64 0, .int .i64 0, .int .i64 0, .int .i64 0, .int .i64 0, .int .i64 0, .int .i64 0, .int .i64 0, .int .i64 0, .int .i64 0, .int .i64 0, .slice none 0 0, .slice none 0 0, .slice none 0 0])] [⟨3, 1, .slice B1 j cB, j, (ivs (mkBase zs (j)))⟩, ⟨3, 1, .slice O1 j cO, j, (ivs (mkOver zs (j)))⟩, ⟨120, 2, .slice (some ⟨g, 0, none⟩) t cS, t, ((usV (mkSegs zs j t)).set (pN * 2) (.int .i64 1))⟩] []) := HDf
      have y0 : World.cell? wf ⟨f, 0, none⟩ = some (.int .i64 (1 + x0)) := (HDf.out.boxi 0 rfl).cell 0 (by simp)
      have y1 : World.cell? wf ⟨f, 1, none⟩ = some (.int .i64 (1 + x1)) := (HDf.out.boxi 0 rfl).cell 1 (by simp)
      have y2 : World.cell? wf ⟨f, 2, none⟩ = some (.int .i64 (1 + x2)) := (HDf.out.boxi 0 rfl).cell 2 (by simp)
      have y3 : World.cell? wf ⟨f, 3, none⟩ = some (.int .i64 x3) := (HDf.out.boxi 0 rfl).cell 3 (by simp)
      have y4 : World.cell? wf ⟨f, 4, none⟩ = some (.int .i64 x4) := (HDf.out.boxi 0 rfl).cell 4 (by simp)
      have y5 : World.cell? wf ⟨f, 5, none⟩ = some (.int .i64 x5) := (HDf.out.boxi 0 rfl).cell 5 (by simp)
      have y6 : World.cell? wf ⟨f, 6, none⟩ = some (.int .i64 (pN : Int)) := (HDf.out.boxi 0 rfl).cell 6 (by simp)
      have y7 : World.cell? wf ⟨f, 7, none⟩ = some (.int .i64 x6) := (HDf.out.boxi 0 rfl).cell 7 (by simp)
      have y8 : World.cell? wf ⟨f, 8, none⟩ = some (.int .i64 (1 + x7)) := (HDf.out.boxi 0 rfl).cell 8 (by simp)
      have y9 : World.cell? wf ⟨f, 9, none⟩ = some (.int .i64 x8) := (HDf.out.boxi 0 rfl).cell 9 (by simp)
      have y10 : World.cell? wf ⟨f, 10, none⟩ = some (.int .i64 (1 + x9)) := (HDf.out.boxi 0 rfl).cell 10 (by simp)
      have y11 : World.cell? wf ⟨f, 11, none⟩ = some (.slice B1 j cB) := (HDf.out.boxi 0 rfl).cell 11 (by simp)
      have y12 : World.cell? wf ⟨f, 12, none⟩ = some (.slice O1 j cO) := (HDf.out.boxi 0 rfl).cell 12 (by simp)
      have y13 : World.cell? wf ⟨f, 13, none⟩ = some (.slice (some ⟨g, 0, none⟩) t cS) := (HDf.out.boxi 0 rfl).cell 13 (by simp)
      have ly := (HDf.out.boxi 0 rfl).lt
      have o0 : World.cell? wf ⟨z, 0, none⟩ = some (.int .i64 0) := (HDf.out.boxi 3 rfl).cell 0 (by simp)
      have o1 : World.cell? wf ⟨z, 1, none⟩ = some (.int .i64 0) := (HDf.out.boxi 3 rfl).cell 1 (by simp)
      have o2 : World.cell? wf ⟨z, 2, none⟩ = some (.int .i64 0) := (HDf.out.boxi 3 rfl).cell 2 (by simp)
      have o3 : World.cell? wf ⟨z, 3, none⟩ = some (.int .i64 0) := (HDf.out.boxi 3 rfl).cell 3 (by simp)
      have o4 : World.cell? wf ⟨z, 4, none⟩ = some (.int .i64 0) := (HDf.out.boxi 3 rfl).cell 4 (by simp)
      have o5 : World.cell? wf ⟨z, 5, none⟩ = some (.int .i64 0) := (HDf.out.boxi 3 rfl).cell 5 (by simp)
      have o6 : World.cell? wf ⟨z, 6, none⟩ = some (.int .i64 0) := (HDf.out.boxi 3 rfl).cell 6 (by simp)
      have o7 : World.cell? wf ⟨z, 7, none⟩ = some (.int .i64 0) := (HDf.out.boxi 3 rfl).cell 7 (by simp)
      have o8 : World.cell? wf ⟨z, 8, none⟩ = some (.int .i64 0) := (HDf.out.boxi 3 rfl).cell 8 (by simp)
      have o9 : World.cell? wf ⟨z, 9, none⟩ = some (.int .i64 0) := (HDf.out.boxi 3 rfl).cell 9 (by simp)
      have o10 : World.cell? wf ⟨z, 10, none⟩ = some (.int .i64 0) := (HDf.out.boxi 3 rfl).cell 10 (by simp)
      have o11 : World.cell? wf ⟨z, 11, none⟩ = some (.slice none 0 0) := (HDf.out.boxi 3 rfl).cell 11 (by simp)
      have o12 : World.cell? wf ⟨z, 12, none⟩ = some (.slice none 0 0) := (HDf.out.boxi 3 rfl).cell 12 (by simp)
      have o13 : World.cell? wf ⟨z, 13, none⟩ = some (.slice none 0 0) := (HDf.out.boxi 3 rfl).cell 13 (by simp)
      have zo0 := (HDf.out.boxi 3 rfl).frozen 0
      have zo1 := (HDf.out.boxi 3 rfl).frozen 1
      have zo2 := (HDf.out.boxi 3 rfl).frozen 2
      have zo3 := (HDf.out.boxi 3 rfl).frozen 3
      have zo4 := (HDf.out.boxi 3 rfl).frozen 4
      have zo5 := (HDf.out.boxi 3 rfl).frozen 5
      have zo6 := (HDf.out.boxi 3 rfl).frozen 6
      have zo7 := (HDf.out.boxi 3 rfl).frozen 7
      have zo8 := (HDf.out.boxi 3 rfl).frozen 8
      have zo9 := (HDf.out.boxi 3 rfl).frozen 9
      have zo10 := (HDf.out.boxi 3 rfl).frozen 10
      have zo11 := (HDf.out.boxi 3 rfl).frozen 11
      have zo12 := (HDf.out.boxi 3 rfl).frozen 12
      have zo13 := (HDf.out.boxi 3 rfl).frozen 13
      have lo := (HDf.out.boxi 3 rfl).lt
      have hzf : ¬ (z = f) := fun e => by have := HDf.out.nd; simp [e] at this
      have hfz : ¬ (f = z) := fun e => hzf e.symm
      have hzw : w.heap.size ≤ z := HDf.out.loi 3 rfl
      have hB0 := ownsRow_row1 (HDf.out.gi 0 rfl) HDf.out.only.size
      have hO0 := ownsRow_row1 (HDf.out.gi 1 rfl) HDf.out.only.size
      have hS0 := HDf.out.gi 2 rfl
      dsimp only at hS0
      rw [hse] at hS0
      have hS0 := ownsRow_uss hS0 HDf.out.only.size (by simp [setOpen])
      have hnB : ∀ a, B1 = some a → a.block ≠ z := fun a ha e => HDf.out.g3 _ (List.mem_of_getElem? (i := 3) rfl) _ (List.mem_of_getElem? (i := 0) rfl) (by subst ha; subst e; rfl)
      have hnO : ∀ a, O1 = some a → a.block ≠ z := fun a ha e => HDf.out.g3 _ (List.mem_of_getElem? (i := 3) rfl) _ (List.mem_of_getElem? (i := 1) rfl) (by subst ha; subst e; rfl)
      have hnS : ∀ a, (some ⟨g, 0, none⟩ : Option Addr) = some a → a.block ≠ z := fun a ha e => HDf.out.g3 _ (List.mem_of_getElem? (i := 3) rfl) _ (List.mem_of_getElem? (i := 2) rfl) (by injection ha with ha; subst ha; subst e; rfl)
      have HBB := Lib.hid hB0
      have HOO := Lib.hid hO0
      have HSS := Lib.hid hS0
      have HNB := Lib.hid hnB
      have HNO := Lib.hid hnO
      have HNS := Lib.hid hnS
      clear hB0 hO0 hS0 hnB hnO hnS hse
      go_wp2
      (try simp only [Exit.inBlock, Exit.then])
      have hO9 : ∀ W : World, Only [z] wf W → Only [] w W := fun W h => HDf.out.only.trans h (by simpa using hzw)
      refine bodyPost_ret (v := .agg #[.int .i64 (1 + x0), .int .i64 (1 + x1), .int .i64 (1 + x2), .int .i64 x3, .int .i64 x4, .int .i64 x5, .int .i64 (pN : Int), .int .i64 x6, .int .i64 (1 + x7), .int .i64 x8, .int .i64 (1 + x9), .slice B1 j cB, .slice O1 j cO, .slice (some ⟨g, 0, none⟩) t cS]) ?_ rfl ?_
      · simp only [results, HRES.out]
        go_simp
      · refine ⟨(B1, j, cB), (O1, j, cO), (some ⟨g, 0, none⟩, t, cS), rfl, RgAt.keepF (f := z) ⟨HBB.out.1, HOO.out.1, HSS.out.1⟩ ?_ HNB.out HNO.out HNS.out, ⟨HBB.out.2, HOO.out.2, HSS.out.2⟩, hO9 _ ?_⟩
        · (repeat' first | (with_reducible refine Only.set ?_ (.inl (by simp)) _) | (with_reducible exact Only.refl _ _))
        · (repeat' first | (with_reducible refine Only.set ?_ (.inl (by simp)) _) | (with_reducible exact Only.refl _ _))
end Go.Proofs.Ytkpagiokjihmhaa

/- The law package of chapter 9: awake; Encode with no geometry. Printed by mklaws9.py. -/
set_option linter.unusedVariables false
set_option linter.unusedSimpArgs false
namespace Go.Kn
open Go Go.RowKit
theorem cells14 {w : World} {b : Nat} {c0 c1 c2 c3 c4 c5 c6 c7 c8 c9 c10 c11 c12 c13 : Value} (h : Own w b [c0, c1, c2, c3, c4, c5, c6, c7, c8, c9, c10, c11, c12, c13]) : w.cell? ⟨b, 0, none⟩ = some c0 ∧ w.cell? ⟨b, 1, none⟩ = some c1 ∧ w.cell? ⟨b, 2, none⟩ = some c2 ∧ w.cell? ⟨b, 3, none⟩ = some c3 ∧ w.cell? ⟨b, 4, none⟩ = some c4 ∧ w.cell? ⟨b, 5, none⟩ = some c5 ∧ w.cell? ⟨b, 6, none⟩ = some c6 ∧ w.cell? ⟨b, 7, none⟩ = some c7 ∧ w.cell? ⟨b, 8, none⟩ = some c8 ∧ w.cell? ⟨b, 9, none⟩ = some c9 ∧ w.cell? ⟨b, 10, none⟩ = some c10 ∧ w.cell? ⟨b, 11, none⟩ = some c11 ∧ w.cell? ⟨b, 12, none⟩ = some c12 ∧ w.cell? ⟨b, 13, none⟩ = some c13 :=
  ⟨h.cell 0 (by simp), h.cell 1 (by simp), h.cell 2 (by simp), h.cell 3 (by simp), h.cell 4 (by simp), h.cell 5 (by simp), h.cell 6 (by simp), h.cell 7 (by simp), h.cell 8 (by simp), h.cell 9 (by simp), h.cell 10 (by simp), h.cell 11 (by simp), h.cell 12 (by simp), h.cell 13 (by simp)⟩
theorem cells17 {w : World} {b c : Nat} {c0 c1 c2 c3 c4 c5 c6 c7 c8 c9 c10 c11 c12 c13 d0 d1 d2 : Value} (h : Own w b [c0, c1, c2, c3, c4, c5, c6, c7, c8, c9, c10, c11, c12, c13]) (h2 : Own w c [d0, d1, d2]) : w.cell? ⟨b, 0, none⟩ = some c0 ∧ w.cell? ⟨b, 1, none⟩ = some c1 ∧ w.cell? ⟨b, 2, none⟩ = some c2 ∧ w.cell? ⟨b, 3, none⟩ = some c3 ∧ w.cell? ⟨b, 4, none⟩ = some c4 ∧ w.cell? ⟨b, 5, none⟩ = some c5 ∧ w.cell? ⟨b, 6, none⟩ = some c6 ∧ w.cell? ⟨b, 7, none⟩ = some c7 ∧ w.cell? ⟨b, 8, none⟩ = some c8 ∧ w.cell? ⟨b, 9, none⟩ = some c9 ∧ w.cell? ⟨b, 10, none⟩ = some c10 ∧ w.cell? ⟨b, 11, none⟩ = some c11 ∧ w.cell? ⟨b, 12, none⟩ = some c12 ∧ w.cell? ⟨b, 13, none⟩ = some c13 ∧ w.cell? ⟨c, 0, none⟩ = some d0 ∧ w.cell? ⟨c, 1, none⟩ = some d1 ∧ w.cell? ⟨c, 2, none⟩ = some d2 :=
  ⟨h.cell 0 (by simp), h.cell 1 (by simp), h.cell 2 (by simp), h.cell 3 (by simp), h.cell 4 (by simp), h.cell 5 (by simp), h.cell 6 (by simp), h.cell 7 (by simp), h.cell 8 (by simp), h.cell 9 (by simp), h.cell 10 (by simp), h.cell 11 (by simp), h.cell 12 (by simp), h.cell 13 (by simp), h2.cell 0 (by simp), h2.cell 1 (by simp), h2.cell 2 (by simp)⟩
def aw9 : Rg := madeRg 2 8 24 [1, 2, 3] 5
theorem cf_aw9 : CfOk 2 8 24 := by unfold CfOk; omega
theorem aw9_may : rgMay 2 8 24 aw9 = true := madeRg_may cf_aw9 _ _
theorem aw9_len : (rgBytes 8 aw9).length = 128 := by
  rw [encRg_len cf_aw9 (rg_back cf_aw9 aw9_may).1]
  rfl
theorem aw9_made : madeRg (1 + 1 % 64) (8 + 0 % 25) (24 + 0 % 41) [1, 2, 3] 5 = aw9 := by
  rw [show (1 : Int) + 1 % 64 = 2 by decide, show (8 : Int) + 0 % 25 = 8 by decide, show (24 : Int) + 0 % 41 = 24 by decide]
  rfl
end Go.Kn
namespace Go.Proofs.Ytkpagiokjihmhaa
open Go Go.RowKit Go.Kn
set_option maxRecDepth 100000 in
set_option maxHeartbeats 4000000 in
theorem region_enc_nil (rg rv rm re rq rd rs ro rl rp rt : Int) (rA : Option Addr) (rn rc : Nat) (rB : Option Addr) (rk rh : Nat) (rC : Option Addr) (rj ri : Nat) (w : World) :
    Calls Try.prog 19 #[.pointer none, .agg #[.int .i64 rg, .int .i64 rv, .int .i64 rm, .int .i64 re, .int .i64 rq, .int .i64 rd, .int .i64 rs, .int .i64 ro, .int .i64 rl, .int .i64 rp, .int .i64 rt, .slice rA rn rc, .slice rB rk rh, .slice rC rj ri]] w fun en w' => en = .returned (.tuple #[.slice none 0 0, .int .i64 1]) ∧ Only [] w w' := by
  go_enter Try.func19, Try.ntmps19
  go_wp2_with fail
  refine (region_may_nil rg rv rm re rq rd rs ro rl rp rt rA rn rc rB rk rh rC rj ri _).mono ?_
  rintro en w1 ⟨rfl, hO1⟩
  go_wp2
  go_ret2
  exact ⟨rfl, ((Only.refl _ _).alloc _).trans' hO1⟩

set_option maxRecDepth 100000 in
set_option maxHeartbeats 16000000 in
theorem awake9 (w : World) : Calls Try.prog 21 #[] w fun e w' => e = .returned (.bool true) ∧ Only [] w w' := by
  obtain ⟨hE, hD⟩ := rg_back cf_aw9 aw9_may
  have hN := aw9_len
  have hB := (encRg_begun cf_aw9 hE).2
  have hM := aw9_may
  obtain ⟨bs, hbs⟩ : ∃ x, rgBytes 8 aw9 = x := ⟨_, rfl⟩
  have hA := aw9_made
  obtain ⟨⟨rg, rv, rm, re, rq, rd, rs, ro, rl, rp, rt, rbase, rover, rsegs⟩, hr⟩ : ∃ r, aw9 = r := ⟨_, rfl⟩
  rw [hbs, hr] at hE hD
  rw [hbs] at hN hB
  rw [hr] at hM hA
  have HE := Lib.hid hE
  have HDC := Lib.hid hD
  have HN := Lib.hid hN
  have HB := Lib.hid hB
  have HM := Lib.hid hM
  have HA := Lib.hid hA
  have HNO : Hid (decRg 2 8 24 [] = none) := Lib.hid (decRg_begun cf_aw9 (fun h => absurd h.1 (by show ¬ (0 = 128); omega)))
  clear hE hD hN hB hM hA hbs hr
  go_enter Try.func21, Try.ntmps21
  go_wp2_with fail
  refine (kept9_any 1 0 0 _ (by decide) (by decide) (by decide)).mono ?_
  rintro en w1 ⟨p, rfl, hg, hpf, hO⟩
  rw [show (1 : Int) + 1 % 64 = 2 by decide, show (8 : Int) + 0 % 25 = 8 by decide, show (24 : Int) + 0 % 41 = 24 by decide] at hg ⊢
  have HD0 : Hid (Wd w w [] [] []) := Lib.hid (Wd.start w)
  have HD1 : Hid (Wd w w1 [] [] [(fun W => GeoAt W p 2 8 24)]) := Lib.hid ((HD0.out.keep0 hO).fact0 (hg.fx (by simp)))
  clear HD0
  clear hg hpf hO
  go_wp2_with fail
  have HD2 : Hid (Wd w (World.alloc w1 (.cells #[.int .i64 2, .int .i64 8, .int .i64 24] 44)) [] [] [(fun W => GeoAt W p 2 8 24)]) := Lib.hid (HD1.out.alloc (.cells #[.int .i64 2, .int .i64 8, .int .i64 24] 44))
  clear HD1
  have HD3 : Hid (Wd w (World.alloc (World.alloc w1 (.cells #[.int .i64 2, .int .i64 8, .int .i64 24] 44)) (.cells #[.int .i64 1, .int .i64 2, .int .i64 3] 3)) [] [] [(fun W => Own W (w1.heap.size + 1) [.int .i64 1, .int .i64 2, .int .i64 3]), (fun W => GeoAt W p 2 8 24)]) := Lib.hid (HD2.out.newF #[.int .i64 1, .int .i64 2, .int .i64 3] 3 (by simp))
  clear HD2
  generalize hwa : (w1.alloc (.cells #[.int .i64 2, .int .i64 8, .int .i64 24] 44)).alloc (.cells #[.int .i64 1, .int .i64 2, .int .i64 3] 3) = w2 at *
  clear hwa
  generalize w1.heap.size + 1 = nb at *
  refine (made9_any 1 0 0 5 (some ⟨nb, 0, none⟩) 3 3 [1, 2, 3] _ (by decide) (by decide) (by decide) (by decide) (Row1.of_Own (by exact (HD3.out.fi 0 rfl)) rfl (Nat.le_refl _) (by simp [maxLen])) (by decide)).mono ?_
  rintro en w3 ⟨⟨rA, rn, rc⟩, ⟨rB, rk, rh⟩, ⟨rC, rj, ri⟩, rfl, hr, hf, hO⟩
  rw [HA.out] at hr ⊢
  simp only [Rg.cells] at hr ⊢
  have HD4 : Hid (Wd w w3 [] [] [(fun W => RgAt W ⟨rg, rv, rm, re, rq, rd, rs, ro, rl, rp, rt, rbase, rover, rsegs⟩ (rA, rn, rc) (rB, rk, rh) (rC, rj, ri)), (fun W => Own W nb [.int .i64 1, .int .i64 2, .int .i64 3]), (fun W => GeoAt W p 2 8 24)]) := Lib.hid ((HD3.out.keep0 hO).fact0 (hr.fx (by simp) (by simp) (by simp)))
  clear HD3
  clear hr hf hO
  go_wp2_with fail
  have HD5 : Hid (Wd w (World.alloc w3 (.cells #[.int .i64 rg, .int .i64 rv, .int .i64 rm, .int .i64 re, .int .i64 rq, .int .i64 rd, .int .i64 rs, .int .i64 ro, .int .i64 rl, .int .i64 rp, .int .i64 rt, .slice rA rn rc, .slice rB rk rh, .slice rC rj ri] 52)) [] [] [(fun W => Own W w3.heap.size [.int .i64 rg, .int .i64 rv, .int .i64 rm, .int .i64 re, .int .i64 rq, .int .i64 rd, .int .i64 rs, .int .i64 ro, .int .i64 rl, .int .i64 rp, .int .i64 rt, .slice rA rn rc, .slice rB rk rh, .slice rC rj ri]), (fun W => RgAt W ⟨rg, rv, rm, re, rq, rd, rs, ro, rl, rp, rt, rbase, rover, rsegs⟩ (rA, rn, rc) (rB, rk, rh) (rC, rj, ri)), (fun W => Own W nb [.int .i64 1, .int .i64 2, .int .i64 3]), (fun W => GeoAt W p 2 8 24)]) := Lib.hid (HD4.out.newF #[.int .i64 rg, .int .i64 rv, .int .i64 rm, .int .i64 re, .int .i64 rq, .int .i64 rd, .int .i64 rs, .int .i64 ro, .int .i64 rl, .int .i64 rp, .int .i64 rt, .slice rA rn rc, .slice rB rk rh, .slice rC rj ri] 52 rfl)
  clear HD4
  generalize hwa : w3.alloc (.cells #[.int .i64 rg, .int .i64 rv, .int .i64 rm, .int .i64 re, .int .i64 rq, .int .i64 rd, .int .i64 rs, .int .i64 ro, .int .i64 rl, .int .i64 rp, .int .i64 rt, .slice rA rn rc, .slice rB rk rh, .slice rC rj ri] 52) = w4 at *
  clear hwa
  generalize w3.heap.size = rb at *
  obtain ⟨x0, x1, x2, x3, x4, x5, x6, x7, x8, x9, x10, x11, x12, x13⟩ := cells14 (show Own w4 rb _ from (HD5.out.fi 0 rfl))
  refine (region_enc_own p 2 8 24 rg rv rm re rq rd rs ro rl rp rt rA rn rc rbase rB rk rh rover rC rj ri rsegs _ (by exact (HD5.out.fi 3 rfl)) cf_aw9 (by exact (HD5.out.fi 1 rfl))).mono ?_
  intro en w5 he
  rw [HE.out] at he
  obtain ⟨g, cg, rfl, hc, hm, hg, ho, hO⟩ := he.of_some
  rw [HN.out] at hc ⊢
  have HD6 : Hid (Wd w w5 [] [] [(fun W => Own W g (bvs bs)), (fun W => Own W rb [.int .i64 rg, .int .i64 rv, .int .i64 rm, .int .i64 re, .int .i64 rq, .int .i64 rd, .int .i64 rs, .int .i64 ro, .int .i64 rl, .int .i64 rp, .int .i64 rt, .slice rA rn rc, .slice rB rk rh, .slice rC rj ri]), (fun W => RgAt W ⟨rg, rv, rm, re, rq, rd, rs, ro, rl, rp, rt, rbase, rover, rsegs⟩ (rA, rn, rc) (rB, rk, rh) (rC, rj, ri)), (fun W => Own W nb [.int .i64 1, .int .i64 2, .int .i64 3]), (fun W => GeoAt W p 2 8 24)]) := Lib.hid ((HD5.out.keep0 hO).fact0 (ho.fx (by simp)))
  clear HD5
  clear he ho hO hg x0 x1 x2 x3 x4 x5 x6 x7 x8 x9 x10 x11 x12 x13
  go_wp2_with fail
  refine (region_dec_any p 2 8 24 (some ⟨g, 0, none⟩) 128 cg bs _ (by exact (HD6.out.fi 4 rfl)) cf_aw9 (Row1.of_Own (by exact (HD6.out.fi 0 rfl)) (by rw [bvs_length]; exact HN.out) hc hm) (by decide)).mono ?_
  rintro en w6 ⟨⟨xA, xn, xc⟩, ⟨xB, xk, xh⟩, ⟨xC, xj, xi⟩, rfl, hr, hf, hO⟩
  rw [HDC.out] at hr ⊢
  simp only [Option.getD_some, Option.isSome_some, if_true, Rg.cells] at hr ⊢
  have HD7 : Hid (Wd w w6 [] [] [(fun W => RgAt W ⟨rg, rv, rm, re, rq, rd, rs, ro, rl, rp, rt, rbase, rover, rsegs⟩ (xA, xn, xc) (xB, xk, xh) (xC, xj, xi)), (fun W => Own W g (bvs bs)), (fun W => Own W rb [.int .i64 rg, .int .i64 rv, .int .i64 rm, .int .i64 re, .int .i64 rq, .int .i64 rd, .int .i64 rs, .int .i64 ro, .int .i64 rl, .int .i64 rp, .int .i64 rt, .slice rA rn rc, .slice rB rk rh, .slice rC rj ri]), (fun W => RgAt W ⟨rg, rv, rm, re, rq, rd, rs, ro, rl, rp, rt, rbase, rover, rsegs⟩ (rA, rn, rc) (rB, rk, rh) (rC, rj, ri)), (fun W => Own W nb [.int .i64 1, .int .i64 2, .int .i64 3]), (fun W => GeoAt W p 2 8 24)]) := Lib.hid ((HD6.out.keep0 hO).fact0 (hr.fx (by simp) (by simp) (by simp)))
  clear HD6
  clear hr hf hO
  have HD8 : Hid (Wd w (World.alloc w6 (.cells #[.int .i64 rg, .int .i64 rv, .int .i64 rm, .int .i64 re, .int .i64 rq, .int .i64 rd, .int .i64 rs, .int .i64 ro, .int .i64 rl, .int .i64 rp, .int .i64 rt, .slice xA xn xc, .slice xB xk xh, .slice xC xj xi] 52)) [] [] [(fun W => Own W w6.heap.size [.int .i64 rg, .int .i64 rv, .int .i64 rm, .int .i64 re, .int .i64 rq, .int .i64 rd, .int .i64 rs, .int .i64 ro, .int .i64 rl, .int .i64 rp, .int .i64 rt, .slice xA xn xc, .slice xB xk xh, .slice xC xj xi]), (fun W => RgAt W ⟨rg, rv, rm, re, rq, rd, rs, ro, rl, rp, rt, rbase, rover, rsegs⟩ (xA, xn, xc) (xB, xk, xh) (xC, xj, xi)), (fun W => Own W g (bvs bs)), (fun W => Own W rb [.int .i64 rg, .int .i64 rv, .int .i64 rm, .int .i64 re, .int .i64 rq, .int .i64 rd, .int .i64 rs, .int .i64 ro, .int .i64 rl, .int .i64 rp, .int .i64 rt, .slice rA rn rc, .slice rB rk rh, .slice rC rj ri]), (fun W => RgAt W ⟨rg, rv, rm, re, rq, rd, rs, ro, rl, rp, rt, rbase, rover, rsegs⟩ (rA, rn, rc) (rB, rk, rh) (rC, rj, ri)), (fun W => Own W nb [.int .i64 1, .int .i64 2, .int .i64 3]), (fun W => GeoAt W p 2 8 24)]) := Lib.hid (HD7.out.newF #[.int .i64 rg, .int .i64 rv, .int .i64 rm, .int .i64 re, .int .i64 rq, .int .i64 rd, .int .i64 rs, .int .i64 ro, .int .i64 rl, .int .i64 rp, .int .i64 rt, .slice xA xn xc, .slice xB xk xh, .slice xC xj xi] 52 rfl)
  clear HD7
  go_wp2_with fail
  generalize hwa : w6.alloc (.cells #[.int .i64 rg, .int .i64 rv, .int .i64 rm, .int .i64 re, .int .i64 rq, .int .i64 rd, .int .i64 rs, .int .i64 ro, .int .i64 rl, .int .i64 rp, .int .i64 rt, .slice xA xn xc, .slice xB xk xh, .slice xC xj xi] 52) = w7 at *
  clear hwa
  generalize w6.heap.size = xb at *
  refine (region_choose_any p 2 8 24 none 0 0 [] (some ⟨g, 0, none⟩) 128 cg bs _ (by exact (HD8.out.fi 6 rfl)) cf_aw9 (Row1.nil _) (by decide) (Row1.of_Own (by exact (HD8.out.fi 2 rfl)) (by rw [bvs_length]; exact HN.out) hc hm) (by decide)).mono ?_
  rintro en w8 ⟨⟨yA, yn, yc⟩, ⟨yB, yk, yh⟩, ⟨yC, yj, yi⟩, rfl, hr, hO⟩
  rw [HDC.out, HNO.out] at hr ⊢
  simp only [rgPick, Option.getD_some, Option.isSome_some, if_true, Rg.cells] at hr ⊢
  have HD9 : Hid (Wd w w8 [] [] [(fun W => RgAt W ⟨rg, rv, rm, re, rq, rd, rs, ro, rl, rp, rt, rbase, rover, rsegs⟩ (yA, yn, yc) (yB, yk, yh) (yC, yj, yi)), (fun W => Own W xb [.int .i64 rg, .int .i64 rv, .int .i64 rm, .int .i64 re, .int .i64 rq, .int .i64 rd, .int .i64 rs, .int .i64 ro, .int .i64 rl, .int .i64 rp, .int .i64 rt, .slice xA xn xc, .slice xB xk xh, .slice xC xj xi]), (fun W => RgAt W ⟨rg, rv, rm, re, rq, rd, rs, ro, rl, rp, rt, rbase, rover, rsegs⟩ (xA, xn, xc) (xB, xk, xh) (xC, xj, xi)), (fun W => Own W g (bvs bs)), (fun W => Own W rb [.int .i64 rg, .int .i64 rv, .int .i64 rm, .int .i64 re, .int .i64 rq, .int .i64 rd, .int .i64 rs, .int .i64 ro, .int .i64 rl, .int .i64 rp, .int .i64 rt, .slice rA rn rc, .slice rB rk rh, .slice rC rj ri]), (fun W => RgAt W ⟨rg, rv, rm, re, rq, rd, rs, ro, rl, rp, rt, rbase, rover, rsegs⟩ (rA, rn, rc) (rB, rk, rh) (rC, rj, ri)), (fun W => Own W nb [.int .i64 1, .int .i64 2, .int .i64 3]), (fun W => GeoAt W p 2 8 24)]) := Lib.hid ((HD8.out.keep0 hO).fact0 (hr.fx (by simp) (by simp) (by simp)))
  clear HD8
  clear hr hO
  have HD10 : Hid (Wd w (World.alloc w8 (.cells #[.int .i64 rg, .int .i64 rv, .int .i64 rm, .int .i64 re, .int .i64 rq, .int .i64 rd, .int .i64 rs, .int .i64 ro, .int .i64 rl, .int .i64 rp, .int .i64 rt, .slice yA yn yc, .slice yB yk yh, .slice yC yj yi] 52)) [] [] [(fun W => Own W w8.heap.size [.int .i64 rg, .int .i64 rv, .int .i64 rm, .int .i64 re, .int .i64 rq, .int .i64 rd, .int .i64 rs, .int .i64 ro, .int .i64 rl, .int .i64 rp, .int .i64 rt, .slice yA yn yc, .slice yB yk yh, .slice yC yj yi]), (fun W => RgAt W ⟨rg, rv, rm, re, rq, rd, rs, ro, rl, rp, rt, rbase, rover, rsegs⟩ (yA, yn, yc) (yB, yk, yh) (yC, yj, yi)), (fun W => Own W xb [.int .i64 rg, .int .i64 rv, .int .i64 rm, .int .i64 re, .int .i64 rq, .int .i64 rd, .int .i64 rs, .int .i64 ro, .int .i64 rl, .int .i64 rp, .int .i64 rt, .slice xA xn xc, .slice xB xk xh, .slice xC xj xi]), (fun W => RgAt W ⟨rg, rv, rm, re, rq, rd, rs, ro, rl, rp, rt, rbase, rover, rsegs⟩ (xA, xn, xc) (xB, xk, xh) (xC, xj, xi)), (fun W => Own W g (bvs bs)), (fun W => Own W rb [.int .i64 rg, .int .i64 rv, .int .i64 rm, .int .i64 re, .int .i64 rq, .int .i64 rd, .int .i64 rs, .int .i64 ro, .int .i64 rl, .int .i64 rp, .int .i64 rt, .slice rA rn rc, .slice rB rk rh, .slice rC rj ri]), (fun W => RgAt W ⟨rg, rv, rm, re, rq, rd, rs, ro, rl, rp, rt, rbase, rover, rsegs⟩ (rA, rn, rc) (rB, rk, rh) (rC, rj, ri)), (fun W => Own W nb [.int .i64 1, .int .i64 2, .int .i64 3]), (fun W => GeoAt W p 2 8 24)]) := Lib.hid (HD9.out.newF #[.int .i64 rg, .int .i64 rv, .int .i64 rm, .int .i64 re, .int .i64 rq, .int .i64 rd, .int .i64 rs, .int .i64 ro, .int .i64 rl, .int .i64 rp, .int .i64 rt, .slice yA yn yc, .slice yB yk yh, .slice yC yj yi] 52 rfl)
  clear HD9

  go_upto_region 8 with (fail)
  generalize hwa : w8.alloc (.cells #[.int .i64 rg, .int .i64 rv, .int .i64 rm, .int .i64 re, .int .i64 rq, .int .i64 rd, .int .i64 rs, .int .i64 ro, .int .i64 rl, .int .i64 rp, .int .i64 rt, .slice yA yn yc, .slice yB yk yh, .slice yC yj yi] 52) = w9 at *
  clear hwa
  generalize w8.heap.size = yb at *
  obtain ⟨x0, x1, x2, x3, x4, x5, x6, x7, x8, x9, x10, x11, x12, x13⟩ := cells14 (show Own w9 rb _ from (HD10.out.fi 5 rfl))
  go_wp2_with fail
  refine (region_enc_nil rg rv rm re rq rd rs ro rl rp rt rA rn rc rB rk rh rC rj ri _).mono ?_
  rintro en wa ⟨rfl, hO⟩
  have HD11 : Hid (Wd w wa [] [] [(fun W => Own W yb [.int .i64 rg, .int .i64 rv, .int .i64 rm, .int .i64 re, .int .i64 rq, .int .i64 rd, .int .i64 rs, .int .i64 ro, .int .i64 rl, .int .i64 rp, .int .i64 rt, .slice yA yn yc, .slice yB yk yh, .slice yC yj yi]), (fun W => RgAt W ⟨rg, rv, rm, re, rq, rd, rs, ro, rl, rp, rt, rbase, rover, rsegs⟩ (yA, yn, yc) (yB, yk, yh) (yC, yj, yi)), (fun W => Own W xb [.int .i64 rg, .int .i64 rv, .int .i64 rm, .int .i64 re, .int .i64 rq, .int .i64 rd, .int .i64 rs, .int .i64 ro, .int .i64 rl, .int .i64 rp, .int .i64 rt, .slice xA xn xc, .slice xB xk xh, .slice xC xj xi]), (fun W => RgAt W ⟨rg, rv, rm, re, rq, rd, rs, ro, rl, rp, rt, rbase, rover, rsegs⟩ (xA, xn, xc) (xB, xk, xh) (xC, xj, xi)), (fun W => Own W g (bvs bs)), (fun W => Own W rb [.int .i64 rg, .int .i64 rv, .int .i64 rm, .int .i64 re, .int .i64 rq, .int .i64 rd, .int .i64 rs, .int .i64 ro, .int .i64 rl, .int .i64 rp, .int .i64 rt, .slice rA rn rc, .slice rB rk rh, .slice rC rj ri]), (fun W => RgAt W ⟨rg, rv, rm, re, rq, rd, rs, ro, rl, rp, rt, rbase, rover, rsegs⟩ (rA, rn, rc) (rB, rk, rh) (rC, rj, ri)), (fun W => Own W nb [.int .i64 1, .int .i64 2, .int .i64 3]), (fun W => GeoAt W p 2 8 24)]) := Lib.hid (HD10.out.keep0 hO)
  clear HD10
  clear hO x0 x1 x2 x3 x4 x5 x6 x7 x8 x9 x10 x11 x12 x13
  have hb67 : World.cell? wa ⟨g, 1, none⟩ = some (.int .u8 67) := by
    obtain ⟨hb1, hb2⟩ := List.getElem?_eq_some_iff.1 HB.out
    have h := Own.cell (HD11.out.fi 4 rfl) 1 (by simpa using hb1)
    rw [bvs_get, hb2] at h
    exact h
  obtain ⟨k0, k1, k2, k3, k4, k5, k6, k7, k8, k9, k10, k11, k12, k13⟩ := cells14 (show Own wa xb _ from (HD11.out.fi 2 rfl))
  obtain ⟨m0, m1, m2, m3, m4, m5, m6, m7, m8, m9, m10, m11, m12, m13⟩ := cells14 (show Own wa rb _ from (HD11.out.fi 5 rfl))
  go_wp2_with fail
  refine (alike_region_same rg rv rm re rq rd rs ro rl rp rt rbase rover rsegs xA xn xc xB xk xh xC xj xi rA rn rc rB rk rh rC rj ri _ (by exact (HD11.out.fi 3 rfl)) (by exact (HD11.out.fi 6 rfl))).mono ?_
  rintro en wb ⟨rfl, hO⟩
  have HD12 : Hid (Wd w wb [] [] [(fun W => Own W yb [.int .i64 rg, .int .i64 rv, .int .i64 rm, .int .i64 re, .int .i64 rq, .int .i64 rd, .int .i64 rs, .int .i64 ro, .int .i64 rl, .int .i64 rp, .int .i64 rt, .slice yA yn yc, .slice yB yk yh, .slice yC yj yi]), (fun W => RgAt W ⟨rg, rv, rm, re, rq, rd, rs, ro, rl, rp, rt, rbase, rover, rsegs⟩ (yA, yn, yc) (yB, yk, yh) (yC, yj, yi)), (fun W => Own W xb [.int .i64 rg, .int .i64 rv, .int .i64 rm, .int .i64 re, .int .i64 rq, .int .i64 rd, .int .i64 rs, .int .i64 ro, .int .i64 rl, .int .i64 rp, .int .i64 rt, .slice xA xn xc, .slice xB xk xh, .slice xC xj xi]), (fun W => RgAt W ⟨rg, rv, rm, re, rq, rd, rs, ro, rl, rp, rt, rbase, rover, rsegs⟩ (xA, xn, xc) (xB, xk, xh) (xC, xj, xi)), (fun W => Own W g (bvs bs)), (fun W => Own W rb [.int .i64 rg, .int .i64 rv, .int .i64 rm, .int .i64 re, .int .i64 rq, .int .i64 rd, .int .i64 rs, .int .i64 ro, .int .i64 rl, .int .i64 rp, .int .i64 rt, .slice rA rn rc, .slice rB rk rh, .slice rC rj ri]), (fun W => RgAt W ⟨rg, rv, rm, re, rq, rd, rs, ro, rl, rp, rt, rbase, rover, rsegs⟩ (rA, rn, rc) (rB, rk, rh) (rC, rj, ri)), (fun W => Own W nb [.int .i64 1, .int .i64 2, .int .i64 3]), (fun W => GeoAt W p 2 8 24)]) := Lib.hid (HD11.out.keep0 hO)
  clear HD11
  clear hO hb67 k0 k1 k2 k3 k4 k5 k6 k7 k8 k9 k10 k11 k12 k13 m0 m1 m2 m3 m4 m5 m6 m7 m8 m9 m10 m11 m12 m13
  obtain ⟨k0, k1, k2, k3, k4, k5, k6, k7, k8, k9, k10, k11, k12, k13⟩ := cells14 (show Own wb yb _ from (HD12.out.fi 0 rfl))
  obtain ⟨m0, m1, m2, m3, m4, m5, m6, m7, m8, m9, m10, m11, m12, m13⟩ := cells14 (show Own wb rb _ from (HD12.out.fi 5 rfl))
  go_wp2_with fail
  refine (alike_region_same rg rv rm re rq rd rs ro rl rp rt rbase rover rsegs yA yn yc yB yk yh yC yj yi rA rn rc rB rk rh rC rj ri _ (by exact (HD12.out.fi 1 rfl)) (by exact (HD12.out.fi 6 rfl))).mono ?_
  rintro en wc ⟨rfl, hO⟩
  have HD13 : Hid (Wd w wc [] [] [(fun W => Own W yb [.int .i64 rg, .int .i64 rv, .int .i64 rm, .int .i64 re, .int .i64 rq, .int .i64 rd, .int .i64 rs, .int .i64 ro, .int .i64 rl, .int .i64 rp, .int .i64 rt, .slice yA yn yc, .slice yB yk yh, .slice yC yj yi]), (fun W => RgAt W ⟨rg, rv, rm, re, rq, rd, rs, ro, rl, rp, rt, rbase, rover, rsegs⟩ (yA, yn, yc) (yB, yk, yh) (yC, yj, yi)), (fun W => Own W xb [.int .i64 rg, .int .i64 rv, .int .i64 rm, .int .i64 re, .int .i64 rq, .int .i64 rd, .int .i64 rs, .int .i64 ro, .int .i64 rl, .int .i64 rp, .int .i64 rt, .slice xA xn xc, .slice xB xk xh, .slice xC xj xi]), (fun W => RgAt W ⟨rg, rv, rm, re, rq, rd, rs, ro, rl, rp, rt, rbase, rover, rsegs⟩ (xA, xn, xc) (xB, xk, xh) (xC, xj, xi)), (fun W => Own W g (bvs bs)), (fun W => Own W rb [.int .i64 rg, .int .i64 rv, .int .i64 rm, .int .i64 re, .int .i64 rq, .int .i64 rd, .int .i64 rs, .int .i64 ro, .int .i64 rl, .int .i64 rp, .int .i64 rt, .slice rA rn rc, .slice rB rk rh, .slice rC rj ri]), (fun W => RgAt W ⟨rg, rv, rm, re, rq, rd, rs, ro, rl, rp, rt, rbase, rover, rsegs⟩ (rA, rn, rc) (rB, rk, rh) (rC, rj, ri)), (fun W => Own W nb [.int .i64 1, .int .i64 2, .int .i64 3]), (fun W => GeoAt W p 2 8 24)]) := Lib.hid (HD12.out.keep0 hO)
  clear HD12
  clear hO k0 k1 k2 k3 k4 k5 k6 k7 k8 k9 k10 k11 k12 k13 m0 m1 m2 m3 m4 m5 m6 m7 m8 m9 m10 m11 m12 m13
  obtain ⟨m0, m1, m2, m3, m4, m5, m6, m7, m8, m9, m10, m11, m12, m13⟩ := cells14 (show Own wc rb _ from (HD13.out.fi 5 rfl))
  go_wp2_with fail
  refine (region_may_any p 2 8 24 rg rv rm re rq rd rs ro rl rp rt rA rn rc rbase rB rk rh rover rC rj ri rsegs _ (by exact (HD13.out.fi 8 rfl)) cf_aw9 (by exact (HD13.out.fi 6 rfl))).mono ?_
  rintro en wd ⟨rfl, hO⟩
  rw [HM.out]
  have HD14 : Hid (Wd w wd [] [] [(fun W => Own W yb [.int .i64 rg, .int .i64 rv, .int .i64 rm, .int .i64 re, .int .i64 rq, .int .i64 rd, .int .i64 rs, .int .i64 ro, .int .i64 rl, .int .i64 rp, .int .i64 rt, .slice yA yn yc, .slice yB yk yh, .slice yC yj yi]), (fun W => RgAt W ⟨rg, rv, rm, re, rq, rd, rs, ro, rl, rp, rt, rbase, rover, rsegs⟩ (yA, yn, yc) (yB, yk, yh) (yC, yj, yi)), (fun W => Own W xb [.int .i64 rg, .int .i64 rv, .int .i64 rm, .int .i64 re, .int .i64 rq, .int .i64 rd, .int .i64 rs, .int .i64 ro, .int .i64 rl, .int .i64 rp, .int .i64 rt, .slice xA xn xc, .slice xB xk xh, .slice xC xj xi]), (fun W => RgAt W ⟨rg, rv, rm, re, rq, rd, rs, ro, rl, rp, rt, rbase, rover, rsegs⟩ (xA, xn, xc) (xB, xk, xh) (xC, xj, xi)), (fun W => Own W g (bvs bs)), (fun W => Own W rb [.int .i64 rg, .int .i64 rv, .int .i64 rm, .int .i64 re, .int .i64 rq, .int .i64 rd, .int .i64 rs, .int .i64 ro, .int .i64 rl, .int .i64 rp, .int .i64 rt, .slice rA rn rc, .slice rB rk rh, .slice rC rj ri]), (fun W => RgAt W ⟨rg, rv, rm, re, rq, rd, rs, ro, rl, rp, rt, rbase, rover, rsegs⟩ (rA, rn, rc) (rB, rk, rh) (rC, rj, ri)), (fun W => Own W nb [.int .i64 1, .int .i64 2, .int .i64 3]), (fun W => GeoAt W p 2 8 24)]) := Lib.hid (HD13.out.keep0 hO)
  clear HD13
  go_wp2
  go_ret
  exact ⟨rfl, HD14.out.only⟩
end Go.Proofs.Ytkpagiokjihmhaa

