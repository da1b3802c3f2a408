/- Wc, DkP, WcP, RngW, Step, DkA, ItemB, ItemC, DkB, DkC, DkE, RecA, RefD, RecC, RecE: joined by pack.py, without what the claim does not use. -/
import Derived.Test.YtgcfdjcpcclcjaaWriterPlacesA
set_option linter.unusedVariables false
set_option linter.unusedSimpArgs false
namespace Go.Kn
open Go Go.RowKit
/-- what stays as it is while the cells outside of M stay -/
def Fc (w : World) (M : Nat → Prop) (f : World → Prop) : Prop := ∀ w', (∀ k o, ¬ M k → w.heap[k]? = some o → o.isCells = true → w'.heap[k]? = some o) → f w'
theorem lt_of_obj {w : World} {k : Nat} {o : Obj} (h : w.heap[k]? = some o) : k < w.heap.size := (Array.getElem?_eq_some_iff.1 h).1
structure Wc (w0 w : World) (L : List (Nat × List Value)) (G : List Gs) (F : List (World → Prop)) : Prop where
 only : Only [] w0 w
 own : ∀ x ∈ L, Own w x.1 x.2
 lo : ∀ x ∈ L, w0.heap.size ≤ x.1
 nd : (L.map (·.1)).Nodup
 g1 : ∀ x ∈ G, w.ownsRow w0.heap.size x.e x.sz x.v x.n x.xs
 g2 : G.Pairwise fun x y => ∀ k, x.v.ownBlock = some k → y.v.ownBlock ≠ some k
 g3 : ∀ x ∈ L, ∀ y ∈ G, y.v.ownBlock ≠ some x.1
 fx : ∀ f ∈ F, Fc w (Mut L G) f
section
variable {w0 w w' w1 : World} {L : List (Nat × List Value)} {G : List Gs} {F : List (World → Prop)}
theorem Wc.start (w : World) : Wc w w [] [] [] := ⟨Only.refl _ _, by simp, by simp, by simp, by simp, by simp, by simp, by simp⟩
theorem Wc.mlt (h : Wc w0 w L G F) {k : Nat} (hk : Mut L G k) : k < w.heap.size := by
 rcases hk with hk | ⟨g, hg, hk⟩
 ·obtain ⟨x, hx, rfl⟩ := List.mem_map.1 hk
  exact (h.own x hx).lt
 ·exact ((h.g1 g hg).lt k hk).2
theorem Wc.mlo (h : Wc w0 w L G F) {k : Nat} (hk : Mut L G k) : w0.heap.size ≤ k := by
 rcases hk with hk | ⟨g, hg, hk⟩
 ·obtain ⟨x, hx, rfl⟩ := List.mem_map.1 hk
  exact h.lo x hx
 ·exact ((h.g1 g hg).lt k hk).1
theorem Wc.keep0 (h : Wc w0 w L G F) (hO : Only [] w w') : Wc w0 w' L G F :=
 ⟨h.only.trans' hO, fun x hx => (h.own x hx).keep0 hO, h.lo, h.nd, fun x hx => ownsRow_keep (h.g1 x hx) hO (by simp), h.g2, h.g3, fun f hf w2 h2 => h.fx f hf w2 fun k o hm hk hc => h2 k o hm (by rw [hO.block k (lt_of_obj hk) (by simp)]; exact hk) hc⟩
theorem Wc.drew (h : Wc w0 w L G F) : Wc w0 w.drew L G F := h.keep0 (Only.refl _ _).drew
theorem Wc.drewN (h : Wc w0 w L G F) (n : Nat) : Wc w0 (w.drewN n) L G F := h.keep0 ((Only.refl _ _).drewN n)
theorem Wc.alloc (h : Wc w0 w L G F) (o : Obj) : Wc w0 (w.alloc o) L G F := h.keep0 ((Only.refl _ _).alloc o)
/-- a box that is new: a block that is not older than the world w1, in which all of the others lay -/
theorem Wc.cons (h : Wc w0 w L G F) (hO : Only [] w w') {p : Nat} {cs : List Value} (hp : w.heap.size ≤ p) (ho : Own w' p cs) : Wc w0 w' ((p, cs) :: L) G F := by
 have h' := h.keep0 hO
 refine ⟨h'.only, ?_, ?_, ?_, h'.g1, h'.g2, ?_, ?_⟩
 ·intro x hx
  rcases List.mem_cons.1 hx with rfl | hx
  ·exact ho
  ·exact h'.own x hx
 ·intro x hx
  rcases List.mem_cons.1 hx with rfl | hx
  ·exact Nat.le_trans h.only.size hp
  ·exact h.lo x hx
 ·rw [List.map_cons, List.nodup_cons]
  exact ⟨fun hm => by have := h.mlt (.inl hm); simp at this; omega, h.nd⟩
 ·intro x hx y hy
  rcases List.mem_cons.1 hx with rfl | hx
  ·intro hk
   have := ((h.g1 y hy).lt _ hk).2
   simp at this
   omega
  ·exact h.g3 x hx y hy
 ·intro f hf w2 h2
  refine h.fx f hf w2 fun k o hm hk hc => h2 k o ?_ (by rw [hO.block k (lt_of_obj hk) (by simp)]; exact hk) hc
  have hk' := lt_of_obj hk
  rintro (hm2 | hm2)
  ·rcases List.mem_cons.1 hm2 with e | hm2
   ·have e2 : k = p := e
    omega
   ·exact hm (.inl hm2)
  ·exact hm (.inr hm2)
theorem Wc.new (h : Wc w0 w L G F) (cs : Array Value) (t : TypeId) : Wc w0 (w.alloc (.cells cs t)) ((w.heap.size, cs.toList) :: L) G F := h.cons ((Only.refl _ _).alloc _) (Nat.le_refl _) (Own.new _ _ _)
theorem Wc.newB (h : Wc w0 w L G F) (cs : Array Value) (t : TypeId) {b : Nat} (hb : w.heap.size = b) : Wc w0 (w.alloc (.cells cs t)) ((b, cs.toList) :: L) G F := by subst hb; exact h.new cs t
/-- a call that writes into one box alone -/
theorem Wc.call1 (h : Wc w0 w L G F) (i : Nat) {p : Nat} {cs cs' : List Value} (hi : L[i]? = some (p, cs)) (ho : Own w' p cs') (hO : Only [p] w w') : Wc w0 w' (L.set i (p, cs')) G F := by
 have hpm : (p, cs) ∈ L := List.mem_of_getElem? hi
 have hplo := h.lo _ hpm
 refine ⟨h.only.trans hO (by simpa using hplo), ?_, ?_, by rw [mut_set hi]; exact h.nd, ?_, h.g2, ?_, ?_⟩
 ·intro x hx
  obtain ⟨j, hj⟩ := List.mem_iff_getElem?.1 hx
  rw [List.getElem?_set] at hj
  split at hj
  ·split at hj
   ·injection hj with hj; subst hj; exact ho
   ·cases hj
  ·rename_i hne
   refine (h.own x (List.mem_of_getElem? hj)).keep hO ?_
   simp only [List.mem_singleton]
   intro e
   apply hne
   have hnd := h.nd
   have h1 : (L.map (·.1))[i]? = some p := by simp [hi]
   have h2 : (L.map (·.1))[j]? = some p := by simp [hj, e]
   obtain ⟨l1, e1⟩ := List.getElem?_eq_some_iff.1 h1
   obtain ⟨l2, e2⟩ := List.getElem?_eq_some_iff.1 h2
   rcases Nat.lt_trichotomy i j with hl | hl | hl
   ·exact absurd (e1.trans e2.symm) (List.pairwise_iff_getElem.1 hnd i j l1 l2 hl)
   ·exact hl
   ·exact absurd (e2.trans e1.symm) (List.pairwise_iff_getElem.1 hnd j i l2 l1 hl)
 ·intro x hx
  have : x.1 ∈ L.map (·.1) := by rw [← mut_set (cs' := cs') hi]; exact List.mem_map_of_mem hx
  obtain ⟨y, hy, e⟩ := List.mem_map.1 this
  rw [← e]; exact h.lo y hy
 ·intro x hx
  exact ownsRow_keep (h.g1 x hx) hO (fun k hk => by
   simp only [List.mem_singleton]
   intro e
   subst e
   exact h.g3 _ hpm x hx hk)
 ·intro x hx y hy
  have : x.1 ∈ L.map (·.1) := by rw [← mut_set (cs' := cs') hi]; exact List.mem_map_of_mem hx
  obtain ⟨z, hz, e⟩ := List.mem_map.1 this
  rw [← e]; exact h.g3 z hz y hy
 ·intro f hf w2 h2
  refine h.fx f hf w2 fun k o hm hk hc => h2 k o ?_ ?_ hc
  ·unfold Mut
   rw [mut_set hi]
   exact hm
  ·rw [hO.block k (lt_of_obj hk) ?_]
   ·exact hk
   ·simp only [List.mem_singleton]
    intro e
    subst e
    exact hm (.inl (List.mem_map_of_mem hpm))
theorem Wc.put (h : Wc w0 w L G F) (i : Nat) {p : Nat} {cs : List Value} (hi : L[i]? = some (p, cs)) (j : Nat) (u : Value) : Wc w0 (w.setCell ⟨p, j, none⟩ u) (L.set i (p, cs.set j u)) G F :=
 h.call1 i hi ((h.own _ (List.mem_of_getElem? hi)).set j u) ((Only.refl [p] w).set (by simp) u)
/-- a slice that is to be gathered: nil at first -/
theorem Wc.gnew (h : Wc w0 w L G F) (e sz : Nat) : Wc w0 w L (⟨e, sz, .slice none 0 0, 0, []⟩ :: G) F := by
 have hm : ∀ k, Mut L (⟨e, sz, .slice none 0 0, 0, []⟩ :: G) k ↔ Mut L G k := by
  intro k
  unfold Mut
  constructor
  ·rintro (h1 | ⟨g, hg, h1⟩)
   ·exact .inl h1
   ·rcases List.mem_cons.1 hg with rfl | hg
    ·simp [Value.ownBlock] at h1
    ·exact .inr ⟨g, hg, h1⟩
  ·rintro (h1 | ⟨g, hg, h1⟩)
   ·exact .inl h1
   ·exact .inr ⟨g, List.mem_cons_of_mem _ hg, h1⟩
 refine ⟨h.only, h.own, h.lo, h.nd, ?_, ?_, ?_, ?_⟩
 ·intro x hx
  rcases List.mem_cons.1 hx with rfl | hx
  ·exact World.ownsRow_nil w _ _ _
  ·exact h.g1 x hx
 ·exact List.Pairwise.cons (fun y _ k hk => by simp [Value.ownBlock] at hk) h.g2
 ·intro x hx y hy
  rcases List.mem_cons.1 hy with rfl | hy
  ·simp [Value.ownBlock]
  ·exact h.g3 x hx y hy
 ·intro f hf w2 h2
  exact h.fx f hf w2 fun k o hn hk hc => h2 k o (fun h3 => hn ((hm k).1 h3)) hk hc
theorem Wc.gchange (h : Wc w0 w L G F) (i : Nat) {x y : Gs} (hi : G[i]? = some x) (hsz : w.heap.size ≤ w'.heap.size) (hos : w'.os = w.os ∧ w'.tape = w.tape ∧ w'.output = w.output)
  (hb : ∀ k, k < w.heap.size → x.v.ownBlock ≠ some k → w'.heap[k]? = w.heap[k]?) (ho : w'.ownsRow w0.heap.size y.e y.sz y.v y.n y.xs) (hat : y.v.ownBlock = x.v.ownBlock ∨ y.v.ownBlock = some w.heap.size) : Wc w0 w' L (G.set i y) F := by
 have hxm : x ∈ G := List.mem_of_getElem? hi
 have hxlt := (h.g1 x hxm).lt
 have hlt : ∀ z ∈ G, ∀ k, z.v.ownBlock = some k → k < w.heap.size := fun z hz k hk => ((h.g1 z hz).lt k hk).2
 have hO : Only x.v.ownBlock.toList w w' := ⟨hos.1, hos.2.1, hos.2.2, hsz, fun k hk hn => hb k hk (fun e => hn (by simp [e]))⟩
 have hset : ∀ z ∈ G.set i y, z = y ∨ ∃ j, j ≠ i ∧ G[j]? = some z := by
  intro z hz
  obtain ⟨j, hj⟩ := List.mem_iff_getElem?.1 hz
  rw [List.getElem?_set] at hj
  split at hj
  ·split at hj
   ·injection hj with hj; exact .inl hj.symm
   ·cases hj
  ·rename_i hne
   exact .inr ⟨j, fun e => hne e.symm, hj⟩
 have hap : ∀ j z, j ≠ i → G[j]? = some z → ∀ k, z.v.ownBlock = some k → x.v.ownBlock ≠ some k := by
  intro j z hj hz k hk hx
  have hp := List.pairwise_iff_getElem.1 h.g2
  obtain ⟨l1, e1⟩ := List.getElem?_eq_some_iff.1 hi
  obtain ⟨l2, e2⟩ := List.getElem?_eq_some_iff.1 hz
  rcases Nat.lt_or_gt_of_ne hj with h1 | h1
  ·exact hp j i l2 l1 h1 k (by rw [e2]; exact hk) (by rw [e1]; exact hx)
  ·exact hp i j l1 l2 h1 k (by rw [e1]; exact hx) (by rw [e2]; exact hk)
 refine ⟨h.only.trans hO ?_, ?_, h.lo, h.nd, ?_, ?_, ?_, ?_⟩
 ·intro k hk
  exact .inr (hxlt k (by simpa using hk)).1
 ·intro z hz
  refine (h.own z hz).keep hO ?_
  intro hk
  exact h.g3 z hz x hxm (by simpa using hk)
 ·intro z hz
  rcases hset z hz with rfl | ⟨j, hj, hz⟩
  ·exact ho
  ·exact ownsRow_keep (h.g1 z (List.mem_of_getElem? hz)) hO (fun k hk hin => hap j z hj hz k hk (by simpa using hin))
 ·rw [List.pairwise_iff_getElem]
  have hp := List.pairwise_iff_getElem.1 h.g2
  intro a b ha hb' hab k hk hk2
  rw [List.getElem_set] at hk hk2
  have la : a < G.length := by simpa using ha
  have lb : b < G.length := by simpa using hb'
  split at hk
  ·rename_i e1
   split at hk2
   ·omega
   ·rename_i e2
    have hz : G[b]? = some G[b] := List.getElem?_eq_getElem lb
    rcases hat with hat | hat
    ·exact hap b G[b] (fun e => e2 e.symm) hz k hk2 (by rw [← hat]; exact hk)
    ·have := hlt _ (List.getElem_mem lb) k hk2
     rw [hat] at hk
     injection hk with hk
     omega
  ·rename_i e1
   split at hk2
   ·rename_i e2
    have hz : G[a]? = some G[a] := List.getElem?_eq_getElem la
    rcases hat with hat | hat
    ·exact hap a G[a] (fun e => e1 e.symm) hz k hk (by rw [← hat]; exact hk2)
    ·have := hlt _ (List.getElem_mem la) k hk
     rw [hat] at hk2
     injection hk2 with hk2
     omega
   ·exact hp a b la lb hab k hk hk2
 ·intro z hz u hu
  rcases hset u hu with rfl | ⟨j, hj, hu⟩
  ·rcases hat with hat | hat
   ·rw [hat]; exact h.g3 z hz x hxm
   ·rw [hat]
    intro e
    injection e with e
    have := (h.own z hz).lt
    omega
  ·exact h.g3 z hz u (List.mem_of_getElem? hu)
 ·intro f hf w2 h2
  refine h.fx f hf w2 fun k o hm hk hc => h2 k o ?_ (by rw [hb k (lt_of_obj hk) (fun e => hm (.inr ⟨x, hxm, e⟩))]; exact hk) hc
  have hk' := lt_of_obj hk
  rintro (hm2 | ⟨g, hg, hk2⟩)
  ·exact hm (.inl hm2)
  ·rcases hset g hg with rfl | ⟨j, hj, hg⟩
   ·rcases hat with hat | hat
    ·exact hm (.inr ⟨x, hxm, by rw [← hat]; exact hk2⟩)
    ·rw [hat] at hk2
     injection hk2 with hk2
     omega
   ·exact hm (.inr ⟨g, List.mem_of_getElem? hg, hk2⟩)
/-- what an append leaves -/
theorem Wc.gapp (h : Wc w0 w L G F) (i : Nat) {x : Gs} (hi : G[i]? = some x) {v' : Value} {n' : Nat} {ys : List Value} (ho : w'.ownsRow w0.heap.size x.e x.sz v' n' ys) (hg : w.grownBy w' x.v.ownBlock) (hat : v'.ownBlock = x.v.ownBlock ∨ v'.ownBlock = some w.heap.size) :
  Wc w0 w' L (G.set i ⟨x.e, x.sz, v', n', ys⟩) F :=
 h.gchange i hi hg.size ⟨hg.os, hg.tape, hg.output⟩ (fun k hk hn => hg.block k hk (fun e => hn e.symm)) ho hat
/-- what lies fast in blocks of which none is written into -/
theorem Wc.addF (h : Wc w0 w L G F) (f : World → Prop) (hf : Fc w (Mut L G) f) : Wc w0 w L G (f :: F) :=
 ⟨h.only, h.own, h.lo, h.nd, h.g1, h.g2, h.g3, fun f' hf' => by
  rcases List.mem_cons.1 hf' with rfl | hf'
  ·exact hf
  ·exact h.fx f' hf'⟩
theorem Wc.fact (h : Wc w0 w L G F) (f : World → Prop) (hm : f ∈ F) : f w := h.fx f hm w fun _ _ _ h _ => h
theorem Wc.box (h : Wc w0 w L G F) {p : Nat} {cs : List Value} (hm : (p, cs) ∈ L) : Own w p cs := h.own _ hm
theorem Wc.gath (h : Wc w0 w L G F) {x : Gs} (hm : x ∈ G) : GathN w w0.heap.size x.e x.sz x.v x.n x.xs := ⟨h.g1 x hm, h.only.size⟩
theorem Wc.boxi (h : Wc w0 w L G F) (i : Nat) {p : Nat} {cs : List Value} (hi : L[i]? = some (p, cs)) : Own w p cs := h.own _ (List.mem_of_getElem? hi)
theorem Wc.gi (h : Wc w0 w L G F) (i : Nat) {x : Gs} (hi : G[i]? = some x) : w.ownsRow w0.heap.size x.e x.sz x.v x.n x.xs := h.g1 _ (List.mem_of_getElem? hi)
theorem Wc.fi (h : Wc w0 w L G F) (i : Nat) {f : World → Prop} (hi : F[i]? = some f) : f w := h.fact _ (List.mem_of_getElem? hi)
theorem Wc.gform (h : Wc w0 w L G F) (i : Nat) {e sz n : Nat} {v : Value} {xs : List Value} (hi : G[i]? = some ⟨e, sz, v, n, xs⟩) : ∃ A c, v = .slice A n c := by
 rcases (h.gi i hi).2 with ⟨h1, h2⟩ | ⟨g, cap, cur, h1, _⟩
 ·exact ⟨none, 0, by rw [show n = 0 from h2]; exact h1⟩
 ·exact ⟨_, _, h1⟩
/-- a block that is no cells is turned -/
theorem Wc.turn (h : Wc w0 w L G F) (hC : Cs w w') (hb : ∀ k, k < w0.heap.size → w'.heap[k]? = w.heap[k]?) (hs : w.heap.size ≤ w'.heap.size) (ho : w'.os = w.os ∧ w'.tape = w.tape ∧ w'.output = w.output) : Wc w0 w' L G F :=
 ⟨h.only.turn hb hs ho, fun x hx => (h.own x hx).cs hC, h.lo, h.nd, fun x hx => ownsRow_cs (h.g1 x hx) hC, h.g2, h.g3, fun f hf w2 h2 => h.fx f hf w2 fun k o hm hk hc => h2 k o hm (hC k o hk hc) hc⟩
theorem Wc.putObj (h : Wc w0 w L G F) {D : Nat} {o : Obj} (o' : Obj) (hD : w.heap[D]? = some o) (ho : o.isCells = false) (hw : w0.heap.size ≤ D) : Wc w0 (w.putObj D o') L G F :=
 h.turn (Cs.of_grown (grownBy_putObj' w D o') (fun r e => by cases e; exact ⟨o, hD, ho⟩)) (fun k hk => World.putObj_heap_other (by omega)) (by simp) ⟨rfl, rfl, rfl⟩
theorem Wc.grown {B : Nat} {row : Option Nat} (h : Wc w0 w L G F) (hB : w0.heap.size ≤ B) (hg : w.grownBy w' row) (hr : ∀ r, row = some r → B ≤ r ∧ ∃ o : Obj, w.heap[r]? = some o ∧ o.isCells = false) : Wc w0 w' L G F :=
 h.turn (Cs.of_grown hg fun r e => (hr r e).2) (fun k hk => hg.block k (Nat.lt_of_lt_of_le hk h.only.size) (fun e => by have := (hr k e.symm).1; omega)) hg.size ⟨hg.os, hg.tape, hg.output⟩
/-- what a walk from w to w' left: all that is no cells, and all that lay below n₀ -/
theorem Wc.cellsBlock (h : Wc w0 w L G F) {k : Nat} (hk : Mut L G k) : ∀ o, w.heap[k]? = some o → o.isCells = true := by
 rcases hk with hk | ⟨g, hg, hk⟩
 ·obtain ⟨x, hx, rfl⟩ := List.mem_map.1 hk
  exact (h.own x hx).isCells
 ·exact ownsRow_isCells (h.g1 g hg) k hk
/-- a fact more out of two -/
theorem Wc.fuse (h : Wc w0 w L G F) {f1 f2 f : World → Prop} (h1 : f1 ∈ F) (h2 : f2 ∈ F) (hf : ∀ W, f1 W → f2 W → f W) : Wc w0 w L G (f :: F) :=
 h.addF f fun w' hw' => hf w' (h.fx f1 h1 w' hw') (h.fx f2 h2 w' hw')
/-- fewer boxes -/
theorem Wc.sub (h : Wc w0 w L G F) {L' : List (Nat × List Value)} {F' : List (World → Prop)} (hL : L'.Sublist L) (hF : ∀ f ∈ F', f ∈ F) : Wc w0 w L' G F' :=
 ⟨h.only, fun x hx => h.own x (hL.subset hx), fun x hx => h.lo x (hL.subset hx), h.nd.sublist (hL.map _), h.g1, h.g2, fun x hx => h.g3 x (hL.subset hx), fun f hf w2 h2 => h.fx f (hF f hf) w2 fun k o hm hk hc => h2 k o (fun h3 => hm (by
  rcases h3 with h3 | h3
  ·exact .inl ((hL.map _).subset h3)
  ·exact .inr h3)) hk hc⟩
end
section
variable {w0 w w' : World} {M : Nat → Prop} {L : List (Nat × List Value)} {G : List Gs} {F : List (World → Prop)}
theorem fc_cell {p : Addr} {v : Value} (hc : w.cell? p = some v) (hp : ¬ M p.block) : Fc w M (fun W => W.cell? p = some v) := fun W hW => by
 obtain ⟨o, ho, hcc⟩ := cells_of_cell hc
 exact (World.cell?_of_block (by rw [hW _ _ hp ho hcc, ho])).trans hc
theorem Row1.fc {A : Option Addr} {n c : Nat} {xs : List Value} (h : Row1 w A n c xs) (hA : 0 < n → ∀ a, A = some a → ¬ M a.block) : Fc w M (fun W => Row1 W A n c xs) := fun W hW =>
 ⟨h.len, h.le, h.cm, fun hn => by
  obtain ⟨g, o, e, hc⟩ := h.at_ hn
  exact ⟨g, o, e, fun i hi => fc_cell (hc i hi) (show ¬ M g from hA hn _ e) W hW⟩⟩
theorem Its.fc {A : Option Addr} {n c : Nat} {l : List It} (h : Its w A n c l) (hA : 0 < n → ∀ a, A = some a → ¬ M a.block) : Fc w M (fun W => Its W A n c l) := fun W hW =>
 ⟨h.len, h.le, h.cm, fun hn => by
  obtain ⟨g, o, e, hc⟩ := h.at_ hn
  exact ⟨g, o, e, fun i hi => ⟨fc_cell (hc i hi).1 (show ¬ M g from hA hn _ e) W hW, fc_cell (hc i hi).2.1 (show ¬ M g from hA hn _ e) W hW, fc_cell (hc i hi).2.2.1 (show ¬ M g from hA hn _ e) W hW, fc_cell (hc i hi).2.2.2 (show ¬ M g from hA hn _ e) W hW⟩⟩⟩
theorem Own.fc {p : Nat} {cs : List Value} (h : Own w p cs) (hp : ¬ M p) : Fc w M (fun W => Own W p cs) := fun W hW => by
 obtain ⟨cur, t, h1, h2⟩ := h
 exact ⟨cur, t, hW p _ hp h1 rfl, h2⟩
theorem Bls.fc {sl : List (Option Addr × Nat × Nat)} {bl : List (List UInt8)} (h : Bls w sl bl) (hA : ∀ s ∈ sl, 0 < s.2.1 → ∀ a, s.1 = some a → ¬ M a.block) : Fc w M (fun W => Bls W sl bl) := fun W hW =>
 ⟨h.1, fun i h1 h2 => Row1.fc (h.2 i h1 h2) (hA _ (List.getElem_mem h1)) W hW⟩
/-- what lay below the walk's beginning -/
theorem Wc.old (h : Wc w0 w L G F) {f : World → Prop} (hf : Fc w0 (fun _ => False) f) : Wc w0 w L G (f :: F) :=
 h.addF f fun W hW => hf W fun k o _ hk hc => by
  have hk' := lt_of_obj hk
  refine hW k o (fun hm => ?_) ((h.only.block k hk' (by simp)).trans hk) hc
  have := h.mlo hm
  omega
/-- what a call leaves in blocks of its own -/
theorem Wc.addFc (h : Wc w0 w L G F) (hO : Only [] w w') {f : World → Prop} (hf : Fc w' (fun k => k < w.heap.size) f) : Wc w0 w' L G (f :: F) :=
 (h.keep0 hO).addF f fun W hW => hf W fun k o hn hk hc => hW k o (fun hm => hn (h.mlt hm)) hk hc
end
end Go.Kn
namespace Go.Kn
open Go Go.RowKit
structure Dk where
 safe : List (List UInt8)
 held : List (Nat × List UInt8)
 faults : List Bool
 fuse : Int
 acts : Int
 off : Bool
namespace Dk
/-- sectors with writes laid over them -/
def over (s : List (List UInt8)) (h : List (Nat × List UInt8)) : List (List UInt8) := h.foldl (fun s x => s.set x.1 x.2) s
def now (d : Dk) : List (List UInt8) := over d.safe d.held
def tick (z : Int) : Int := wrap64 (z + 1)
/-- is the power off behind one act more -/
def gone (d : Dk) : Bool := d.off || decide (d.fuse = 0)
def act (d : Dk) : Dk := { d with acts := tick d.acts, off := d.gone, fuse := if d.gone then d.fuse else max (d.fuse - 1) (-1) }
def has (d : Dk) (a : Int) : Bool := decide (0 ≤ a ∧ a < d.safe.length)
def wrote (d : Dk) (a : Int) (b : List UInt8) : Dk := { d.act with held := d.held ++ [(a.toNat, b)] }
def write (d : Dk) (a : Int) (b : List UInt8) : Dk × Int :=
 if (d.has a && decide (b.length = 64)) = true then (if d.gone = true then (d.act, 3) else (d.wrote a b, 0)) else (d, 1)
def sector (d : Dk) (a : Int) : List UInt8 := d.now.getD a.toNat []
def bad (d : Dk) (a : Int) : Bool := d.faults.getD a.toNat false
/-- what a read answers: the bytes, if there are any; the error -/
def err (d : Dk) (a : Int) : Int := if d.has a = true then (if d.off = true then 3 else if d.bad a = true then 4 else 0) else 1
def read (d : Dk) (a : Int) : List UInt8 := if d.err a = 0 then d.sector a else []
def flushed (d : Dk) : Dk := { d.act with safe := d.now, held := [] }
def flush (d : Dk) : Dk × Int := if d.gone = true then (d.act, 3) else (d.flushed, 0)
structure Ok (d : Dk) : Prop where
 n : 1 ≤ d.safe.length ∧ d.safe.length ≤ 4096
 f : d.faults.length = d.safe.length
 s : ∀ b ∈ d.safe, b.length = 64
 h : ∀ x ∈ d.held, x.1 < d.safe.length ∧ x.2.length = 64
 u : -1 ≤ d.fuse ∧ d.fuse ≤ 9223372036854775807
theorem over_length (h : List (Nat × List UInt8)) : ∀ s : List (List UInt8), (over s h).length = s.length := by
 induction h with
 | nil => intro s; rfl
 | cons x h ih => intro s; exact (ih _).trans (by simp)
theorem over_one (s : List (List UInt8)) (h : List (Nat × List UInt8)) (a : Nat) (b : List UInt8) : over s (h ++ [(a, b)]) = (over s h).set a b := by simp [over]
theorem over_64 (h : List (Nat × List UInt8)) : ∀ s : List (List UInt8), (∀ b ∈ s, b.length = 64) → (∀ x ∈ h, x.2.length = 64) → ∀ b ∈ over s h, b.length = 64 := by
 induction h with
 | nil => intro s hs _; exact hs
 | cons x h ih =>
  intro s hs hh
  refine ih _ (fun b hb => ?_) (fun y hy => hh y (List.mem_cons_of_mem _ hy))
  rcases List.mem_or_eq_of_mem_set hb with hb | rfl
  ·exact hs b hb
  ·exact hh x List.mem_cons_self
@[simp] theorem now_length (d : Dk) : d.now.length = d.safe.length := over_length _ _
theorem Ok.now64 {d : Dk} (h : d.Ok) : ∀ b ∈ d.now, b.length = 64 := over_64 _ _ h.s (fun x hx => (h.h x hx).2)
theorem Ok.act {d : Dk} (h : d.Ok) : d.act.Ok := ⟨h.n, h.f, h.s, h.h, by
 have := h.u
 unfold Dk.act
 simp only
 split <;> omega⟩
theorem now_wrote (d : Dk) (a : Int) (b : List UInt8) : (d.wrote a b).now = d.now.set a.toNat b := over_one _ _ _ _
theorem Ok.wrote {d : Dk} (h : d.Ok) {a : Int} {b : List UInt8} (ha : d.has a = true) (hb : b.length = 64) : (d.wrote a b).Ok := by
 have h1 := h.act
 refine ⟨h1.n, h1.f, h1.s, fun x hx => ?_, h1.u⟩
 unfold has at ha
 simp only [decide_eq_true_eq] at ha
 rcases List.mem_append.1 hx with hx | hx
 ·exact h.h x hx
 ·rw [List.mem_singleton] at hx
  subst hx
  exact ⟨show a.toNat < d.safe.length by omega, hb⟩
theorem Ok.write {d : Dk} (h : d.Ok) (a : Int) (b : List UInt8) : (d.write a b).1.Ok := by
 unfold Dk.write
 split
 ·rename_i hc
  simp only [Bool.and_eq_true, decide_eq_true_eq] at hc
  split
  ·exact h.act
  ·exact h.wrote hc.1 hc.2
 ·exact h
theorem Ok.flushed {d : Dk} (h : d.Ok) : d.flushed.Ok := by
 have h1 := h.act
 exact ⟨by show 1 ≤ d.now.length ∧ d.now.length ≤ 4096; rw [now_length]; exact h.n, by show d.faults.length = d.now.length; rw [now_length]; exact h.f, h.now64, fun x hx => absurd hx (by simp [Dk.flushed]), h1.u⟩
theorem Ok.flush {d : Dk} (h : d.Ok) : d.flush.1.Ok := by
 unfold Dk.flush
 split
 ·exact h.act
 ·exact h.flushed
theorem sector_64 {d : Dk} (h : d.Ok) {a : Int} (ha : d.has a = true) : (d.sector a).length = 64 := by
 unfold has at ha
 simp only [decide_eq_true_eq] at ha
 unfold sector
 rw [List.getD_eq_getElem?_getD, List.getElem?_eq_getElem (by rw [now_length]; omega), Option.getD_some]
 exact h.now64 _ (List.getElem_mem _)
theorem err_has {d : Dk} {a : Int} (h : d.err a = 0) : d.has a = true := by
 unfold err at h
 split at h
 ·assumption
 ·cases h
theorem read_64 {d : Dk} (h : d.Ok) {a : Int} (he : d.err a = 0) : (d.read a).length = 64 := by
 unfold Dk.read
 rw [if_pos he]
 exact sector_64 h (err_has he)
/-- a disk of noughts -/
def new (n : Nat) : Dk := ⟨List.replicate n (List.replicate 64 0), [], List.replicate n false, -1, 0, false⟩
theorem new_ok {n : Nat} (h1 : 1 ≤ n) (h2 : n ≤ 4096) : (new n).Ok := ⟨by simp [new]; omega, by simp [new], fun b hb => by rw [(List.mem_replicate.1 hb).2]; simp, by simp [new], by simp [new]⟩
end Dk
/-- sectors as cells, one behind the other -/
def flat (ss : List (List UInt8)) : List Value := ss.flatMap bvs
def bls (l : List Bool) : List Value := l.map Value.bool
@[simp] theorem bls_length (l : List Bool) : (bls l).length = l.length := by simp [bls]
theorem bls_get (l : List Bool) (i : Nat) (h : i < (bls l).length) : (bls l)[i] = .bool (l[i]'(by simpa using h)) := by simp [bls]
theorem flat_length : ∀ (ss : List (List UInt8)), (∀ b ∈ ss, b.length = 64) → (flat ss).length = 64 * ss.length
 | [], _ => rfl
 | s :: ss, h => by
  have h1 := flat_length ss fun b hb => h b (List.mem_cons_of_mem _ hb)
  have h2 := h s List.mem_cons_self
  unfold flat at h1 ⊢
  rw [List.flatMap_cons, List.length_append, bvs_length, h2, h1, List.length_cons]
  omega
theorem flat_append (a b : List (List UInt8)) : flat (a ++ b) = flat a ++ flat b := by simp [flat]
/-- the cells of sector i -/
theorem flat_get (ss : List (List UInt8)) (h : ∀ b ∈ ss, b.length = 64) (i j : Nat) (hi : i < ss.length) (hj : j < 64) : (flat ss)[64 * i + j]? = some (.int .u8 (((ss[i])[j]'(by rw [h _ (List.getElem_mem hi)]; exact hj)).toNat : Int)) := by
 induction ss generalizing i with
 | nil => simp at hi
 | cons s ss ih =>
  have h2 := h s List.mem_cons_self
  have e : flat (s :: ss) = bvs s ++ flat ss := by simp [flat]
  rw [e]
  match i with
  | 0 =>
   rw [List.getElem?_append_left (by rw [bvs_length]; omega)]
   have hlt : j < (bvs s).length := by rw [bvs_length]; omega
   rw [show 64 * 0 + j = j from by omega, List.getElem?_eq_getElem hlt, bvs_get]
   rfl
  | i + 1 =>
   rw [List.getElem?_append_right (by rw [bvs_length]; omega), bvs_length, h2, show 64 * (i + 1) + j - 64 = 64 * i + j from by omega]
   exact ih (fun b hb => h b (List.mem_cons_of_mem _ hb)) i (by simpa using hi)
theorem flat_cut (ss : List (List UInt8)) (h : ∀ b ∈ ss, b.length = 64) (i : Nat) (hi : i < ss.length) : ((flat ss).drop (64 * i)).take 64 = bvs ss[i] := by
 have h3 := h _ (List.getElem_mem hi)
 apply List.ext_getElem?
 intro j
 rw [List.getElem?_take]
 split
 ·rename_i hj
  rw [List.getElem?_drop, flat_get ss h i j hi hj]
  have hlt : j < (bvs ss[i]).length := by rw [bvs_length]; omega
  rw [List.getElem?_eq_getElem hlt, bvs_get]
 ·rw [List.getElem?_eq_none (by rw [bvs_length]; omega)]
theorem flat_set (ss : List (List UInt8)) (h : ∀ b ∈ ss, b.length = 64) (i : Nat) (b : List UInt8) (hi : i < ss.length) (hb : b.length = 64) : flat (ss.set i b) = (flat ss).take (64 * i) ++ bvs b ++ (flat ss).drop (64 * i + 64) := by
 have e1 : ss = ss.take i ++ ss[i] :: ss.drop (i + 1) := by rw [List.getElem_cons_drop, List.take_append_drop]
 have e2 : ss.set i b = ss.take i ++ b :: ss.drop (i + 1) := List.set_eq_take_append_cons_drop.trans (by rw [if_pos hi])
 have h3 := h _ (List.getElem_mem hi)
 have hl : (flat (ss.take i)).length = 64 * i := by
  rw [flat_length _ fun b hb => h b (List.mem_of_mem_take hb), List.length_take, Nat.min_eq_left (by omega)]
 have e3 : flat ss = flat (ss.take i) ++ (bvs ss[i] ++ flat (ss.drop (i + 1))) := by
  have e5 : flat ss = flat (ss.take i ++ ss[i] :: ss.drop (i + 1)) := congrArg flat e1
  rw [e5, flat_append]
  rfl
 have e4 : flat (ss.set i b) = flat (ss.take i) ++ (bvs b ++ flat (ss.drop (i + 1))) := by
  rw [e2, flat_append]
  rfl
 generalize flat (ss.take i) = A at *
 generalize flat (ss.drop (i + 1)) = B at *
 generalize ss[i] = c at *
 rw [e4, e3, List.take_append_of_le_length (by omega), List.take_of_length_le (by omega), List.drop_append, hl, List.drop_of_length_le (by omega), List.nil_append, show 64 * i + 64 - 64 * i = 64 from by omega, List.drop_append, bvs_length, h3, List.drop_of_length_le (by rw [bvs_length]; omega), List.nil_append, List.append_assoc, Nat.sub_self, List.drop_zero]
/-- what is held, as cells of the program's disk -/
def heldV (l : List (Nat × List UInt8)) : List Value := l.flatMap fun x => .int .i64 (x.1 : Int) :: bvs x.2
theorem heldV_snoc (l : List (Nat × List UInt8)) (a : Nat) (b : List UInt8) : heldV (l ++ [(a, b)]) = heldV l ++ (.int .i64 (a : Int) :: bvs b) := by simp [heldV]
end Go.Kn
namespace Go.Kn
open Go Go.RowKit
section
variable {w0 w w' : World} {L L' A B : List (Nat × List Value)} {G G' : List Gs} {F : List (World → Prop)}
theorem Wc.perm (h : Wc w0 w L G F) (hL : L.Perm L') (hG : G.Perm G') : Wc w0 w L' G' F :=
 ⟨h.only, fun x hx => h.own x (hL.mem_iff.2 hx), fun x hx => h.lo x (hL.mem_iff.2 hx), (hL.map _).nodup_iff.1 h.nd, fun x hx => h.g1 x (hG.mem_iff.2 hx),
  (hG.pairwise_iff (fun hxy k h1 h2 => hxy k h2 h1)).1 h.g2, fun x hx y hy => h.g3 x (hL.mem_iff.2 hx) y (hG.mem_iff.2 hy),
  fun f hf w2 h2 => h.fx f hf w2 fun k o hm => h2 k o fun hm' => hm (by
   rcases hm' with h3 | ⟨g, hg, h3⟩
   ·exact .inl ((hL.map _).mem_iff.2 h3)
   ·exact .inr ⟨g, hG.mem_iff.2 hg, h3⟩)⟩
/-- two heaps of boxes change places -/
theorem Wc.swap {g1 g2 : Gs} (h : Wc w0 w (A ++ (B ++ L)) (g1 :: g2 :: G) F) : Wc w0 w (B ++ (A ++ L)) (g2 :: g1 :: G) F :=
 h.perm (by rw [← List.append_assoc, ← List.append_assoc]; exact List.perm_append_comm.append_right _) (List.Perm.swap _ _ _)
theorem Wc.subG (h : Wc w0 w L G F) (hG : G'.Sublist G) : Wc w0 w L G' F :=
 ⟨h.only, h.own, h.lo, h.nd, fun x hx => h.g1 x (hG.subset hx), h.g2.sublist hG, fun x hx y hy => h.g3 x hx y (hG.subset hy), fun f hf w2 h2 => h.fx f hf w2 fun k o hm => h2 k o fun hm' => hm (by
  rcases hm' with h3 | ⟨g, hg, h3⟩
  ·exact .inl h3
  ·exact .inr ⟨g, hG.subset hg, h3⟩)⟩
theorem Wc.gdrop {g : Gs} (h : Wc w0 w L (g :: G) F) : Wc w0 w L G F := h.subG (List.sublist_cons_self _ _)
theorem Wc.ldrop {x : Nat × List Value} (h : Wc w0 w (x :: L) G F) : Wc w0 w L G F := h.sub (List.sublist_cons_self _ _) (fun _ h => h)
theorem Wc.fdrop {f : World → Prop} (h : Wc w0 w L G (f :: F)) : Wc w0 w L G F := h.sub (List.Sublist.refl _) (fun _ h => List.mem_cons_of_mem _ h)
theorem Wc.fswap {f g : World → Prop} (h : Wc w0 w L G (f :: g :: F)) : Wc w0 w L G (g :: f :: F) := h.sub (List.Sublist.refl _) (fun x hx => by
 rcases List.mem_cons.1 hx with rfl | hx
 ·exact List.mem_cons_of_mem _ List.mem_cons_self
 ·rcases List.mem_cons.1 hx with rfl | hx
  ·exact List.mem_cons_self
  ·exact List.mem_cons_of_mem _ (List.mem_cons_of_mem _ hx))
theorem Wc.subF (h : Wc w0 w L G F) {F' : List (World → Prop)} (hF : ∀ f ∈ F', f ∈ F) : Wc w0 w L G F' := h.sub (List.Sublist.refl _) hF
/-- the walk began elsewhere: a world that is older -/
theorem Wc.from {v : World} (h : Wc w0 w L G F) (hO : Only [] v w0) : Wc v w L G F :=
 ⟨hO.trans' h.only, h.own, fun x hx => Nat.le_trans hO.size (h.lo x hx), h.nd, fun x hx => by
  obtain ⟨h1, h2⟩ := h.g1 x hx
  refine ⟨h1, ?_⟩
  rcases h2 with h2 | ⟨g, cap, cur, hv, hb, rest⟩
  ·exact .inl h2
  ·exact .inr ⟨g, cap, cur, hv, Nat.le_trans hO.size hb, rest⟩, h.g2, h.g3, h.fx⟩
end
end Go.Kn
namespace Go.Kn
open Go Go.RowKit
structure Fr3 where
 L : List (Nat × List Value)
 G : List Gs
 F : List (World → Prop)
def At3 (w0 W : World) (a b : Fr3) : Prop := Wc w0 W (a.L ++ b.L) (a.G ++ b.G) (a.F ++ b.F)
theorem At3.alloc {w0 W : World} {a b : Fr3} (h : At3 w0 W a b) (o : Obj) : At3 w0 (W.alloc o) a b := Wc.alloc h o
theorem At3.drew {w0 W : World} {a b : Fr3} (h : At3 w0 W a b) : At3 w0 W.drew a b := Wc.drew h
theorem At3.putObj {w0 W : World} {a b : Fr3} (h : At3 w0 W a b) {D : Nat} {o : Obj} (o' : Obj) (hD : W.heap[D]? = some o) (ho : o.isCells = false) (hw : w0.heap.size ≤ D) : At3 w0 (W.putObj D o') a b := Wc.putObj h o' hD ho hw
/-- non-cells below B lie as they lay -/
structure Kb (B : Nat) (X Y : World) : Prop where
 size : X.heap.size ≤ Y.heap.size
 keep : ∀ k o, k < B → X.heap[k]? = some o → o.isCells = false → Y.heap[k]? = some o
theorem Kb.refl (B : Nat) (X : World) : Kb B X X := ⟨Nat.le_refl _, fun _ _ _ h _ => h⟩
theorem Kb.trans {B : Nat} {X Y Z : World} (h : Kb B X Y) (k : Kb B Y Z) : Kb B X Z := ⟨Nat.le_trans h.size k.size, fun i o hi ho hc => k.keep i o hi (h.keep i o hi ho hc) hc⟩
theorem Kb.mono {B C : Nat} {X Y : World} (h : Kb B X Y) (hC : C ≤ B) : Kb C X Y := ⟨h.size, fun i o hi ho hc => h.keep i o (by omega) ho hc⟩
theorem Kb.of_only {B : Nat} {S : List Nat} {X Y : World} (h : Only S X Y) (hS : ∀ k ∈ S, ∀ o, X.heap[k]? = some o → o.isCells = true) : Kb B X Y := ⟨h.size, fun k o _ ho hc => by
 refine (h.block k (lt_of_obj ho) fun hm => ?_).trans ho
 rw [hS k hm o ho] at hc
 cases hc⟩
/-- the contract of an iterator: Pre: what it has when it tells x behind pre; Fin: at its end; Fix: where it was stopped; J: what the loop has -/
def SeqW {α : Type} (F : Fence) (n : Nat) (P : Program) (g : Nat) (lb : Array Value) (encs : α → Array Value) (Pre : List α → α → Fr3 → Prop) (Fin Fix : List α → Fr3 → Prop) (N : Nat) (w0 W : World) (φ0 : Fr3) : Prop :=
 ∀ (l : Nat) (J : Option Code → List α → Fr3 → World → Prop) (c0 : Fr3), (∀ pe xs c X Y, J pe xs c X → Kb W.heap.size X Y → J pe xs c Y) →
  (∀ pre x φ c W1, Pre pre x φ → J none pre c W1 → At3 w0 W1 φ c → W.heap.size ≤ W1.heap.size → pre.length < N → YieldAt F (n - 1) P l (encs x) W1 fun e W' =>
   ∃ c', At3 w0 W' φ c' ∧ KeepsFrom W.heap.size W1 W' ∧ ((e = .returned (.bool true) ∧ J none (pre ++ [x]) c' W') ∨ (e = .returned (.bool false) ∧ ∃ cd, J (some cd) (pre ++ [x]) c' W'))) →
  J none [] c0 W → At3 w0 W φ0 c0 →
  CallsIn F n P g (#[.func (.yield l) #[] #[]] ++ lb) W fun e W' => (∃ v, e = .returned v) ∧ W.heap.size ≤ W'.heap.size ∧ ∃ φ c, At3 w0 W' φ c ∧ ((∃ xs, Fin xs φ ∧ J none xs c W') ∨ (∃ pre cd, Fix pre φ ∧ J (some cd) pre c W'))
/-- how the body of a round may be left -/
def postW {α : Type} (B : Nat) (w0 : World) (φ : Fr3) (J : Option Code → List α → Fr3 → World → Prop) (xs : List α) (W : World) : Exit → Act → World → Prop
 | .normal, _, W' => KeepsFrom B W W' ∧ ∃ c, At3 w0 W' φ c ∧ J none xs c W'
 | .ret, _, W' => KeepsFrom B W W' ∧ ∃ c, At3 w0 W' φ c ∧ J (some .ret) xs c W'
 | .exit id, _, W' => KeepsFrom B W W' ∧ ∃ c, At3 w0 W' φ c ∧ J (some (.exit id)) xs c W'
 | .goto t, _, W' => KeepsFrom B W W' ∧ ∃ c, At3 w0 W' φ c ∧ J (some (.goto t)) xs c W'
 | .panic _, _, _ => False
 | .outgrown, _, _ => False
theorem kb_putObj {B D : Nat} (X : World) (o : Obj) (h : B ≤ D) : Kb B X (X.putObj D o) := ⟨by simp, fun k q hk hq _ => (World.putObj_heap_other (by omega)).trans hq⟩
variable {F : Fence} {n : Nat} {P : Program}
theorem wpIn_rangeFunc_W {α : Type} {g : Operand} {ps : Array Tmp} {assign body : Code} {Q : Exit → Act → World → Prop} {a : Act} {w : World}
  (hro : F.round = none) (h1 : 1 ≤ n) {gf : Nat} {lb : Array Value} (hg : a.eval g = .func (.func gf) #[] lb) (hFg : F.fn gf) (eg : ∀ args w, (callFunc gf args).run P w = .ok (.enter gf args) w)
  {encs : α → Array Value} {Pre : List α → α → Fr3 → Prop} {Fin Fix : List α → Fr3 → Prop} {N : Nat} {w0 : World} {φ0 c0 : Fr3}
  (hseq : ∀ W1 : World, w.heap.size ≤ W1.heap.size → SeqW F (n - 1) P gf lb encs Pre Fin Fix N w0 W1 φ0) (hps : ∀ x, (encs x).size = ps.size)
  (J : Option Code → List α → Fr3 → World → Prop) (Jm : List α → α → Act → Fr3 → World → Prop)
  (hJ : ∀ pe xs c X Y, J pe xs c X → Kb w.heap.size X Y → J pe xs c Y) (hJm : ∀ pre x a c X Y, Jm pre x a c X → Kb w.heap.size X Y → Jm pre x a c Y) (hJ0 : J none [] c0 w) (h0 : At3 w0 w φ0 c0)
  (hassign : ∀ (l : Nat) (pre : List α) (x : α) (φ c : Fr3) (W : World) (K : Act → World → Prop), Pre pre x φ → J none pre c W → At3 w0 W φ c → w.heap.size ≤ W.heap.size → pre.length < N →
   (∀ a' c' W', KeepsFrom w.heap.size W W' → At3 w0 W' φ c' → Jm pre x a' c' W' → K a' W') →
   assign.wpIn (F.inRound l) (n - 1 - 1) P (Exit.then K (fun _ _ _ => False)) { tmps := (ps.zip (encs x)).foldl (fun t (p, v) => t.setIfInBounds p v) a.tmps, defers := [] } W)
  (hbody : ∀ (l : Nat) (pre : List α) (x : α) (φ c : Fr3) (a' : Act) (W : World), Pre pre x φ → Jm pre x a' c W → At3 w0 W φ c → w.heap.size ≤ W.heap.size → pre.length < N → body.wpIn (F.inRound l) (n - 1 - 1) P (postW w.heap.size w0 φ J (pre ++ [x]) W) a' W)
  (hdone : ∀ (D : Nat) (xs : List α) (φ c : Fr3) (W : World), w.heap.size ≤ D → Fin xs φ → J none xs c W → At3 w0 W φ c → W.heap[D]? = some (.deferred (some [])) → w.heap.size ≤ W.heap.size → Q .normal { a with defers := { target := .collected D, args := #[] } :: a.defers } W)
  (hstop : ∀ (D : Nat) (cd : Code) (pre : List α) (φ c : Fr3) (W : World), w.heap.size ≤ D → Fix pre φ → J (some cd) pre c W → At3 w0 W φ c → W.heap[D]? = some (.deferred (some [])) → w.heap.size ≤ W.heap.size → cd.wpIn F n P Q { a with defers := { target := .collected D, args := #[] } :: a.defers } W) :
  (Code.rangeFunc g ps assign body).wpIn F n P Q a w := by
 refine wpIn_rangeFunc ?_
 intro fn hfn
 rw [hro]
 have hww := h0.only.size
 obtain ⟨rec, hrec⟩ : ∃ rec : LoopState → Option Code → Loop, rec = fun st pe => { state := st, pending := pe, fn, tmps := a.tmps, params := ps, assign, body, defers := w.heap.size } := ⟨_, rfl⟩
 obtain ⟨W1, hW1⟩ : ∃ W1, (w.alloc (.deferred (some []))).alloc (.loop (rec .ready none)) = W1 := ⟨_, rfl⟩
 have hL1 : W1.heap[w.heap.size + 1]? = some (.loop (rec .ready none)) := by
  rw [← hW1]; have := World.alloc_heap_new (w.alloc (.deferred (some []))) (.loop (rec .ready none)); rwa [World.size_alloc] at this
 have hK1 : W1.heap[w.heap.size]? = some (.deferred (some [])) := by
  rw [← hW1]; exact (Below.heap_alloc _ _ _ (by simp)).trans (World.alloc_heap_new w _)
 have hI1 : At3 w0 W1 φ0 c0 := by rw [← hW1]; exact (h0.alloc _).alloc _
 have hs1 : W1.heap.size = w.heap.size + 2 := by rw [← hW1]; simp
 have hJ1 : J none [] c0 W1 := hJ _ _ _ _ _ hJ0 (by rw [← hW1]; exact Kb.of_only (S := []) (((Only.refl _ _).alloc _).alloc _) (by simp))
 refine ⟨w.heap.size + 1, [{ target := .collected w.heap.size, args := #[] }], W1, { target := .fn (.func gf) lb, args := #[.func (.yield (w.heap.size + 1)) #[] #[]] }, W1, gf,
  #[.func (.yield (w.heap.size + 1)) #[] #[]] ++ lb, W1, ?_, ?_, ?_, ?_, fun _ => h1, ?_⟩
 ·rw [← hW1, hrec]; exact run_enterLoop_outer _ _ _ _ _
 ·simp only [resolve, hg]
  simp [go_sem]
 ·intro f' hf'; simp [Target.leads] at hf'; subst hf'; exact hFg
 ·simp [invoke, go_sem, eg]
 ·refine ((hseq W1 (by omega)) (w.heap.size + 1)
   (fun pe xs c W => W.heap[w.heap.size + 1]? = some (.loop (rec (if pe.isNone then .ready else .done) pe)) ∧ W.heap[w.heap.size]? = some (.deferred (some [])) ∧ J pe xs c W) c0 ?_ ?_ ⟨hL1, hK1, hJ1⟩ hI1).mono ?_
  ·rintro pe xs c X Y ⟨hl, hk, hj⟩ hb
   exact ⟨hb.keep _ _ (by omega) hl rfl, hb.keep _ _ (by omega) hk rfl, hJ _ _ _ _ _ hj (hb.mono (by omega))⟩
  ·-- one round
   rintro pre x φ c W hpre ⟨hl, hk, hC⟩ hAt hWs hlen
   simp only [Option.isNone_none, if_true] at hl
   have hlt : w.heap.size + 1 < W.heap.size := (Array.getElem?_eq_some_iff.1 hl).1
   have hy := run_yield (P := P) (args := encs x) hl (by rw [hrec]; exact hps x)
   rw [hrec] at hy
   refine ⟨fn, _, assign, body, hy, roundIn_of_wpIn hfn (hassign _ pre x φ c W _ hpre hC hAt (by omega) hlen ?_)⟩
   clear hy
   intro a' c1 Wa hkfa hAa hCa
   replace hl := hkfa.same _ _ (by omega) hl rfl
   replace hk := hkfa.same _ _ (Nat.le_refl _) hk rfl
   have hwa := hkfa.size
   have hkfa1 : KeepsFrom W1.heap.size W Wa := ⟨hkfa.size, fun k o hk => hkfa.same k o (by omega)⟩
   clear hAt hC hkfa
   generalize hWb : W = Wb at *
   obtain ⟨W, rfl⟩ : ∃ W, W = Wa := ⟨_, rfl⟩
   have hAt := hAa
   have hlt : w.heap.size + 1 < W.heap.size := (Array.getElem?_eq_some_iff.1 hl).1
   refine ⟨_, run_beginRound hl (by rw [hrec]), ?_⟩
   have hl2 : (W.putObj (w.heap.size + 1) (.loop { rec .ready none with state := .busy })).heap[w.heap.size + 1]? = some (.loop { rec .ready none with state := .busy }) := World.putObj_heap_same hlt
   have hk2 : (W.putObj (w.heap.size + 1) (.loop { rec .ready none with state := .busy })).heap[w.heap.size]? = some (.deferred (some [])) := (World.putObj_heap_other (by omega)).trans hk
   have hA2 := hAt.putObj (.loop { rec .ready none with state := .busy }) hl rfl (by omega)
   have hC2 := hJm _ _ _ _ _ _ hCa (kb_putObj W (.loop { rec .ready none with state := .busy }) (Nat.le_succ w.heap.size))
   refine wpIn_mono (hbody _ pre x φ c1 a' _ hpre hC2 hA2 (by simp; omega) hlen) ?_
   have kput : ∀ (X : World) (o o' : Obj), X.heap[w.heap.size + 1]? = some o → KeepsFrom W1.heap.size X (X.putObj (w.heap.size + 1) o') := fun X o o' hX =>
    KeepsFrom.of_grownBy (grownBy_putObj' X (w.heap.size + 1) o') (fun j e => by cases e; omega)
   have fin : ∀ (jump : Option Code) (W3 : World), KeepsFrom w.heap.size (W.putObj (w.heap.size + 1) (.loop { rec .ready none with state := .busy })) W3 →
     (Instr.endRound (w.heap.size + 1) jump).run P W3 = .ok (.bool jump.isNone) (W3.putObj (w.heap.size + 1) (.loop (rec (if jump.isNone then .ready else .done) jump))) ∧
     W3.heap[w.heap.size + 1]? = some (.loop { rec .ready none with state := .busy }) ∧
     (W3.putObj (w.heap.size + 1) (.loop (rec (if jump.isNone then .ready else .done) jump))).heap[w.heap.size + 1]? = some (.loop (rec (if jump.isNone then .ready else .done) jump)) ∧
     (W3.putObj (w.heap.size + 1) (.loop (rec (if jump.isNone then .ready else .done) jump))).heap[w.heap.size]? = some (.deferred (some [])) ∧
     KeepsFrom W1.heap.size Wb (W3.putObj (w.heap.size + 1) (.loop (rec (if jump.isNone then .ready else .done) jump))) := fun jump W3 hk3 => by
    have hl3 := hk3.same _ _ (by omega) hl2 rfl
    have := run_endRound (P := P) jump hl3
    rw [hrec] at this ⊢
    rw [hrec] at hl3
    have k2 : KeepsFrom W1.heap.size (W.putObj (w.heap.size + 1) (.loop { rec .ready none with state := .busy })) W3 := ⟨hk3.size, fun k o hk => hk3.same k o (by omega)⟩
    refine ⟨this, hl3, World.putObj_heap_same (Array.getElem?_eq_some_iff.1 hl3).1, (World.putObj_heap_other (by omega)).trans (hk3.same _ _ (Nat.le_refl _) hk2 rfl), hkfa1.trans (((kput W _ _ hl).trans k2).trans (kput W3 _ _ hl3))⟩
   rintro e a3 W3 hp
   cases e with
   | normal =>
    obtain ⟨hk3, c', hA3, hC3⟩ := hp
    obtain ⟨hr, hl3, hl4, hk4, hkf⟩ := fin none W3 hk3
    exact ⟨_, _, hr, c', hA3.putObj _ hl3 rfl (by omega), hkf, .inl ⟨rfl, hl4, hk4, hJ _ _ _ _ _ hC3 (kb_putObj W3 _ (Nat.le_succ _))⟩⟩
   | ret =>
    obtain ⟨hk3, c', hA3, hC3⟩ := hp
    obtain ⟨hr, hl3, hl4, hk4, hkf⟩ := fin (some .ret) W3 hk3
    exact ⟨_, _, hr, c', hA3.putObj _ hl3 rfl (by omega), hkf, .inr ⟨rfl, .ret, hl4, hk4, hJ _ _ _ _ _ hC3 (kb_putObj W3 _ (Nat.le_succ _))⟩⟩
   | exit id =>
    obtain ⟨hk3, c', hA3, hC3⟩ := hp
    obtain ⟨hr, hl3, hl4, hk4, hkf⟩ := fin (some (.exit id)) W3 hk3
    exact ⟨_, _, hr, c', hA3.putObj _ hl3 rfl (by omega), hkf, .inr ⟨rfl, .exit id, hl4, hk4, hJ _ _ _ _ _ hC3 (kb_putObj W3 _ (Nat.le_succ _))⟩⟩
   | goto t =>
    obtain ⟨hk3, c', hA3, hC3⟩ := hp
    obtain ⟨hr, hl3, hl4, hk4, hkf⟩ := fin (some (.goto t)) W3 hk3
    exact ⟨_, _, hr, c', hA3.putObj _ hl3 rfl (by omega), hkf, .inr ⟨rfl, .goto t, hl4, hk4, hJ _ _ _ _ _ hC3 (kb_putObj W3 _ (Nat.le_succ _))⟩⟩
   | panic ch => exact hp.elim
   | outgrown => exact hp.elim
  ·-- behind the iterator
   rintro e W2 ⟨⟨v, rfl⟩, hs2, φ, c, hA, (⟨xs, hS, hl, hk, hC⟩ | ⟨pre, cd, hSp, hl, hk, hC⟩)⟩
   ·simp only [Option.isNone_none, if_true] at hl
    exact ⟨none, _, by have := run_endLoop (P := P) hl (by rw [hrec]; simp); rw [hrec] at this; exact this, hdone _ xs φ c _ (Nat.le_refl _) hS (hJ _ _ _ _ _ hC (kb_putObj W2 _ (Nat.le_succ _))) (hA.putObj _ hl rfl (by omega)) ((World.putObj_heap_other (by omega)).trans hk) (by simp; omega)⟩
   ·simp only [Option.isNone_some, Bool.false_eq_true, if_false] at hl
    exact ⟨some cd, _, by have := run_endLoop (P := P) hl (by rw [hrec]; simp); rw [hrec] at this; exact this, hstop _ cd pre φ c _ (Nat.le_refl _) hSp (hJ _ _ _ _ _ hC (kb_putObj W2 _ (Nat.le_succ _))) (hA.putObj _ hl rfl (by omega)) ((World.putObj_heap_other (by omega)).trans hk) (by simp; omega)⟩
end Go.Kn
namespace Go.Kn
open Go Go.RowKit
theorem run_storeAt_part {P : Program} (w : World) (t : TypeId) (b i : Nat) (olds vs : List Value) (hs : (P.info? t).map (·.size) = some vs.length) (ho : Own w b olds) (hl : i + vs.length ≤ olds.length) (h1 : ∀ v ∈ vs, v.oneCell' = true) :
  ∃ w', (Instr.storeAt t (.pointer (some ⟨b, i, none⟩)) (.agg vs.toArray)).run P w = .ok () w' ∧ Own w' b (olds.take i ++ vs ++ olds.drop (i + vs.length)) ∧ Only [b] w w' := by
 obtain ⟨cur, ty, hc, ht⟩ := ho
 have hcl : olds.length ≤ cur.size := by
  have : (cur.toList.take olds.length).length = olds.length := by rw [ht]
  simp at this
  omega
 cases hq : P.info? t with
 | none => simp [hq] at hs
 | some inf =>
  simp [hq] at hs
  have hrun := run_storeCells_at (P := P) b i ty vs 0 cur w hc (by omega) h1
  refine ⟨w.setRow b (cur.toList.take (i + 0) ++ vs ++ cur.toList.drop (i + 0 + vs.length)).toArray, ?_, ⟨_, ty, setRow_heap w b cur _ ty _ hc, ?_⟩, ⟨rfl, rfl, rfl, by simp [World.setRow], fun k _ hk => setRow_other w b k _ (by simpa using hk)⟩⟩
  ·have hq2 : (Instr.sureAddr (Value.pointer (some ⟨b, i, none⟩))).run P w = .ok ⟨b, i, none⟩ w := rfl
   simp only [Nat.add_zero] at hrun ⊢
   unfold Instr.storeAt storeVar
   simp [sizeOf, typeInfo, hq, hs, Value.cells, hq2, Result.andThen, hrun]
  ·have e1 : cur.toList.take i = olds.take i := by rw [← ht, List.take_take, Nat.min_eq_left (by omega)]
   have e2 : (cur.toList.drop (i + vs.length)).take (olds.length - (i + vs.length)) = olds.drop (i + vs.length) := by rw [← List.drop_take, ht]
   have e3 : (olds.take i ++ vs ++ olds.drop (i + vs.length)).length = olds.length := by simp; omega
   have e4 : (olds.take i ++ vs).length = i + vs.length := by simp; omega
   simp only [Nat.add_zero]
   rw [e3, e1, List.take_append, e4, List.take_of_length_le (by omega), e2]
end Go.Kn
namespace Go.Kn
open Go Go.RowKit
theorem Own.range {w : World} {g : Nat} {xs : List Value} (h : Own w g xs) (o n : Nat) : w.rangeAt g o ((xs.drop o).take n) := by
 intro j v hv
 rw [List.getElem?_take] at hv
 split at hv
 ·rw [List.getElem?_drop] at hv
  obtain ⟨hl, e⟩ := List.getElem?_eq_some_iff.1 hv
  rw [h.cell _ hl, e]
 ·cases hv
theorem Row1.range {w : World} {g o n c : Nat} {xs : List Value} (h : Row1 w (some ⟨g, o, none⟩) n c xs) : w.rangeAt g o xs := by
 intro j v hv
 obtain ⟨hl, e⟩ := List.getElem?_eq_some_iff.1 hv
 obtain ⟨g', o', e', hc⟩ := h.at_ (by have := h.len; omega)
 injection e' with e'
 injection e' with e1 e2
 subst e1 e2
 rw [hc j hl, e]
theorem exec_load {P : Program} {o : Oper} {a : Act} {w : World} {t : TypeId} {x : Operand} (hop : o.op = .load t x) {A : Addr} (hx : a.eval x = .pointer (some A)) {v : Value}
  (hrun : (Instr.loadAt t (.pointer (some A))).run P w = .ok v w) : (execOp a.eval o).run P w = .ok (.value v) w := by
 unfold execOp
 simp only [hop, hx, Sem.run_bind, Sem.run_pure, Result.andThen_ok, hrun]
theorem exec_arr {P : Program} {o : Oper} {a : Act} {w : World} {t : TypeId} {x : Operand} (hop : o.op = .sliceToArrayPointer t x) {X : Value} (hx : a.eval x = X) {v : Value}
  (hrun : (Instr.arrayAt t X).run P w = .ok v w) : (execOp a.eval o).run P w = .ok (.value v) w := by
 unfold execOp
 simp only [hop, hx, Sem.run_bind, Sem.run_pure, Result.andThen_ok, hrun]
theorem exec_index {P : Program} {o : Oper} {a : Act} {w : World} {t : TypeId} {x i : Operand} (hop : o.op = .indexAddr t x i) {X I : Value} (hx : a.eval x = X) (hi : a.eval i = I) {v : Value}
  (hrun : (Instr.indexAt t X I).run P w = .ok v w) : (execOp a.eval o).run P w = .ok (.value v) w := by
 unfold execOp
 simp only [hop, hx, hi, Sem.run_bind, Sem.run_pure, Result.andThen_ok, hrun]
theorem exec_build {P : Program} {o : Oper} {a : Act} {w : World} {t : TypeId} {parts : Array (Nat × Operand)} (hop : o.op = .build t parts) {vs : Array (Nat × Value)} (hx : parts.map (fun i => (i.1, a.eval i.2)) = vs) {v : Value}
  (hrun : (Instr.build t vs).run P w = .ok v w) : (execOp a.eval o).run P w = .ok (.value v) w := by
 subst hx
 unfold execOp
 simp only [hop, Sem.run_bind, Sem.run_pure, Result.andThen_ok, hrun]
theorem step_store_part {P : Program} {w : World} {ops : Array Oper} {o : Oper} {a : Act} {K : Act → World → Prop} {Q : Exit → Act → World → Prop} {E : Prop} (hgd : o.guard = none) (t : TypeId) (x y : Operand)
  (hop : o.op = .store t x y) (b i : Nat) (olds vs : List Value) (hs : (P.info? t).map (·.size) = some vs.length) (hx : a.eval x = .pointer (some ⟨b, i, none⟩)) (hy : a.eval y = .agg vs.toArray) (ho : Own w b olds) (hl : i + vs.length ≤ olds.length) (h1 : ∀ v ∈ vs, v.oneCell' = true)
  (h : ∀ w', Own w' b (olds.take i ++ vs ++ olds.drop (i + vs.length)) → Only [b] w w' → K (a.put o.dst undef) w') :
  if Region.wanted o (yielded ops a.tmps) = true then Oper.wp P o a w K Q else E := by
 have hw : Region.wanted o (yielded ops a.tmps) = true := by simp [Region.wanted, hgd]
 rw [if_pos hw]
 obtain ⟨w', hrun, h2, h3⟩ := run_storeAt_part (P := P) w t b i olds vs hs ho hl h1
 unfold Oper.wp execOp
 simp only [hop, Sem.run_bind, Sem.run_pure, Result.andThen_ok, hx, hy, hrun]
 exact h w' h2 h3
theorem step_append_own {P : Program} {w : World} {ops : Array Oper} {o : Oper} {a : Act} {K : Act → World → Prop} {Q : Exit → Act → World → Prop} {E : Prop} (hgd : o.guard = none) (s x : Operand) (t : TypeId)
  (ho : o.op = .call { callee := .builtin .append, args := #[s, x], argTypes := #[t, t] })
  (base : Nat) (e : TypeId) (i : TypeInfo) (z : Value) (size bytes : Nat) (ht : P.underlying t = some (.slice e)) (hi : P.info? e = some i) (hz : i.zero = some z)
  (hsize : i.size = size) (hby : i.bytes = bytes) (hzs : z.cells.size = size) (hsz : 0 < size)
  (v : Value) (n : Nat) (xs : List Value) (hs : a.eval s = v) (hown : w.ownsRow base e size v n xs)
  (ad : Addr) (m c : Nat) (news : List Value) (hx : a.eval x = .slice (some ad) m c) (hl : news.length = m * size) (hnews : ∀ j u, news[j]? = some u → w.cell? (ad.add j) = some u) (h1 : ∀ u ∈ news, u.oneCell' = true)
  (h63 : n + m ≤ maxLen) (hbytes : (n + m) * bytes ≤ 140737488355328) (hbase : base ≤ w.heap.size)
  (h : ∀ v' w', w'.ownsRow base e size v' (n + m) (xs ++ news) → w.grownBy w' v.ownBlock → (v'.ownBlock = v.ownBlock ∨ v'.ownBlock = some w.heap.size) → K (a.put o.dst v') w') :
  if Region.wanted o (yielded ops a.tmps) = true then Oper.wp P o a w K Q else E := by
 have hw : Region.wanted o (yielded ops a.tmps) = true := by simp [Region.wanted, hgd]
 rw [if_pos hw]
 obtain ⟨v', w', hr, h2, h3, h4, h5⟩ := run_append_own_at (P := P) w base t o.type e i z size bytes ht hi hz hsize hby hzs hsz v n xs hown ad m c news hl hnews h1 h63 hbytes hbase
 unfold Oper.wp execOp
 simp only [ho, resolve, invoke, builtin, Sem.run_bind, Sem.run_pure, Result.andThen_ok, List.map_toArray, List.map_cons, List.map_nil, hs, hx, hr]
 exact h v' w' h2 h3 h5
theorem fill_two (c0 : Value) (vs : List Value) (cells : Array Value) (h0 : c0.cells = #[c0]) (hc : cells.size = 1 + vs.length) :
  Instr.fill (fun i => (#[(0, 1), (1, vs.length)] : Array (Nat × Nat))[i]?) cells [(0, c0), (1, .agg vs.toArray)] = some (c0 :: vs).toArray := by
 have hv : (Value.agg vs.toArray).cells = vs.toArray := rfl
 have e0 : (c0.cells.zipIdx.foldl (fun cs (x : Value × Nat) => cs.setIfInBounds (0 + x.2) x.1) cells) = cells.setIfInBounds 0 c0 := by rw [h0]; rfl
 obtain ⟨f1, f2⟩ := Great.foldl_set 1 vs 0 (cells.setIfInBounds 0 c0)
 have e1 : (vs.toArray.zipIdx.foldl (fun cs (x : Value × Nat) => cs.setIfInBounds (1 + x.2) x.1) (cells.setIfInBounds 0 c0)) = (c0 :: vs).toArray := by
  rw [← Array.foldl_toList, Array.toList_zipIdx]
  apply Array.ext_getElem?
  intro k
  rw [f2 k]
  simp only [Array.size_setIfInBounds, List.getElem?_toArray]
  rcases k with _ | k
  ·rw [if_neg (by omega)]
   have h0 : 0 < cells.size := by omega
   simp [h0]
  ·rw [List.getElem?_cons_succ]
   by_cases hk : k < vs.length
   ·rw [if_pos (by omega), show k + 1 - (1 + 0) = k from by omega]
   ·rw [if_neg (by omega), List.getElem?_eq_none (by omega), Array.getElem?_eq_none (by rw [Array.size_setIfInBounds]; omega)]
 have hsz : (cells.setIfInBounds 0 c0).size = cells.size := Array.size_setIfInBounds ..
 have c1 : (decide (c0.cells.size ≠ 1) || decide (0 + c0.cells.size > cells.size)) = false := by
  have e : c0.cells.size = 1 := by rw [h0]; rfl
  rw [e, hc, decide_eq_false (by simp), decide_eq_false (by omega)]; rfl
 have c2 : (decide (vs.toArray.size ≠ vs.length) || decide (1 + vs.toArray.size > (cells.setIfInBounds 0 c0).size)) = false := by
  have e : vs.toArray.size = vs.length := List.size_toArray ..
  rw [e, hsz, hc, decide_eq_false (by simp), decide_eq_false (by omega)]; rfl
 simp only [Instr.fill, List.getElem?_toArray, List.getElem?_cons_zero, List.getElem?_cons_succ, c1, c2, e0, hv, e1, Bool.false_eq_true, if_false]
theorem built_two {P : Program} {t : TypeId} {fields : Array Field} (n : Nat) (hu : P.underlying t = some (.struct fields)) (hi : (P.info? t).map (fun i => (i.zero.map (·.cells.size))) = some (some (1 + n)))
  (hp : fields.toList.mapM (fun f => (P.info? f.type).map fun i => (f.offset, i.size)) = some [(0, 1), (1, n)]) (c0 : Value) (vs : List Value) (h0 : c0.cells = #[c0]) (hn : vs.length = n) :
  P.built t [(0, c0), (1, .agg vs.toArray)] = some (c0 :: vs).toArray := by
 subst hn
 unfold Program.built
 cases hq : P.info? t with
 | none => simp [hq] at hi
 | some it =>
  cases hz : it.zero with
  | none => simp [hq, hz] at hi
  | some z =>
   simp [hq, hz] at hi
   simp only [hu, hz, hp]
   exact fill_two c0 vs z.cells h0 hi
/-- the parts of the program's disk: its box, its blocks, how many sectors -/
structure PD where
 D : Nat
 s : Nat
 n : Nat
 f : Nat
 N : Nat
 cs : Nat
 cn : Nat
 cf : Nat
def PD.box (p : PD) (v : Value) (d : Dk) : List Value := [.slice (some ⟨p.s, 0, none⟩) p.N p.cs, .slice (some ⟨p.n, 0, none⟩) p.N p.cn, v, .slice (some ⟨p.f, 0, none⟩) p.N p.cf, .int .i64 d.fuse, .int .i64 d.acts, .bool d.off]
def PD.L (p : PD) (v : Value) (d : Dk) (L : List (Nat × List Value)) : List (Nat × List Value) := (p.D, p.box v d) :: (p.s, flat d.safe) :: (p.n, flat d.now) :: (p.f, bls d.faults) :: L
/-- the parts of the reference's disk -/
structure RD where
 M : Nat
 s : Nat
 f : Nat
 N : Nat
 cs : Nat
 cf : Nat
def RD.box (r : RD) (v lv : Value) (d : Dk) : List Value := [.slice (some ⟨r.s, 0, none⟩) r.N r.cs, v, .slice (some ⟨r.f, 0, none⟩) r.N r.cf, .int .i64 d.fuse, .bool d.off, .int .i64 d.acts, lv]
def RD.L (r : RD) (v lv : Value) (sl : List (Option Addr × Nat × Nat)) (d : Dk) (L : List (Nat × List Value)) : List (Nat × List Value) := (r.M, r.box v lv d) :: (r.s, sl.map slv) :: (r.f, bls d.faults) :: L
/-- what is held, as cells of the reference's disk -/
def heldR (l : List (Nat × List UInt8)) (hs : List (Option Addr × Nat × Nat)) : List Value := (l.zip hs).flatMap fun x => [.int .i64 (x.1.1 : Int), slv x.2]
theorem heldR_snoc (l : List (Nat × List UInt8)) (hs : List (Option Addr × Nat × Nat)) (h : l.length = hs.length) (a : Nat) (b : List UInt8) (s : Option Addr × Nat × Nat) : heldR (l ++ [(a, b)]) (hs ++ [s]) = heldR l hs ++ [.int .i64 (a : Int), slv s] := by
 unfold heldR
 rw [List.zip_append h]
 simp
end Go.Kn
namespace Go.Proofs.Ytgcfdjcpcclcjaa
open Go Go.RowKit Go.Kn
theorem Try.infoWrite : (Try.prog.info? 133).map (fun i => (i.zero.map (·.cells.size), i.size, i.bytes)) = some (some 65, 65, 72) := by kernel_rfl
theorem size_block : (Try.prog.info? 96).map (·.size) = some 64 := by kernel_rfl
theorem write_parts : ∃ i z, Try.prog.info? 133 = some i ∧ i.zero = some z ∧ i.size = 65 ∧ i.bytes = 72 ∧ z.cells.size = 65 := by
 have hq := Try.infoWrite
 cases hi : Try.prog.info? 133 with
 | none => simp [hi] at hq
 | some ie =>
  cases hz : ie.zero with
  | none => simp [hi, hz] at hq
  | some z =>
   simp [hi, hz] at hq
   exact ⟨ie, z, rfl, hz, hq.2.1, hq.2.2, hq.1⟩
/-- 64 bytes that lie anywhere, as a sector -/
theorem load_bytes {w : World} {g o c : Nat} {b : List UInt8} (h : Bys w (some ⟨g, o, none⟩) 64 c b) :
  (Instr.loadAt 96 (.pointer (some ⟨g, o, none⟩))).run Try.prog w = .ok (.agg (bvs b).toArray) w := by
 have hl := h.len
 exact run_loadAt_mid w g o _ (bvs b) _ h.range Try.underlying96 rfl (by rw [hl]; exact size_block)
theorem idx_block (g N c k : Nat) (hk : k < N) (w : World) : (Instr.indexAt 79 (.slice (some ⟨g, 0, none⟩) N c) (.int .i64 (k : Int))).run Try.prog w = .ok (.pointer (some ⟨g, 64 * k, none⟩)) w := by
 have hs := size_block
 cases hi : Try.prog.info? 96 with
 | none => simp [hi] at hs
 | some ie =>
  simp [hi] at hs
  have h1 : 0 ≤ (k : Int) ∧ (k : Int) < (N : Int) := by omega
  simp [Instr.indexAt, run_underlying Try.underlying79, sizeOf, typeInfo, hi, hs, asIntOf, h1, hk, Nat.mul_comm k 64, Addr.add_mid]
theorem arr_at (a : Option Addr) (c : Nat) (w : World) : (Instr.arrayAt 96 (.slice a 64 c)).run Try.prog w = .ok (.pointer a) w := by
 simp [Instr.arrayAt, run_underlying Try.underlying96]
theorem build_write (a : Int) (b : List UInt8) (hb : b.length = 64) (w : World) : (Instr.build 133 #[(0, .int .i64 a), (1, .agg (bvs b).toArray)]).run Try.prog w = .ok (.agg (.int .i64 a :: bvs b).toArray) w :=
 run_build w _ _ _ (built_two 64 Try.underlying133 (by kernel_rfl) (by kernel_rfl) (.int .i64 a) (bvs b) rfl (by rw [bvs_length, hb]))
theorem bslice_write (xs : List Value) (hl : xs.length = 65) (w : World) : (Instr.buildSlice 80 1 #[(0, .agg xs.toArray)]).run Try.prog w = .ok (.slice (some ⟨w.heap.size, 0, none⟩) 1 1) (w.alloc (.cells xs.toArray 133)) := by
 have hq := Try.infoWrite
 cases hi : Try.prog.info? 133 with
 | none => simp [hi] at hq
 | some ie =>
  cases hz : ie.zero with
  | none => simp [hi, hz] at hq
  | some z =>
   simp [hi, hz] at hq
   obtain ⟨q1, q2, q3⟩ := hq
   refine run_buildSlice w _ _ 1 _ xs.toArray ie z Try.underlying80 hi hz (by omega) (by omega) ?_
   have := Great.fill_whole (s := 65) (by omega) [.agg xs.toArray] ((Array.range (1 * 65)).map (z.cells[· % z.cells.size]!)) (by intro v hv; simp at hv; subst hv; show xs.toArray.size = 65; simp [hl]) (by simp)
   rw [q2]
   simpa [Value.cells] using this
theorem step_bslice_write {w : World} {ops : Array Oper} {o : Oper} {a : Act} {K : Act → World → Prop} {Q : Exit → Act → World → Prop} {E : Prop} (hgd : o.guard = none) (x : Operand) (hop : o.op = .buildSlice 80 1 #[(0, x)]) (xs : List Value) (hl : xs.length = 65) (hx : a.eval x = .agg xs.toArray)
  (h : K (a.put o.dst (.slice (some ⟨w.heap.size, 0, none⟩) 1 1)) (w.alloc (.cells xs.toArray 133))) : if Region.wanted o (yielded ops a.tmps) = true then Oper.wp Try.prog o a w K Q else E := by
 have hw : Region.wanted o (yielded ops a.tmps) = true := by simp [Region.wanted, hgd]
 rw [if_pos hw]
 have hrun := bslice_write xs hl w
 unfold Oper.wp execOp
 simp only [hop, Sem.run_bind, Sem.run_pure, Result.andThen_ok, List.map_toArray, List.map_cons, List.map_nil, hx, hrun]
 exact h
/-- the program's disk -/
structure Dsk (w0 w : World) (p : PD) (d : Dk) (c : Fr3) : Prop where
 ok : d.Ok
 N : d.safe.length = p.N
 hs : p.N ≤ p.cs
 hn : p.N ≤ p.cn
 hf : p.N ≤ p.cf
 mem : ∃ v, Wc w0 w (p.L v d c.L) (⟨133, 65, v, d.held.length, heldV d.held⟩ :: c.G) c.F
/-- the reference's disk -/
structure Rsk (w0 w : World) (r : RD) (d : Dk) (c : Fr3) : Prop where
 ok : d.Ok
 N : d.safe.length = r.N
 hs : r.N ≤ r.cs
 hf : r.N ≤ r.cf
 mem : ∃ v lv k ls sl hs, hs.length = d.held.length ∧ Wc w0 w (r.L v lv sl d c.L) (⟨164, 2, v, d.held.length, heldR d.held hs⟩ :: ⟨48, 1, lv, k, ls⟩ :: c.G) ((fun W => Bls W sl d.safe) :: (fun W => Bls W hs (d.held.map (·.2))) :: c.F)
/-- both -/
structure Duo (w0 w : World) (p : PD) (r : RD) (d e : Dk) (c : Fr3) : Prop where
 ok : d.Ok
 N : d.safe.length = p.N
 hs : p.N ≤ p.cs
 hn : p.N ≤ p.cn
 hf : p.N ≤ p.cf
 ok' : e.Ok
 N' : e.safe.length = r.N
 hs' : r.N ≤ r.cs
 hf' : r.N ≤ r.cf
 mem : ∃ v v' lv k ls sl hs, hs.length = e.held.length ∧ Wc w0 w (p.L v d (r.L v' lv sl e c.L)) (⟨133, 65, v, d.held.length, heldV d.held⟩ :: ⟨164, 2, v', e.held.length, heldR e.held hs⟩ :: ⟨48, 1, lv, k, ls⟩ :: c.G) ((fun W => Bls W sl e.safe) :: (fun W => Bls W hs (e.held.map (·.2))) :: c.F)
theorem Dsk.keep0 {w0 w w' : World} {p : PD} {d : Dk} {c : Fr3} (h : Dsk w0 w p d c) (hO : Only [] w w') : Dsk w0 w' p d c := ⟨h.ok, h.N, h.hs, h.hn, h.hf, by obtain ⟨v, hm⟩ := h.mem; exact ⟨v, hm.keep0 hO⟩⟩
theorem Rsk.keep0 {w0 w w' : World} {r : RD} {d : Dk} {c : Fr3} (h : Rsk w0 w r d c) (hO : Only [] w w') : Rsk w0 w' r d c := ⟨h.ok, h.N, h.hs, h.hf, by obtain ⟨v, lv, k, ls, sl, hs, hl, hm⟩ := h.mem; exact ⟨v, lv, k, ls, sl, hs, hl, hm.keep0 hO⟩⟩
theorem Duo.keep0 {w0 w w' : World} {p : PD} {r : RD} {d e : Dk} {c : Fr3} (h : Duo w0 w p r d e c) (hO : Only [] w w') : Duo w0 w' p r d e c := ⟨h.ok, h.N, h.hs, h.hn, h.hf, h.ok', h.N', h.hs', h.hf', by obtain ⟨v, v', lv, k, ls, sl, hs, hl, hm⟩ := h.mem; exact ⟨v, v', lv, k, ls, sl, hs, hl, hm.keep0 hO⟩⟩
/-- the one of both: behind it the other as it is -/
theorem Duo.ofP {w0 w : World} {p : PD} {r : RD} {d e : Dk} {c : Fr3} (h : Duo w0 w p r d e c) : ∃ c', (∀ f ∈ c.F, f ∈ c'.F) ∧ Dsk w0 w p d c' ∧ ∀ w' d', Dsk w0 w' p d' c' → Duo w0 w' p r d' e c := by
 obtain ⟨v, v', lv, k, ls, sl, hs, hl, hm⟩ := h.mem
 refine ⟨⟨r.L v' lv sl e c.L, ⟨164, 2, v', e.held.length, heldR e.held hs⟩ :: ⟨48, 1, lv, k, ls⟩ :: c.G, (fun W => Bls W sl e.safe) :: (fun W => Bls W hs (e.held.map (·.2))) :: c.F⟩, fun f hf => List.mem_cons_of_mem _ (List.mem_cons_of_mem _ hf), ⟨h.ok, h.N, h.hs, h.hn, h.hf, v, hm⟩, fun w' d' h' => ?_⟩
 obtain ⟨v2, hm2⟩ := h'.mem
 exact ⟨h'.ok, h'.N, h'.hs, h'.hn, h'.hf, h.ok', h.N', h.hs', h.hf', v2, v', lv, k, ls, sl, hs, hl, hm2⟩
end Go.Proofs.Ytgcfdjcpcclcjaa
namespace Go.Proofs.Ytgcfdjcpcclcjaa
open Go Go.RowKit Go.Kn
/-- the ints of a variadic call, just built -/
theorem ins_built (w : World) (zs : List Int) (t : TypeId) (n : Nat) (hn : zs.length = n) (hm : n ≤ 1000000) : Ins (w.alloc (.cells (zs.map (Value.int .i64)).toArray t)) (some ⟨w.heap.size, 0, none⟩) n n zs := by
 have h := Own.new w (zs.map (Value.int .i64)).toArray t
 exact Row1.of_Own (by simpa [ivs] using h) (by simpa using hn) (Nat.le_refl _) (by unfold maxLen; omega)
theorem ne_built {w : World} {p g k : Nat} {bs : List UInt8} (h : RowAt w p g bs k) : ∀ a, some (⟨w.heap.size, 0, none⟩ : Addr) = some a → a.block ≠ p ∧ a.block ≠ g := by
 intro a ha
 injection ha with ha
 subst ha
 have h1 := h.lp
 have h2 := h.lg
 exact ⟨by simp; omega, by simp; omega⟩
theorem made_row {w w' : World} {A : Option Addr} {c : Nat} {bs : List UInt8} (hc : bs.length ≤ c) (hm : c ≤ maxLen) (hpos : 0 < bs.length → ∃ g, A = some ⟨g, 0, none⟩ ∧ w.heap.size ≤ g ∧ Kn.Own w' g (bvs bs)) : Bys w' A bs.length c bs := by
 rcases Nat.eq_zero_or_pos bs.length with h0 | h0
 ·exact ⟨by simp, hc, hm, fun h => absurd h (by omega)⟩
 ·obtain ⟨g, rfl, _, ho⟩ := hpos h0
  exact Row1.of_Own ho (by simp) hc hm
/-- one item more is laid -/
theorem lay_item {zr : List UInt8} {l : List It} {j : Nat} (hj : j < l.length) (hz : zr.length = 7 * l.length) :
  lay (lay (lay zr 0 (itsB (l.take j))) (7 * j) (les 1 [l[j].k, l[j].b, l[j].c])) (7 * j + 1 * 3) (les 4 [l[j].v]) = lay zr 0 (itsB (l.take (j + 1))) := by
 have h1 : (itsB (l.take j)).length = 7 * j := by rw [itsB_length, List.length_take, Nat.min_eq_left (by omega)]
 have e1 := lay_lay zr 0 (itsB (l.take j)) (les 1 [l[j].k, l[j].b, l[j].c]) (by rw [h1]; simp; omega)
 rw [h1, Nat.zero_add] at e1
 have h2 : (itsB (l.take j) ++ les 1 [l[j].k, l[j].b, l[j].c]).length = 7 * j + 3 := by rw [List.length_append, h1]; simp
 have e2 := lay_lay zr 0 (itsB (l.take j) ++ les 1 [l[j].k, l[j].b, l[j].c]) (les 4 [l[j].v]) (by rw [h2]; simp; omega)
 rw [h2, Nat.zero_add] at e2
 rw [e1, e2, List.append_assoc]
 have e3 : les 1 [l[j].k, l[j].b, l[j].c] ++ les 4 [l[j].v] = l[j].bytes := rfl
 rw [e3, ← itsB_snoc, ← List.take_succ_eq_append_getElem hj]
theorem all_take {l : List It} {j : Nat} (hj : j < l.length) (h : (l.take j).all It.may = true) (hm : l[j].may = true) : (l.take (j + 1)).all It.may = true := by
 rw [List.take_succ_eq_append_getElem hj, List.all_append, h]
 simp [hm]
theorem enc_bad {l : List It} {j : Nat} (hj : j < l.length) (hm : l[j].may = false) : encItems l = none := by
 unfold encItems
 rw [if_neg]
 intro h
 have := List.all_eq_true.1 h.2 l[j] (List.getElem_mem _)
 rw [hm] at this
 cases this
set_option maxRecDepth 100000 in
set_option maxHeartbeats 2000000 in
theorem item_enc_any (A : Option Addr) (n c : Nat) (l : List It) (w : World) (hi : Its w A n c l) :
  Calls Try.prog 83 #[.slice A n c] w (EncSays w (encItems l)) := by
 have hlen := hi.len
 have hcm := hi.cm
 have hcl := hi.le
 unfold maxLen at hcm
 by_cases h6 : n ≤ 6
 ·have hd6 : decide (6 < (n : Int)) = false := by simp; omega
  have HI := Lib.hid hi
  have HL := Lib.hid hlen
  clear hi hlen
  go_enter Try.func83, Try.ntmps83
  go_wp2_with fail
  refine (new_any (7 * (n : Int)) _ (by omega) (by omega)).mono ?_
  rintro e w1 ⟨p, g, rfl, hp, hg, hr1, hO1⟩
  have hzr : (List.replicate (7 * (n : Int)).toNat (0 : UInt8)).length = 7 * n := by simp <;> omega
  generalize List.replicate (7 * (n : Int)).toNat (0 : UInt8) = zr at *
  have HZR := Lib.hid hzr
  have HO1 := Lib.hid hO1
  have HR1 := Lib.hid hr1
  clear hO1 hr1 hzr
  go_wp2_with fail
  go_loopg [16] n (fun r i wr => ∃ j : Nat, j + r = n ∧ i = .int .i64 j ∧ RowAt wr p g (lay zr 0 (itsB (l.take j))) (7 * j) ∧ Only [] w wr ∧ (l.take j).all It.may = true)
  case atStart => exact ⟨0, by omega, rfl, by simpa [lay_nil, itsB] using HR1.out, HO1.out, by simp⟩
  obtain ⟨j, hj, rfl, hr, hO, hal⟩ := hrel
  have HR := Lib.hid hr
  have HO := Lib.hid hO
  have HAL := Lib.hid hal
  have hlp := hr.lp
  have hlg := hr.lg
  clear hr hO hal
  by_cases hlt : j < n
  ·have hjz : j < l.length := by rw [HL.out]; exact hlt
   obtain ⟨a, o, rfl, hc⟩ := HI.out.at_ (by omega)
   obtain ⟨q0, q1, q2, q3⟩ := hc j hjz
   have c0 := HO.out.cell q0 (by simp)
   have c1 := HO.out.cell q1 (by simp)
   have c2 := HO.out.cell q2 (by simp)
   have c3 := HO.out.cell q3 (by simp)
   have HIT : Hid (l[j] = ⟨l[j].k, l[j].b, l[j].c, l[j].v⟩) := Lib.hid rfl
   clear hc q0 q1 q2 q3
   cases hm : l[j].may
   ·have HM := Lib.hid hm
    clear hm
    generalize hik : l[j].k = ik at *
    generalize hib : l[j].b = ib at *
    generalize hic : l[j].c = ic at *
    generalize hiv : l[j].v = iv at *
    have HME : Hid (It.may ⟨ik, ib, ic, iv⟩ = false) := Lib.hid (by rw [← HIT.out]; exact HM.out)
    clear hik hib hic hiv
    go_wp2_with fail
    refine (item_may_any ik ib ic iv _).mono ?_
    rintro e w2 ⟨rfl, hO2⟩
    rw [HME.out]
    go_wp2
    go_ret2
    exact EncSays.no (enc_bad hjz HM.out) ((HO.out.alloc _).trans' hO2)
   ·have HM := Lib.hid hm
    have HF1 := Lib.hid (It.fit1 hm)
    have HF4 := Lib.hid (It.fit4 hm)
    have HLI := Lib.hid (lay_item hjz (show zr.length = 7 * l.length by rw [HZR.out, HL.out]))
    have hk1 : (lay zr 0 (itsB (l.take j))).length = 7 * n := by rw [lay_length _ _ _ (by rw [itsB_length, HZR.out, List.length_take]; omega), HZR.out]
    have HK1 := Lib.hid hk1
    clear hm hk1
    generalize hik : l[j].k = ik at *
    generalize hib : l[j].b = ib at *
    generalize hic : l[j].c = ic at *
    generalize hiv : l[j].v = iv at *
    have HME : Hid (It.may ⟨ik, ib, ic, iv⟩ = true) := Lib.hid (by rw [← HIT.out]; exact HM.out)
    clear hik hib hic hiv
    generalize lay zr 0 (itsB (l.take j)) = X at *
    generalize hX' : lay zr 0 (itsB (l.take (j + 1))) = X' at *
    have HX' := Lib.hid hX'
    clear hX'
    go_wp2_with fail
    refine (item_may_any ik ib ic iv _).mono ?_
    rintro e w2 ⟨rfl, hO2⟩
    rw [HME.out]
    have x0 := hO2.cell (p := ⟨wr.heap.size, 0, none⟩) (v := .int .i64 ik) (by simp) (by simp)
    have x1 := hO2.cell (p := ⟨wr.heap.size, 1, none⟩) (v := .int .i64 ib) (by simp) (by simp)
    have x2 := hO2.cell (p := ⟨wr.heap.size, 2, none⟩) (v := .int .i64 ic) (by simp) (by simp)
    have x3 := hO2.cell (p := ⟨wr.heap.size, 3, none⟩) (v := .int .i64 iv) (by simp) (by simp)
    have HR2 := Lib.hid ((HR.out.alloc (.cells #[.int .i64 ik, .int .i64 ib, .int .i64 ic, .int .i64 iv] 47)).keep0 hO2)
    have HO2 := Lib.hid ((HO.out.alloc (.cells #[.int .i64 ik, .int .i64 ib, .int .i64 ic, .int .i64 iv] 47)).trans' hO2)
    have hsz2 := hO2.size
    clear hO2 HR HO c0 c1 c2 c3
    have hpw : wr.heap.size < w2.heap.size := by simp at hsz2; omega
    go_wp2_with fail
    refine (put_any p g (7 * j) X 1 _ 3 3 [ik, ib, ic] _ (by exact HR2.out.alloc _) (by exact ins_built _ [ik, ib, ic] _ 3 rfl (by omega)) (by exact ne_built HR2.out) (by decide) (by rw [HK1.out]; omega) HF1.out).mono ?_
    rintro e w3 ⟨rfl, hr3, hO3⟩
    have hO3' := ((Only.refl [p, g] w2).alloc (.cells #[.int .i64 ik, .int .i64 ib, .int .i64 ic] 3)).trans' hO3
    have x3' := hO3'.cell x3 (by simp; omega)
    have HR3 := Lib.hid hr3
    have HO3 := Lib.hid ((HO2.out.alloc _).trans hO3 (by simp; omega) : Only [] w w3)
    have hk3 : (lay X (7 * j) (les 1 [ik, ib, ic])).length = 7 * n := by rw [lay_length _ _ _ (by simp; have := HK1.out; omega)]; exact HK1.out
    have HK3 := Lib.hid hk3
    clear x0 x1 x2 x3 hr3 hO3 hO3' hk3 HR2 HO2
    go_wp2_with fail
    refine (put_any p g (7 * j + 1 * 3) _ 4 _ 1 1 [iv] _ (by exact HR3.out.alloc _) (by exact ins_built _ [iv] _ 1 rfl (by omega)) (by exact ne_built HR3.out) (by decide) (by rw [HK3.out]; omega) HF4.out).mono ?_
    rintro e w4 ⟨rfl, hr4, hO4⟩
    rw [HLI.out] at hr4
    have HR4 := Lib.hid hr4
    have HO4 := Lib.hid ((HO3.out.alloc _).trans hO4 (by simp; omega) : Only [] w w4)
    clear hr4 hO4 HR3 HO3
    go_wp2
    go_roundg (gk - 1)
    case measure => omega
    case rel =>
     have e : 7 * (j + 1) = 7 * j + 1 * 3 + 4 * 1 := by omega
     refine ⟨j + 1, by omega, by go_num, ?_, HO4.out, all_take hjz HAL.out HM.out⟩
     rw [e, HX'.out]
     exact HR4.out
  ·obtain rfl : j = n := by omega
   have hfull : l.take j = l := List.take_of_length_le (by rw [HL.out]; omega)
   have hr := HR.out
   rw [hfull, lay_all _ _ (by rw [itsB_length, HZR.out, HL.out])] at hr
   have hal := HAL.out
   rw [hfull] at hal
   have henc : encItems l = some (itsB l) := by unfold encItems; rw [if_pos ⟨by rw [HL.out]; exact h6, hal⟩]
   have HR' := Lib.hid hr
   have HE := Lib.hid henc
   clear hr hal henc hfull HR
   go_wp2_with fail
   refine (bytes_any p g _ (itsB l) _ (by exact HR'.out)).mono ?_
   rintro e w3 ⟨A3, c3, rfl, hc3, hm3, hpos3, hO3⟩
   have HB3 := Lib.hid (And.intro hc3 (And.intro hm3 hpos3))
   have hszz := HO.out.size
   go_wp2
   go_ret2
   rw [HE.out]
   refine ⟨A3, c3, rfl, ?_, ?_, HO.out.trans' hO3⟩
   ·exact made_row HB3.out.1 HB3.out.2.1 HB3.out.2.2
   ·intro h0 a ha
    obtain ⟨g3, rfl, hg3, _⟩ := HB3.out.2.2 h0
    injection ha with ha
    subst ha
    exact Nat.le_trans hszz hg3
 ·have hd6 : decide (6 < (n : Int)) = true := by simp; omega
  have henc : encItems l = none := by unfold encItems; rw [if_neg]; omega
  go_enter Try.func83, Try.ntmps83
  go_wp2
  go_ret2
  exact EncSays.no henc (Only.refl _ _)
end Go.Proofs.Ytgcfdjcpcclcjaa
namespace Go.Kn
open Go Go.RowKit
theorem RowAt.far {w : World} {p g k : Nat} {bs : List UInt8} (h : RowAt w p g bs k) {q : Addr} (h1 : q.block ≠ p) (h2 : q.block ≠ g) (u : Value) : RowAt (w.setCell q u) p g bs k :=
 h.keep (S := [q.block]) ((Only.refl _ _).set (by simp) u) (by simpa using Ne.symm h1) (by simpa using Ne.symm h2)
/-- what a reader of items answers -/
def DecSays (w : World) (o : Option (List It)) (err : Int) (e : Ending) (w' : World) : Prop :=
 ∃ A c, e = .returned (.tuple #[.slice A (o.getD []).length c, .int .i64 (if o.isSome then 0 else err)]) ∧ Its w' A (o.getD []).length c (o.getD []) ∧
  (0 < (o.getD []).length → ∀ a, A = some a → w.heap.size ≤ a.block) ∧ Only [] w w'
theorem DecSays.no {w w' : World} {o : Option (List It)} {err : Int} (h : o = none) (hO : Only [] w w') : DecSays w o err (.returned (.tuple #[.slice none 0 0, .int .i64 err])) w' := by
 subst h
 exact ⟨none, 0, rfl, Its.nil _, by simp, hO⟩
theorem news_new (w : World) (cs : Array Value) (t : TypeId) (hm : cs.toList.length ≤ maxLen) : ∀ j u, cs.toList[j]? = some u → (w.alloc (.cells cs t)).cell? ((⟨w.heap.size, 0, none⟩ : Addr).add j) = some u :=
 (Row1.of_Own (Own.new w cs t) rfl (Nat.le_refl _) hm).news rfl
/-- amid a round that reads an item: the row, the item's own cells, and what was gathered -/
structure Mid (w0 w : World) (p g k f e : Nat) (bs : List UInt8) (v : Value) (n : Nat) (ys : List Value) (xs : List Value) : Prop where
 row : RowAt w p g bs k
 box : Own w f xs
 only : Only [] w0 w
 gath : GathN w w0.heap.size e 4 v n ys
 ne : ∀ q, v.ownBlock = some q → q ≠ p ∧ q ≠ g ∧ q ≠ f
 fp : p ≠ f
 fg : g ≠ f
 hf : w0.heap.size ≤ f
 hp : w0.heap.size ≤ p
section
variable {w0 w w' : World} {p g k k' f e n : Nat} {bs : List UInt8} {v : Value} {xs ys : List Value}
theorem Mid.got (h : Mid w0 w p g k f e bs v n ys xs) (hr : RowAt w' p g bs k') (hO : Only [p] w w') : Mid w0 w' p g k' f e bs v n ys xs :=
 ⟨hr, h.box.keep hO (by simpa using Ne.symm h.fp), h.only.trans hO (by simpa using h.hp), h.gath.keep hO (fun q hq => by simpa using (h.ne q hq).1), h.ne, h.fp, h.fg, h.hf, h.hp⟩
theorem Mid.put (h : Mid w0 w p g k f e bs v n ys xs) (i : Nat) (u : Value) : Mid w0 (w.setCell ⟨f, i, none⟩ u) p g k f e bs v n ys (xs.set i u) :=
 ⟨h.row.far (Ne.symm h.fp) (Ne.symm h.fg) u, h.box.set i u, h.only.set (.inr h.hf) u, h.gath.keep (S := [f]) ((Only.refl _ _).set (by simp) u) (fun q hq => by simpa using (h.ne q hq).2.2), h.ne, h.fp, h.fg, h.hf, h.hp⟩
end
end Go.Kn
namespace Go.Proofs.Ytgcfdjcpcclcjaa
open Go Go.RowKit Go.Kn
theorem Try.infoItem : (Try.prog.info? 47).map (fun i => (i.zero, i.size, i.bytes)) = some (some (.agg #[.int .i64 0, .int .i64 0, .int .i64 0, .int .i64 0]), 4, 32) := by kernel_rfl
end Go.Proofs.Ytgcfdjcpcclcjaa
namespace Go.Proofs.Ytgcfdjcpcclcjaa
open Go Go.RowKit Go.Kn
theorem dk_has_any (w0 w : World) (p : PD) (d : Dk) (c : Fr3) (a : Int) (h : Dsk w0 w p d c) :
    Calls Try.prog 50 #[.pointer (some ⟨p.D, 0, none⟩), .int .i64 a] w fun e w' => e = .returned (.bool (d.has a)) ∧ w = w' := by
  obtain ⟨v, hm⟩ := h.mem
  have hb := hm.boxi 0 (p := p.D) (cs := p.box v d) rfl
  have c1 := hb.cell 1 (by simp [PD.box])
  have hN := h.N
  have hn := h.ok.n
  have hlt : decide (a < (p.N : Int)) = decide (a < (d.safe.length : Int)) := by rw [hN]
  simp only [PD.box, List.getElem_cons_zero, List.getElem_cons_succ] at c1
  have HN := Lib.hid hN
  have hn' : 1 ≤ p.N ∧ p.N ≤ 4096 := by omega
  obtain ⟨hn1, hn2⟩ := hn'
  clear hm hb hN hn hlt h
  go_enter Try.func50, Try.ntmps50
  by_cases h1 : 0 ≤ a <;> by_cases h2 : a < (p.N : Int) <;>
  (go_wp2
   go_ret
   exact ⟨by unfold Dk.has; rw [HN.out]; simp [*], rfl⟩)
theorem Dsk.gone1 {w0 w : World} {p : PD} {d : Dk} {c : Fr3} (h : Dsk w0 w p d c) (hg : d.gone = true) :
  Dsk w0 ((w.setCell ⟨p.D, 5, none⟩ (.int .i64 (wrap64 (d.acts + 1)))).setCell ⟨p.D, 6, none⟩ (.bool true)) p d.act c := by
 obtain ⟨v, hm⟩ := h.mem
 have h1 := ((hm.put 0 (p := p.D) (cs := p.box v d) rfl 5 (.int .i64 (wrap64 (d.acts + 1)))).put 0 rfl 6 (.bool true))
 refine ⟨h.ok.act, h.N, h.hs, h.hn, h.hf, v, ?_⟩
 have e : p.L v d.act c.L = (p.D, [.slice (some ⟨p.s, 0, none⟩) p.N p.cs, .slice (some ⟨p.n, 0, none⟩) p.N p.cn, v, .slice (some ⟨p.f, 0, none⟩) p.N p.cf, .int .i64 d.fuse, .int .i64 (wrap64 (d.acts + 1)), .bool true]) :: (p.s, flat d.safe) :: (p.n, flat d.now) :: (p.f, bls d.faults) :: c.L := by
  simp only [PD.L, PD.box, Dk.act, hg, if_true, Dk.tick, Dk.now]
 rw [e]
 exact h1
theorem Dsk.gone0 {w0 w : World} {p : PD} {d : Dk} {c : Fr3} (h : Dsk w0 w p d c) (hg : d.gone = false) {m : Int} (hm : m = max (d.fuse - 1) (-1)) :
  Dsk w0 (((w.setCell ⟨p.D, 5, none⟩ (.int .i64 (wrap64 (d.acts + 1)))).setCell ⟨p.D, 6, none⟩ (.bool false)).setCell ⟨p.D, 4, none⟩ (.int .i64 m)) p d.act c := by
 subst hm
 obtain ⟨v, hm⟩ := h.mem
 have h1 := ((hm.put 0 (p := p.D) (cs := p.box v d) rfl 5 (.int .i64 (wrap64 (d.acts + 1)))).put 0 rfl 6 (.bool false)).put 0 rfl 4 (.int .i64 (max (d.fuse - 1) (-1)))
 refine ⟨h.ok.act, h.N, h.hs, h.hn, h.hf, v, ?_⟩
 have e : p.L v d.act c.L = (p.D, [.slice (some ⟨p.s, 0, none⟩) p.N p.cs, .slice (some ⟨p.n, 0, none⟩) p.N p.cn, v, .slice (some ⟨p.f, 0, none⟩) p.N p.cf, .int .i64 (max (d.fuse - 1) (-1)), .int .i64 (wrap64 (d.acts + 1)), .bool false]) :: (p.s, flat d.safe) :: (p.n, flat d.now) :: (p.f, bls d.faults) :: c.L := by
  simp only [PD.L, PD.box, Dk.act, hg, Bool.false_eq_true, if_false, Dk.tick, Dk.now]
 rw [e]
 exact h1
theorem dk_act_any (w0 w : World) (p : PD) (d : Dk) (c : Fr3) (h : Dsk w0 w p d c) :
  Calls Try.prog 81 #[.pointer (some ⟨p.D, 0, none⟩)] w fun e w' => e = .returned (.int .i64 (if d.gone = true then 3 else 0)) ∧ Dsk w0 w' p d.act c := by
 obtain ⟨v, hm⟩ := h.mem
 have hb := hm.boxi 0 (p := p.D) (cs := p.box v d) rfl
 have c4 := hb.cell 4 (by simp [PD.box])
 have c5 := hb.cell 5 (by simp [PD.box])
 have c6 := hb.cell 6 (by simp [PD.box])
 have f4 := hb.frozen 4
 have f5 := hb.frozen 5
 have f6 := hb.frozen 6
 simp only [PD.box, List.getElem_cons_zero, List.getElem_cons_succ] at c4 c5 c6
 have hu := h.ok.u
 have hlt := hb.lt
 obtain ⟨hu1, hu2⟩ := hu
 clear hm hb
 by_cases hg : d.gone = true
 ·refine (show Calls _ _ _ _ (fun e w' => e = .returned (.int .i64 3) ∧ Dsk w0 w' p d.act c) from ?_).mono (fun e w' h => by rw [if_pos hg]; exact h)
  have H := Lib.hid (Dsk.gone1 h hg)
  clear h
  unfold Dk.gone at hg
  by_cases ho : d.off = true
  ·rw [ho] at c6
   clear hg ho
   go_enter Try.func81, Try.ntmps81
   go_wp2
   go_ret
   exact ⟨rfl, H.out⟩
  ·rw [Bool.not_eq_true] at ho
   have hf : d.fuse = 0 := by rw [ho] at hg; simpa using hg
   rw [ho] at c6
   rw [hf] at c4
   clear hg ho hf hu1 hu2
   go_enter Try.func81, Try.ntmps81
   go_wp2
   go_ret
   exact ⟨rfl, H.out⟩
 ·refine (show Calls _ _ _ _ (fun e w' => e = .returned (.int .i64 0) ∧ Dsk w0 w' p d.act c) from ?_).mono (fun e w' h => by rw [if_neg hg]; exact h)
  rw [Bool.not_eq_true] at hg
  have H := Lib.hid (fun m hm => Dsk.gone0 h hg (m := m) hm)
  clear h
  unfold Dk.gone at hg
  rw [Bool.or_eq_false_iff] at hg
  obtain ⟨ho, hf⟩ := hg
  rw [ho] at c6
  have hf : ¬ d.fuse = 0 := by simpa using hf
  clear ho
  by_cases hz : 0 ≤ d.fuse
  ·have hz1 : decide (-1 ≤ d.fuse - 1) = true := by simp; omega
   go_enter Try.func81, Try.ntmps81
   go_wp2
   all_goals (first | (exfalso; omega) | skip)
   go_ret
   exact ⟨rfl, H.out _ (by omega)⟩
  ·go_enter Try.func81, Try.ntmps81
   go_wp2
   all_goals (first | (exfalso; omega) | skip)
   go_ret
   exact ⟨rfl, H.out _ (by omega)⟩
theorem Dsk.app {w0 w w' : World} {p : PD} {d : Dk} {c : Fr3} {v v' : Value} {a : Int} {b : List UInt8} (hm : Wc w0 w (p.L v d.act c.L) (⟨133, 65, v, d.held.length, heldV d.held⟩ :: c.G) c.F)
  (hown : w'.ownsRow w0.heap.size 133 65 v' (d.held.length + 1) (heldV d.held ++ (.int .i64 a :: bvs b))) (hg : w.grownBy w' v.ownBlock) (hat : v'.ownBlock = v.ownBlock ∨ v'.ownBlock = some w.heap.size) (ha : 0 ≤ a) :
  Wc w0 (w'.setCell ⟨p.D, 2, none⟩ v') ((p.D, p.box v' d.act) :: (p.s, flat d.safe) :: (p.n, flat d.now) :: (p.f, bls d.faults) :: c.L) (⟨133, 65, v', (d.held ++ [(a.toNat, b)]).length, heldV (d.held ++ [(a.toNat, b)])⟩ :: c.G) c.F := by
 have h1 := hm.gapp 0 rfl hown hg hat
 have h2 := h1.put 0 (p := p.D) (cs := p.box v d.act) rfl 2 v'
 have e : heldV (d.held ++ [(a.toNat, b)]) = heldV d.held ++ (.int .i64 a :: bvs b) := by rw [heldV_snoc, show ((a.toNat : Nat) : Int) = a from by omega]
 rw [e, List.length_append]
 exact h2
theorem Dsk.wroteMk {w0 w w' : World} {p : PD} {d : Dk} {c : Fr3} {v : Value} {k : Nat} {b : List UInt8} (h : Dsk w0 w p d c) (hh : d.has k = true) (hb : b.length = 64)
  (hm : Wc w0 w' ((p.D, p.box v d.act) :: (p.s, flat d.safe) :: (p.n, flat (d.now.set k b)) :: (p.f, bls d.faults) :: c.L) (⟨133, 65, v, (d.held ++ [((k : Int).toNat, b)]).length, heldV (d.held ++ [((k : Int).toNat, b)])⟩ :: c.G) c.F) :
  Dsk w0 w' p (d.wrote k b) c := by
 refine ⟨h.ok.wrote hh hb, h.N, h.hs, h.hn, h.hf, v, ?_⟩
 have e : (d.wrote k b).now = d.now.set k b := Dk.now_wrote d k b
 unfold PD.L
 rw [e]
 exact hm
set_option maxRecDepth 100000 in
set_option maxHeartbeats 4000000 in
theorem dk_write_any (w0 w : World) (p : PD) (d : Dk) (c : Fr3) (a : Int) (A : Option Addr) (n cc : Nat) (b : List UInt8) (h : Dsk w0 w p d c) (hb : (fun W => Bys W A n cc b) ∈ c.F) (hh : d.held.length ≤ 1000000) :
  Calls Try.prog 66 #[.pointer (some ⟨p.D, 0, none⟩), .int .i64 a, .slice A n cc] w fun e w' => e = .returned (.int .i64 (d.write a b).2) ∧ Dsk w0 w' p (d.write a b).1 c := by
 have hbl : b.length = n := by
  obtain ⟨v, hm⟩ := h.mem
  have := (hm.fact _ hb).len
  rwa [bvs_length] at this
 by_cases hok : d.has a = true ∧ b.length = 64
 ·obtain ⟨ho1, ho2⟩ := hok
  obtain rfl : n = 64 := by omega
  by_cases hg : d.gone = true
  ·have e : d.write a b = (d.act, 3) := by unfold Dk.write; simp [ho1, ho2, hg]
   rw [e]
   have H := Lib.hid h
   have HG := Lib.hid hg
   have HO := Lib.hid ho1
   clear h hbl ho2 ho1 hg e
   go_enter Try.func66, Try.ntmps66
   go_wp2_with fail
   refine (dk_has_any w0 w p d c a H.out).mono ?_
   rintro e w1 ⟨rfl, rfl⟩
   rw [HO.out]
   go_wp2_with fail
   refine (dk_act_any w0 w p d c H.out).mono ?_
   rintro e w1 ⟨rfl, h1⟩
   rw [if_pos HG.out]
   have H1 := Lib.hid h1
   clear h1
   go_wp2
   go_ret
   exact ⟨rfl, H1.out⟩
  ·have e : d.write a b = (d.wrote a b, 0) := by unfold Dk.write; simp [ho1, ho2, hg]
   rw [e]
   have hN := h.N
   have hn := h.ok.n
   have hr : 0 ≤ a ∧ a < (p.N : Int) := by unfold Dk.has at ho1; simp only [decide_eq_true_eq] at ho1; omega
   obtain ⟨k, rfl⟩ : ∃ k : Nat, a = k := ⟨a.toNat, by omega⟩
   have hkN : k < p.N := by omega
   have H := Lib.hid h
   have HG := Lib.hid hg
   have HO := Lib.hid ho1
   have HB := Lib.hid hb
   have HN := Lib.hid hN
   have HL := Lib.hid ho2
   clear h hbl ho2 ho1 hg e hb hN hn
   go_enter Try.func66, Try.ntmps66
   go_wp2_with fail
   refine (dk_has_any w0 w p d c k H.out).mono ?_
   rintro e w1 ⟨rfl, rfl⟩
   rw [HO.out]
   go_wp2_with fail
   refine (dk_act_any w0 w p d c H.out).mono ?_
   rintro e w1 ⟨rfl, h1⟩
   rw [if_neg HG.out]
   obtain ⟨v, hm⟩ := h1.mem
   have hbx := hm.boxi 0 (p := p.D) (cs := p.box v d.act) rfl
   have c2 := hbx.cell 2 (by simp [PD.box])
   have c1 := hbx.cell 1 (by simp [PD.box])
   simp only [PD.box, List.getElem_cons_zero, List.getElem_cons_succ] at c1 c2
   have hby := hm.fact _ HB.out
   obtain ⟨g, o, rfl, _⟩ := hby.at_ (by omega)
   have hbw := build_write k b HL.out
   obtain ⟨ar, har⟩ : ∃ ar, (bvs b).toArray = ar := ⟨_, rfl⟩
   obtain ⟨ar2, har2⟩ : ∃ ar, (Value.int .i64 (k : Int) :: bvs b).toArray = ar := ⟨_, rfl⟩
   simp only [har, har2] at hbw
   have HBW := Lib.hid hbw
   have HAR := Lib.hid har
   have HAR2 := Lib.hid har2
   have har3 : ar2.toList = Value.int .i64 (k : Int) :: bvs b := by rw [← har2]
   have HAR3 := Lib.hid har3
   have hdl : d.act.held.length = d.held.length := rfl
   have hde : heldV d.act.held = heldV d.held := rfl
   rw [hdl, hde] at hm
   have HM := Lib.hid hm
   have hfl : (flat d.now).length = 64 * p.N := by rw [flat_length _ H.out.ok.now64, Dk.now_length, HN.out]
   have HFL := Lib.hid hfl
   have hfs := flat_set d.now H.out.ok.now64 k b (by rw [Dk.now_length, HN.out]; exact hkN) HL.out
   have HFS := Lib.hid hfs
   clear hfl hfs
   obtain ⟨i0, z0, hi0, hz0, hz1, hz2, hz3⟩ := write_parts
   have hone : ∀ u ∈ (Value.int .i64 (k : Int) :: bvs b), u.oneCell' = true := by
    intro u hu
    rcases List.mem_cons.1 hu with rfl | hu
    ·rfl
    ·exact bvs_one _ u hu
   have HON := Lib.hid hone
   have HD7 := Lib.hid HM.out.drew
   clear har har2 har3 hbw hm hbx hby h1 hdl hde hone HM c1 c2
   go_wp2_with fail
   refine wp_region_held_drew (S := fun w' => w'.cell? ⟨p.D, 1, none⟩ = some (.slice (some ⟨p.n, 0, none⟩) p.N p.cn) ∧ Bys w' (some ⟨g, o, none⟩) 64 cc b) (by kernel_rfl) ⟨by simpa [PD.box] using (HD7.out.boxi 0 (p := p.D) rfl).cell 1 (by simp [PD.box]), HD7.out.fact _ HB.out⟩ (fun hSw0 => ?_)
   generalize w1.drew = ws at *
   refine Kn.takeS 0 ⟨some 22, _, _, _, _, _⟩ ?_
   refine Kn.takeS 1 ⟨some 23, _, _, _, _, _⟩ ?_
   refine Kn.takeS 2 ⟨some 24, _, _, _, _, _⟩ ?_
   refine Kn.takeS 3 ⟨some 25, _, _, _, _, _⟩ ?_
   refine Kn.takeS 5 ⟨some 27, _, _, _, _, _⟩ ?_
   refine Kn.takeS 6 ⟨some 28, _, _, _, _, _⟩ ?_
   refine Kn.takeS 7 ⟨some 29, _, _, _, _, _⟩ (v := (.pointer (some ⟨g, o, none⟩))) (hy := fun w hSw => by
    exact exec_arr rfl rfl (arr_at (some ⟨g, o, none⟩) cc w)) ?_
   refine Kn.takeS 8 ⟨some 30, _, _, _, _, _⟩ (v := (.agg ar)) (hy := fun w hSw => by
    have hld := load_bytes hSw.2
    rw [HAR.out] at hld
    exact exec_load rfl rfl hld) ?_
   refine Kn.takeS 9 ⟨some 31, _, _, _, _, _⟩ (v := (.agg ar2)) (hy := fun w hSw => by
    exact exec_build (vs := #[(0, .int .i64 (k : Int)), (1, .agg ar)]) rfl (by kernel_rfl) (HBW.out w)) ?_
   refine wpAnyH_ready (rs := [4, 10]) (by kernel_rfl) (by simp) ?_
   refine AllReadyH.cons (o := ⟨some 26, _, _, _, _, _⟩) rfl (fun K hK => ?_) ?_
   ·have yq := (HD7.out.boxi 0 (p := p.D) rfl).cell 2 (by simp [PD.box])
    simp only [PD.box, List.getElem_cons_zero, List.getElem_cons_succ] at yq
    go_simp
    clear yq
    refine hK.out _ _ ⟨by simpa [PD.box] using (HD7.out.boxi 0 (p := p.D) rfl).cell 1 (by simp [PD.box]), HD7.out.fact _ HB.out⟩ (fun hSn => ?_)
    clear hK K hSw0
    have hSw0 := hSn
    clear hSn
    refine Kn.takeR 10 ⟨some 32, _, _, _, _, _⟩ fun K hK => ?_
    refine step_bslice_write rfl (.tmp 31) rfl (.int .i64 (k : Int) :: bvs b) (by simp [HL.out]) (by rw [HAR2.out]; rfl) ?_
    rw [HAR2.out]
    have HDb := Lib.hid (HD7.out.alloc (.cells ar2 133))
    have hnw := news_new ws ar2 133 (by rw [HAR3.out]; simp [HL.out, maxLen])
    rw [HAR3.out] at hnw
    have HNW := Lib.hid hnw
    clear hnw
    generalize hvz : ws.heap.size = vz at *
    generalize hvb : ws.alloc (.cells ar2 133) = vb at *
    clear hvb hvz
    refine hK.out _ _ ⟨by simpa [PD.box] using (HDb.out.boxi 0 (p := p.D) rfl).cell 1 (by simp [PD.box]), HDb.out.fact _ HB.out⟩ (fun hSn => ?_)
    clear hK K hSw0
    have hSw0 := hSn
    clear hSn
    refine Kn.takeR 11 ⟨some 33, _, _, _, _, _⟩ fun K hK => ?_
    have hbw := HDb.out.only.size
    refine step_append_own rfl (.tmp 26) (.tmp 32) 80 rfl w0.heap.size 133 i0 z0 65 72 Try.underlying80 hi0 hz0 hz1 hz2 hz3 (by decide) v d.held.length (heldV d.held) rfl (HDb.out.gi 0 rfl) ⟨vz, 0, none⟩ 1 1 (.int .i64 (k : Int) :: bvs b) rfl (by simp [HL.out]) HNW.out HON.out (by unfold maxLen; omega) (by omega) hbw ?_
    intro v5 w5 hown hgrow hat
    have hdd := HDb.out.gapp 0 rfl hown hgrow hat
    obtain ⟨A5, c5, rfl⟩ := hdd.gform 0 rfl
    have HDd := Lib.hid hdd
    have HDx := Lib.hid (Dsk.app HDb.out hown hgrow hat (by omega))
    clear hdd hown hgrow hat hbw
    simp only [List.set_cons_zero] at HDd
    refine hK.out _ _ ⟨by simpa [PD.box] using (HDd.out.boxi 0 (p := p.D) rfl).cell 1 (by simp [PD.box]), HDd.out.fact _ HB.out⟩ (fun hSn => ?_)
    clear hK K hSw0
    have hSw0 := hSn
    clear hSn
    refine Kn.takeS 12 ⟨some 34, _, _, _, _, _⟩ ?_
    refine Kn.takeS 13 ⟨some 35, _, _, _, _, _⟩ ?_
    refine Kn.takeR 14 ⟨none, _, _, _, _, _⟩ fun K hK => ?_
    have hxb := HDd.out.boxi 0 (p := p.D) rfl
    have yq := hxb.cell 2 (by simp [PD.box])
    simp only [PD.box, List.getElem_cons_zero, List.getElem_cons_succ] at yq
    have fq := hxb.frozen 2
    go_simp
    clear yq fq hxb
    refine hK.out _ _ ⟨by simpa [PD.box] using (HDx.out.boxi 0 (p := p.D) rfl).cell 1 (by simp [PD.box]), HDx.out.fact _ HB.out⟩ (fun hSn => ?_)
    clear hK K hSw0
    have hSw0 := hSn
    clear hSn
    refine wpAnyH_done (by kernel_rfl) ?_ _
    clear hSw0 HDd
    have HDy := Lib.hid HDx.out.drew
    clear HDx
    go_wp2_with fail
    refine wp_region_held_drew (S := fun w' => w'.cell? ⟨p.D, 1, none⟩ = some (.slice (some ⟨p.n, 0, none⟩) p.N p.cn) ∧ Bys w' (some ⟨g, o, none⟩) 64 cc b) (by kernel_rfl) ⟨by simpa [PD.box] using (HDy.out.boxi 0 (p := p.D) rfl).cell 1 (by simp [PD.box]), HDy.out.fact _ HB.out⟩ (fun hSw0 => ?_)
    generalize (w5.setCell ⟨p.D, 2, none⟩ (.slice A5 (d.held.length + 1) c5)).drew = wt at *
    refine Kn.takeS 0 ⟨some 36, _, _, _, _, _⟩ ?_
    refine Kn.takeS 1 ⟨some 37, _, _, _, _, _⟩ ?_
    refine Kn.takeS 2 ⟨some 38, _, _, _, _, _⟩ ?_
    refine Kn.takeS 3 ⟨some 39, _, _, _, _, _⟩ ?_
    refine Kn.takeS 4 ⟨some 40, _, _, _, _, _⟩ ?_
    refine Kn.takeS 5 ⟨some 41, _, _, _, _, _⟩ ?_
    refine Kn.takeS 6 ⟨some 42, _, _, _, _, _⟩ (v := (.pointer (some ⟨g, o, none⟩))) (hy := fun w hSw => by
     exact exec_arr rfl rfl (arr_at (some ⟨g, o, none⟩) cc w)) ?_
    refine Kn.takeS 7 ⟨some 43, _, _, _, _, _⟩ (v := (.agg ar)) (hy := fun w hSw => by
     have hld := load_bytes hSw.2
     rw [HAR.out] at hld
     exact exec_load rfl rfl hld) ?_
    refine Kn.takeS 8 ⟨some 44, _, _, _, _, _⟩ (v := (.pointer (some ⟨p.n, 64 * k, none⟩))) (hy := fun w hSw => by
     exact exec_index rfl rfl rfl (idx_block p.n p.N p.cn k hkN w)) ?_
    refine Kn.takeR 9 ⟨none, _, _, _, _, _⟩ fun K hK => ?_
    refine step_store_part rfl 96 (.tmp 44) (.tmp 43) rfl p.n (64 * k) (flat d.now) (bvs b) (by rw [bvs_length, HL.out]; exact size_block) rfl (by rw [HAR.out]; rfl) (HDy.out.boxi 2 rfl) (by rw [bvs_length, HL.out, HFL.out]; omega) (bvs_one _) ?_
    intro w6 hown hO6
    rw [bvs_length, HL.out, ← HFS.out] at hown
    have HDz := Lib.hid (HDy.out.call1 2 rfl hown hO6)
    clear hown hO6 HDy
    refine hK.out _ _ ⟨by simpa [PD.box] using (HDz.out.boxi 0 (p := p.D) rfl).cell 1 (by simp [PD.box]), HDz.out.fact _ HB.out⟩ (fun hSn => ?_)
    clear hK K hSw0
    have hSw0 := hSn
    clear hSn
    refine wpAnyH_done (by kernel_rfl) ?_ _
    clear hSw0
    have HE := Lib.hid (H.out.wroteMk HO.out HL.out HDz.out)
    clear HDz
    go_wp2
    go_ret
    exact ⟨rfl, HE.out⟩
   refine AllReadyH.cons (o := ⟨some 32, _, _, _, _, _⟩) rfl (fun K hK => ?_) ?_
   ·refine step_bslice_write rfl (.tmp 31) rfl (.int .i64 (k : Int) :: bvs b) (by simp [HL.out]) (by rw [HAR2.out]; rfl) ?_
    rw [HAR2.out]
    have HDb := Lib.hid (HD7.out.alloc (.cells ar2 133))
    have hnw := news_new ws ar2 133 (by rw [HAR3.out]; simp [HL.out, maxLen])
    rw [HAR3.out] at hnw
    have HNW := Lib.hid hnw
    clear hnw
    generalize hvz : ws.heap.size = vz at *
    generalize hvb : ws.alloc (.cells ar2 133) = vb at *
    clear hvb hvz
    refine hK.out _ _ ⟨by simpa [PD.box] using (HDb.out.boxi 0 (p := p.D) rfl).cell 1 (by simp [PD.box]), HDb.out.fact _ HB.out⟩ (fun hSn => ?_)
    clear hK K hSw0
    have hSw0 := hSn
    clear hSn
    refine Kn.takeR 4 ⟨some 26, _, _, _, _, _⟩ fun K hK => ?_
    have yq := (HDb.out.boxi 0 (p := p.D) rfl).cell 2 (by simp [PD.box])
    simp only [PD.box, List.getElem_cons_zero, List.getElem_cons_succ] at yq
    go_simp
    clear yq
    refine hK.out _ _ ⟨by simpa [PD.box] using (HDb.out.boxi 0 (p := p.D) rfl).cell 1 (by simp [PD.box]), HDb.out.fact _ HB.out⟩ (fun hSn => ?_)
    clear hK K hSw0
    have hSw0 := hSn
    clear hSn
    refine Kn.takeR 11 ⟨some 33, _, _, _, _, _⟩ fun K hK => ?_
    have hbw := HDb.out.only.size
    refine step_append_own rfl (.tmp 26) (.tmp 32) 80 rfl w0.heap.size 133 i0 z0 65 72 Try.underlying80 hi0 hz0 hz1 hz2 hz3 (by decide) v d.held.length (heldV d.held) rfl (HDb.out.gi 0 rfl) ⟨vz, 0, none⟩ 1 1 (.int .i64 (k : Int) :: bvs b) rfl (by simp [HL.out]) HNW.out HON.out (by unfold maxLen; omega) (by omega) hbw ?_
    intro v5 w5 hown hgrow hat
    have hdd := HDb.out.gapp 0 rfl hown hgrow hat
    obtain ⟨A5, c5, rfl⟩ := hdd.gform 0 rfl
    have HDd := Lib.hid hdd
    have HDx := Lib.hid (Dsk.app HDb.out hown hgrow hat (by omega))
    clear hdd hown hgrow hat hbw
    simp only [List.set_cons_zero] at HDd
    refine hK.out _ _ ⟨by simpa [PD.box] using (HDd.out.boxi 0 (p := p.D) rfl).cell 1 (by simp [PD.box]), HDd.out.fact _ HB.out⟩ (fun hSn => ?_)
    clear hK K hSw0
    have hSw0 := hSn
    clear hSn
    refine Kn.takeS 12 ⟨some 34, _, _, _, _, _⟩ ?_
    refine Kn.takeS 13 ⟨some 35, _, _, _, _, _⟩ ?_
    refine Kn.takeR 14 ⟨none, _, _, _, _, _⟩ fun K hK => ?_
    have hxb := HDd.out.boxi 0 (p := p.D) rfl
    have yq := hxb.cell 2 (by simp [PD.box])
    simp only [PD.box, List.getElem_cons_zero, List.getElem_cons_succ] at yq
    have fq := hxb.frozen 2
    go_simp
    clear yq fq hxb
    refine hK.out _ _ ⟨by simpa [PD.box] using (HDx.out.boxi 0 (p := p.D) rfl).cell 1 (by simp [PD.box]), HDx.out.fact _ HB.out⟩ (fun hSn => ?_)
    clear hK K hSw0
    have hSw0 := hSn
    clear hSn
    refine wpAnyH_done (by kernel_rfl) ?_ _
    clear hSw0 HDd
    have HDy := Lib.hid HDx.out.drew
    clear HDx
    go_wp2_with fail
    refine wp_region_held_drew (S := fun w' => w'.cell? ⟨p.D, 1, none⟩ = some (.slice (some ⟨p.n, 0, none⟩) p.N p.cn) ∧ Bys w' (some ⟨g, o, none⟩) 64 cc b) (by kernel_rfl) ⟨by simpa [PD.box] using (HDy.out.boxi 0 (p := p.D) rfl).cell 1 (by simp [PD.box]), HDy.out.fact _ HB.out⟩ (fun hSw0 => ?_)
    generalize (w5.setCell ⟨p.D, 2, none⟩ (.slice A5 (d.held.length + 1) c5)).drew = wt at *
    refine Kn.takeS 0 ⟨some 36, _, _, _, _, _⟩ ?_
    refine Kn.takeS 1 ⟨some 37, _, _, _, _, _⟩ ?_
    refine Kn.takeS 2 ⟨some 38, _, _, _, _, _⟩ ?_
    refine Kn.takeS 3 ⟨some 39, _, _, _, _, _⟩ ?_
    refine Kn.takeS 4 ⟨some 40, _, _, _, _, _⟩ ?_
    refine Kn.takeS 5 ⟨some 41, _, _, _, _, _⟩ ?_
    refine Kn.takeS 6 ⟨some 42, _, _, _, _, _⟩ (v := (.pointer (some ⟨g, o, none⟩))) (hy := fun w hSw => by
     exact exec_arr rfl rfl (arr_at (some ⟨g, o, none⟩) cc w)) ?_
    refine Kn.takeS 7 ⟨some 43, _, _, _, _, _⟩ (v := (.agg ar)) (hy := fun w hSw => by
     have hld := load_bytes hSw.2
     rw [HAR.out] at hld
     exact exec_load rfl rfl hld) ?_
    refine Kn.takeS 8 ⟨some 44, _, _, _, _, _⟩ (v := (.pointer (some ⟨p.n, 64 * k, none⟩))) (hy := fun w hSw => by
     exact exec_index rfl rfl rfl (idx_block p.n p.N p.cn k hkN w)) ?_
    refine Kn.takeR 9 ⟨none, _, _, _, _, _⟩ fun K hK => ?_
    refine step_store_part rfl 96 (.tmp 44) (.tmp 43) rfl p.n (64 * k) (flat d.now) (bvs b) (by rw [bvs_length, HL.out]; exact size_block) rfl (by rw [HAR.out]; rfl) (HDy.out.boxi 2 rfl) (by rw [bvs_length, HL.out, HFL.out]; omega) (bvs_one _) ?_
    intro w6 hown hO6
    rw [bvs_length, HL.out, ← HFS.out] at hown
    have HDz := Lib.hid (HDy.out.call1 2 rfl hown hO6)
    clear hown hO6 HDy
    refine hK.out _ _ ⟨by simpa [PD.box] using (HDz.out.boxi 0 (p := p.D) rfl).cell 1 (by simp [PD.box]), HDz.out.fact _ HB.out⟩ (fun hSn => ?_)
    clear hK K hSw0
    have hSw0 := hSn
    clear hSn
    refine wpAnyH_done (by kernel_rfl) ?_ _
    clear hSw0
    have HE := Lib.hid (H.out.wroteMk HO.out HL.out HDz.out)
    clear HDz
    go_wp2
    go_ret
    exact ⟨rfl, HE.out⟩
   exact AllReadyH.nil
 ·have e : d.write a b = (d, 1) := by
   unfold Dk.write
   rw [if_neg]
   simp only [Bool.and_eq_true, decide_eq_true_eq]
   exact hok
  rw [e]
  have H := Lib.hid h
  by_cases ho1 : d.has a = true
  ·have hn : ((n : Int) == 64) = false := by
    have : ¬ n = 64 := fun h => hok ⟨ho1, by omega⟩
    simp; omega
   have hn2 : ((n : Int) != 64) = true := by simpa using hn
   have HO := Lib.hid ho1
   clear h hbl hok ho1 e
   go_enter Try.func66, Try.ntmps66
   go_wp2_with fail
   refine (dk_has_any w0 w p d c a H.out).mono ?_
   rintro e w1 ⟨rfl, rfl⟩
   rw [HO.out]
   go_wp2
   go_ret
   exact ⟨rfl, H.out⟩
  ·rw [Bool.not_eq_true] at ho1
   have HO := Lib.hid ho1
   clear h hbl hok ho1 e
   go_enter Try.func66, Try.ntmps66
   go_wp2_with fail
   refine (dk_has_any w0 w p d c a H.out).mono ?_
   rintro e w1 ⟨rfl, rfl⟩
   rw [HO.out]
   go_wp2
   go_ret
   exact ⟨rfl, H.out⟩
end Go.Proofs.Ytgcfdjcpcclcjaa
namespace Go.Kn
open Go Go.RowKit
/-- what a read answers: bytes in new memory -/
def RdSays (w : World) (b : List UInt8) (err : Int) (e : Ending) (w' : World) : Prop := ∃ A n c, e = .returned (.tuple #[.slice A n c, .int .i64 err]) ∧ Fc w' (fun k => k < w.heap.size) (fun W => Bys W A n c b) ∧ Only [] w w'
theorem RdSays.none (w : World) (err : Int) : RdSays w [] err (.returned (.tuple #[.slice none 0 0, .int .i64 err])) w := ⟨Option.none, 0, 0, rfl, fun W _ => Row1.nil W, Only.refl _ _⟩
theorem MadeBys.fc {w w' : World} {bs : List UInt8} {A : Option Addr} {c : Nat} (hc : bs.length ≤ c) (hm : c ≤ maxLen) (hp : 0 < bs.length → ∃ g, A = some ⟨g, 0, none⟩ ∧ w.heap.size ≤ g ∧ Own w' g (bvs bs)) : Fc w' (fun k => k < w.heap.size) (fun W => Bys W A bs.length c bs) := by
 by_cases h0 : 0 < bs.length
 ·obtain ⟨g, rfl, hg, ho⟩ := hp h0
  exact Row1.fc (Row1.of_Own ho (by simp) hc hm) (fun _ a ha => by injection ha with ha; subst ha; simp; omega)
 ·obtain rfl : bs = [] := List.eq_nil_of_length_eq_zero (by omega)
  exact fun W _ => ⟨rfl, by omega, hm, fun h => absurd h (by omega)⟩
theorem Row1.subrow {w : World} {g n c : Nat} {xs : List Value} {o m : Nat} (h : Own w g xs) (hl : o + m ≤ xs.length) (hc : m ≤ c) (hm : c ≤ maxLen) : Row1 w (some ⟨g, o, none⟩) m c ((xs.drop o).take m) :=
 ⟨by rw [List.length_take, List.length_drop]; omega, hc, hm, fun _ => ⟨g, o, rfl, fun i hi => by
  rw [List.length_take, List.length_drop] at hi
  rw [List.getElem_take, List.getElem_drop]
  exact h.cell _ (by omega)⟩⟩
end Go.Kn
namespace Go.Proofs.Ytgcfdjcpcclcjaa
open Go Go.RowKit Go.Kn
set_option maxRecDepth 100000 in
set_option maxHeartbeats 4000000 in
theorem dk_read_any (w0 w : World) (p : PD) (d : Dk) (c : Fr3) (a : Int) (h : Dsk w0 w p d c) :
  Calls Try.prog 22 #[.pointer (some ⟨p.D, 0, none⟩), .int .i64 a] w (RdSays w (d.read a) (d.err a)) := by
 obtain ⟨v, hm⟩ := h.mem
 have hbx := hm.boxi 0 (p := p.D) (cs := p.box v d) rfl
 have c1 := hbx.cell 1 (by simp [PD.box])
 have c3 := hbx.cell 3 (by simp [PD.box])
 have c6 := hbx.cell 6 (by simp [PD.box])
 simp only [PD.box, List.getElem_cons_zero, List.getElem_cons_succ] at c1 c3 c6
 have hfb := hm.boxi 3 (p := p.f) (cs := bls d.faults) rfl
 have hnb := hm.boxi 2 (p := p.n) (cs := flat d.now) rfl
 have H := Lib.hid h
 have hN := h.N
 have hF := h.ok.f
 have hn := h.ok.n
 by_cases ho : d.has a = true
 ·have hr : 0 ≤ a ∧ a < (p.N : Int) := by unfold Dk.has at ho; simp only [decide_eq_true_eq] at ho; omega
  obtain ⟨k, rfl⟩ : ∃ k : Nat, a = k := ⟨a.toNat, by omega⟩
  have hkN : k < p.N := by omega
  have hN1 : 1 ≤ p.N ∧ p.N ≤ 4096 := by omega
  obtain ⟨hN1, hN2⟩ := hN1
  have HO := Lib.hid ho
  by_cases hof : d.off = true
  ·have e1 : d.err k = 3 := by unfold Dk.err; rw [if_pos ho, if_pos hof]
   have e2 : d.read k = [] := by unfold Dk.read; rw [e1]; rfl
   rw [e1, e2]
   rw [hof] at c6
   clear hm hbx hfb hnb h hN hF hn ho hof e1 e2 c1 c3
   go_enter Try.func22, Try.ntmps22
   go_wp2_with fail
   refine (dk_has_any w0 w p d c k H.out).mono ?_
   rintro e w1 ⟨rfl, rfl⟩
   rw [HO.out]
   go_wp2
   go_ret2
   exact RdSays.none _ _
  ·rw [Bool.not_eq_true] at hof
   have hbl : k < (bls d.faults).length := by rw [bls_length]; omega
   have q0 := hfb.cell k hbl
   have hbg : (bls d.faults)[k] = .bool (d.bad k) := by
    unfold Dk.bad
    rw [bls_get, List.getD_eq_getElem?_getD, show ((k : Int)).toNat = k from by omega, List.getElem?_eq_getElem (by omega), Option.getD_some]
   rw [hbg] at q0
   rw [hof] at c6
   by_cases hb : d.bad k = true
   ·have e1 : d.err k = 4 := by unfold Dk.err; rw [if_pos ho, if_neg (by simp [hof]), if_pos hb]
    have e2 : d.read k = [] := by unfold Dk.read; rw [e1]; rfl
    rw [e1, e2]
    rw [hb] at q0
    clear hm hbx hfb hnb h hN hF hn ho hof e1 e2 c1 hbg hbl hb
    go_enter Try.func22, Try.ntmps22
    go_wp2_with fail
    refine (dk_has_any w0 w p d c k H.out).mono ?_
    rintro e w1 ⟨rfl, rfl⟩
    rw [HO.out]
    go_wp2
    go_ret2
    exact RdSays.none _ _
   ·rw [Bool.not_eq_true] at hb
    have e1 : d.err k = 0 := by unfold Dk.err; rw [if_pos ho, if_neg (by simp [hof]), if_neg (by simp [hb])]
    have e2 : d.read k = d.sector k := by unfold Dk.read; rw [if_pos e1]
    rw [e1, e2]
    rw [hb] at q0
    have hkl : k < d.now.length := by rw [Dk.now_length]; omega
    have hsec : d.sector k = d.now[k] := by
     unfold Dk.sector
     rw [List.getD_eq_getElem?_getD, show ((k : Int)).toNat = k from by omega, List.getElem?_eq_getElem hkl, Option.getD_some]
    have hrow := Row1.subrow (n := 0) (o := 64 * k) (m := 64) (c := 64) hnb (by rw [flat_length _ h.ok.now64, Dk.now_length]; omega) (Nat.le_refl _) (by simp [maxLen])
    rw [flat_cut _ h.ok.now64 k hkl, ← hsec, Nat.mul_comm 64 k] at hrow
    have hsl := Dk.sector_64 h.ok ho
    have HR := Lib.hid hrow
    clear hm hbx hfb hnb h hN hF hn ho hof e1 e2 hbg hbl hb hrow hsec hkl
    go_enter Try.func22, Try.ntmps22
    go_wp2_with fail
    refine (dk_has_any w0 w p d c k H.out).mono ?_
    rintro e w1 ⟨rfl, rfl⟩
    rw [HO.out]
    go_wp2_with fail
    refine (clone_any _ 64 64 _ _ (by exact HR.out) (by decide)).mono ?_
    rintro e w1 ⟨A, cc, rfl, hcc, hcm, hpos, hO⟩
    have hfc := MadeBys.fc hcc hcm hpos
    rw [hsl] at hfc
    have HF := Lib.hid hfc
    have HO1 := Lib.hid hO
    clear hfc hpos hO
    go_wp2
    go_ret2
    exact ⟨A, _, cc, rfl, HF.out, HO1.out⟩
 ·have e1 : d.err a = 1 := by unfold Dk.err; rw [if_neg ho]
  have e2 : d.read a = [] := by unfold Dk.read; rw [e1]; rfl
  rw [e1, e2]
  rw [Bool.not_eq_true] at ho
  have HO := Lib.hid ho
  clear hm hbx hfb hnb h hN hF hn ho e1 e2
  go_enter Try.func22, Try.ntmps22
  go_wp2_with fail
  refine (dk_has_any w0 w p d c a H.out).mono ?_
  rintro e w1 ⟨rfl, rfl⟩
  rw [HO.out]
  go_wp2
  go_ret2
  exact RdSays.none _ _
end Go.Proofs.Ytgcfdjcpcclcjaa
namespace Go.Kn
open Go Go.RowKit
def zero64 : List UInt8 := List.replicate 64 0
theorem flat_zero (n : Nat) : flat (List.replicate n zero64) = List.replicate (n * 64) (.int .u8 0) := by
 induction n with
 | zero => rfl
 | succ n ih =>
  have e : flat (List.replicate (n + 1) zero64) = bvs zero64 ++ flat (List.replicate n zero64) := by rw [List.replicate_succ]; simp [flat]
  rw [e, ih, show (n + 1) * 64 = 64 + n * 64 from by omega, ← List.replicate_append_replicate]
  congr 1
theorem madeCells_rep (v : Value) (m n : Nat) (hm : 0 < m) : madeCells (List.replicate m v).toArray n = (List.replicate n v).toArray := by
 apply Array.ext
 ·simp [madeCells]
 ·intro i h1 h2
  have hlt : i % m < m := Nat.mod_lt _ hm
  simp [madeCells, hlt]
theorem bls_zero (n : Nat) : bls (List.replicate n false) = List.replicate n (.bool false) := by simp [bls]
theorem Wc.gbox {w0 w : World} {L : List (Nat × List Value)} {G : List Gs} {F : List (World → Prop)} {e sz n g c : Nat} {xs : List Value} (h : Wc w0 w L (⟨e, sz, .slice (some ⟨g, 0, none⟩) n c, n, xs⟩ :: G) F) : Wc w0 w ((g, xs) :: L) G F := by
 have hg := h.gi 0 rfl
 have hob : (Value.slice (some (⟨g, 0, none⟩ : Addr)) n c).ownBlock = some g := rfl
 have hlt := hg.lt g hob
 have hmut : ∀ k, Mut ((g, xs) :: L) G k ↔ Mut L (⟨e, sz, .slice (some ⟨g, 0, none⟩) n c, n, xs⟩ :: G) k := by
  intro k
  unfold Mut
  constructor
  ·rintro (hk | ⟨x, hx, hk⟩)
   ·rcases List.mem_cons.1 hk with rfl | hk
    ·exact .inr ⟨_, List.mem_cons_self, hob⟩
    ·exact .inl hk
   ·exact .inr ⟨x, List.mem_cons_of_mem _ hx, hk⟩
  ·rintro (hk | ⟨x, hx, hk⟩)
   ·exact .inl (List.mem_cons_of_mem _ hk)
   ·rcases List.mem_cons.1 hx with rfl | hx
    ·rw [hob] at hk
     injection hk with hk
     subst hk
     exact .inl List.mem_cons_self
    ·exact .inr ⟨x, hx, hk⟩
 refine ⟨h.only, ?_, ?_, ?_, fun x hx => h.g1 x (List.mem_cons_of_mem _ hx), (List.pairwise_cons.1 h.g2).2, ?_, ?_⟩
 ·intro x hx
  rcases List.mem_cons.1 hx with rfl | hx
  ·rcases hg.2 with ⟨hv, _⟩ | ⟨g', cap, cur, hv, hb, hh, hn, hm, hs, ht⟩
   ·cases hv
   ·injection hv with e1 e2 e3
    injection e1 with e1
    injection e1 with e1
    subst e1
    exact ⟨cur, e, hh, by rw [hg.1]; exact ht⟩
  ·exact h.own x hx
 ·intro x hx
  rcases List.mem_cons.1 hx with rfl | hx
  ·exact hlt.1
  ·exact h.lo x hx
 ·rw [List.map_cons, List.nodup_cons]
  refine ⟨fun hm => ?_, h.nd⟩
  obtain ⟨x, hx, e1⟩ := List.mem_map.1 hm
  refine h.g3 x hx _ List.mem_cons_self ?_
  rw [hob, e1]
 ·intro x hx y hy
  rcases List.mem_cons.1 hx with rfl | hx
  ·exact fun hk => (List.pairwise_cons.1 h.g2).1 y hy g hob hk
  ·exact h.g3 x hx y (List.mem_cons_of_mem _ hy)
 ·intro f hf w2 h2
  exact h.fx f hf w2 fun k o hm hk hc => h2 k o (fun h3 => hm ((hmut k).1 h3)) hk hc
end Go.Kn
namespace Go.Proofs.Ytgcfdjcpcclcjaa
open Go Go.RowKit Go.Kn
theorem infoBlockZ : (Try.prog.info? 96).map (fun i => (i.zero.map (·.cells), i.size, i.bytes)) = some (some (List.replicate 64 (Value.int .u8 0)).toArray, 64, 64) := by kernel_rfl
theorem infoBoolZ : (Try.prog.info? 4).map (fun i => (i.zero, i.size, i.bytes)) = some (some (.bool false), 1, 1) := by kernel_rfl
theorem make_block (n : Nat) (hn : n ≤ 4096) (w : World) : (Instr.makeSlice 79 (.int .i64 n) (.int .i64 n)).run Try.prog w = .ok (.slice (some ⟨w.heap.size, 0, none⟩) n n) (w.alloc (.cells (flat (List.replicate n zero64)).toArray 96)) := by
 have hq := infoBlockZ
 cases hi : Try.prog.info? 96 with
 | none => simp [hi] at hq
 | some ie =>
  cases hz : ie.zero with
  | none => simp [hi, hz] at hq
  | some z =>
   simp only [hi, hz, Option.map_some, Option.some.injEq, Prod.mk.injEq] at hq
   obtain ⟨q1, q2, q3⟩ := hq
   have h := run_make (P := Try.prog) w 79 96 ie z Try.underlying79 hi hz .i64 .i64 n n (by omega) (by omega) (by rw [q3]; omega) (by omega)
   rw [h, q1, q2, madeCells_rep _ _ _ (by omega), flat_zero]
   rfl
theorem make_bools (n : Nat) (hn : n ≤ 4096) (w : World) : (Instr.makeSlice 81 (.int .i64 n) (.int .i64 n)).run Try.prog w = .ok (.slice (some ⟨w.heap.size, 0, none⟩) n n) (w.alloc (.cells (bls (List.replicate n false)).toArray 4)) := by
 obtain ⟨i0, hi, hz0, hz1, hz2⟩ := info_parts infoBoolZ
 have h := run_make (P := Try.prog) w 81 4 i0 (.bool false) Try.underlying81 hi hz0 .i64 .i64 n n (by omega) (by omega) (by rw [hz2]; omega) (by omega)
 have e := madeCells_rep (.bool false) 1 n (by omega)
 rw [h, hz1, bls_zero, Nat.mul_one]
 show Result.ok _ (w.alloc (.cells (madeCells (List.replicate 1 (Value.bool false)).toArray _) _)) = _
 rw [madeCells_rep _ _ _ (by omega)]
 rfl
/-- what makes the program's disk -/
def NewP (n : Nat) (w : World) (e : Ending) (w' : World) : Prop := ∃ p : PD, e = .returned (.tuple #[.pointer (some ⟨p.D, 0, none⟩), .int .i64 0]) ∧ p.N = n ∧ Only [] w w' ∧ ∀ (w0 : World) (c : Fr3), Wc w0 w c.L c.G c.F → Dsk w0 w' p (Dk.new n) c
theorem NewP.mk {n D s nn f : Nat} {w w' : World} (h1 : 1 ≤ n) (h2 : n ≤ 4096) (hO : Only [] w w') (hl : n ≤ 4096)
  (h : ∀ (w0 : World) (c : Fr3), Wc w0 w c.L c.G c.F → Wc w0 w' ((D, [.slice (some ⟨s, 0, none⟩) n n, .slice (some ⟨nn, 0, none⟩) n n, .slice none 0 0, .slice (some ⟨f, 0, none⟩) n n, .int .i64 (-1), .int .i64 0, .bool false]) :: (s, flat (List.replicate n zero64)) :: (nn, flat (List.replicate n zero64)) :: (f, bls (List.replicate n false)) :: c.L) c.G c.F) :
  NewP n w (.returned (.tuple #[.pointer (some ⟨D, 0, none⟩), .int .i64 0])) w' :=
 ⟨⟨D, s, nn, f, n, n, n, n⟩, rfl, rfl, hO, fun w0 c hc => ⟨Dk.new_ok h1 h2, by simp [Dk.new], Nat.le_refl _, Nat.le_refl _, Nat.le_refl _, .slice none 0 0, (h w0 c hc).gnew _ _⟩⟩
set_option maxRecDepth 100000 in
set_option maxHeartbeats 8000000 in
theorem dk_new_any (n : Nat) (w : World) (h1 : 1 ≤ n) (h2 : n ≤ 4096) : Calls Try.prog 51 #[.int .i64 (n : Int)] w (NewP n w) := by
 obtain ⟨ZB, hZB⟩ : ∃ z, (flat (List.replicate n zero64)) = z := ⟨_, rfl⟩
 obtain ⟨ZF, hZF⟩ : ∃ z, (bls (List.replicate n false)) = z := ⟨_, rfl⟩
 have hmb := make_block n h2
 have hmf := make_bools n h2
 rw [hZB] at hmb
 rw [hZF] at hmf
 have HMB := Lib.hid hmb
 have HMF := Lib.hid hmf
 have HZB := Lib.hid hZB
 have HZF := Lib.hid hZF
 clear hmb hmf hZB hZF
 have HD0 : Hid (∀ (w0 : World) (c : Fr3), Wc w0 w c.L c.G c.F → Wc w0 w.drew c.L c.G c.F) := Lib.hid (fun w0 c h => h.drew)
 have HO0 := Lib.hid (Only.refl [] w).drew
 go_enter Try.func51, Try.ntmps51
 go_wp2_with fail
 refine wp_region_held_drew (S := fun _ => True) (by kernel_rfl) trivial (fun hSw0 => ?_)
 generalize w.drew = ws at *
 refine Kn.takeS 0 ⟨some 10, _, _, _, _, _⟩ ?_
 refine Kn.takeS 2 ⟨some 12, _, _, _, _, _⟩ ?_
 refine Kn.takeS 4 ⟨some 14, _, _, _, _, _⟩ ?_
 refine wpAnyH_ready (rs := [1, 3, 5]) (by kernel_rfl) (by simp) ?_
 refine AllReadyH.cons (o := ⟨some 11, _, _, _, _, _⟩) rfl (fun K hK => ?_) ?_
 ·have hmk := HMB.out
  go_simp
  clear hmk
  have HD1 : Hid (∀ (w0 : World) (c : Fr3), Wc w0 w c.L c.G c.F → Wc w0 (ws.alloc (.cells ZB.toArray 96)) ((ws.heap.size, ZB) :: c.L) c.G c.F) := Lib.hid (fun w0 c h => (HD0.out w0 c h).newB ZB.toArray 96 rfl)
  have HO1 := Lib.hid (HO0.out.alloc (.cells ZB.toArray 96))
  generalize hzs : ws.heap.size = bs at *
  clear hzs
  clear HD0 HO0
  generalize ws.alloc (.cells ZB.toArray 96) = wa at *
  clear ws
  obtain ⟨ws, rfl⟩ : ∃ x, x = wa := ⟨_, rfl⟩
  refine hK.out _ _ trivial (fun hSn => ?_)
  clear hK K hSw0
  have hSw0 := hSn
  clear hSn
  refine wpAnyH_ready (rs := [3, 5]) (by kernel_rfl) (by simp) ?_
  refine AllReadyH.cons (o := ⟨some 13, _, _, _, _, _⟩) rfl (fun K hK => ?_) ?_
  ·have hmk := HMB.out
   go_simp
   clear hmk
   have HD2 : Hid (∀ (w0 : World) (c : Fr3), Wc w0 w c.L c.G c.F → Wc w0 (ws.alloc (.cells ZB.toArray 96)) ((ws.heap.size, ZB) :: (bs, ZB) :: c.L) c.G c.F) := Lib.hid (fun w0 c h => (HD1.out w0 c h).newB ZB.toArray 96 rfl)
   have HO2 := Lib.hid (HO1.out.alloc (.cells ZB.toArray 96))
   generalize hzn : ws.heap.size = bn at *
   clear hzn
   clear HD1 HO1
   generalize ws.alloc (.cells ZB.toArray 96) = wa at *
   clear ws
   obtain ⟨ws, rfl⟩ : ∃ x, x = wa := ⟨_, rfl⟩
   refine hK.out _ _ trivial (fun hSn => ?_)
   clear hK K hSw0
   have hSw0 := hSn
   clear hSn
   refine Kn.takeR 5 ⟨some 15, _, _, _, _, _⟩ fun K hK => ?_
   have hmk := HMF.out
   go_simp
   clear hmk
   have HD3 : Hid (∀ (w0 : World) (c : Fr3), Wc w0 w c.L c.G c.F → Wc w0 (ws.alloc (.cells ZF.toArray 4)) ((ws.heap.size, ZF) :: (bn, ZB) :: (bs, ZB) :: c.L) c.G c.F) := Lib.hid (fun w0 c h => (HD2.out w0 c h).newB ZF.toArray 4 rfl)
   have HO3 := Lib.hid (HO2.out.alloc (.cells ZF.toArray 4))
   generalize hzf : ws.heap.size = bf at *
   clear hzf
   clear HD2 HO2
   generalize ws.alloc (.cells ZF.toArray 4) = wa at *
   clear ws
   obtain ⟨ws, rfl⟩ : ∃ x, x = wa := ⟨_, rfl⟩
   refine hK.out _ _ trivial (fun hSn => ?_)
   clear hK K hSw0
   have hSw0 := hSn
   clear hSn
   refine Kn.takeS 6 ⟨some 16, _, _, _, _, _⟩ ?_
   refine Kn.takeR 7 ⟨some 17, _, _, _, _, _⟩ fun K hK => ?_
   go_simp
   have HD4 : Hid (∀ (w0 : World) (c : Fr3), Wc w0 w c.L c.G c.F → Wc w0 (ws.alloc (.cells #[.slice (some ⟨bs, 0, none⟩) n n, .slice (some ⟨bn, 0, none⟩) n n, .slice none 0 0, .slice (some ⟨bf, 0, none⟩) n n, .int .i64 (-1), .int .i64 0, .bool false] 83)) ((ws.heap.size, [.slice (some ⟨bs, 0, none⟩) n n, .slice (some ⟨bn, 0, none⟩) n n, .slice none 0 0, .slice (some ⟨bf, 0, none⟩) n n, .int .i64 (-1), .int .i64 0, .bool false]) :: (bf, ZF) :: (bn, ZB) :: (bs, ZB) :: c.L) c.G c.F) := Lib.hid (fun w0 c h => (HD3.out w0 c h).newB #[.slice (some ⟨bs, 0, none⟩) n n, .slice (some ⟨bn, 0, none⟩) n n, .slice none 0 0, .slice (some ⟨bf, 0, none⟩) n n, .int .i64 (-1), .int .i64 0, .bool false] 83 rfl)
   have HO4 := Lib.hid (HO3.out.alloc (.cells #[.slice (some ⟨bs, 0, none⟩) n n, .slice (some ⟨bn, 0, none⟩) n n, .slice none 0 0, .slice (some ⟨bf, 0, none⟩) n n, .int .i64 (-1), .int .i64 0, .bool false] 83))
   generalize hzD : ws.heap.size = bD at *
   clear hzD
   clear HD3 HO3
   generalize ws.alloc (.cells #[.slice (some ⟨bs, 0, none⟩) n n, .slice (some ⟨bn, 0, none⟩) n n, .slice none 0 0, .slice (some ⟨bf, 0, none⟩) n n, .int .i64 (-1), .int .i64 0, .bool false] 83) = wa at *
   clear ws
   obtain ⟨ws, rfl⟩ : ∃ x, x = wa := ⟨_, rfl⟩
   refine hK.out _ _ trivial (fun hSn => ?_)
   clear hK K hSw0
   have hSw0 := hSn
   clear hSn
   refine Kn.takeS 8 ⟨some 2, _, _, _, _, _⟩ ?_
   refine Kn.takeS 9 ⟨some 3, _, _, _, _, _⟩ ?_
   refine wpAnyH_done (by kernel_rfl) ?_ _
   clear hSw0
   go_wp2
   go_ret2
   refine NewP.mk (s := bs) (nn := bn) (f := bf) h1 h2 HO4.out h2 (fun w0 c hc => ?_)
   rw [HZB.out, HZF.out]
   exact (HD4.out w0 c hc).perm ((((List.Perm.refl _).trans ((List.Perm.swap _ _ _).cons _)).trans (((List.Perm.swap _ _ _).cons _).cons _)).trans ((List.Perm.swap _ _ _).cons _)) (List.Perm.refl _)
  refine AllReadyH.cons (o := ⟨some 15, _, _, _, _, _⟩) rfl (fun K hK => ?_) ?_
  ·have hmk := HMF.out
   go_simp
   clear hmk
   have HD2 : Hid (∀ (w0 : World) (c : Fr3), Wc w0 w c.L c.G c.F → Wc w0 (ws.alloc (.cells ZF.toArray 4)) ((ws.heap.size, ZF) :: (bs, ZB) :: c.L) c.G c.F) := Lib.hid (fun w0 c h => (HD1.out w0 c h).newB ZF.toArray 4 rfl)
   have HO2 := Lib.hid (HO1.out.alloc (.cells ZF.toArray 4))
   generalize hzf : ws.heap.size = bf at *
   clear hzf
   clear HD1 HO1
   generalize ws.alloc (.cells ZF.toArray 4) = wa at *
   clear ws
   obtain ⟨ws, rfl⟩ : ∃ x, x = wa := ⟨_, rfl⟩
   refine hK.out _ _ trivial (fun hSn => ?_)
   clear hK K hSw0
   have hSw0 := hSn
   clear hSn
   refine Kn.takeR 3 ⟨some 13, _, _, _, _, _⟩ fun K hK => ?_
   have hmk := HMB.out
   go_simp
   clear hmk
   have HD3 : Hid (∀ (w0 : World) (c : Fr3), Wc w0 w c.L c.G c.F → Wc w0 (ws.alloc (.cells ZB.toArray 96)) ((ws.heap.size, ZB) :: (bf, ZF) :: (bs, ZB) :: c.L) c.G c.F) := Lib.hid (fun w0 c h => (HD2.out w0 c h).newB ZB.toArray 96 rfl)
   have HO3 := Lib.hid (HO2.out.alloc (.cells ZB.toArray 96))
   generalize hzn : ws.heap.size = bn at *
   clear hzn
   clear HD2 HO2
   generalize ws.alloc (.cells ZB.toArray 96) = wa at *
   clear ws
   obtain ⟨ws, rfl⟩ : ∃ x, x = wa := ⟨_, rfl⟩
   refine hK.out _ _ trivial (fun hSn => ?_)
   clear hK K hSw0
   have hSw0 := hSn
   clear hSn
   refine Kn.takeS 6 ⟨some 16, _, _, _, _, _⟩ ?_
   refine Kn.takeR 7 ⟨some 17, _, _, _, _, _⟩ fun K hK => ?_
   go_simp
   have HD4 : Hid (∀ (w0 : World) (c : Fr3), Wc w0 w c.L c.G c.F → Wc w0 (ws.alloc (.cells #[.slice (some ⟨bs, 0, none⟩) n n, .slice (some ⟨bn, 0, none⟩) n n, .slice none 0 0, .slice (some ⟨bf, 0, none⟩) n n, .int .i64 (-1), .int .i64 0, .bool false] 83)) ((ws.heap.size, [.slice (some ⟨bs, 0, none⟩) n n, .slice (some ⟨bn, 0, none⟩) n n, .slice none 0 0, .slice (some ⟨bf, 0, none⟩) n n, .int .i64 (-1), .int .i64 0, .bool false]) :: (bn, ZB) :: (bf, ZF) :: (bs, ZB) :: c.L) c.G c.F) := Lib.hid (fun w0 c h => (HD3.out w0 c h).newB #[.slice (some ⟨bs, 0, none⟩) n n, .slice (some ⟨bn, 0, none⟩) n n, .slice none 0 0, .slice (some ⟨bf, 0, none⟩) n n, .int .i64 (-1), .int .i64 0, .bool false] 83 rfl)
   have HO4 := Lib.hid (HO3.out.alloc (.cells #[.slice (some ⟨bs, 0, none⟩) n n, .slice (some ⟨bn, 0, none⟩) n n, .slice none 0 0, .slice (some ⟨bf, 0, none⟩) n n, .int .i64 (-1), .int .i64 0, .bool false] 83))
   generalize hzD : ws.heap.size = bD at *
   clear hzD
   clear HD3 HO3
   generalize ws.alloc (.cells #[.slice (some ⟨bs, 0, none⟩) n n, .slice (some ⟨bn, 0, none⟩) n n, .slice none 0 0, .slice (some ⟨bf, 0, none⟩) n n, .int .i64 (-1), .int .i64 0, .bool false] 83) = wa at *
   clear ws
   obtain ⟨ws, rfl⟩ : ∃ x, x = wa := ⟨_, rfl⟩
   refine hK.out _ _ trivial (fun hSn => ?_)
   clear hK K hSw0
   have hSw0 := hSn
   clear hSn
   refine Kn.takeS 8 ⟨some 2, _, _, _, _, _⟩ ?_
   refine Kn.takeS 9 ⟨some 3, _, _, _, _, _⟩ ?_
   refine wpAnyH_done (by kernel_rfl) ?_ _
   clear hSw0
   go_wp2
   go_ret2
   refine NewP.mk (s := bs) (nn := bn) (f := bf) h1 h2 HO4.out h2 (fun w0 c hc => ?_)
   rw [HZB.out, HZF.out]
   exact (HD4.out w0 c hc).perm (((List.Perm.refl _).trans (((List.Perm.swap _ _ _).cons _).cons _)).trans ((List.Perm.swap _ _ _).cons _)) (List.Perm.refl _)
  exact AllReadyH.nil
 refine AllReadyH.cons (o := ⟨some 13, _, _, _, _, _⟩) rfl (fun K hK => ?_) ?_
 ·have hmk := HMB.out
  go_simp
  clear hmk
  have HD1 : Hid (∀ (w0 : World) (c : Fr3), Wc w0 w c.L c.G c.F → Wc w0 (ws.alloc (.cells ZB.toArray 96)) ((ws.heap.size, ZB) :: c.L) c.G c.F) := Lib.hid (fun w0 c h => (HD0.out w0 c h).newB ZB.toArray 96 rfl)
  have HO1 := Lib.hid (HO0.out.alloc (.cells ZB.toArray 96))
  generalize hzn : ws.heap.size = bn at *
  clear hzn
  clear HD0 HO0
  generalize ws.alloc (.cells ZB.toArray 96) = wa at *
  clear ws
  obtain ⟨ws, rfl⟩ : ∃ x, x = wa := ⟨_, rfl⟩
  refine hK.out _ _ trivial (fun hSn => ?_)
  clear hK K hSw0
  have hSw0 := hSn
  clear hSn
  refine wpAnyH_ready (rs := [1, 5]) (by kernel_rfl) (by simp) ?_
  refine AllReadyH.cons (o := ⟨some 11, _, _, _, _, _⟩) rfl (fun K hK => ?_) ?_
  ·have hmk := HMB.out
   go_simp
   clear hmk
   have HD2 : Hid (∀ (w0 : World) (c : Fr3), Wc w0 w c.L c.G c.F → Wc w0 (ws.alloc (.cells ZB.toArray 96)) ((ws.heap.size, ZB) :: (bn, ZB) :: c.L) c.G c.F) := Lib.hid (fun w0 c h => (HD1.out w0 c h).newB ZB.toArray 96 rfl)
   have HO2 := Lib.hid (HO1.out.alloc (.cells ZB.toArray 96))
   generalize hzs : ws.heap.size = bs at *
   clear hzs
   clear HD1 HO1
   generalize ws.alloc (.cells ZB.toArray 96) = wa at *
   clear ws
   obtain ⟨ws, rfl⟩ : ∃ x, x = wa := ⟨_, rfl⟩
   refine hK.out _ _ trivial (fun hSn => ?_)
   clear hK K hSw0
   have hSw0 := hSn
   clear hSn
   refine Kn.takeR 5 ⟨some 15, _, _, _, _, _⟩ fun K hK => ?_
   have hmk := HMF.out
   go_simp
   clear hmk
   have HD3 : Hid (∀ (w0 : World) (c : Fr3), Wc w0 w c.L c.G c.F → Wc w0 (ws.alloc (.cells ZF.toArray 4)) ((ws.heap.size, ZF) :: (bs, ZB) :: (bn, ZB) :: c.L) c.G c.F) := Lib.hid (fun w0 c h => (HD2.out w0 c h).newB ZF.toArray 4 rfl)
   have HO3 := Lib.hid (HO2.out.alloc (.cells ZF.toArray 4))
   generalize hzf : ws.heap.size = bf at *
   clear hzf
   clear HD2 HO2
   generalize ws.alloc (.cells ZF.toArray 4) = wa at *
   clear ws
   obtain ⟨ws, rfl⟩ : ∃ x, x = wa := ⟨_, rfl⟩
   refine hK.out _ _ trivial (fun hSn => ?_)
   clear hK K hSw0
   have hSw0 := hSn
   clear hSn
   refine Kn.takeS 6 ⟨some 16, _, _, _, _, _⟩ ?_
   refine Kn.takeR 7 ⟨some 17, _, _, _, _, _⟩ fun K hK => ?_
   go_simp
   have HD4 : Hid (∀ (w0 : World) (c : Fr3), Wc w0 w c.L c.G c.F → Wc w0 (ws.alloc (.cells #[.slice (some ⟨bs, 0, none⟩) n n, .slice (some ⟨bn, 0, none⟩) n n, .slice none 0 0, .slice (some ⟨bf, 0, none⟩) n n, .int .i64 (-1), .int .i64 0, .bool false] 83)) ((ws.heap.size, [.slice (some ⟨bs, 0, none⟩) n n, .slice (some ⟨bn, 0, none⟩) n n, .slice none 0 0, .slice (some ⟨bf, 0, none⟩) n n, .int .i64 (-1), .int .i64 0, .bool false]) :: (bf, ZF) :: (bs, ZB) :: (bn, ZB) :: c.L) c.G c.F) := Lib.hid (fun w0 c h => (HD3.out w0 c h).newB #[.slice (some ⟨bs, 0, none⟩) n n, .slice (some ⟨bn, 0, none⟩) n n, .slice none 0 0, .slice (some ⟨bf, 0, none⟩) n n, .int .i64 (-1), .int .i64 0, .bool false] 83 rfl)
   have HO4 := Lib.hid (HO3.out.alloc (.cells #[.slice (some ⟨bs, 0, none⟩) n n, .slice (some ⟨bn, 0, none⟩) n n, .slice none 0 0, .slice (some ⟨bf, 0, none⟩) n n, .int .i64 (-1), .int .i64 0, .bool false] 83))
   generalize hzD : ws.heap.size = bD at *
   clear hzD
   clear HD3 HO3
   generalize ws.alloc (.cells #[.slice (some ⟨bs, 0, none⟩) n n, .slice (some ⟨bn, 0, none⟩) n n, .slice none 0 0, .slice (some ⟨bf, 0, none⟩) n n, .int .i64 (-1), .int .i64 0, .bool false] 83) = wa at *
   clear ws
   obtain ⟨ws, rfl⟩ : ∃ x, x = wa := ⟨_, rfl⟩
   refine hK.out _ _ trivial (fun hSn => ?_)
   clear hK K hSw0
   have hSw0 := hSn
   clear hSn
   refine Kn.takeS 8 ⟨some 2, _, _, _, _, _⟩ ?_
   refine Kn.takeS 9 ⟨some 3, _, _, _, _, _⟩ ?_
   refine wpAnyH_done (by kernel_rfl) ?_ _
   clear hSw0
   go_wp2
   go_ret2
   refine NewP.mk (s := bs) (nn := bn) (f := bf) h1 h2 HO4.out h2 (fun w0 c hc => ?_)
   rw [HZB.out, HZF.out]
   exact (HD4.out w0 c hc).perm (((List.Perm.refl _).trans ((List.Perm.swap _ _ _).cons _)).trans (((List.Perm.swap _ _ _).cons _).cons _)) (List.Perm.refl _)
  refine AllReadyH.cons (o := ⟨some 15, _, _, _, _, _⟩) rfl (fun K hK => ?_) ?_
  ·have hmk := HMF.out
   go_simp
   clear hmk
   have HD2 : Hid (∀ (w0 : World) (c : Fr3), Wc w0 w c.L c.G c.F → Wc w0 (ws.alloc (.cells ZF.toArray 4)) ((ws.heap.size, ZF) :: (bn, ZB) :: c.L) c.G c.F) := Lib.hid (fun w0 c h => (HD1.out w0 c h).newB ZF.toArray 4 rfl)
   have HO2 := Lib.hid (HO1.out.alloc (.cells ZF.toArray 4))
   generalize hzf : ws.heap.size = bf at *
   clear hzf
   clear HD1 HO1
   generalize ws.alloc (.cells ZF.toArray 4) = wa at *
   clear ws
   obtain ⟨ws, rfl⟩ : ∃ x, x = wa := ⟨_, rfl⟩
   refine hK.out _ _ trivial (fun hSn => ?_)
   clear hK K hSw0
   have hSw0 := hSn
   clear hSn
   refine Kn.takeR 1 ⟨some 11, _, _, _, _, _⟩ fun K hK => ?_
   have hmk := HMB.out
   go_simp
   clear hmk
   have HD3 : Hid (∀ (w0 : World) (c : Fr3), Wc w0 w c.L c.G c.F → Wc w0 (ws.alloc (.cells ZB.toArray 96)) ((ws.heap.size, ZB) :: (bf, ZF) :: (bn, ZB) :: c.L) c.G c.F) := Lib.hid (fun w0 c h => (HD2.out w0 c h).newB ZB.toArray 96 rfl)
   have HO3 := Lib.hid (HO2.out.alloc (.cells ZB.toArray 96))
   generalize hzs : ws.heap.size = bs at *
   clear hzs
   clear HD2 HO2
   generalize ws.alloc (.cells ZB.toArray 96) = wa at *
   clear ws
   obtain ⟨ws, rfl⟩ : ∃ x, x = wa := ⟨_, rfl⟩
   refine hK.out _ _ trivial (fun hSn => ?_)
   clear hK K hSw0
   have hSw0 := hSn
   clear hSn
   refine Kn.takeS 6 ⟨some 16, _, _, _, _, _⟩ ?_
   refine Kn.takeR 7 ⟨some 17, _, _, _, _, _⟩ fun K hK => ?_
   go_simp
   have HD4 : Hid (∀ (w0 : World) (c : Fr3), Wc w0 w c.L c.G c.F → Wc w0 (ws.alloc (.cells #[.slice (some ⟨bs, 0, none⟩) n n, .slice (some ⟨bn, 0, none⟩) n n, .slice none 0 0, .slice (some ⟨bf, 0, none⟩) n n, .int .i64 (-1), .int .i64 0, .bool false] 83)) ((ws.heap.size, [.slice (some ⟨bs, 0, none⟩) n n, .slice (some ⟨bn, 0, none⟩) n n, .slice none 0 0, .slice (some ⟨bf, 0, none⟩) n n, .int .i64 (-1), .int .i64 0, .bool false]) :: (bs, ZB) :: (bf, ZF) :: (bn, ZB) :: c.L) c.G c.F) := Lib.hid (fun w0 c h => (HD3.out w0 c h).newB #[.slice (some ⟨bs, 0, none⟩) n n, .slice (some ⟨bn, 0, none⟩) n n, .slice none 0 0, .slice (some ⟨bf, 0, none⟩) n n, .int .i64 (-1), .int .i64 0, .bool false] 83 rfl)
   have HO4 := Lib.hid (HO3.out.alloc (.cells #[.slice (some ⟨bs, 0, none⟩) n n, .slice (some ⟨bn, 0, none⟩) n n, .slice none 0 0, .slice (some ⟨bf, 0, none⟩) n n, .int .i64 (-1), .int .i64 0, .bool false] 83))
   generalize hzD : ws.heap.size = bD at *
   clear hzD
   clear HD3 HO3
   generalize ws.alloc (.cells #[.slice (some ⟨bs, 0, none⟩) n n, .slice (some ⟨bn, 0, none⟩) n n, .slice none 0 0, .slice (some ⟨bf, 0, none⟩) n n, .int .i64 (-1), .int .i64 0, .bool false] 83) = wa at *
   clear ws
   obtain ⟨ws, rfl⟩ : ∃ x, x = wa := ⟨_, rfl⟩
   refine hK.out _ _ trivial (fun hSn => ?_)
   clear hK K hSw0
   have hSw0 := hSn
   clear hSn
   refine Kn.takeS 8 ⟨some 2, _, _, _, _, _⟩ ?_
   refine Kn.takeS 9 ⟨some 3, _, _, _, _, _⟩ ?_
   refine wpAnyH_done (by kernel_rfl) ?_ _
   clear hSw0
   go_wp2
   go_ret2
   refine NewP.mk (s := bs) (nn := bn) (f := bf) h1 h2 HO4.out h2 (fun w0 c hc => ?_)
   rw [HZB.out, HZF.out]
   exact (HD4.out w0 c hc).perm ((List.Perm.refl _).trans (((List.Perm.swap _ _ _).cons _).cons _)) (List.Perm.refl _)
  exact AllReadyH.nil
 refine AllReadyH.cons (o := ⟨some 15, _, _, _, _, _⟩) rfl (fun K hK => ?_) ?_
 ·have hmk := HMF.out
  go_simp
  clear hmk
  have HD1 : Hid (∀ (w0 : World) (c : Fr3), Wc w0 w c.L c.G c.F → Wc w0 (ws.alloc (.cells ZF.toArray 4)) ((ws.heap.size, ZF) :: c.L) c.G c.F) := Lib.hid (fun w0 c h => (HD0.out w0 c h).newB ZF.toArray 4 rfl)
  have HO1 := Lib.hid (HO0.out.alloc (.cells ZF.toArray 4))
  generalize hzf : ws.heap.size = bf at *
  clear hzf
  clear HD0 HO0
  generalize ws.alloc (.cells ZF.toArray 4) = wa at *
  clear ws
  obtain ⟨ws, rfl⟩ : ∃ x, x = wa := ⟨_, rfl⟩
  refine hK.out _ _ trivial (fun hSn => ?_)
  clear hK K hSw0
  have hSw0 := hSn
  clear hSn
  refine wpAnyH_ready (rs := [1, 3]) (by kernel_rfl) (by simp) ?_
  refine AllReadyH.cons (o := ⟨some 11, _, _, _, _, _⟩) rfl (fun K hK => ?_) ?_
  ·have hmk := HMB.out
   go_simp
   clear hmk
   have HD2 : Hid (∀ (w0 : World) (c : Fr3), Wc w0 w c.L c.G c.F → Wc w0 (ws.alloc (.cells ZB.toArray 96)) ((ws.heap.size, ZB) :: (bf, ZF) :: c.L) c.G c.F) := Lib.hid (fun w0 c h => (HD1.out w0 c h).newB ZB.toArray 96 rfl)
   have HO2 := Lib.hid (HO1.out.alloc (.cells ZB.toArray 96))
   generalize hzs : ws.heap.size = bs at *
   clear hzs
   clear HD1 HO1
   generalize ws.alloc (.cells ZB.toArray 96) = wa at *
   clear ws
   obtain ⟨ws, rfl⟩ : ∃ x, x = wa := ⟨_, rfl⟩
   refine hK.out _ _ trivial (fun hSn => ?_)
   clear hK K hSw0
   have hSw0 := hSn
   clear hSn
   refine Kn.takeR 3 ⟨some 13, _, _, _, _, _⟩ fun K hK => ?_
   have hmk := HMB.out
   go_simp
   clear hmk
   have HD3 : Hid (∀ (w0 : World) (c : Fr3), Wc w0 w c.L c.G c.F → Wc w0 (ws.alloc (.cells ZB.toArray 96)) ((ws.heap.size, ZB) :: (bs, ZB) :: (bf, ZF) :: c.L) c.G c.F) := Lib.hid (fun w0 c h => (HD2.out w0 c h).newB ZB.toArray 96 rfl)
   have HO3 := Lib.hid (HO2.out.alloc (.cells ZB.toArray 96))
   generalize hzn : ws.heap.size = bn at *
   clear hzn
   clear HD2 HO2
   generalize ws.alloc (.cells ZB.toArray 96) = wa at *
   clear ws
   obtain ⟨ws, rfl⟩ : ∃ x, x = wa := ⟨_, rfl⟩
   refine hK.out _ _ trivial (fun hSn => ?_)
   clear hK K hSw0
   have hSw0 := hSn
   clear hSn
   refine Kn.takeS 6 ⟨some 16, _, _, _, _, _⟩ ?_
   refine Kn.takeR 7 ⟨some 17, _, _, _, _, _⟩ fun K hK => ?_
   go_simp
   have HD4 : Hid (∀ (w0 : World) (c : Fr3), Wc w0 w c.L c.G c.F → Wc w0 (ws.alloc (.cells #[.slice (some ⟨bs, 0, none⟩) n n, .slice (some ⟨bn, 0, none⟩) n n, .slice none 0 0, .slice (some ⟨bf, 0, none⟩) n n, .int .i64 (-1), .int .i64 0, .bool false] 83)) ((ws.heap.size, [.slice (some ⟨bs, 0, none⟩) n n, .slice (some ⟨bn, 0, none⟩) n n, .slice none 0 0, .slice (some ⟨bf, 0, none⟩) n n, .int .i64 (-1), .int .i64 0, .bool false]) :: (bn, ZB) :: (bs, ZB) :: (bf, ZF) :: c.L) c.G c.F) := Lib.hid (fun w0 c h => (HD3.out w0 c h).newB #[.slice (some ⟨bs, 0, none⟩) n n, .slice (some ⟨bn, 0, none⟩) n n, .slice none 0 0, .slice (some ⟨bf, 0, none⟩) n n, .int .i64 (-1), .int .i64 0, .bool false] 83 rfl)
   have HO4 := Lib.hid (HO3.out.alloc (.cells #[.slice (some ⟨bs, 0, none⟩) n n, .slice (some ⟨bn, 0, none⟩) n n, .slice none 0 0, .slice (some ⟨bf, 0, none⟩) n n, .int .i64 (-1), .int .i64 0, .bool false] 83))
   generalize hzD : ws.heap.size = bD at *
   clear hzD
   clear HD3 HO3
   generalize ws.alloc (.cells #[.slice (some ⟨bs, 0, none⟩) n n, .slice (some ⟨bn, 0, none⟩) n n, .slice none 0 0, .slice (some ⟨bf, 0, none⟩) n n, .int .i64 (-1), .int .i64 0, .bool false] 83) = wa at *
   clear ws
   obtain ⟨ws, rfl⟩ : ∃ x, x = wa := ⟨_, rfl⟩
   refine hK.out _ _ trivial (fun hSn => ?_)
   clear hK K hSw0
   have hSw0 := hSn
   clear hSn
   refine Kn.takeS 8 ⟨some 2, _, _, _, _, _⟩ ?_
   refine Kn.takeS 9 ⟨some 3, _, _, _, _, _⟩ ?_
   refine wpAnyH_done (by kernel_rfl) ?_ _
   clear hSw0
   go_wp2
   go_ret2
   refine NewP.mk (s := bs) (nn := bn) (f := bf) h1 h2 HO4.out h2 (fun w0 c hc => ?_)
   rw [HZB.out, HZF.out]
   exact (HD4.out w0 c hc).perm ((List.Perm.refl _).trans ((List.Perm.swap _ _ _).cons _)) (List.Perm.refl _)
  refine AllReadyH.cons (o := ⟨some 13, _, _, _, _, _⟩) rfl (fun K hK => ?_) ?_
  ·have hmk := HMB.out
   go_simp
   clear hmk
   have HD2 : Hid (∀ (w0 : World) (c : Fr3), Wc w0 w c.L c.G c.F → Wc w0 (ws.alloc (.cells ZB.toArray 96)) ((ws.heap.size, ZB) :: (bf, ZF) :: c.L) c.G c.F) := Lib.hid (fun w0 c h => (HD1.out w0 c h).newB ZB.toArray 96 rfl)
   have HO2 := Lib.hid (HO1.out.alloc (.cells ZB.toArray 96))
   generalize hzn : ws.heap.size = bn at *
   clear hzn
   clear HD1 HO1
   generalize ws.alloc (.cells ZB.toArray 96) = wa at *
   clear ws
   obtain ⟨ws, rfl⟩ : ∃ x, x = wa := ⟨_, rfl⟩
   refine hK.out _ _ trivial (fun hSn => ?_)
   clear hK K hSw0
   have hSw0 := hSn
   clear hSn
   refine Kn.takeR 1 ⟨some 11, _, _, _, _, _⟩ fun K hK => ?_
   have hmk := HMB.out
   go_simp
   clear hmk
   have HD3 : Hid (∀ (w0 : World) (c : Fr3), Wc w0 w c.L c.G c.F → Wc w0 (ws.alloc (.cells ZB.toArray 96)) ((ws.heap.size, ZB) :: (bn, ZB) :: (bf, ZF) :: c.L) c.G c.F) := Lib.hid (fun w0 c h => (HD2.out w0 c h).newB ZB.toArray 96 rfl)
   have HO3 := Lib.hid (HO2.out.alloc (.cells ZB.toArray 96))
   generalize hzs : ws.heap.size = bs at *
   clear hzs
   clear HD2 HO2
   generalize ws.alloc (.cells ZB.toArray 96) = wa at *
   clear ws
   obtain ⟨ws, rfl⟩ : ∃ x, x = wa := ⟨_, rfl⟩
   refine hK.out _ _ trivial (fun hSn => ?_)
   clear hK K hSw0
   have hSw0 := hSn
   clear hSn
   refine Kn.takeS 6 ⟨some 16, _, _, _, _, _⟩ ?_
   refine Kn.takeR 7 ⟨some 17, _, _, _, _, _⟩ fun K hK => ?_
   go_simp
   have HD4 : Hid (∀ (w0 : World) (c : Fr3), Wc w0 w c.L c.G c.F → Wc w0 (ws.alloc (.cells #[.slice (some ⟨bs, 0, none⟩) n n, .slice (some ⟨bn, 0, none⟩) n n, .slice none 0 0, .slice (some ⟨bf, 0, none⟩) n n, .int .i64 (-1), .int .i64 0, .bool false] 83)) ((ws.heap.size, [.slice (some ⟨bs, 0, none⟩) n n, .slice (some ⟨bn, 0, none⟩) n n, .slice none 0 0, .slice (some ⟨bf, 0, none⟩) n n, .int .i64 (-1), .int .i64 0, .bool false]) :: (bs, ZB) :: (bn, ZB) :: (bf, ZF) :: c.L) c.G c.F) := Lib.hid (fun w0 c h => (HD3.out w0 c h).newB #[.slice (some ⟨bs, 0, none⟩) n n, .slice (some ⟨bn, 0, none⟩) n n, .slice none 0 0, .slice (some ⟨bf, 0, none⟩) n n, .int .i64 (-1), .int .i64 0, .bool false] 83 rfl)
   have HO4 := Lib.hid (HO3.out.alloc (.cells #[.slice (some ⟨bs, 0, none⟩) n n, .slice (some ⟨bn, 0, none⟩) n n, .slice none 0 0, .slice (some ⟨bf, 0, none⟩) n n, .int .i64 (-1), .int .i64 0, .bool false] 83))
   generalize hzD : ws.heap.size = bD at *
   clear hzD
   clear HD3 HO3
   generalize ws.alloc (.cells #[.slice (some ⟨bs, 0, none⟩) n n, .slice (some ⟨bn, 0, none⟩) n n, .slice none 0 0, .slice (some ⟨bf, 0, none⟩) n n, .int .i64 (-1), .int .i64 0, .bool false] 83) = wa at *
   clear ws
   obtain ⟨ws, rfl⟩ : ∃ x, x = wa := ⟨_, rfl⟩
   refine hK.out _ _ trivial (fun hSn => ?_)
   clear hK K hSw0
   have hSw0 := hSn
   clear hSn
   refine Kn.takeS 8 ⟨some 2, _, _, _, _, _⟩ ?_
   refine Kn.takeS 9 ⟨some 3, _, _, _, _, _⟩ ?_
   refine wpAnyH_done (by kernel_rfl) ?_ _
   clear hSw0
   go_wp2
   go_ret2
   refine NewP.mk (s := bs) (nn := bn) (f := bf) h1 h2 HO4.out h2 (fun w0 c hc => ?_)
   rw [HZB.out, HZF.out]
   exact (HD4.out w0 c hc).perm (List.Perm.refl _) (List.Perm.refl _)
  exact AllReadyH.nil
 exact AllReadyH.nil
end Go.Proofs.Ytgcfdjcpcclcjaa
namespace Go.Kn
open Go Go.RowKit
def is64 (b : List UInt8) : Bool := decide (b.length = 64)
theorem full64_eq (bl : List (List UInt8)) : full64 bl = bl.all is64 := rfl
theorem full_take {bl : List (List UInt8)} {j : Nat} (hj : j < bl.length) (h : full64 (bl.take j) = true) (hm : is64 bl[j] = true) : full64 (bl.take (j + 1)) = true := by
 rw [full64_eq] at *
 rw [List.take_succ_eq_append_getElem hj, List.all_append, h]
 simp [hm]
theorem full_no {bl : List (List UInt8)} {j : Nat} (hj : j < bl.length) (hm : is64 bl[j] = false) : full64 bl = false := by
 cases h : full64 bl with
 | false => rfl
 | true =>
  have := List.all_eq_true.1 h bl[j] (List.getElem_mem _)
  rw [show decide (bl[j].length = 64) = is64 bl[j] from rfl, hm] at this
  cases this
theorem loads_take {l : List It} {j : Nat} (hj : j < l.length) : loads (l.take (j + 1)) = loads (l.take j) + if l[j].loaded then 1 else 0 := by
 rw [List.take_succ_eq_append_getElem hj, loads_snoc]
theorem rcMay_head {r : Rc} (h : rcHeadMay r = false) : rcMay r = false := by unfold rcMay; rw [h]; rfl
theorem rcMay_its {r : Rc} {j : Nat} (hj : j < r.its.length) (h : r.its[j].may = false) : rcMay r = false := by
 have : r.its.all It.may = false := by
  cases h' : r.its.all It.may with
  | false => rfl
  | true =>
   have := List.all_eq_true.1 h' r.its[j] (List.getElem_mem _)
   rw [h] at this
   cases this
 unfold rcMay
 rw [this, Bool.false_and, Bool.and_false]
theorem rcMay_yes {r : Rc} (h : rcHeadMay r = true) (hi : r.its.all It.may = true) : rcMay r = (decide (r.bl.length = loads r.its) && full64 r.bl) := by
 unfold rcMay
 rw [h, hi]
 rfl
end Go.Kn
namespace Go.Proofs.Ytgcfdjcpcclcjaa
open Go Go.RowKit Go.Kn
theorem rec_within_any (n lo hi : Int) (w : World) : Calls Try.prog 94 #[.int .i64 n, .int .i64 lo, .int .i64 hi] w fun e w' => e = .returned (.bool (decide (lo ≤ n ∧ n ≤ hi))) ∧ w = w' := by
  go_enter Try.func94, Try.ntmps94
  by_cases h1 : lo ≤ n <;> by_cases h2 : n ≤ hi <;>
  (go_wp2
   go_ret
   exact ⟨by simp [*], rfl⟩)
theorem rec_is64_any (A : Option Addr) (n c : Nat) (b : List UInt8) (w : World) (h : Bys w A n c b) : Calls Try.prog 96 #[.slice A n c] w fun e w' => e = .returned (.bool (!is64 b)) ∧ w = w' := by
 have hl := h.len
 rw [bvs_length] at hl
 have e1 : ((n : Int) != 64) = !is64 b := by unfold is64; rw [hl]; by_cases hn : n = 64 <;> simp [hn] <;> omega
 generalize is64 b = q at *
 have HE := Lib.hid e1
 clear e1 hl h
 go_enter Try.func96, Try.ntmps96
 go_wp2
 go_ret
 exact ⟨by rw [← HE.out]; rfl, rfl⟩
set_option maxRecDepth 100000 in
set_option maxHeartbeats 2000000 in
theorem rec_index_any (A : Option Addr) (n c : Nat) (bl : List (List UInt8)) (w : World) (hi : Blks w A n c bl) :
  Calls Try.prog 99 #[.slice A n c, .func (.func 96) #[] #[]] w fun e w' => ∃ r : Int, e = .returned (.int .i64 r) ∧ decide (0 ≤ r) = !(full64 bl) ∧ w = w' := by
 have hlen := hi.len
 have hcm := hi.cm
 have hcl := hi.le
 unfold maxLen at hcm
 have HI := Lib.hid hi
 have HL := Lib.hid hlen
 clear hi hlen
 have eg : ∀ args w, (callFunc 96 args).run Try.prog w = .ok (.enter 96 args) w := enters_of Try.func96 (by kernel_rfl) rfl
 go_enter Try.func99, Try.ntmps99
 go_wp2_with fail
 go_loopg [5, 8] n (fun r _ i wr => ∃ j : Nat, j + r = n ∧ i = .int .i64 j ∧ w = wr ∧ full64 (bl.take j) = true)
 case atStart => exact ⟨0, by omega, rfl, rfl, by simp [full64]⟩
 obtain ⟨j, hj, rfl, rfl, hal⟩ := hrel
 have HAL := Lib.hid hal
 clear hal
 by_cases hlt : j < n
 ·have hjz : j < bl.length := by rw [HL.out]; exact hlt
  obtain ⟨a, o, B, m, d, rfl, c0, hb⟩ := HI.out.at_ j hlt
  have HB := Lib.hid hb
  clear hb
  cases hm : is64 bl[j]
  ·have HM := Lib.hid hm
   clear hm
   generalize hz : bl[j] = z at *
   have HZ := Lib.hid hz
   clear hz
   go_wp2_with fail
   refine (rec_is64_any B m d z _ HB.out).mono ?_
   rintro e w2 ⟨rfl, rfl⟩
   rw [HM.out]
   go_wp2
   go_ret
   exact ⟨_, rfl, by rw [full_no hjz (by rw [HZ.out]; exact HM.out)]; simp, rfl⟩
  ·have HM := Lib.hid hm
   clear hm
   generalize hz : bl[j] = z at *
   have HZ := Lib.hid hz
   clear hz
   go_wp2_with fail
   refine (rec_is64_any B m d z _ HB.out).mono ?_
   rintro e w2 ⟨rfl, rfl⟩
   rw [HM.out]
   go_wp2
   go_roundg (gk - 1)
   case measure => omega
   case rel => exact ⟨j + 1, by omega, by go_num, rfl, full_take hjz HAL.out (by rw [HZ.out]; exact HM.out)⟩
 ·obtain rfl : j = n := by omega
  have hfull : bl.take j = bl := List.take_of_length_le (by rw [HL.out]; omega)
  have hal := HAL.out
  rw [hfull] at hal
  have HAL' := Lib.hid hal
  clear hal hfull
  go_wp2
  go_ret
  exact ⟨_, rfl, by rw [HAL'.out]; simp, rfl⟩
set_option maxRecDepth 100000 in
theorem rec_contains_any (A : Option Addr) (n c : Nat) (bl : List (List UInt8)) (w : World) (hi : Blks w A n c bl) :
  Calls Try.prog 95 #[.slice A n c, .func (.func 96) #[] #[]] w fun e w' => e = .returned (.bool (!(full64 bl))) ∧ w = w' := by
 have HI := Lib.hid hi
 clear hi
 obtain ⟨b, hb⟩ : ∃ b, full64 bl = b := ⟨_, rfl⟩
 have HB := Lib.hid hb
 rw [hb]
 clear hb
 go_enter Try.func95, Try.ntmps95
 go_wp2_with fail
 refine (rec_index_any A n c bl _ HI.out).mono ?_
 rintro e w' ⟨r, rfl, hr, rfl⟩
 rw [HB.out] at hr
 have HR := Lib.hid hr
 clear hr
 go_wp2
 go_ret
 exact ⟨by simp [HR.out], rfl⟩
set_option maxRecDepth 100000 in
set_option maxHeartbeats 8000000 in
theorem rec_may_no (m n p : Int) (A : Option Addr) (na ca : Nat) (B : Option Addr) (nb cb : Nat) (w : World) (ha : na ≤ ca) (hb : ca ≤ maxLen)
    (h : (decide (1 ≤ m ∧ m ≤ 2147483647) && (decide (1 ≤ n ∧ n ≤ 2147483647) && (decide (0 ≤ p ∧ p ≤ 4294967295) && decide (1 ≤ (na : Int) ∧ (na : Int) ≤ 6)))) = false) :
    Calls Try.prog 82 #[.agg #[.int .i64 m, .int .i64 n, .int .i64 p, .slice A na ca, .slice B nb cb]] w fun e w' => e = .returned (.bool false) ∧ Only [] w w' := by
  unfold maxLen at hb
  obtain ⟨b1, h1⟩ : ∃ b, decide (1 ≤ m ∧ m ≤ 2147483647) = b := ⟨_, rfl⟩
  obtain ⟨b2, h2⟩ : ∃ b, decide (1 ≤ n ∧ n ≤ 2147483647) = b := ⟨_, rfl⟩
  obtain ⟨b3, h3⟩ : ∃ b, decide (0 ≤ p ∧ p ≤ 4294967295) = b := ⟨_, rfl⟩
  obtain ⟨b4, h4⟩ : ∃ b, decide (1 ≤ (na : Int) ∧ (na : Int) ≤ 6) = b := ⟨_, rfl⟩
  rw [h1, h2, h3, h4] at h
  have H1 := Lib.hid h1
  have H2 := Lib.hid h2
  have H3 := Lib.hid h3
  have H4 := Lib.hid h4
  clear h1 h2 h3 h4
  cases b1 <;> cases b2 <;> cases b3 <;> cases b4 <;> first
    | (exact absurd h (by decide))
    | (clear h
       go_enter Try.func82, Try.ntmps82
       go_wp2_with (first | (go_at_call 94; refine (rec_within_any _ _ _ _).mono ?_; rintro e w' ⟨rfl, rfl⟩; first | rw [H1.out] | rw [H2.out] | rw [H3.out] | rw [H4.out]))
       go_ret
       exact ⟨rfl, (Only.refl _ _).alloc _⟩)
set_option maxRecDepth 100000 in
set_option maxHeartbeats 8000000 in
theorem rec_may_yes (m n p : Int) (A : Option Addr) (na ca : Nat) (its : List It) (B : Option Addr) (nb cb : Nat) (bl : List (List UInt8)) (w : World) (hi : Its w A na ca its) (hj : Blks w B nb cb bl)
  (h : rcHeadMay ⟨m, n, p, its, bl⟩ = true) :
  Calls Try.prog 82 #[.agg #[.int .i64 m, .int .i64 n, .int .i64 p, .slice A na ca, .slice B nb cb]] w fun e w' => e = .returned (.bool (rcMay ⟨m, n, p, its, bl⟩)) ∧ Only [] w w' := by
 have hlen := hi.len
 have hcm := hi.cm
 have hcl := hi.le
 have hln := hj.len
 have hdm := hj.cm
 have hdl := hj.le
 unfold maxLen at hcm hdm
 have h' := h
 unfold rcHeadMay at h'
 simp only [Bool.and_eq_true, decide_eq_true_eq] at h'
 have h1 : decide (1 ≤ m ∧ m ≤ 2147483647) = true := by simp; omega
 have h2 : decide (1 ≤ n ∧ n ≤ 2147483647) = true := by simp; omega
 have h3 : decide (0 ≤ p ∧ p ≤ 4294967295) = true := by simp; omega
 have h4 : decide (1 ≤ (na : Int) ∧ (na : Int) ≤ 6) = true := by simp; omega
 have hna : na ≤ 6 := by omega
 have HX := Lib.hid (And.intro h1 (And.intro h2 (And.intro h3 h4)))
 have HI := Lib.hid hi
 have HJ := Lib.hid hj
 have HL := Lib.hid hlen
 have HLB := Lib.hid hln
 have HH := Lib.hid h
 clear h1 h2 h3 h4 h' h hi hj hlen hln
 go_enter Try.func82, Try.ntmps82
 go_upto_region 3 with (first | (go_at_call 94; refine (rec_within_any _ _ _ _).mono ?_; rintro e w' ⟨rfl, rfl⟩; first | rw [HX.out.1] | rw [HX.out.2.1] | rw [HX.out.2.2.1] | rw [HX.out.2.2.2]))
 have hO0 := (Only.refl [] w).alloc (.cells #[.int .i64 m, .int .i64 n, .int .i64 p, .slice A na ca, .slice B nb cb] 117)
 have hbx := Own.new w #[.int .i64 m, .int .i64 n, .int .i64 p, .slice A na ca, .slice B nb cb] 117
 have x3 := hbx.cell 3 (by simp)
 have x4 := hbx.cell 4 (by simp)
 simp only [List.getElem_cons_zero, List.getElem_cons_succ] at x3 x4
 generalize w.alloc (.cells #[.int .i64 m, .int .i64 n, .int .i64 p, .slice A na ca, .slice B nb cb] 117) = w1 at *
 have HO := Lib.hid hO0
 have X4 := Lib.hid x4
 clear hO0 hbx x4
 go_wp2_with fail
 clear x3
 go_loopg [3, 32] na (fun r ld i wr => ∃ j : Nat, j + r = na ∧ ld = .int .i64 (loads (its.take j) : Nat) ∧ i = .int .i64 j ∧ Only [] w1 wr ∧ (its.take j).all It.may = true)
 case atStart => exact ⟨0, by omega, by simp [loads], rfl, Only.refl _ _, by simp⟩
 obtain ⟨j, hj, rfl, rfl, hO, hal⟩ := hrel
 have HO1 := Lib.hid hO
 have HAL := Lib.hid hal
 have hld := loads_le (its.take j)
 rw [List.length_take] at hld
 clear hO hal
 by_cases hlt : j < na
 ·have hjz : j < its.length := by rw [HL.out]; exact hlt
  obtain ⟨a, o, rfl, hc⟩ := HI.out.at_ (by omega)
  obtain ⟨q0, q1, q2, q3⟩ := hc j hjz
  have c0 := HO1.out.cell (HO.out.cell q0 (by simp)) (by simp)
  have c1 := HO1.out.cell (HO.out.cell q1 (by simp)) (by simp)
  have c2 := HO1.out.cell (HO.out.cell q2 (by simp)) (by simp)
  have c3 := HO1.out.cell (HO.out.cell q3 (by simp)) (by simp)
  have HIT : Hid (its[j] = ⟨its[j].k, its[j].b, its[j].c, its[j].v⟩) := Lib.hid rfl
  have HLT := Lib.hid (loads_take hjz)
  clear hc q0 q1 q2 q3
  cases hm : its[j].may
  ·have HM := Lib.hid hm
   clear hm
   generalize hik : its[j].k = ik at *
   generalize hib : its[j].b = ib at *
   generalize hic : its[j].c = ic at *
   generalize hiv : its[j].v = iv at *
   have HME : Hid (It.may ⟨ik, ib, ic, iv⟩ = false) := Lib.hid (by rw [← HIT.out]; exact HM.out)
   clear hik hib hic hiv
   go_wp2_with fail
   refine (item_may_any ik ib ic iv _).mono ?_
   rintro e w2 ⟨rfl, hO2⟩
   rw [HME.out]
   go_wp2
   go_ret
   exact ⟨by rw [rcMay_its (r := ⟨m, n, p, its, bl⟩) hjz HM.out]; rfl, (HO.out.trans' (HO1.out.alloc _)).trans' hO2⟩
  ·have HM := Lib.hid hm
   clear hm
   obtain ⟨q, hq⟩ : ∃ q, its[j].loaded = q := ⟨_, rfl⟩
   have HQ := Lib.hid hq
   clear hq
   generalize hik : its[j].k = ik at *
   generalize hib : its[j].b = ib at *
   generalize hic : its[j].c = ic at *
   generalize hiv : its[j].v = iv at *
   have HME : Hid (It.may ⟨ik, ib, ic, iv⟩ = true) := Lib.hid (by rw [← HIT.out]; exact HM.out)
   have HQE : Hid (It.loaded ⟨ik, ib, ic, iv⟩ = q) := Lib.hid (by rw [← HIT.out]; exact HQ.out)
   clear hik hib hic hiv
   go_wp2_with fail
   refine (item_may_any ik ib ic iv _).mono ?_
   rintro e w2 ⟨rfl, hO2⟩
   rw [HME.out]
   have x0 := hO2.cell (p := ⟨wr.heap.size, 0, none⟩) (v := .int .i64 ik) (by simp) (by simp)
   have x1 := hO2.cell (p := ⟨wr.heap.size, 1, none⟩) (v := .int .i64 ib) (by simp) (by simp)
   have x2 := hO2.cell (p := ⟨wr.heap.size, 2, none⟩) (v := .int .i64 ic) (by simp) (by simp)
   have x3 := hO2.cell (p := ⟨wr.heap.size, 3, none⟩) (v := .int .i64 iv) (by simp) (by simp)
   have HO2 := Lib.hid ((HO1.out.alloc (.cells #[.int .i64 ik, .int .i64 ib, .int .i64 ic, .int .i64 iv] 47)).trans' hO2)
   clear hO2 c0 c1 c2 c3
   generalize hlv : loads (its.take j) = lv at *
   have hl9 : lv ≤ 6 := by omega
   cases q
   ·go_wp2_with fail
    refine (item_loaded_any ik ib ic iv _).mono ?_
    rintro e w3 ⟨rfl, hO3⟩
    rw [HQE.out]
    have HO3 := Lib.hid (HO2.out.trans' hO3)
    clear hO3 x0 x1 x2 x3
    go_wp2
    go_roundg (gk - 1)
    case measure => omega
    case rel => exact ⟨j + 1, by omega, by rw [HLT.out, HQ.out]; rfl, by go_num, HO3.out, all_take hjz HAL.out HM.out⟩
   ·go_wp2_with fail
    refine (item_loaded_any ik ib ic iv _).mono ?_
    rintro e w3 ⟨rfl, hO3⟩
    rw [HQE.out]
    have HO3 := Lib.hid (HO2.out.trans' hO3)
    clear hO3 x0 x1 x2 x3
    go_wp2
    go_roundg (gk - 1)
    case measure => omega
    case rel => exact ⟨j + 1, by omega, by rw [HLT.out, HQ.out, if_pos rfl]; go_num, by go_num, HO3.out, all_take hjz HAL.out HM.out⟩
 ·obtain rfl : j = na := by omega
  have hfull : its.take j = its := List.take_of_length_le (by rw [HL.out]; omega)
  have hal := HAL.out
  rw [hfull] at hal hld ⊢
  have HAL' := Lib.hid hal
  have HY := Lib.hid (rcMay_yes (r := ⟨m, n, p, its, bl⟩) HH.out HAL'.out)
  have x4 := HO1.out.cell X4.out (by simp)
  have hlb := HLB.out
  generalize hlv : loads its = lv at *
  have HLV := Lib.hid hlv
  have hl9 : lv ≤ 6 := by omega
  have hd : decide (bl.length = lv) = decide (nb = lv) := by rw [hlb]
  have HD := Lib.hid hd
  clear hal hfull hlv hd hlb
  obtain ⟨q, hq⟩ : ∃ q, full64 bl = q := ⟨_, rfl⟩
  have HQ := Lib.hid hq
  clear hq
  by_cases hnl : nb = lv
  ·have hn1 : ((nb : Int) == (lv : Int)) = true := by simp; omega
   have HNL := Lib.hid hnl
   clear hnl
   go_wp2_with fail
   refine (rec_contains_any B nb cb bl _ (by exact (HJ.out.keep0 HO.out).keep0 HO1.out)).mono ?_
   rintro e w3 ⟨rfl, rfl⟩
   rw [HQ.out]
   go_wp2
   go_ret
   refine ⟨?_, HO.out.trans' HO1.out⟩
   rw [HY.out, HD.out, HQ.out, decide_eq_true HNL.out]
   simp
  ·have hn1 : ((nb : Int) == (lv : Int)) = false := by simp; omega
   have HNL := Lib.hid hnl
   clear hnl
   go_wp2_with fail
   go_ret
   refine ⟨?_, HO.out.trans' HO1.out⟩
   rw [HY.out, HD.out, decide_eq_false HNL.out]
   simp
theorem rec_may_any (m n p : Int) (A : Option Addr) (na ca : Nat) (its : List It) (B : Option Addr) (nb cb : Nat) (bl : List (List UInt8)) (w : World) (hi : Its w A na ca its) (hj : Blks w B nb cb bl) :
  Calls Try.prog 82 #[.agg #[.int .i64 m, .int .i64 n, .int .i64 p, .slice A na ca, .slice B nb cb]] w fun e w' => e = .returned (.bool (rcMay ⟨m, n, p, its, bl⟩)) ∧ Only [] w w' := by
 cases h : rcHeadMay ⟨m, n, p, its, bl⟩ with
 | true => exact rec_may_yes m n p A na ca its B nb cb bl w hi hj h
 | false =>
  rw [rcMay_head h]
  refine rec_may_no m n p A na ca B nb cb w hi.le hi.cm ?_
  have hl := hi.len
  have e : decide (1 ≤ its.length ∧ its.length ≤ 6) = decide (1 ≤ (na : Int) ∧ (na : Int) ≤ 6) := by rw [hl]; congr 1; simp only [eq_iff_iff]; omega
  rw [← e]
  exact h
end Go.Proofs.Ytgcfdjcpcclcjaa
namespace Go.Kn
open Go Go.RowKit
theorem fit_cons {n : Nat} {z : Int} {zs : List Int} : Fit n (z :: zs) ↔ (0 ≤ z ∧ z < 256 ^ n) ∧ Fit n zs := by simp [Fit]
theorem fit_nil {n : Nat} : Fit n [] ↔ True := by simp [Fit]
end Go.Kn
namespace Go.Kn
open Go Go.RowKit
/-- what lays a record answers -/
def EncRc (w : World) (o : Option (List UInt8 × Nat)) (err : Int) (e : Ending) (w' : World) : Prop :=
 (o = none ∧ e = .returned (.tuple #[.slice none 0 0, .int .i64 0, .int .i64 err]) ∧ Only [] w w') ∨
 ∃ bs s g c, o = some (bs, s) ∧ e = .returned (.tuple #[.slice (some ⟨g, 0, none⟩) bs.length c, .int .i64 (s : Nat), .int .i64 0]) ∧ bs.length ≤ c ∧ c ≤ maxLen ∧ w.heap.size ≤ g ∧ Own w' g (bvs bs) ∧ Only [] w w'
theorem EncRc.no {w w' : World} {o : Option (List UInt8 × Nat)} {err : Int} (h : o = none) (hO : Only [] w w') : EncRc w o err (.returned (.tuple #[.slice none 0 0, .int .i64 0, .int .i64 err])) w' := .inl ⟨h, rfl, hO⟩
theorem EncRc.of_none {w w' : World} {err : Int} {e : Ending} (h : EncRc w none err e w') : e = .returned (.tuple #[.slice none 0 0, .int .i64 0, .int .i64 err]) ∧ Only [] w w' := by
 rcases h with ⟨_, h⟩ | ⟨_, _, _, _, h, _⟩
 ·exact h
 ·cases h
theorem EncRc.of_some {w w' : World} {bs : List UInt8} {s : Nat} {err : Int} {e : Ending} (h : EncRc w (some (bs, s)) err e w') : ∃ g c, e = .returned (.tuple #[.slice (some ⟨g, 0, none⟩) bs.length c, .int .i64 (s : Nat), .int .i64 0]) ∧ bs.length ≤ c ∧ c ≤ maxLen ∧ w.heap.size ≤ g ∧ Own w' g (bvs bs) ∧ Only [] w w' := by
 rcases h with ⟨h, _⟩ | ⟨bs', s', g, c, h, rest⟩
 ·cases h
 ·injection h with h
  injection h with h1 h2
  subst h1 h2
  exact ⟨g, c, rest⟩
theorem blks_of_owns {w : World} {base e n : Nat} {v : Value} {sl : List (Option Addr × Nat × Nat)} {bl : List (List UInt8)} (h : w.ownsRow base e 1 v n (sl.map slv)) (hb : Bls w sl bl) (hB : base ≤ w.heap.size) : ∃ A c, v = .slice A n c ∧ Blks w A n c bl := by
 have hl := h.1
 have hg : Gath w base e v (sl.map slv) := ⟨by rw [hl, Nat.mul_one]; exact h, hB⟩
 obtain ⟨A, c, hv, hr, _⟩ := hg.formN (n := n) (by rw [hl, Nat.mul_one])
 exact ⟨A, c, hv, sl, hr, hb⟩
theorem Bls.only {w w' : World} {sl : List (Option Addr × Nat × Nat)} {bl : List (List UInt8)} {S : List Nat} (h : Bls w sl bl) (hO : Only S w w') (hs : ∀ s ∈ sl, 0 < s.2.1 → ∀ a, s.1 = some a → a.block ∉ S) : Bls w' sl bl :=
 ⟨h.1, fun i h1 h2 => (h.2 i h1 h2).keepP hO (fun h0 => hs _ (List.getElem_mem h1) h0)⟩
theorem Encs.keepS {S : List Nat} {w0 w w' : World} {p g k b : Nat} {X : List UInt8} {vs : List Value} (h : Encs w0 w p g k b X vs) (hO : Only S w w') (h1 : p ∉ S) (h2 : g ∉ S) (h3 : b ∉ S) (h4 : ∀ i ∈ S, w0.heap.size ≤ i) : Encs w0 w' p g k b X vs :=
 ⟨h.row.keep hO h1 h2, h.box.keep hO h3, h.only.trans hO (fun i hi => .inr (h4 i hi)), h.bp, h.bg, h.hp, h.hg⟩
/-- a slice that was just built of one-cell elements -/
theorem ownsRow_built (w : World) (e : Nat) (vs : List Value) (n : Nat) (hn : vs.length = n) (hm : n ≤ maxLen) : (w.alloc (.cells vs.toArray e)).ownsRow w.heap.size e 1 (.slice (some ⟨w.heap.size, 0, none⟩) n n) n vs :=
 ⟨by rw [hn, Nat.mul_one], .inr ⟨w.heap.size, n, vs.toArray, rfl, Nat.le_refl _, heap_alloc_new w _, Nat.le_refl _, hm, by simp [hn], by rw [Nat.mul_one, ← hn]; simp⟩⟩
/-- the row of a record, laid but for its sum -/
theorem rc_row {r : Rc} (h : r.its.length ≤ 6) : lay (List.replicate 64 0) 0 (cat (rcFs r) ++ itsB r.its) = rcHead r ++ List.replicate 4 0 := by
 unfold rcHead lay
 have hl : (cat (rcFs r) ++ itsB r.its).length = 16 + 7 * r.its.length := by rw [List.length_append, rcFs_len, itsB_length]
 rw [hl, List.take_zero, List.nil_append, List.drop_replicate, List.append_assoc, List.append_assoc, List.append_assoc, List.replicate_append_replicate]
 congr 3
 omega
theorem rc_sum {r : Rc} (h : r.its.length ≤ 6) (s : Nat) : lay (rcHead r ++ List.replicate 4 0) 60 (le 4 s) = rcHead r ++ le 4 s := by
 have hl := rcHead_length h
 unfold lay
 rw [List.take_left' hl, le_length, List.drop_of_length_le (by rw [List.length_append, hl, List.length_replicate]; decide), List.append_nil]
end Go.Kn
namespace Go.Proofs.Ytgcfdjcpcclcjaa
open Go Go.RowKit Go.Kn
theorem Try.infoBys : (Try.prog.info? 48).map (fun i => (i.zero, i.size, i.bytes)) = some (some (.slice none 0 0), 1, 24) := by kernel_rfl
set_option maxRecDepth 100000 in
set_option maxHeartbeats 16000000 in
theorem rec_enc_any (rm rn rp : Int) (A : Option Addr) (na ca : Nat) (its : List It) (B : Option Addr) (nb cb : Nat) (bl : List (List UInt8)) (w : World) (hi : Its w A na ca its) (hj : Blks w B nb cb bl) :
  Calls Try.prog 67 #[.agg #[.int .i64 rm, .int .i64 rn, .int .i64 rp, .slice A na ca, .slice B nb cb]] w (EncRc w (encRc ⟨rm, rn, rp, its, bl⟩) 1) := by
 have hlen := hi.len
 have hln := hj.len
 have hdl := hj.le
 have hdm := hj.cm
 have hcl := hi.le
 have hcm := hi.cm
 unfold maxLen at hcm hdm
 have HI := Lib.hid hi
 have HJ := Lib.hid hj
 have HL := Lib.hid hlen
 have HLB := Lib.hid hln
 have hO0 := (Only.refl [] w).alloc (.cells #[.int .i64 rm, .int .i64 rn, .int .i64 rp, .slice A na ca, .slice B nb cb] 117)
 have hbx := Own.new w #[.int .i64 rm, .int .i64 rn, .int .i64 rp, .slice A na ca, .slice B nb cb] 117
 obtain ⟨x0, x1, x2, x3, x4⟩ := Kn.own5 hbx
 clear hi hj hlen hln
 cases hm : rcMay ⟨rm, rn, rp, its, bl⟩
 ·have HM := Lib.hid hm
  clear hm
  go_enter Try.func67, Try.ntmps67
  go_upto_region 1 with fail
  generalize w.alloc (.cells #[.int .i64 rm, .int .i64 rn, .int .i64 rp, .slice A na ca, .slice B nb cb] 117) = w0 at *
  have HO0 := Lib.hid hO0
  clear hO0 hbx
  go_wp2_with fail
  refine (rec_may_any rm rn rp A na ca its B nb cb bl _ (by exact HI.out.keep0 HO0.out) (by exact HJ.out.keep0 HO0.out)).mono ?_
  rintro e w1 ⟨rfl, hO1⟩
  rw [HM.out]
  have HO1 := Lib.hid (HO0.out.trans' hO1)
  clear hO1 x0 x1 x2 x3 x4
  go_wp2
  go_ret3
  exact EncRc.no (by unfold encRc; rw [HM.out]; rfl) HO1.out
 ·obtain ⟨⟨hm1, hm2, hm3, hm4, hm5⟩, hal, hbn, hbf⟩ := rcMay_iff.1 hm
  have hld := loads_le its
  have hna : na ≤ 6 := by rw [← HL.out]; exact hm5
  have hnb : nb ≤ 6 := by
   have h1 := HLB.out
   simp only at hbn hm5
   omega
  have HF0 : Hid (Fit 1 [75, 82]) := Lib.hid (by simp only [fit_cons, fit_nil, Int.reducePow, and_true]; omega)
  have HF1 : Hid (Fit 4 [rm, rn, rp]) := Lib.hid (by simp only [fit_cons, fit_nil, Int.reducePow, and_true] at *; omega)
  have HF2 : Hid (Fit 1 [(na : Int), (nb : Int)]) := Lib.hid (by simp only [fit_cons, fit_nil, Int.reducePow, and_true]; omega)
  have HE : Hid (encItems its = some (itsB its)) := Lib.hid (by unfold encItems; rw [if_pos ⟨hm5, hal⟩])
  have HM := Lib.hid hm
  have HM5 := Lib.hid hm5
  obtain ⟨L, hL⟩ : ∃ L, (itsB its).length = L := ⟨_, rfl⟩
  have hL7 : L = 7 * na := by rw [← hL, itsB_length, HL.out]
  have hL42 : L ≤ 42 := by omega
  have HLL := Lib.hid hL
  clear hm hal hbn hbf hm1 hm2 hm3 hm4 hm5 hL hL7
  go_enter Try.func67, Try.ntmps67
  go_upto_region 1 with fail
  generalize hbb : w.heap.size = b at *
  have HSZ : Hid (w.heap.size ≤ b) := Lib.hid (by omega)
  have HBB := Lib.hid hbb
  generalize w.alloc (.cells #[.int .i64 rm, .int .i64 rn, .int .i64 rp, .slice A na ca, .slice B nb cb] 117) = w0 at *
  have HO0 := Lib.hid hO0
  clear hO0 hbb
  go_wp2_with fail
  refine (rec_may_any rm rn rp A na ca its B nb cb bl _ (by exact HI.out.keep0 HO0.out) (by exact HJ.out.keep0 HO0.out)).mono ?_
  rintro e w1 ⟨rfl, hO1⟩
  rw [HM.out]
  have HB1 := Lib.hid (hbx.keep0 hO1)
  have HO1 := Lib.hid (HO0.out.trans' hO1)
  clear hO1 x0 x1 x2 x3 x4 hbx HO0
  have x3 := HB1.out.cell 3 (by simp)
  simp only [List.getElem_cons_zero, List.getElem_cons_succ] at x3
  go_wp2_with fail
  refine (item_enc_any A na ca its _ (by exact HI.out.keep0 HO1.out)).mono ?_
  rintro e w2 ⟨A2, c2, rfl, hb2, hn2, hO2⟩
  rw [HE.out] at hb2 ⊢
  simp only [Option.getD_some, Option.isSome_some, if_true] at hb2 ⊢
  rw [HLL.out] at hb2 ⊢
  have HB2 := Lib.hid (HB1.out.keep0 hO2)
  have HO2 := Lib.hid (HO1.out.trans' hO2)
  have HIB2 := Lib.hid hb2
  have hcL := hb2.le
  have hcM := hb2.cm
  unfold maxLen at hcM
  clear hb2 hn2 hO2 x3 HB1 HO1
  go_wp2_with fail
  refine (new_any 64 _ (by decide) (by decide)).mono ?_
  rintro e w3 ⟨p, g, rfl, hp, hg, hr, hO⟩
  rw [show (List.replicate (Int.toNat 64) (0 : UInt8)) = List.replicate 64 0 from rfl] at hr
  have hz : (List.replicate 64 (0 : UInt8)).length = 64 := by rw [List.length_replicate]
  have HRW := Lib.hid (rc_row (r := ⟨rm, rn, rp, its, bl⟩) HM5.out)
  generalize List.replicate 64 (0 : UInt8) = zr at *
  have HZ := Lib.hid hz
  have HS : Hid (Encs w w3 p g 0 b zr [.int .i64 rm, .int .i64 rn, .int .i64 rp, .slice A na ca, .slice B nb cb]) := Lib.hid (Encs.start HB2.out HO2.out hp hg hr hO)
  have HIB3 := Lib.hid (HIB2.out.keep0 hO)
  have HNE : Hid (0 < L → ∀ a, A2 = some a → a.block ≠ p ∧ a.block ≠ g) := Lib.hid (fun h0 a ha => by have := HIB2.out.block_lt h0 a ha; omega)
  clear hr hO hp hg hz HB2 HO2 HIB2
  have HIB := HIB3
  clear HIB3
  have HX := HZ
  go_wp2_with fail
  refine (put_any p g 0 zr 1 _ 2 2 [75, 82] _ (by exact HS.out.row.alloc _) (by exact ins_built _ [75, 82] _ 2 rfl (by omega)) (by exact ne_built HS.out.row) (by decide) (by rw [HX.out]; omega) HF0.out).mono ?_
  rintro e w4 ⟨rfl, hr, hO⟩
  have hO' := ((Only.refl [p, g] w3).alloc (.cells ([75, 82].map (Value.int .i64)).toArray 3)).trans' hO
  have HIBn := Lib.hid (HIB.out.keepP hO' (fun h0 a ha => by have := HNE.out h0 a ha; simp [this.1, this.2]))
  rw [show lay zr 0 (les 1 [75, 82]) = lay zr 0 (cat [(1, 75), (1, 82)]) from rfl] at hr
  have HSn : Hid (Encs w w4 p g 2 b (lay zr 0 (cat [(1, 75), (1, 82)])) [.int .i64 rm, .int .i64 rn, .int .i64 rp, .slice A na ca, .slice B nb cb]) := Lib.hid ((HS.out.alloc _).put hr hO)
  clear hr hO hO' HS HIB HX
  have HS := HSn
  have HIB := HIBn
  clear HSn HIBn
  have HX : Hid ((lay zr 0 (cat [(1, 75), (1, 82)])).length = 64) := Lib.hid (by rw [lay_length _ _ _ (by rw [cat_length, HZ.out]; decide), HZ.out])
  have HLC := Lib.hid (lay_cat zr [(1, 75), (1, 82)] 2 4 [rm, rn, rp] rfl (by rw [HZ.out]; show (14 : Nat) ≤ 64; decide))
  generalize lay zr 0 (cat [(1, 75), (1, 82)]) = X1 at *
  obtain ⟨x0, x1, x2⟩ := Kn.own3 HS.out.box
  go_wp2_with fail
  refine (put_any p g 2 X1 4 _ 3 3 [rm, rn, rp] _ (by exact HS.out.row.alloc _) (by exact ins_built _ [rm, rn, rp] _ 3 rfl (by omega)) (by exact ne_built HS.out.row) (by decide) (by rw [HX.out]; omega) HF1.out).mono ?_
  rintro e w5 ⟨rfl, hr, hO⟩
  have hO' := ((Only.refl [p, g] w4).alloc (.cells ([rm, rn, rp].map (Value.int .i64)).toArray 3)).trans' hO
  have HIBn := Lib.hid (HIB.out.keepP hO' (fun h0 a ha => by have := HNE.out h0 a ha; simp [this.1, this.2]))
  rw [HLC.out] at hr
  have HSn : Hid (Encs w w5 p g 14 b (lay zr 0 (cat ([(1, 75), (1, 82)] ++ [rm, rn, rp].map fun z => (4, z)))) [.int .i64 rm, .int .i64 rn, .int .i64 rp, .slice A na ca, .slice B nb cb]) := Lib.hid ((HS.out.alloc _).put hr hO)
  clear hr hO hO' HS HIB HX
  have HS := HSn
  have HIB := HIBn
  clear HSn HIBn
  clear HLC x0 x1 x2
  have HX : Hid ((lay zr 0 (cat ([(1, 75), (1, 82)] ++ [rm, rn, rp].map fun z => (4, z)))).length = 64) := Lib.hid (by rw [lay_length _ _ _ (by rw [cat_length, HZ.out]; show (14 : Nat) ≤ 64; decide), HZ.out])
  have HLC := Lib.hid (lay_cat zr ([(1, 75), (1, 82)] ++ [rm, rn, rp].map fun z => (4, z)) 14 1 [(na : Int), (nb : Int)] rfl (by rw [HZ.out]; show (16 : Nat) ≤ 64; decide))
  have HFS : Hid (([(1, 75), (1, 82)] ++ [rm, rn, rp].map fun z => (4, z)) ++ [(na : Int), (nb : Int)].map (fun z => (1, z)) = rcFs ⟨rm, rn, rp, its, bl⟩) := Lib.hid (by unfold rcFs; rw [HL.out, HLB.out]; rfl)
  generalize lay zr 0 (cat ([(1, 75), (1, 82)] ++ [rm, rn, rp].map fun z => (4, z))) = X2 at *
  have x3 := HS.out.box.cell 3 (by simp)
  have x4 := HS.out.box.cell 4 (by simp)
  simp only [List.getElem_cons_zero, List.getElem_cons_succ] at x3 x4
  go_wp2_with fail
  refine (put_any p g 14 X2 1 _ 2 2 [(na : Int), (nb : Int)] _ (by exact HS.out.row.alloc _) (by exact ins_built _ [(na : Int), (nb : Int)] _ 2 rfl (by omega)) (by exact ne_built HS.out.row) (by decide) (by rw [HX.out]; omega) HF2.out).mono ?_
  rintro e w6 ⟨rfl, hr, hO⟩
  have hO' := ((Only.refl [p, g] w5).alloc (.cells ([(na : Int), (nb : Int)].map (Value.int .i64)).toArray 3)).trans' hO
  have HIBn := Lib.hid (HIB.out.keepP hO' (fun h0 a ha => by have := HNE.out h0 a ha; simp [this.1, this.2]))
  rw [HLC.out, HFS.out] at hr
  have HSn : Hid (Encs w w6 p g 16 b (lay zr 0 (cat (rcFs ⟨rm, rn, rp, its, bl⟩))) [.int .i64 rm, .int .i64 rn, .int .i64 rp, .slice A na ca, .slice B nb cb]) := Lib.hid ((HS.out.alloc _).put hr hO)
  clear hr hO hO' HS HIB HX
  have HS := HSn
  have HIB := HIBn
  clear HSn HIBn
  clear HLC HFS x3 x4
  have hcl16 : (cat (rcFs ⟨rm, rn, rp, its, bl⟩)).length = 16 := rcFs_len _
  have HX : Hid ((lay zr 0 (cat (rcFs ⟨rm, rn, rp, its, bl⟩))).length = 64) := Lib.hid (by rw [lay_length _ _ _ (by rw [hcl16, HZ.out]; decide), HZ.out])
  have HLI : Hid (lay (lay zr 0 (cat (rcFs ⟨rm, rn, rp, its, bl⟩))) 16 (itsB its) = rcHead ⟨rm, rn, rp, its, bl⟩ ++ List.replicate 4 0) := Lib.hid (by
   have e := lay_lay zr 0 (cat (rcFs ⟨rm, rn, rp, its, bl⟩)) (itsB its) (by rw [hcl16, HLL.out, HZ.out]; omega)
   rw [hcl16, Nat.zero_add] at e
   rw [e]
   exact HRW.out)
  clear hcl16
  generalize lay zr 0 (cat (rcFs ⟨rm, rn, rp, its, bl⟩)) = X3 at *
  go_wp2_with fail
  refine (lay_any p g 16 X3 A2 L c2 (itsB its) _ (by exact HS.out.row) (by exact HIB.out) (by rw [HX.out]; omega)).mono ?_
  rintro e w7 ⟨rfl, hr, hO⟩
  rw [HLI.out] at hr
  have hl60 := rcHead_length (r := ⟨rm, rn, rp, its, bl⟩) HM5.out
  have HRS := Lib.hid (rc_sum (r := ⟨rm, rn, rp, its, bl⟩) HM5.out (rcSum ⟨rm, rn, rp, its, bl⟩))
  have hs32 : rcSum ⟨rm, rn, rp, its, bl⟩ < 4294967296 := csum_lt _
  have hsm : csum (rcHead ⟨rm, rn, rp, its, bl⟩ :: bl).flatten = rcSum ⟨rm, rn, rp, its, bl⟩ := by rw [List.flatten_cons]; rfl
  have hrb : rcHead ⟨rm, rn, rp, its, bl⟩ ++ le 4 (rcSum ⟨rm, rn, rp, its, bl⟩) ++ bl.flatten = rcBytes ⟨rm, rn, rp, its, bl⟩ := by unfold rcBytes; rw [List.append_assoc]
  have hX4 : (rcHead ⟨rm, rn, rp, its, bl⟩ ++ List.replicate 4 0).length = 64 := by rw [List.length_append, hl60, List.length_replicate]
  have hT4 : (rcHead ⟨rm, rn, rp, its, bl⟩ ++ List.replicate 4 0).take 60 = rcHead ⟨rm, rn, rp, its, bl⟩ := List.take_left' hl60
  have HSn : Hid (Encs w w7 p g (16 + L) b (rcHead ⟨rm, rn, rp, its, bl⟩ ++ List.replicate 4 0) [.int .i64 rm, .int .i64 rn, .int .i64 rp, .slice A na ca, .slice B nb cb]) := Lib.hid (HS.out.put hr hO)
  clear hr hO HS HIB HX HLI
  have HS := HSn
  clear HSn
  have HX4 := Lib.hid hX4
  have HT4 := Lib.hid hT4
  have HL60 := Lib.hid hl60
  clear hX4 hT4 hl60
  rw [← HT4.out] at hsm
  have hrl := rcBytes_length (r := ⟨rm, rn, rp, its, bl⟩) HM.out
  have HENC : Hid (encRc ⟨rm, rn, rp, its, bl⟩ = some (rcBytes ⟨rm, rn, rp, its, bl⟩, rcSum ⟨rm, rn, rp, its, bl⟩)) := Lib.hid (enc_rc HM.out)
  generalize rcSum ⟨rm, rn, rp, its, bl⟩ = s at *
  generalize rcBytes ⟨rm, rn, rp, its, bl⟩ = RB at *
  have HSM := Lib.hid hsm
  have HRB := Lib.hid hrb
  have HRL := Lib.hid hrl
  clear hsm hrb hrl
  generalize rcHead ⟨rm, rn, rp, its, bl⟩ ++ List.replicate 4 0 = X4 at *
  go_wp2_with fail
  have hsub : (44 : Int) - (L : Int) = ((44 - L : Nat) : Int) := by omega
  rw [hsub]
  refine (take_any p g (16 + L) X4 (44 - L) _ (by exact HS.out.row) (by rw [HX4.out]; omega)).mono ?_
  rintro e w8 ⟨A8, c8, rfl, hc8, hm8, hpos8, hr, hO⟩
  rw [show 16 + L + (44 - L) = 60 from by omega] at hr
  have HSn : Hid (Encs w w8 p g 60 b X4 [.int .i64 rm, .int .i64 rn, .int .i64 rp, .slice A na ca, .slice B nb cb]) := Lib.hid (HS.out.put hr (hO.mono (by simp)))
  clear hr hO hpos8 hc8 hm8 hsub HS
  have HS := HSn
  clear HSn
  obtain ⟨i0, hi0, hz0, hz1, hz2⟩ := info_parts Try.infoBys
  go_wp2_with fail
  obtain ⟨sl, hrow0, hbls0⟩ := HJ.out
  have HRO0 := Lib.hid hrow0
  have HBL0 := Lib.hid hbls0
  clear hrow0 hbls0
  have HSd : Hid (Encs w (w8).drew p g 60 b X4 [.int .i64 rm, .int .i64 rn, .int .i64 rp, .slice A na ca, .slice B nb cb]) := Lib.hid HS.out.drew
  clear HS
  refine wp_region_held_drew (S := (fun w' => w'.cell? ⟨b, 4, none⟩ = some (.slice B nb cb))) (by kernel_rfl) (HSd.out.box.cell 4 (by simp)) (fun hSw0 => ?_)
  refine Kn.takeS 0 ⟨some 48, _, _, _, _, _⟩ ?_
  refine Kn.takeS 4 ⟨some 52, _, _, _, _, _⟩ ?_
  refine Kn.takeS 5 ⟨some 53, _, _, _, _, _⟩ ?_
  refine Kn.takeR 1 ⟨some 49, _, _, _, _, _⟩ fun K hK => ?_
  go_simp
  refine (bytes_any p g 60 X4 _ (by exact HSd.out.row)).mono ?_
  rintro en va ⟨A9, c9, rfl, hc9, hm9, hpos9, hO⟩
  obtain ⟨g9, rfl, hg9, ho9⟩ := hpos9 (by rw [HX4.out]; decide)
  rw [HX4.out] at hc9 ⊢
  have HSe := Lib.hid (HSd.out.keep hO)
  have HO9 := Lib.hid ho9
  have hgl9 := ho9.lt
  have hm9c := hm9
  unfold maxLen at hm9c
  have hc9i : (60 : Int) ≤ (c9 : Int) := by omega
  clear hO ho9 hpos9 HSd
  refine hK.out _ _ (HSe.out.box.cell 4 (by simp)) (fun hSn => ?_)
  clear hK K hSw0
  have hSw0 := hSn
  clear hSn
  refine Kn.takeS 2 ⟨some 50, _, _, _, _, _⟩ ?_
  refine Kn.takeR 3 ⟨some 51, _, _, _, _, _⟩ fun K hK => ?_
  go_simp
  have HSf := Lib.hid (HSe.out.alloc (.cells #[.slice (some ⟨g9, 0, none⟩) 60 c9] 48))
  have HO9f := Lib.hid (HO9.out.alloc (.cells #[.slice (some ⟨g9, 0, none⟩) 60 c9] 48))
  have HOWf : Hid ((va.alloc (.cells #[.slice (some ⟨g9, 0, none⟩) 60 c9] 48)).ownsRow va.heap.size 48 1 (.slice (some ⟨va.heap.size, 0, none⟩) 1 1) 1 ([(some ⟨g9, 0, none⟩, 60, c9)].map slv)) := Lib.hid (ownsRow_built va 48 [.slice (some ⟨g9, 0, none⟩) 60 c9] 1 rfl (by simp [maxLen]))
  have hvsz : va.heap.size ≤ (va.alloc (.cells #[.slice (some ⟨g9, 0, none⟩) 60 c9] 48)).heap.size := by simp
  have hwa := HSe.out.only.size
  have hlb := HSe.out.box.lt
  have hlp := HSe.out.row.lp
  have hlg := HSe.out.row.lg
  generalize hvz : va.heap.size = vz at *
  generalize hvb : (va.alloc (.cells #[.slice (some ⟨g9, 0, none⟩) 60 c9] 48)) = vb at *
  clear hvb hvz
  clear HSe HO9
  refine hK.out _ _ (HSf.out.box.cell 4 (by simp)) (fun hSn => ?_)
  clear hK K hSw0
  have hSw0 := hSn
  clear hSn
  refine Kn.takeR 6 ⟨some 54, _, _, _, _, _⟩ fun K hK => ?_
  refine step_append_row1 rfl (.tmp 51) (.tmp 53) 85 rfl vz 48 i0 _ 24 Try.underlying85 hi0 hz0 hz1 hz2 rfl (.slice (some ⟨vz, 0, none⟩) 1 1) 1 _ rfl HOWf.out B nb cb (sl.map slv) rfl (HRO0.out.keep0 HSf.out.only) (slv_one sl) (by unfold maxLen; omega) (by omega) hvsz ?_
  intro v' vc hown hgrow _
  have hS : Only [vz] vb vc := (Only.refl _ _).grown hgrow fun q hq => .inl (by simp [Value.ownBlock] at hq; simp [hq])
  have HSg := Lib.hid (HSf.out.keepS hS (by simp; omega) (by simp; omega) (by simp; omega) (by simp; omega))
  have hO9g := HO9f.out.keep hS (by simp; omega)
  have hb0 : Bys vc (some ⟨g9, 0, none⟩) 60 c9 (X4.take 60) := Row1.of_Own (show Kn.Own vc g9 (bvs (X4.take 60)) by have := hO9g.take 60; rwa [show (bvs X4).take 60 = bvs (X4.take 60) from by simp [bvs, List.map_take]] at this) (by rw [bvs_length, List.length_take, HX4.out]; decide) (by omega) hm9
  obtain ⟨A5, c5, rfl, hbk⟩ := blks_of_owns (sl := (some ⟨g9, 0, none⟩, 60, c9) :: sl) hown ((HBL0.out.keep0 HSg.out.only).cons hb0) (Nat.le_trans hvsz hS.size)
  have HBK := Lib.hid hbk
  clear hbk hb0 hO9g hS hown hgrow HOWf HO9f HSf hvsz hlb hlp hlg hwa
  refine hK.out _ _ (HSg.out.box.cell 4 (by simp)) (fun hSn => ?_)
  clear hK K hSw0
  have hSw0 := hSn
  clear hSn
  refine Kn.takeR 7 ⟨some 55, _, _, _, _, _⟩ fun K hK => ?_
  go_simp
  refine (crc_sum_blks A5 (1 + nb) c5 _ _ (by exact HBK.out)).mono ?_
  rintro en vd ⟨rfl, hO⟩
  rw [HSM.out]
  have HSh := Lib.hid (HSg.out.keep hO)
  clear hO HSg HBK
  refine hK.out _ _ (HSh.out.box.cell 4 (by simp)) (fun hSn => ?_)
  clear hK K hSw0
  have hSw0 := hSn
  clear hSn
  refine Kn.takeS 8 ⟨some 8, _, _, _, _, _⟩ ?_
  refine wpAnyH_done (by kernel_rfl) ?_ _
  clear hSw0
  have HF3 : Hid (Fit 4 [(s : Int)]) := Lib.hid (by simp only [fit_cons, fit_nil, Int.reducePow, and_true]; omega)
  go_wp2_with fail
  refine (put_any p g 60 X4 4 _ 1 1 [(s : Int)] _ (by exact HSh.out.row.alloc _) (by exact ins_built _ [(s : Int)] _ 1 rfl (by omega)) (by exact ne_built HSh.out.row) (by decide) (by rw [HX4.out]; omega) HF3.out).mono ?_
  rintro e wf ⟨rfl, hr, hO⟩
  rw [les_one, Int.toNat_natCast, HRS.out] at hr
  have HS : Hid (Encs w wf p g 64 b (rcHead ⟨rm, rn, rp, its, bl⟩ ++ le 4 s) [.int .i64 rm, .int .i64 rn, .int .i64 rp, .slice A na ca, .slice B nb cb]) := Lib.hid ((HSh.out.alloc _).put hr hO)
  have hX5 : (rcHead ⟨rm, rn, rp, its, bl⟩ ++ le 4 s).length = 64 := by rw [List.length_append, HL60.out, le_length]
  have HX5 := Lib.hid hX5
  clear hr hO HSh hX5 HF3 HRS HL60
  generalize rcHead ⟨rm, rn, rp, its, bl⟩ ++ le 4 s = X5 at *
  have hfl : (X5 :: bl).flatten = RB := by rw [List.flatten_cons]; exact HRB.out
  have HFL := Lib.hid hfl
  clear hfl
  go_wp2_with fail
  have HSd : Hid (Encs w (wf).drew p g 64 b X5 [.int .i64 rm, .int .i64 rn, .int .i64 rp, .slice A na ca, .slice B nb cb]) := Lib.hid HS.out.drew
  clear HS
  refine wp_region_held_drew (S := (fun w' => w'.cell? ⟨b, 4, none⟩ = some (.slice B nb cb))) (by kernel_rfl) (HSd.out.box.cell 4 (by simp)) (fun hSw0 => ?_)
  refine Kn.takeS 0 ⟨some 60, _, _, _, _, _⟩ ?_
  refine Kn.takeS 3 ⟨some 63, _, _, _, _, _⟩ ?_
  refine Kn.takeS 4 ⟨some 64, _, _, _, _, _⟩ ?_
  refine Kn.takeS 7 ⟨some 67, _, _, _, _, _⟩ ?_
  refine Kn.takeR 1 ⟨some 61, _, _, _, _, _⟩ fun K hK => ?_
  go_simp
  refine (bytes_any p g 64 X5 _ (by exact HSd.out.row)).mono ?_
  rintro en va ⟨A9, c9, rfl, hc9, hm9, hpos9, hO⟩
  obtain ⟨g9, rfl, hg9, ho9⟩ := hpos9 (by rw [HX5.out]; decide)
  rw [HX5.out] at hc9 ⊢
  have HSe := Lib.hid (HSd.out.keep hO)
  have HO9 := Lib.hid ho9
  have hgl9 := ho9.lt
  have hm9c := hm9
  unfold maxLen at hm9c
  have hc9i : (60 : Int) ≤ (c9 : Int) := by omega
  clear hO ho9 hpos9 HSd
  refine hK.out _ _ (HSe.out.box.cell 4 (by simp)) (fun hSn => ?_)
  clear hK K hSw0
  have hSw0 := hSn
  clear hSn
  refine Kn.takeR 2 ⟨some 62, _, _, _, _, _⟩ fun K hK => ?_
  go_simp
  have HSf := Lib.hid (HSe.out.alloc (.cells #[.slice (some ⟨g9, 0, none⟩) 64 c9] 48))
  have HO9f := Lib.hid (HO9.out.alloc (.cells #[.slice (some ⟨g9, 0, none⟩) 64 c9] 48))
  have HOWf : Hid ((va.alloc (.cells #[.slice (some ⟨g9, 0, none⟩) 64 c9] 48)).ownsRow va.heap.size 48 1 (.slice (some ⟨va.heap.size, 0, none⟩) 1 1) 1 ([(some ⟨g9, 0, none⟩, 64, c9)].map slv)) := Lib.hid (ownsRow_built va 48 [.slice (some ⟨g9, 0, none⟩) 64 c9] 1 rfl (by simp [maxLen]))
  have hvsz : va.heap.size ≤ (va.alloc (.cells #[.slice (some ⟨g9, 0, none⟩) 64 c9] 48)).heap.size := by simp
  have hwa := HSe.out.only.size
  have hlb := HSe.out.box.lt
  have hlp := HSe.out.row.lp
  have hlg := HSe.out.row.lg
  generalize hvz : va.heap.size = vz at *
  generalize hvb : (va.alloc (.cells #[.slice (some ⟨g9, 0, none⟩) 64 c9] 48)) = vb at *
  clear hvb hvz
  clear HSe HO9
  refine hK.out _ _ (HSf.out.box.cell 4 (by simp)) (fun hSn => ?_)
  clear hK K hSw0
  have hSw0 := hSn
  clear hSn
  refine Kn.takeR 5 ⟨some 65, _, _, _, _, _⟩ fun K hK => ?_
  refine step_append_row1 rfl (.tmp 62) (.tmp 64) 85 rfl vz 48 i0 _ 24 Try.underlying85 hi0 hz0 hz1 hz2 rfl (.slice (some ⟨vz, 0, none⟩) 1 1) 1 _ rfl HOWf.out B nb cb (sl.map slv) rfl (HRO0.out.keep0 HSf.out.only) (slv_one sl) (by unfold maxLen; omega) (by omega) hvsz ?_
  intro v' vc hown hgrow _
  have hS : Only [vz] vb vc := (Only.refl _ _).grown hgrow fun q hq => .inl (by simp [Value.ownBlock] at hq; simp [hq])
  have HSg := Lib.hid (HSf.out.keepS hS (by simp; omega) (by simp; omega) (by simp; omega) (by simp; omega))
  have hO9g := HO9f.out.keep hS (by simp; omega)
  have hb0 : Bys vc (some ⟨g9, 0, none⟩) 64 c9 X5 := Row1.of_Own hO9g (by rw [bvs_length, HX5.out]) hc9 hm9
  obtain ⟨A5, c5, rfl, hbk⟩ := blks_of_owns (sl := (some ⟨g9, 0, none⟩, 64, c9) :: sl) hown ((HBL0.out.keep0 HSg.out.only).cons hb0) (Nat.le_trans hvsz hS.size)
  have HBK := Lib.hid hbk
  clear hbk hb0 hO9g hS hown hgrow HOWf HO9f HSf hvsz hlb hlp hlg hwa
  refine hK.out _ _ (HSg.out.box.cell 4 (by simp)) (fun hSn => ?_)
  clear hK K hSw0
  have hSw0 := hSn
  clear hSn
  refine Kn.takeR 6 ⟨some 66, _, _, _, _, _⟩ fun K hK => ?_
  go_simp
  refine (concat_any A5 (1 + nb) c5 (X5 :: bl) _ (by exact HBK.out) (by rw [HFL.out, HRL.out]; have := HLB.out; omega)).mono ?_
  rintro en vd ⟨A10, c10, rfl, hc10, hm10, hpos10, hO⟩
  rw [HFL.out] at hc10 hpos10 ⊢
  obtain ⟨g10, rfl, hg10, ho10⟩ := hpos10 (by rw [HRL.out]; omega)
  have hgg := HSg.out.only.size
  have HOA := Lib.hid ho10
  have HSh := Lib.hid (HSg.out.keep hO)
  clear hO ho10 hpos10 HSg HBK
  refine hK.out _ _ (HSh.out.box.cell 4 (by simp)) (fun hSn => ?_)
  clear hK K hSw0
  have hSw0 := hSn
  clear hSn
  refine Kn.takeS 8 ⟨some 2, _, _, _, _, _⟩ ?_
  refine Kn.takeS 9 ⟨some 3, _, _, _, _, _⟩ ?_
  refine Kn.takeS 10 ⟨some 4, _, _, _, _, _⟩ ?_
  refine wpAnyH_done (by kernel_rfl) ?_ _
  clear hSw0
  go_wp2
  go_ret3
  exact .inr ⟨RB, s, g10, c10, HENC.out, rfl, hc10, hm10, Nat.le_trans hgg hg10, HOA.out, HSh.out.only⟩
end Go.Proofs.Ytgcfdjcpcclcjaa
namespace Go.Kn
open Go Go.RowKit
def rcZ : Rc := ⟨0, 0, 0, [], []⟩
/-- what a reader of records answers -/
def RcSays (w : World) (o : Option (Rc × Nat)) (err : Int) (e : Ending) (w' : World) : Prop :=
 ∃ s t : Option Addr × Nat × Nat, e = .returned (.tuple #[.agg (((o.map (·.1)).getD rcZ).cells s t), .int .i64 ((o.map (·.2)).getD 0 : Nat), .int .i64 (if o.isSome then 0 else err)]) ∧ Fc w' (fun k => k < w.heap.size) (fun W => RcAt W ((o.map (·.1)).getD rcZ) s t) ∧ Only [] w w'
theorem RcSays.no {w w' : World} {o : Option (Rc × Nat)} {err : Int} (h : o = none) (hO : Only [] w w') : RcSays w o err (.returned (.tuple #[.agg #[.int .i64 0, .int .i64 0, .int .i64 0, .slice none 0 0, .slice none 0 0], .int .i64 0, .int .i64 err])) w' := by
 subst h
 exact ⟨(none, 0, 0), (none, 0, 0), rfl, fun W _ => ⟨Its.nil W, Blks.nil W⟩, hO⟩
theorem RcAt.fc {w : World} {M : Nat → Prop} {r : Rc} {s t : Option Addr × Nat × Nat} {sl : List (Option Addr × Nat × Nat)} (h1 : Fc w M (fun W => Its W s.1 s.2.1 s.2.2 r.its)) (h2 : Fc w M (fun W => Row1 W t.1 t.2.1 t.2.2 (sl.map slv))) (h3 : Fc w M (fun W => Bls W sl r.bl)) : Fc w M (fun W => RcAt W r s t) := fun W hW =>
 ⟨h1 W hW, sl, h2 W hW, h3 W hW⟩
theorem Only.putObj {w0 w : World} {D : Nat} {o : Obj} (h : Only [] w0 w) (hD : w0.heap.size ≤ D) : Only [] w0 (w.putObj D o) :=
 h.trans (T := [D]) ⟨rfl, rfl, rfl, by simp, fun k _ hk => World.putObj_heap_other (by simpa using hk)⟩ (by simpa using hD)
theorem Row1.of_owns {w : World} {base e n c : Nat} {A : Option Addr} {xs : List Value} (h : w.ownsRow base e 1 (.slice A n c) n xs) : Row1 w A n c xs ∧ (0 < n → ∀ a, A = some a → base ≤ a.block) := by
 have h1 := h.1
 rw [Nat.mul_one] at h1
 rcases h.2 with ⟨hv, h0⟩ | ⟨g, cap, cur, hv, hb, hh, hn, hm, hs, ht⟩
 ·injection hv with e1 e2 e3
  subst e1 e3
  subst h0
  obtain rfl : xs = [] := List.eq_nil_of_length_eq_zero h1
  exact ⟨Row1.nil w, fun h => absurd h (by omega)⟩
 ·injection hv with e1 e2 e3
  subst e1 e3
  refine ⟨Row1.of_Own ⟨cur, _, hh, by rw [h1]; simpa using ht⟩ h1 hn hm, fun _ a ha => ?_⟩
  injection ha with ha
  subst ha
  exact hb
theorem Its.keepS {S : List Nat} {w w' : World} {A : Option Addr} {n c : Nat} {l : List It} (h : Its w A n c l) (hO : Only S w w') (hS : 0 < n → ∀ a, A = some a → a.block ∉ S) : Its w' A n c l :=
 ⟨h.len, h.le, h.cm, fun hn => by
  obtain ⟨g, o, e, hc⟩ := h.at_ hn
  have hg : g ∉ S := hS hn _ e
  exact ⟨g, o, e, fun i hi => ⟨hO.cell (hc i hi).1 hg, hO.cell (hc i hi).2.1 hg, hO.cell (hc i hi).2.2.1 hg, hO.cell (hc i hi).2.2.2 hg⟩⟩⟩
end Go.Kn
