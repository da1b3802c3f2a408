
/- Amid the reading of an event: the row, the event's box, what was gathered. -/
import Derived.Test.YtkpagiokjihmhaaScrE
set_option linter.unusedVariables false
namespace Go.Kn
open Go Go.RowKit
theorem GathE.keep {S : List Nat} {w w' : World} {base e : Nat} {v : Value} {l : List Ev} {xs : List (Ev × Sl)} (h : GathE w base e v l xs) (ho : Only S w w') (hv : ∀ q, v.ownBlock = some q → q ∉ S) (hx : ∀ x ∈ xs, 0 < x.2.2.1 → ∀ a, x.2.1 = some a → a.block ∉ S) : GathE w' base e v l xs :=
  ⟨h.1, h.2.1.keep ho hv, fun x hm => ⟨(h.2.2 x hm).1.keepP ho (hx x hm), (h.2.2 x hm).2⟩⟩
structure MidE (w0 w : World) (p g k f e : Nat) (bs : List UInt8) (v : Value) (l : List Ev) (xs : List (Ev × Sl)) (cs : List Value) : Prop where
  row : RowAt w p g bs k
  box : Own w f cs
  only : Only [] w0 w
  gath : GathE w w0.heap.size e v l xs
  pf : p ≠ f
  gf : g ≠ f
  vp : ∀ q, v.ownBlock = some q → q ≠ p ∧ q ≠ g ∧ q ≠ f
  xp : ∀ x ∈ xs, 0 < x.2.2.1 → ∀ a, x.2.1 = some a → a.block ≠ p ∧ a.block ≠ f
  hp : w0.heap.size ≤ p
  hf : w0.heap.size ≤ f
section
variable {w0 w w' w1 : World} {p g k k' k1 f e : Nat} {bs : List UInt8} {v : Value} {l : List Ev} {xs : List (Ev × Sl)} {cs cs1 : List Value}
theorem MidE.got (h : MidE w0 w p g k f e bs v l xs cs) (hr : RowAt w' p g bs k') (hO : Only [p] w w') : MidE w0 w' p g k' f e bs v l xs cs :=
  ⟨hr, h.box.keep hO (by simpa using Ne.symm h.pf), h.only.trans hO (by simpa using h.hp), h.gath.keep hO (fun q hq => by simpa using (h.vp q hq).1) (fun x hx hn a ha => by simpa using (h.xp x hx hn a ha).1), h.pf, h.gf, h.vp, h.xp, h.hp, h.hf⟩
theorem MidE.put (h : MidE w0 w p g k f e bs v l xs cs) (i : Nat) (u : Value) : MidE w0 (w.setCell ⟨f, i, none⟩ u) p g k f e bs v l xs (cs.set i u) :=
  ⟨h.row.far (Ne.symm h.pf) (Ne.symm h.gf) u, h.box.set i u, h.only.set (.inr h.hf) u,
    h.gath.keep (S := [f]) ((Only.refl _ _).set (by simp) u) (fun q hq => by simpa using (h.vp q hq).2.2) (fun x hx hn a ha => by simpa using (h.xp x hx hn a ha).2), h.pf, h.gf, h.vp, h.xp, h.hp, h.hf⟩
/-- what lies above all that lay in an earlier world may turn -/
theorem MidE.high {S : List Nat} (h : MidE w0 w p g k f e bs v l xs cs) (h1 : MidE w0 w1 p g k1 f e bs v l xs cs1) (hO : Only S w w') (hS : ∀ q ∈ S, w1.heap.size ≤ q) : MidE w0 w' p g k f e bs v l xs cs := by
  have a1 := h1.row.lp
  have a2 := h1.row.lg
  have a3 := h1.box.lt
  have a4 := h1.only.size
  obtain ⟨_, _, _, _, a5⟩ := h1.gath.form
  refine ⟨h.row.keep hO (fun hq => by have := hS _ hq; omega) (fun hq => by have := hS _ hq; omega), h.box.keep hO (fun hq => by have := hS _ hq; omega), h.only.trans hO (fun q hq => .inr (by have := hS _ hq; omega)),
    h.gath.keep hO (fun q hq hin => by have := hS _ hin; have := a5 q hq; omega) (fun x hx hn a ha hin => by have := hS _ hin; have := (h1.gath.2.2 x hx).1.block_lt hn a ha; omega), h.pf, h.gf, h.vp, h.xp, h.hp, h.hf⟩
theorem MidE.keep0 (h : MidE w0 w p g k f e bs v l xs cs) (hO : Only [] w w') : MidE w0 w' p g k f e bs v l xs cs := h.high h hO (by simp)
/-- at the beginning of a round: a new box -/
theorem MidE.start {T : TypeId} {zs : Array Value} (hr : RowAt w p g bs k) (hO : Only [] w0 w) (hG : GathE w w0.heap.size e v l xs) (hv : ∀ q, v.ownBlock = some q → q ≠ p ∧ q ≠ g) (hx : ∀ x ∈ xs, 0 < x.2.2.1 → ∀ a, x.2.1 = some a → a.block ≠ p) (hp : w0.heap.size ≤ p) :
    MidE w0 (w.alloc (.cells zs T)) p g k w.heap.size e bs v l xs zs.toList := by
  have a1 := hr.lp
  have a2 := hr.lg
  have a4 := hO.size
  obtain ⟨_, _, _, _, a5⟩ := hG.form
  exact ⟨hr.alloc _, Own.new _ _ _, hO.alloc _, hG.keep0 ((Only.refl _ _).alloc _), by omega, by omega, fun q hq => ⟨(hv q hq).1, (hv q hq).2, by have := a5 q hq; omega⟩,
    fun x hxm hn a ha => ⟨hx x hxm hn a ha, by have := (hG.2.2 x hxm).1.block_lt hn a ha; omega⟩, hp, a4⟩
/-- what a round gathered: one event more -/
theorem MidE.append {v' : Value} {B : Option Addr} {m d n : Nat} {ev : Ev} (h : MidE w0 w p g k f e bs v l xs cs) (hps : Ins w B m d ev.ps) (hB : 0 < m → ∀ a, B = some a → a.block ≠ p ∧ v.ownBlock ≠ some a.block) (hn : n = l.length + 1)
    (ho : w'.ownsRow w0.heap.size e 5 v' n (evsV xs ++ evsV [(ev, B, m, d)])) (hg : w.grownBy w' v.ownBlock) (hat : v'.ownBlock = v.ownBlock ∨ v'.ownBlock = some w.heap.size) :
    GathE w' w0.heap.size e v' (l ++ [ev]) (xs ++ [(ev, B, m, d)]) ∧ RowAt w' p g bs k ∧ Only [] w0 w' ∧ (∀ q, v'.ownBlock = some q → q ≠ p ∧ q ≠ g) ∧ (∀ x ∈ xs ++ [(ev, B, m, d)], 0 < x.2.2.1 → ∀ a, x.2.1 = some a → a.block ≠ p) := by
  have a1 := h.row.lp
  have a2 := h.row.lg
  obtain ⟨g1, g2⟩ := h.gath.grow (ys := [(ev, B, m, d)]) (n := n) h.only rfl (by simp [hn]) ho hg hat (by
    intro y hy
    simp at hy
    subst hy
    exact ⟨hps, fun hm a ha => (hB hm a ha).2⟩)
  have hS : Only v.ownBlock.toList w w' := (Only.refl _ _).grown hg fun q hq => .inl (by rw [hq]; simp)
  refine ⟨by simpa using g1, h.row.keep hS (fun hq => (h.vp p (by simpa using hq)).1 rfl) (fun hq => (h.vp g (by simpa using hq)).2.1 rfl), g2, fun q hq => ?_, fun x hx hm a ha => ?_⟩
  · rcases hat with hat | hat
    · rw [hat] at hq
      exact ⟨(h.vp q hq).1, (h.vp q hq).2.1⟩
    · rw [hat] at hq
      injection hq with hq
      exact ⟨by omega, by omega⟩
  · rcases List.mem_append.1 hx with hx | hx
    · exact (h.xp x hx hm a ha).1
    · simp at hx
      subst hx
      exact (hB hm a ha).1
end
theorem evAt_of {bs : List UInt8} {k k0 k1 k2 k3 k4 n4 : Nat} {x0 x1 x2 x3 : Int} {P : List UInt8} (h0 : ((getN bs k 1 : Nat) : Int) = x0) (e0 : getK bs k 1 = k0) (h1 : ((getN bs k0 4 : Nat) : Int) = x1) (e1 : getK bs k0 4 = k1)
    (h2 : ((getN bs k1 4 : Nat) : Int) = x2) (e2 : getK bs k1 4 = k2) (h3 : ((getN bs k2 2 : Nat) : Int) = x3) (e3 : getK bs k2 2 = k3) (h4 : getN bs k3 1 = n4) (e4 : getK bs k3 1 = k4) (hP : takeB bs k4 n4 = P) :
    evAt bs k = ⟨x0, x1, x2, x3, izs P⟩ ∧ evK bs k = takeK bs k4 n4 := by
  subst h0 e0 h1 e1 h2 e2 h3 e3 h4 e4 hP
  exact ⟨rfl, rfl⟩
theorem izs_take_succ (P : List UInt8) (t : Nat) (h : t < P.length) : izs (P.take (t + 1)) = izs (P.take t) ++ [((P[t].toNat : Nat) : Int)] := by
  rw [List.take_succ_eq_append_getElem h]
  unfold izs
  rw [List.map_append]
  rfl
@[simp] theorem izs_length (P : List UInt8) : (izs P).length = P.length := by simp [izs]
theorem dec_long {bs : List UInt8} (h : 65536 < bs.length) : decEvs bs = none := evs_len (.inr h)
end Go.Kn
