
/- Events in memory: a slice of them, gathered by append. -/
import Derived.Test.YtkpagiokjihmhaaScrP
import Derived.Test.YtkpagiokjihmhaaItemC
set_option linter.unusedVariables false
namespace Go.Kn
open Go Go.RowKit
/-- a slice of events that reads as a list -/
structure Evs (w : World) (A : Option Addr) (n c : Nat) (l : List Ev) : Prop where
  len : l.length = n
  le : n ≤ c
  cm : c ≤ maxLen
  at_ : 0 < n → ∃ g o, A = some ⟨g, o, none⟩ ∧ ∀ i (h : i < l.length), w.cell? ⟨g, o + i * 5, none⟩ = some (.int .i64 l[i].k) ∧ w.cell? ⟨g, o + i * 5 + 1, none⟩ = some (.int .i64 l[i].a) ∧
    w.cell? ⟨g, o + i * 5 + 2, none⟩ = some (.int .i64 l[i].b) ∧ w.cell? ⟨g, o + i * 5 + 3, none⟩ = some (.int .i64 l[i].y) ∧ ∃ B m d, w.cell? ⟨g, o + i * 5 + 4, none⟩ = some (.slice B m d) ∧ Ins w B m d l[i].ps
section
variable {S : List Nat} {w w' : World} {A : Option Addr} {n c : Nat} {l : List Ev}
theorem Evs.keep0 (h : Evs w A n c l) (ho : Only [] w w') : Evs w' A n c l :=
  ⟨h.len, h.le, h.cm, fun hn => by
    obtain ⟨g, o, e, hc⟩ := h.at_ hn
    refine ⟨g, o, e, fun i hi => ?_⟩
    obtain ⟨c0, c1, c2, c3, B, m, d, c4, hp⟩ := hc i hi
    exact ⟨ho.cell c0 (by simp), ho.cell c1 (by simp), ho.cell c2 (by simp), ho.cell c3 (by simp), B, m, d, ho.cell c4 (by simp), hp.keep0 ho⟩⟩
theorem Evs.nil (w : World) : Evs w none 0 0 [] := ⟨rfl, Nat.le_refl _, by simp [maxLen], fun h => absurd h (by omega)⟩
end
/-- where a slice lies, its length and capacity -/
abbrev Sl := Option Addr × Nat × Nat
/-- the cells of events with their picks' slices -/
def evV (x : Ev × Sl) : List Value := [.int .i64 x.1.k, .int .i64 x.1.a, .int .i64 x.1.b, .int .i64 x.1.y, .slice x.2.1 x.2.2.1 x.2.2.2]
def evsV (l : List (Ev × Sl)) : List Value := l.flatMap evV
theorem evsV_length (l : List (Ev × Sl)) : (evsV l).length = l.length * 5 := by
  induction l with
  | nil => rfl
  | cons i l ih =>
    have : evsV (i :: l) = evV i ++ evsV l := rfl
    rw [this, List.length_append, ih, List.length_cons]
    simp [evV]
    omega
theorem evsV_append (a b : List (Ev × Sl)) : evsV (a ++ b) = evsV a ++ evsV b := by simp [evsV]
theorem evsV_get : ∀ (l : List (Ev × Sl)) (i : Nat) (h : i < l.length), (evsV l)[i * 5]? = some (.int .i64 l[i].1.k) ∧ (evsV l)[i * 5 + 1]? = some (.int .i64 l[i].1.a) ∧ (evsV l)[i * 5 + 2]? = some (.int .i64 l[i].1.b) ∧
    (evsV l)[i * 5 + 3]? = some (.int .i64 l[i].1.y) ∧ (evsV l)[i * 5 + 4]? = some (.slice l[i].2.1 l[i].2.2.1 l[i].2.2.2)
  | [], i, h => by simp at h
  | x :: r, 0, h => by simp [evsV, evV]
  | x :: r, i + 1, h => by
    have h1 := evsV_get r i (by simpa using h)
    have e : evsV (x :: r) = evV x ++ evsV r := rfl
    have hl : (evV x).length = 5 := rfl
    have e0 : (i + 1) * 5 = 5 + i * 5 := by omega
    simp only [List.getElem_cons_succ]
    rw [e, e0]
    refine ⟨?_, ?_, ?_, ?_, ?_⟩
    · rw [List.getElem?_append_right (by omega), hl, Nat.add_sub_cancel_left]; exact h1.1
    · rw [List.getElem?_append_right (by omega), hl, show 5 + i * 5 + 1 - 5 = i * 5 + 1 from by omega]; exact h1.2.1
    · rw [List.getElem?_append_right (by omega), hl, show 5 + i * 5 + 2 - 5 = i * 5 + 2 from by omega]; exact h1.2.2.1
    · rw [List.getElem?_append_right (by omega), hl, show 5 + i * 5 + 3 - 5 = i * 5 + 3 from by omega]; exact h1.2.2.2.1
    · rw [List.getElem?_append_right (by omega), hl, show 5 + i * 5 + 4 - 5 = i * 5 + 4 from by omega]; exact h1.2.2.2.2
theorem evsV_one (l : List (Ev × Sl)) : ∀ u ∈ evsV l, u.oneCell' = true := by
  intro u hu
  simp only [evsV, List.mem_flatMap, evV] at hu
  obtain ⟨i, _, hi⟩ := hu
  simp at hi
  rcases hi with rfl | rfl | rfl | rfl | rfl <;> rfl
/-- picks that read, and do not lie in the block that is gathered -/
def PickAt (w : World) (v : Value) (x : Ev × Sl) : Prop := Ins w x.2.1 x.2.2.1 x.2.2.2 x.1.ps ∧ (0 < x.2.2.1 → ∀ a, x.2.1 = some a → v.ownBlock ≠ some a.block)
/-- events gathered by append -/
def GathE (w : World) (base e : Nat) (v : Value) (l : List Ev) (xs : List (Ev × Sl)) : Prop := xs.map (·.1) = l ∧ GathN w base e 5 v l.length (evsV xs) ∧ ∀ x ∈ xs, PickAt w v x
section
variable {w w' : World} {base e : Nat} {v v' : Value} {l : List Ev} {xs ys : List (Ev × Sl)}
theorem GathE.nil (w : World) (base e : Nat) (h : base ≤ w.heap.size) : GathE w base e (.slice none 0 0) [] [] := ⟨rfl, GathN.nil _ _ _ _ h, by simp⟩
theorem PickAt.keep0 {x : Ev × Sl} (h : PickAt w v x) (ho : Only [] w w') : PickAt w' v x := ⟨h.1.keep0 ho, h.2⟩
theorem GathE.keep0 (h : GathE w base e v l xs) (ho : Only [] w w') : GathE w' base e v l xs := ⟨h.1, h.2.1.keep0 ho, fun x hx => (h.2.2 x hx).keep0 ho⟩
theorem PickAt.grown {x : Ev × Sl} (h : PickAt w v x) (hg : w.grownBy w' v.ownBlock) (hat : v'.ownBlock = v.ownBlock ∨ v'.ownBlock = some w.heap.size) : PickAt w' v' x := by
  have hS : Only v.ownBlock.toList w w' := (Only.refl _ _).grown hg fun q hq => .inl (by rw [hq]; simp)
  refine ⟨h.1.keepP hS fun hn a ha hin => h.2 hn a ha (by simpa using hin), fun hn a ha => ?_⟩
  rcases hat with hat | hat
  · rw [hat]; exact h.2 hn a ha
  · rw [hat]
    intro hq
    injection hq with hq
    have := h.1.block_lt hn a ha
    omega
/-- what an append of further events gives -/
theorem GathE.grow {w0 : World} {S : List Nat} {n : Nat} (h : GathE w base e v l xs) (hO : Only S w0 w) (hB : base = w0.heap.size) (hn : n = l.length + ys.length) (ho : w'.ownsRow base e 5 v' n (evsV xs ++ evsV ys)) (hg : w.grownBy w' v.ownBlock)
    (hat : v'.ownBlock = v.ownBlock ∨ v'.ownBlock = some w.heap.size) (hy : ∀ y ∈ ys, PickAt w v y) : GathE w' base e v' (l ++ ys.map (·.1)) (xs ++ ys) ∧ Only S w0 w' := by
  obtain ⟨h1, h2, h3⟩ := h
  obtain ⟨h4, h5⟩ := h2.grown hO hB ho hg
  have e1 : (l ++ ys.map (·.1)).length = n := by simp [hn]
  refine ⟨⟨by rw [List.map_append, h1], by rw [e1, evsV_append]; exact h4, fun x hx => ?_⟩, h5⟩
  rcases List.mem_append.1 hx with hx | hx
  · exact (h3 x hx).grown hg hat
  · exact (hy x hx).grown hg hat
theorem GathE.form (h : GathE w base e v l xs) : ∃ A c, v = .slice A l.length c ∧ Evs w A l.length c l ∧ (∀ k, v.ownBlock = some k → base ≤ k ∧ k < w.heap.size) := by
  obtain ⟨rfl, h2, h3⟩ := h
  obtain ⟨A, c, hv, hn, hm, hc, hb⟩ := h2.form (by omega)
  refine ⟨A, c, hv, ⟨rfl, hn, hm, fun h0 => ?_⟩, hb⟩
  obtain ⟨g, rfl, _, _, hcell⟩ := hc h0
  refine ⟨g, 0, rfl, fun i hi => ?_⟩
  have hi' : i < xs.length := by simpa using hi
  obtain ⟨c0, c1, c2, c3, c4⟩ := evsV_get xs i hi'
  simp only [Nat.zero_add, List.getElem_map]
  exact ⟨hcell _ _ c0, hcell _ _ c1, hcell _ _ c2, hcell _ _ c3, _, _, _, hcell _ _ c4, (h3 _ (List.getElem_mem hi')).1⟩
theorem GathE.formN {n : Nat} (h : GathE w base e v l xs) (hn : l.length = n) : ∃ A c, v = .slice A n c ∧ Evs w A n c l ∧ (∀ k, v.ownBlock = some k → base ≤ k ∧ k < w.heap.size) := by
  subst hn; exact h.form
end
/-- the cells of a slice of events, with the slices of their picks -/
theorem Evs.list {w : World} {g o n c : Nat} {l : List Ev} (h : Evs w (some ⟨g, o, none⟩) n c l) (hn : 0 < n) : ∃ xs : List (Ev × Sl), xs.map (·.1) = l ∧ (∀ j u, (evsV xs)[j]? = some u → w.cell? ((⟨g, o, none⟩ : Addr).add j) = some u) ∧ ∀ x ∈ xs, Ins w x.2.1 x.2.2.1 x.2.2.2 x.1.ps := by
  obtain ⟨g', o', e, hc⟩ := h.at_ hn
  injection e with e
  injection e with e1 e2 _
  subst e1 e2
  have key : ∀ m, m ≤ l.length → ∃ xs : List (Ev × Sl), xs.map (·.1) = l.take m ∧ (∀ j u, (evsV xs)[j]? = some u → w.cell? ((⟨g, o, none⟩ : Addr).add j) = some u) ∧ ∀ x ∈ xs, Ins w x.2.1 x.2.2.1 x.2.2.2 x.1.ps := by
    intro m
    induction m with
    | zero => intro _; exact ⟨[], by simp, by simp [evsV], by simp⟩
    | succ m ih =>
      intro hm
      obtain ⟨xs, h1, h2, h3⟩ := ih (by omega)
      obtain ⟨c0, c1, c2, c3, B, q, d, c4, hp⟩ := hc m (by omega)
      have hxl : xs.length = m := by
        have := congrArg List.length h1
        simpa [Nat.min_eq_left (show m ≤ l.length by omega)] using this
      refine ⟨xs ++ [(l[m], B, q, d)], by rw [List.map_append, h1, List.take_succ_eq_append_getElem (by omega)]; rfl, fun j u hj => ?_, fun x hx => ?_⟩
      · rw [evsV_append] at hj
        by_cases hlt : j < (evsV xs).length
        · rw [List.getElem?_append_left hlt] at hj
          exact h2 j u hj
        · rw [List.getElem?_append_right (by omega)] at hj
          have hl5 := evsV_length xs
          rw [hl5, hxl] at hj hlt
          obtain ⟨t, rfl⟩ : ∃ t, j = m * 5 + t := ⟨j - m * 5, by omega⟩
          rw [Nat.add_sub_cancel_left] at hj
          rw [Addr.add_lit]
          match t, hj with
          | 0, hj => simp [evsV, evV] at hj; subst hj; exact c0
          | 1, hj => simp [evsV, evV] at hj; subst hj; exact c1
          | 2, hj => simp [evsV, evV] at hj; subst hj; exact c2
          | 3, hj => simp [evsV, evV] at hj; subst hj; exact c3
          | 4, hj => simp [evsV, evV] at hj; subst hj; exact c4
          | t + 5, hj => simp [evsV, evV] at hj
      · rcases List.mem_append.1 hx with hx | hx
        · exact h3 x hx
        · simp at hx
          subst hx
          exact hp
  obtain ⟨xs, h1, h2, h3⟩ := key l.length (Nat.le_refl _)
  rw [List.take_length] at h1
  exact ⟨xs, h1, h2, h3⟩

/-- what a reader of events answers -/
def EvSays (w : World) (o : Option (List Ev)) (err : Int) (e : Ending) (w' : World) : Prop :=
  ∃ A c, e = .returned (.tuple #[.slice A (o.getD []).length c, .int .i64 (if o.isSome then 0 else err)]) ∧ Evs w' A (o.getD []).length c (o.getD []) ∧ Only [] w w'
theorem EvSays.no {w w' : World} {o : Option (List Ev)} {err : Int} (h : o = none) (hO : Only [] w w') : EvSays w o err (.returned (.tuple #[.slice none 0 0, .int .i64 err])) w' := by
  subst h
  exact ⟨none, 0, rfl, Evs.nil _, hO⟩
theorem EvSays.yes {w w' : World} {A : Option Addr} {n c : Nat} {o : Option (List Ev)} {l : List Ev} {err : Int} (h : o = some l) (hn : l.length = n) (he : Evs w' A n c l) (hO : Only [] w w') : EvSays w o err (.returned (.tuple #[.slice A n c, .int .i64 0])) w' := by
  subst h hn
  exact ⟨A, c, rfl, he, hO⟩
end Go.Kn
