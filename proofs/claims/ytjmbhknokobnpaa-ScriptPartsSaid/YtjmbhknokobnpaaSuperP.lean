/- Superblocks: which may be, how they are laid and read, which of two is chosen. Plain, no program in sight. -/
import Derived.Test.YtjmbhknokobnpaaSeal
set_option linter.unusedVariables false
namespace Go.Kn
open Go Go.RowKit
/-- a superblock's numbers -/
structure Su where
  b : Int
  s : Int
  l : Int
  i : Int
  m : Int
def Su.vals (x : Su) : Array Value := #[.int .i64 x.b, .int .i64 x.s, .int .i64 x.l, .int .i64 x.i, .int .i64 x.m]
def confMay (b s l : Int) : Bool := decide (1 ≤ b ∧ b ≤ 64) && decide (8 ≤ s ∧ s ≤ 32) && decide (24 ≤ l ∧ l ≤ 64)
def superMay (x : Su) : Bool := confMay x.b x.s x.l && decide (0 ≤ x.i ∧ x.i ≤ 2147483647) && decide (1 ≤ x.m ∧ x.m ≤ 2147483647)
def superRow (x : Su) : List UInt8 := lay (lay zeros64 0 (les 1 [75, 83, x.b, x.s, x.l])) 5 (les 4 [x.i, x.m])
def encSuper (x : Su) : Option (List UInt8) := if superMay x = true then some (sealed (superRow x)) else none
def superOf (bs : List UInt8) : Su := ⟨rd bs 2 1, rd bs 3 1, rd bs 4 1, rd bs 5 4, rd bs 9 4⟩
def decSuper (bs : List UInt8) : Option Su := decBy encSuper superOf bs
theorem confMay_iff {b s l : Int} : confMay b s l = true ↔ (1 ≤ b ∧ b ≤ 64) ∧ (8 ≤ s ∧ s ≤ 32) ∧ (24 ≤ l ∧ l ≤ 64) := by
  simp [confMay, and_assoc]
theorem superMay_iff {x : Su} : superMay x = true ↔ ((1 ≤ x.b ∧ x.b ≤ 64) ∧ (8 ≤ x.s ∧ x.s ≤ 32) ∧ (24 ≤ x.l ∧ x.l ≤ 64)) ∧ (0 ≤ x.i ∧ x.i ≤ 2147483647) ∧ (1 ≤ x.m ∧ x.m ≤ 2147483647) := by
  unfold superMay
  rw [Bool.and_eq_true, Bool.and_eq_true, confMay_iff, decide_eq_true_eq, decide_eq_true_eq, and_assoc]
theorem superRow_cat (x : Su) : superRow x = cat [(1, 75), (1, 83), (1, x.b), (1, x.s), (1, x.l), (4, x.i), (4, x.m)] ++ List.replicate 51 0 := by
  unfold superRow
  rw [les_cat 1, lay_cat _ _ 5 4 _ rfl (by simp [zeros64]), lay_zero, cat_length]
  rfl
theorem superRow_length (x : Su) : (superRow x).length = 64 := by
  rw [superRow_cat, List.length_append, cat_length]
  rfl
theorem encSuper_some {x : Su} {b : List UInt8} (h : encSuper x = some b) : superMay x = true ∧ b = sealed (superRow x) := by
  unfold encSuper at h
  split at h
  · injection h with h
    exact ⟨by assumption, h.symm⟩
  · cases h
theorem encSuper_len {x : Su} {b : List UInt8} (h : encSuper x = some b) : b.length = 64 := by
  rw [(encSuper_some h).2]
  exact sealed_length _ (superRow_length x)
theorem encSuper_closed {x : Su} {b : List UInt8} (h : encSuper x = some b) : Closed b 60 := by
  rw [(encSuper_some h).2]
  exact sealed_closed _ (superRow_length x)
theorem encSuper_of {x : Su} {b : List UInt8} (h : encSuper x = some b) : superOf b = x := by
  obtain ⟨hm, rfl⟩ := encSuper_some h
  obtain ⟨⟨h0, h1, h2⟩, h3, h4⟩ := superMay_iff.1 hm
  have e : (256 : Int) ^ 1 = 256 := rfl
  have e4 : (256 : Int) ^ 4 = 4294967296 := rfl
  have l := superRow_length x
  unfold superOf
  rw [rd_sealed _ l 2 1 (by decide), rd_sealed _ l 3 1 (by decide), rd_sealed _ l 4 1 (by decide), rd_sealed _ l 5 4 (by decide), rd_sealed _ l 9 4 (by decide), superRow_cat]
  have g0 := cat_get [(1, 75), (1, 83)] 1 x.b [(1, x.s), (1, x.l), (4, x.i), (4, x.m)] (List.replicate 51 0) (by omega)
  have g1 := cat_get [(1, 75), (1, 83), (1, x.b)] 1 x.s [(1, x.l), (4, x.i), (4, x.m)] (List.replicate 51 0) (by omega)
  have g2 := cat_get [(1, 75), (1, 83), (1, x.b), (1, x.s)] 1 x.l [(4, x.i), (4, x.m)] (List.replicate 51 0) (by omega)
  have g3 := cat_get [(1, 75), (1, 83), (1, x.b), (1, x.s), (1, x.l)] 4 x.i [(4, x.m)] (List.replicate 51 0) (by omega)
  have g4 := cat_get [(1, 75), (1, 83), (1, x.b), (1, x.s), (1, x.l), (4, x.i)] 4 x.m [] (List.replicate 51 0) (by omega)
  simp only [wid, List.map_cons, List.map_nil, List.sum_cons, List.sum_nil, List.cons_append, List.nil_append, Nat.reduceAdd] at g0 g1 g2 g3 g4
  rw [g0, g1, g2, g3, g4]
theorem encSuper_signs {x : Su} {b : List UInt8} (h : encSuper x = some b) : b[0]? = some 75 ∧ b[1]? = some 83 := by
  obtain ⟨hm, rfl⟩ := encSuper_some h
  have e : superRow x = 75 :: 83 :: (cat [(1, x.b), (1, x.s), (1, x.l), (4, x.i), (4, x.m)] ++ List.replicate 51 0) := by rw [superRow_cat]; rfl
  have h2 : ((superRow x).take 60)[0]? = some 75 ∧ ((superRow x).take 60)[1]? = some 83 := by rw [e]; exact ⟨rfl, rfl⟩
  rw [sealed_eq _ (superRow_length x), List.getElem?_append_left (by rw [List.length_take, superRow_length]; decide), List.getElem?_append_left (by rw [List.length_take, superRow_length]; decide)]
  exact h2
theorem decSuper_signs {bs : List UInt8} (h : ¬ (bs.length = 64 ∧ bs[0]? = some 75 ∧ bs[1]? = some 83)) : decSuper bs = none := by
  cases hd : decSuper bs with
  | none => rfl
  | some x =>
    have he := decBy_enc hd
    exact absurd ⟨encSuper_len he, encSuper_signs he⟩ h
theorem super_back {x : Su} (h : superMay x = true) : ∃ b, encSuper x = some b ∧ b.length = 64 ∧ Closed b 60 ∧ decSuper b = some x := by
  have he : encSuper x = some (sealed (superRow x)) := by unfold encSuper; rw [if_pos h]
  exact ⟨_, he, encSuper_len he, encSuper_closed he, decBy_back (encSuper_of he) he⟩
theorem super_turned {b : List UInt8} {first pat : Nat} (hb : b.length = 64) (hc : Closed b 60) (ha : turnA first (8 * 60) pat 32 = true) : decSuper (turnB b first (8 * 60) pat 32) = none :=
  decBy_turned (fun x y h => by rw [encSuper_len h]; exact encSuper_closed h) (by omega) hc ha
theorem super_len {b : List UInt8} (h : b.length ≠ 64) : decSuper b = none := decBy_len (fun x y h => encSuper_len h) h
theorem superRow_ref (x : Su) : lay (lay (lay zeros64 0 [75, 83]) 2 (les 1 [x.b, x.s, x.l])) 5 (les 4 [x.i, x.m]) = superRow x := by
  have e : lay (lay zeros64 0 [75, 83]) 2 (les 1 [x.b, x.s, x.l]) = lay zeros64 0 (les 1 [75, 83, x.b, x.s, x.l]) := by
    have h := lay_lay zeros64 0 [75, 83] (les 1 [x.b, x.s, x.l]) (by simp [zeros64])
    simp only [List.length_cons, List.length_nil, Nat.zero_add, Nat.reduceAdd] at h
    rw [h]
    rfl
  rw [e]
  rfl
/-- of two what is chosen -/
def superPick (x y : Option Su) : Su × Int × Int := match x, y with
  | some a, some b => if b.m ≤ a.m then (a, 0, 0) else (b, 1, 0)
  | some a, none => (a, 0, 0)
  | none, some b => (b, 1, 0)
  | none, none => (⟨0, 0, 0, 0, 0⟩, 0, 2)
/-- what a reader of superblocks answers -/
def SuperSays (w : World) (o : Option Su) (err : Int) (e : Ending) (w' : World) : Prop :=
  e = .returned (.tuple #[.agg (o.getD ⟨0, 0, 0, 0, 0⟩).vals, .int .i64 (if o.isSome then 0 else err)]) ∧ Only [] w w'
end Go.Kn
