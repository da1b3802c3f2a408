
/- Bytes as items: plain laws; items gathered by append. -/
import Derived.Test.YtkpagiokjihmhaaItemP
set_option linter.unusedVariables false
namespace Go.Kn
open Go Go.RowKit

/-- the item that stands from byte 7 j on -/
def itAt (bs : List UInt8) (j : Nat) : It :=
  ⟨(num ((bs.drop (7 * j)).take 1) : Nat), (num ((bs.drop (7 * j + 1)).take 1) : Nat), (num ((bs.drop (7 * j + 1 + 1)).take 1) : Nat), (num ((bs.drop (7 * j + 1 + 1 + 1)).take 4) : Nat)⟩
def parse (bs : List UInt8) (m : Nat) : List It := (List.range m).map (itAt bs)
@[simp] theorem parse_length (bs : List UInt8) (m : Nat) : (parse bs m).length = m := by simp [parse]
theorem parse_succ (bs : List UInt8) (m : Nat) : parse bs (m + 1) = parse bs m ++ [itAt bs m] := by simp [parse, List.range_succ]
theorem parse_take (bs : List UInt8) (m j : Nat) (h : j ≤ m) : (parse bs m).take j = parse bs j := by
  simp [parse, ← List.map_take, List.take_range, Nat.min_eq_left h]
theorem le_num_drop (bs : List UInt8) (k n : Nat) (h : k + n ≤ bs.length) : le n (num ((bs.drop k).take n)) = (bs.drop k).take n := by
  have h1 := le_num ((bs.drop k).take n)
  have h2 : ((bs.drop k).take n).length = n := by simp; omega
  rw [h2] at h1
  exact h1
theorem take_take_drop (bs : List UInt8) (k a b : Nat) : (bs.drop k).take a ++ (bs.drop (k + a)).take b = (bs.drop k).take (a + b) := by
  rw [List.take_add, List.drop_drop]
theorem itAt_bytes (bs : List UInt8) (j : Nat) (h : 7 * j + 7 ≤ bs.length) : (itAt bs j).bytes = (bs.drop (7 * j)).take 7 := by
  simp only [It.bytes, itAt, les, List.flatMap_cons, List.flatMap_nil, Int.toNat_natCast, List.append_nil]
  rw [le_num_drop _ _ _ (by omega), le_num_drop _ _ _ (by omega), le_num_drop _ _ _ (by omega), le_num_drop _ _ _ (by omega)]
  have e1 := take_take_drop bs (7 * j + 1) 1 1
  have e2 := take_take_drop bs (7 * j) 1 (1 + 1)
  have e3 := take_take_drop bs (7 * j) (1 + (1 + 1)) 4
  rw [e1, e2]
  exact e3
theorem itsB_parse (bs : List UInt8) : ∀ m, 7 * m ≤ bs.length → itsB (parse bs m) = bs.take (7 * m)
  | 0, _ => by simp [parse, itsB]
  | m + 1, h => by
    rw [parse_succ, itsB_snoc, itsB_parse bs m (by omega), itAt_bytes bs m (by omega)]
    have := List.take_add (l := bs) (i := 7 * m) (j := 7)
    rw [← this]
    congr 1

/-- bytes as items, or refused -/
def decItems (bs : List UInt8) : Option (List It) := if bs.length ≤ 42 ∧ bs.length % 7 = 0 ∧ (parse bs (bs.length / 7)).all It.may = true then some (parse bs (bs.length / 7)) else none

/-- the program's way: what it gathered, laid again -/
theorem dec_same (bs : List UInt8) (l : List It) (h6 : l.length ≤ 6) (hl : bs.length % 7 = 0 → bs.length ≤ 42 → l = parse bs (bs.length / 7)) :
    (if encItems l = some bs then some l else none) = decItems bs := by
  unfold decItems
  by_cases hg : bs.length ≤ 42 ∧ bs.length % 7 = 0
  · obtain ⟨h1, h2⟩ := hg
    have e := hl h2 h1
    subst e
    have e2 : itsB (parse bs (bs.length / 7)) = bs := by
      rw [itsB_parse bs _ (by omega)]
      exact List.take_of_length_le (by omega)
    by_cases hm : (parse bs (bs.length / 7)).all It.may = true
    · have e3 : encItems (parse bs (bs.length / 7)) = some bs := by
        unfold encItems
        rw [e2, parse_length, if_pos ⟨by omega, hm⟩]
      rw [e3, if_pos rfl, if_pos ⟨h1, h2, hm⟩]
    · have e3 : encItems (parse bs (bs.length / 7)) = none := by
        unfold encItems
        rw [if_neg (fun h => hm h.2)]
      rw [e3, if_neg (by simp), if_neg (fun h => hm h.2.2)]
  · rw [if_neg (c := bs.length ≤ 42 ∧ _) (fun h => hg ⟨h.1, h.2.1⟩), if_neg]
    intro he
    unfold encItems at he
    split at he
    · injection he with he
      have : bs.length = 7 * l.length := by rw [← he, itsB_length]
      exact hg ⟨by omega, by omega⟩
    · cases he

/-- the cells of items -/
def itsV (l : List It) : List Value := l.flatMap fun i => i.vals.toList
theorem itsV_length (l : List It) : (itsV l).length = l.length * 4 := by
  induction l with
  | nil => rfl
  | cons i l ih =>
    have : itsV (i :: l) = i.vals.toList ++ itsV l := rfl
    rw [this, List.length_append, ih, List.length_cons]
    simp [It.vals]
    omega
theorem itsV_append (a b : List It) : itsV (a ++ b) = itsV a ++ itsV b := by simp [itsV]
theorem itsV_get : ∀ (l : List It) (i : Nat) (h : i < l.length), (itsV l)[i * 4]? = some (.int .i64 l[i].k) ∧ (itsV l)[i * 4 + 1]? = some (.int .i64 l[i].b) ∧ (itsV l)[i * 4 + 2]? = some (.int .i64 l[i].c) ∧ (itsV l)[i * 4 + 3]? = some (.int .i64 l[i].v)
  | [], i, h => by simp at h
  | x :: r, 0, h => by simp [itsV, It.vals]
  | x :: r, i + 1, h => by
    have h1 := itsV_get r i (by simpa using h)
    have e : itsV (x :: r) = x.vals.toList ++ itsV r := rfl
    have hl : x.vals.toList.length = 4 := rfl
    have e0 : (i + 1) * 4 = 4 + i * 4 := by omega
    simp only [List.getElem_cons_succ]
    rw [e, e0]
    refine ⟨?_, ?_, ?_, ?_⟩
    · rw [List.getElem?_append_right (by omega), hl, Nat.add_sub_cancel_left]; exact h1.1
    · rw [List.getElem?_append_right (by omega), hl, show 4 + i * 4 + 1 - 4 = i * 4 + 1 from by omega]; exact h1.2.1
    · rw [List.getElem?_append_right (by omega), hl, show 4 + i * 4 + 2 - 4 = i * 4 + 2 from by omega]; exact h1.2.2.1
    · rw [List.getElem?_append_right (by omega), hl, show 4 + i * 4 + 3 - 4 = i * 4 + 3 from by omega]; exact h1.2.2.2
theorem itsV_one (l : List It) : ∀ u ∈ itsV l, u.oneCell' = true := by
  intro u hu
  simp only [itsV, List.mem_flatMap, It.vals] at hu
  obtain ⟨i, _, hi⟩ := hu
  simp at hi
  rcases hi with rfl | rfl | rfl | rfl <;> rfl

/-- a slice of n elements of sz cells that the call gathers by append -/
def GathN (w : World) (base e sz : Nat) (v : Value) (n : Nat) (xs : List Value) : Prop := w.ownsRow base e sz v n xs ∧ base ≤ w.heap.size
section
variable {w w' : World} {base e sz n : Nat} {v : Value} {xs : List Value}
theorem GathN.nil (w : World) (base e sz : Nat) (h : base ≤ w.heap.size) : GathN w base e sz (.slice none 0 0) 0 [] := ⟨World.ownsRow_nil w base e sz, h⟩
theorem GathN.keep {S : List Nat} (h : GathN w base e sz v n xs) (ho : Only S w w') (hs : ∀ k, v.ownBlock = some k → k ∉ S) : GathN w' base e sz v n xs := by
  obtain ⟨⟨h1, h2⟩, hb⟩ := h
  refine ⟨⟨h1, ?_⟩, Nat.le_trans hb ho.size⟩
  rcases h2 with h2 | ⟨g, cap, cur, rfl, hb', hh, rest⟩
  · exact .inl h2
  · exact .inr ⟨g, cap, cur, rfl, hb', (ho.block g (lt_of_block hh) (hs g rfl)).trans hh, rest⟩
theorem GathN.keep0 (h : GathN w base e sz v n xs) (ho : Only [] w w') : GathN w' base e sz v n xs := h.keep ho (by simp)
/-- its value; its cells; its block -/
theorem GathN.form (h : GathN w base e sz v n xs) (hsz : 0 < sz) : ∃ A c, v = .slice A n c ∧ n ≤ c ∧ c ≤ maxLen ∧ (0 < n → ∃ g, A = some ⟨g, 0, none⟩ ∧ base ≤ g ∧ g < w.heap.size ∧ ∀ i u, xs[i]? = some u → w.cell? ⟨g, i, none⟩ = some u) ∧ (∀ k, v.ownBlock = some k → base ≤ k ∧ k < w.heap.size) := by
  have hlt := h.1.lt
  obtain ⟨⟨h1, h2⟩, hb⟩ := h
  rcases h2 with ⟨rfl, rfl⟩ | ⟨g, cap, cur, rfl, hb', hh, hn, hm, hs, ht⟩
  · exact ⟨none, 0, rfl, Nat.le_refl _, by simp [maxLen], fun h => absurd h (by omega), hlt⟩
  · refine ⟨_, cap, rfl, hn, hm, fun _ => ⟨g, rfl, hb', lt_of_block hh, fun i u hu => ?_⟩, hlt⟩
    rw [cell_of_row w g i cur e (0, 0) hh]
    rw [← ht, List.getElem?_take] at hu
    split at hu
    · simpa using hu
    · cases hu
theorem GathN.grown {w0 : World} {v' : Value} {n' : Nat} {ys : List Value} {S : List Nat} (h : GathN w base e sz v n xs) (hO : Only S w0 w) (hB : base = w0.heap.size) (ho : w'.ownsRow base e sz v' n' ys) (hg : w.grownBy w' v.ownBlock) :
    GathN w' base e sz v' n' ys ∧ Only S w0 w' := by
  refine ⟨⟨ho, Nat.le_trans h.2 hg.size⟩, hO.grown hg fun k hk => ?_⟩
  right
  have := (h.1.lt k hk).1
  omega
end
/-- gathered items, as a slice of items -/
theorem GathN.its {w : World} {base e : Nat} {v : Value} {l : List It} {n : Nat} (h : GathN w base e 4 v n (itsV l)) (hl : l.length = n) : ∃ A c, v = .slice A n c ∧ Its w A n c l ∧ (∀ k, v.ownBlock = some k → base ≤ k ∧ k < w.heap.size) := by
  obtain ⟨A, c, hv, hn, hm, hc, hb⟩ := h.form (by omega)
  refine ⟨A, c, hv, ⟨hl, hn, hm, fun h0 => ?_⟩, hb⟩
  obtain ⟨g, rfl, _, _, hcell⟩ := hc h0
  refine ⟨g, 0, rfl, fun i hi => ?_⟩
  obtain ⟨c0, c1, c2, c3⟩ := itsV_get l i hi
  simp only [Nat.zero_add]
  exact ⟨hcell _ _ c0, hcell _ _ c1, hcell _ _ c2, hcell _ _ c3⟩
end Go.Kn
