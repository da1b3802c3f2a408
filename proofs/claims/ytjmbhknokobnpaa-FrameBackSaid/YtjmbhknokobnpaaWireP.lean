/- Frames: which may be, how they are laid and read. Plain, no program in sight. -/
import Derived.Test.YtjmbhknokobnpaaSeal
set_option linter.unusedVariables false
namespace Go.Kn
open Go Go.RowKit
/-- a frame -/
structure Fr where
  k : Int
  v : Int
  s : Int
  b : Int
  c : Int
  e : Int
  d : Int
  data : List UInt8
def Fr.ints (f : Fr) : List Value := [.int .i64 f.k, .int .i64 f.v, .int .i64 f.s, .int .i64 f.b, .int .i64 f.c, .int .i64 f.e, .int .i64 f.d]
def frMay (f : Fr) : Bool :=
  decide (1 ≤ f.v ∧ f.v ≤ 2147483647) &&
  (if f.k = 1 then decide (1 ≤ f.s ∧ f.s ≤ 2147483647) && decide (0 ≤ f.b ∧ f.b ≤ 63) && (f.c == 0) && (f.e == 0) && (f.d == 0) && decide (f.data.length = 64)
   else if f.k = 2 then decide (1 ≤ f.s ∧ f.s ≤ 2147483647) && decide (0 ≤ f.b ∧ f.b ≤ 63) && decide (1 ≤ f.c ∧ f.c ≤ 64 - f.b) && (f.e == 0) && (f.d == 0) && decide (f.data.length = 0)
   else if f.k = 3 then decide (1 ≤ f.s ∧ f.s ≤ 2147483647) && (f.b == 0) && (f.c == 0) && decide (1 ≤ f.e ∧ f.e ≤ 2147483647) && (f.d == 0) && decide (f.data.length = 0)
   else if f.k = 8 then decide (0 ≤ f.s ∧ f.s ≤ 2147483647) && (f.b == 0) && (f.c == 0) && decide (0 ≤ f.e ∧ f.e ≤ 2147483647) && decide (0 ≤ f.d ∧ f.d ≤ f.s) && decide (f.data.length = 0)
   else if f.k = 9 then (f.s == 0) && (f.b == 0) && (f.c == 0) && (f.e == 0) && (f.d == 0) && decide (f.data.length = 0)
   else false)
/-- the numbers of a frame, each of its width -/
def frNums (f : Fr) : List (Nat × Int) := [(1, 75), (1, 70), (1, f.k), (4, f.v), (4, f.s), (1, f.b), (1, f.c), (4, f.e), (4, f.d)]
/-- a frame's bytes ahead of its sum -/
def frHead (f : Fr) : List UInt8 := cat (frNums f) ++ f.data
def frBytes (f : Fr) : List UInt8 := frHead f ++ le 4 (csum (frHead f))
def encFr (f : Fr) : Option (List UInt8) := if frMay f = true then some (frBytes f) else none
def frOf (bs : List UInt8) : Fr := ⟨rd bs 2 1, rd bs 3 4, rd bs 7 4, rd bs 11 1, rd bs 12 1, rd bs 13 4, rd bs 17 4, (bs.drop 21).take (bs.length - 25)⟩
def decFr (bs : List UInt8) : Option Fr := decBy encFr frOf bs
theorem frMay_bounds {f : Fr} (h : frMay f = true) : (0 ≤ f.k ∧ f.k < 256) ∧ (0 ≤ f.v ∧ f.v < 4294967296) ∧ (0 ≤ f.s ∧ f.s < 4294967296) ∧ (0 ≤ f.b ∧ f.b < 256) ∧ (0 ≤ f.c ∧ f.c < 256) ∧ (0 ≤ f.e ∧ f.e < 4294967296) ∧ (0 ≤ f.d ∧ f.d < 4294967296) ∧ (f.data.length = 0 ∨ f.data.length = 64) := by
  unfold frMay at h
  split at h
  · simp only [Bool.and_eq_true, decide_eq_true_eq, beq_iff_eq] at h
    omega
  · split at h
    · simp only [Bool.and_eq_true, decide_eq_true_eq, beq_iff_eq] at h
      omega
    · split at h
      · simp only [Bool.and_eq_true, decide_eq_true_eq, beq_iff_eq] at h
        omega
      · split at h
        · simp only [Bool.and_eq_true, decide_eq_true_eq, beq_iff_eq] at h
          omega
        · split at h
          · simp only [Bool.and_eq_true, decide_eq_true_eq, beq_iff_eq] at h
            omega
          · simp at h
theorem frNums_wid (f : Fr) : wid (frNums f) = 21 := rfl
theorem frHead_length (f : Fr) : (frHead f).length = 21 + f.data.length := by
  unfold frHead
  rw [List.length_append, cat_length, frNums_wid]
theorem frBytes_length (f : Fr) : (frBytes f).length = 25 + f.data.length := by
  unfold frBytes
  rw [List.length_append, frHead_length, le_length]
  omega
theorem frBytes_closed (f : Fr) : Closed (frBytes f) ((frBytes f).length - 4) := by
  have h : (frBytes f).length - 4 = (frHead f).length := by rw [frBytes_length, frHead_length]; omega
  unfold Closed
  rw [h]
  unfold frBytes
  rw [List.drop_left, List.take_left]
theorem encFr_some {f : Fr} {b : List UInt8} (h : encFr f = some b) : frMay f = true ∧ b = frBytes f := by
  unfold encFr at h
  split at h
  · injection h with h
    exact ⟨by assumption, h.symm⟩
  · cases h
theorem encFr_of {f : Fr} {b : List UInt8} (h : encFr f = some b) : frOf b = f := by
  obtain ⟨hm, rfl⟩ := encFr_some h
  obtain ⟨h0, h1, h2, h3, h4, h5, h6, _⟩ := frMay_bounds hm
  have e : (256 : Int) ^ 1 = 256 := rfl
  have e4 : (256 : Int) ^ 4 = 4294967296 := rfl
  have hb : frBytes f = cat (frNums f) ++ (f.data ++ le 4 (csum (frHead f))) := by unfold frBytes; rw [← List.append_assoc]; rfl
  have hl : ∀ r, f.data ++ le 4 r = f.data ++ le 4 r := fun _ => rfl
  have hdata : ((frBytes f).drop 21).take ((frBytes f).length - 25) = f.data := by
    rw [frBytes_length, hb, show (21 : Nat) = (cat (frNums f)).length by rw [cat_length]; rfl, List.drop_left, show 25 + f.data.length - 25 = f.data.length by omega, List.take_left]
  unfold frOf
  rw [hdata, hb]
  generalize f.data ++ le 4 (csum (frHead f)) = rest
  have g0 := cat_get [(1, 75), (1, 70)] 1 f.k [(4, f.v), (4, f.s), (1, f.b), (1, f.c), (4, f.e), (4, f.d)] rest (by omega)
  have g1 := cat_get [(1, 75), (1, 70), (1, f.k)] 4 f.v [(4, f.s), (1, f.b), (1, f.c), (4, f.e), (4, f.d)] rest (by omega)
  have g2 := cat_get [(1, 75), (1, 70), (1, f.k), (4, f.v)] 4 f.s [(1, f.b), (1, f.c), (4, f.e), (4, f.d)] rest (by omega)
  have g3 := cat_get [(1, 75), (1, 70), (1, f.k), (4, f.v), (4, f.s)] 1 f.b [(1, f.c), (4, f.e), (4, f.d)] rest (by omega)
  have g4 := cat_get [(1, 75), (1, 70), (1, f.k), (4, f.v), (4, f.s), (1, f.b)] 1 f.c [(4, f.e), (4, f.d)] rest (by omega)
  have g5 := cat_get [(1, 75), (1, 70), (1, f.k), (4, f.v), (4, f.s), (1, f.b), (1, f.c)] 4 f.e [(4, f.d)] rest (by omega)
  have g6 := cat_get [(1, 75), (1, 70), (1, f.k), (4, f.v), (4, f.s), (1, f.b), (1, f.c), (4, f.e)] 4 f.d [] rest (by omega)
  simp only [wid, List.map_cons, List.map_nil, List.sum_cons, List.sum_nil, List.cons_append, List.nil_append, Nat.reduceAdd] at g0 g1 g2 g3 g4 g5 g6
  unfold frNums
  rw [g0, g1, g2, g3, g4, g5, g6]
theorem fr_back {f : Fr} (h : frMay f = true) : encFr f = some (frBytes f) ∧ decFr (frBytes f) = some f := by
  have he : encFr f = some (frBytes f) := by unfold encFr; rw [if_pos h]
  exact ⟨he, decBy_back (encFr_of he) he⟩
theorem encFr_closed {f : Fr} {b : List UInt8} (h : encFr f = some b) : Closed b (b.length - 4) := by
  rw [(encFr_some h).2]
  exact frBytes_closed f
theorem fr_turned {b : List UInt8} {first pat : Nat} (h4 : 4 ≤ b.length) (hc : Closed b (b.length - 4)) (ha : turnA first (8 * (b.length - 4)) pat 32 = true) : decFr (turnB b first (8 * (b.length - 4)) pat 32) = none :=
  decBy_turned (fun x y h => encFr_closed h) (by omega) hc ha
/-- the program's way: what it gathered, laid again -/
theorem fr_same {x : Fr} {bs : List UInt8} (hx : 25 ≤ bs.length → x = frOf bs) : (if encFr x = some bs then some x else none) = decFr bs := by
  by_cases h : 25 ≤ bs.length
  · rw [hx h]
    rfl
  · have hno : ∀ y, encFr y ≠ some bs := fun y he => h (by rw [(encFr_some he).2, frBytes_length]; omega)
    unfold decFr decBy
    rw [if_neg (hno _), if_neg (hno _)]
theorem fr_len {bs : List UInt8} (h : bs.length ≠ 25 ∧ bs.length ≠ 89) : decFr bs = none := by
  unfold decFr decBy
  rw [if_neg]
  intro he
  have h1 := encFr_some he
  have h2 := frMay_bounds h1.1
  have h3 := congrArg List.length h1.2
  rw [frBytes_length] at h3
  omega
end Go.Kn
