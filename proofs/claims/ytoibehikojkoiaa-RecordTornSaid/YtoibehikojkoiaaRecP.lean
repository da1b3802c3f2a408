/- Records: plain laws, no program in sight; a slice of slices of bytes in memory. -/
import Derived.Test.YtoibehikojkoiaaItemR
import Derived.Test.YtoibehikojkoiaaSeal
import Derived.Test.YtoibehikojkoiaaTurnP
set_option linter.unusedVariables false
namespace Go.Kn
open Go Go.RowKit

/-- a record -/
structure Rc where
  m : Int
  n : Int
  p : Int
  its : List It
  bl : List (List UInt8)

def rcHeadMay (r : Rc) : Bool := decide (1 ≤ r.m ∧ r.m ≤ 2147483647) && (decide (1 ≤ r.n ∧ r.n ≤ 2147483647) && (decide (0 ≤ r.p ∧ r.p ≤ 4294967295) && decide (1 ≤ r.its.length ∧ r.its.length ≤ 6)))
def loads (l : List It) : Nat := (l.filter It.loaded).length
def full64 (bl : List (List UInt8)) : Bool := bl.all fun b => decide (b.length = 64)
def rcMay (r : Rc) : Bool := rcHeadMay r && (r.its.all It.may && (decide (r.bl.length = loads r.its) && full64 r.bl))
theorem rcMay_iff {r : Rc} : rcMay r = true ↔ ((1 ≤ r.m ∧ r.m ≤ 2147483647) ∧ (1 ≤ r.n ∧ r.n ≤ 2147483647) ∧ (0 ≤ r.p ∧ r.p ≤ 4294967295) ∧ (1 ≤ r.its.length ∧ r.its.length ≤ 6)) ∧ r.its.all It.may = true ∧ r.bl.length = loads r.its ∧ full64 r.bl = true := by
  unfold rcMay rcHeadMay
  simp only [Bool.and_eq_true, decide_eq_true_eq]
theorem loads_le (l : List It) : loads l ≤ l.length := List.length_filter_le _ _
theorem loads_snoc (l : List It) (i : It) : loads (l ++ [i]) = loads l + if i.loaded then 1 else 0 := by
  unfold loads
  rw [List.filter_append, List.length_append]
  cases h : i.loaded <;> simp [List.filter, h]
/-- its numbers ahead of its items -/
def rcFs (r : Rc) : List (Nat × Int) := [(1, 75), (1, 82), (4, r.m), (4, r.n), (4, r.p), (1, (r.its.length : Int)), (1, (r.bl.length : Int))]
theorem rcFs_wid (r : Rc) : wid (rcFs r) = 16 := rfl
theorem rcFs_len (r : Rc) : (cat (rcFs r)).length = 16 := cat_length _
/-- a summary ahead of its sum -/
def rcHead (r : Rc) : List UInt8 := cat (rcFs r) ++ (itsB r.its ++ List.replicate (44 - 7 * r.its.length) 0)
theorem rcHead_length {r : Rc} (h : r.its.length ≤ 6) : (rcHead r).length = 60 := by
  unfold rcHead
  rw [List.length_append, List.length_append, rcFs_len, itsB_length, List.length_replicate]
  omega
def rcSum (r : Rc) : Nat := csum (rcHead r ++ r.bl.flatten)
def rcBytes (r : Rc) : List UInt8 := rcHead r ++ (le 4 (rcSum r) ++ r.bl.flatten)
def encRc (r : Rc) : Option (List UInt8 × Nat) := if rcMay r = true then some (rcBytes r, rcSum r) else none
theorem flat64 : ∀ {bl : List (List UInt8)}, full64 bl = true → bl.flatten.length = 64 * bl.length
  | [], _ => rfl
  | b :: bl, h => by
    simp only [full64, List.all_cons, Bool.and_eq_true, decide_eq_true_eq] at h
    have := flat64 (bl := bl) h.2
    rw [List.flatten_cons, List.length_append, this, h.1, List.length_cons]
    omega
theorem full64_take {bl : List (List UInt8)} (h : full64 bl = true) (q : Nat) : full64 (bl.take q) = true :=
  List.all_eq_true.2 fun x hx => List.all_eq_true.1 h x (List.mem_of_mem_take hx)
theorem full64_get {bl : List (List UInt8)} (h : full64 bl = true) (i : Nat) (hi : i < bl.length) : bl[i].length = 64 := by
  simpa using List.all_eq_true.1 h bl[i] (List.getElem_mem _)
theorem flat64_get : ∀ {bl : List (List UInt8)}, full64 bl = true → ∀ (i : Nat) (hi : i < bl.length), (bl.flatten.drop (64 * i)).take 64 = bl[i]
  | [], _, i, hi => by simp at hi
  | b :: bl, h, 0, hi => by
    simp only [full64, List.all_cons, Bool.and_eq_true, decide_eq_true_eq] at h
    rw [List.flatten_cons]
    exact List.take_left' h.1
  | b :: bl, h, i + 1, hi => by
    simp only [full64, List.all_cons, Bool.and_eq_true, decide_eq_true_eq] at h
    rw [List.flatten_cons, List.drop_append, List.drop_of_length_le (by omega), List.nil_append, show 64 * (i + 1) - b.length = 64 * i from by omega, List.getElem_cons_succ]
    exact flat64_get (bl := bl) h.2 i (by simpa using hi)
theorem rcBytes_length {r : Rc} (h : rcMay r = true) : (rcBytes r).length = 64 * (1 + r.bl.length) := by
  obtain ⟨⟨_, _, _, _, h6⟩, _, _, h3⟩ := rcMay_iff.1 h
  unfold rcBytes
  rw [List.length_append, List.length_append, rcHead_length h6, le_length, flat64 h3]
  omega
theorem rcBytes_head {r : Rc} (h : r.its.length ≤ 6) : (rcBytes r).take 60 = rcHead r := List.take_left' (rcHead_length h)
theorem rcBytes_flat {r : Rc} (h : r.its.length ≤ 6) : (rcBytes r).drop 64 = r.bl.flatten := by
  unfold rcBytes
  rw [← List.append_assoc, List.drop_left' (by rw [List.length_append, rcHead_length h, le_length])]
theorem rcBytes_sum {r : Rc} (h : r.its.length ≤ 6) : ((rcBytes r).drop 60).take 4 = le 4 (rcSum r) := by
  unfold rcBytes
  rw [List.drop_left' (rcHead_length h), List.take_left' (le_length _ _)]

/-- what a summary tells -/
def rcN (b : List UInt8) : Nat := num ((b.drop 14).take 1)
def rcK (b : List UInt8) : Nat := num ((b.drop 15).take 1)
def rcHd (b : List UInt8) : Bool := decide (b.take 2 = [75, 82]) && (decide (1 ≤ rcN b ∧ rcN b ≤ 6) && decide (rcK b ≤ rcN b))
def rcBl (b : List UInt8) (k : Nat) : List (List UInt8) := (List.range k).map fun i => (b.drop (64 * (i + 1))).take 64
@[simp] theorem rcBl_length (b : List UInt8) (k : Nat) : (rcBl b k).length = k := by simp [rcBl]
theorem rcBl_succ (b : List UInt8) (k : Nat) : rcBl b (k + 1) = rcBl b k ++ [(b.drop (64 * (k + 1))).take 64] := by simp [rcBl, List.range_succ]
def rcOf (b : List UInt8) : Rc := ⟨rd b 2 4, rd b 6 4, rd b 10 4, parse ((b.drop 16).take (7 * rcN b)) (rcN b), rcBl b (rcK b)⟩
def rcFit (b : List UInt8) : Bool := rcHd b && decide (b.length = 64 * (1 + rcK b))
def decRc (b : List UInt8) : Option (Rc × Nat) :=
  if rcFit b = true then (match encRc (rcOf b) with
    | some (y, s) => if y = b then some (rcOf b, s) else none
    | none => none) else none
def sizeRc (b : List UInt8) : Nat := if b.length = 64 ∧ rcHd b = true then 1 + rcK b else 0

theorem encRc_of_dec {b : List UInt8} {r : Rc} {s : Nat} (h : decRc b = some (r, s)) : encRc r = some (b, s) ∧ r = rcOf b ∧ rcFit b = true := by
  unfold decRc at h
  split at h
  · rename_i hf
    split at h
    · rename_i y s' he
      split at h
      · rename_i hy
        injection h with h
        injection h with h1 h2
        subst h1 h2 hy
        exact ⟨he, rfl, hf⟩
      · cases h
    · cases h
  · cases h
theorem cat_front (fs : List (Nat × Int)) (rest : List UInt8) (a : List (Nat × Int)) (w : Nat) (z : Int) (b : List (Nat × Int)) (e : fs = a ++ (w, z) :: b) (hz : 0 ≤ z ∧ z < 256 ^ w) : rd (cat fs ++ rest) (wid a) w = z := by
  subst e
  exact cat_get a w z b rest hz
section
variable {r : Rc}
theorem rcB_eq (r : Rc) : rcBytes r = cat (rcFs r) ++ (itsB r.its ++ (List.replicate (44 - 7 * r.its.length) 0 ++ (le 4 (rcSum r) ++ r.bl.flatten))) := by
  unfold rcBytes rcHead
  simp only [List.append_assoc]
theorem rcN_bytes (h : r.its.length ≤ 6) : rcN (rcBytes r) = r.its.length := by
  have h1 := cat_front (rcFs r) (itsB r.its ++ (List.replicate (44 - 7 * r.its.length) 0 ++ (le 4 (rcSum r) ++ r.bl.flatten))) [(1, 75), (1, 82), (4, r.m), (4, r.n), (4, r.p)] 1 (r.its.length : Int) [(1, (r.bl.length : Int))] rfl ⟨by omega, by omega⟩
  rw [← rcB_eq] at h1
  have e : wid [(1, 75), (1, 82), (4, r.m), (4, r.n), (4, r.p)] = 14 := rfl
  rw [e] at h1
  unfold rd at h1
  unfold rcN
  omega
theorem rcK_bytes (h : r.bl.length ≤ 6) : rcK (rcBytes r) = r.bl.length := by
  have h1 := cat_front (rcFs r) (itsB r.its ++ (List.replicate (44 - 7 * r.its.length) 0 ++ (le 4 (rcSum r) ++ r.bl.flatten))) [(1, 75), (1, 82), (4, r.m), (4, r.n), (4, r.p), (1, (r.its.length : Int))] 1 (r.bl.length : Int) [] rfl ⟨by omega, by omega⟩
  rw [← rcB_eq] at h1
  have e : wid [(1, 75), (1, 82), (4, r.m), (4, r.n), (4, r.p), (1, (r.its.length : Int))] = 15 := rfl
  rw [e] at h1
  unfold rd at h1
  unfold rcK
  omega
theorem rcBl_bytes (h6 : r.its.length ≤ 6) (h : full64 r.bl = true) : rcBl (rcBytes r) r.bl.length = r.bl := by
  apply List.ext_getElem (by simp)
  intro i h1 h2
  simp only [rcBl, List.getElem_map, List.getElem_range]
  have e := rcBytes_flat (r := r) h6
  rw [show 64 * (i + 1) = 64 + 64 * i from by omega, ← List.drop_drop, e]
  exact flat64_get h i h2
theorem rcOf_bytes (h : rcMay r = true) : rcOf (rcBytes r) = r ∧ rcFit (rcBytes r) = true := by
  have hl := rcBytes_length h
  obtain ⟨⟨hm, hn, hp, h1, h6⟩, hi, hb, hf⟩ := rcMay_iff.1 h
  have hk : r.bl.length ≤ 6 := by have := loads_le r.its; omega
  have hN := rcN_bytes h6
  have hK := rcK_bytes (r := r) hk
  have e4 : (256 : Int) ^ 4 = 4294967296 := rfl
  have q1 := cat_front (rcFs r) (itsB r.its ++ (List.replicate (44 - 7 * r.its.length) 0 ++ (le 4 (rcSum r) ++ r.bl.flatten))) [(1, 75), (1, 82)] 4 r.m [(4, r.n), (4, r.p), (1, (r.its.length : Int)), (1, (r.bl.length : Int))] rfl ⟨by omega, by omega⟩
  have q2 := cat_front (rcFs r) (itsB r.its ++ (List.replicate (44 - 7 * r.its.length) 0 ++ (le 4 (rcSum r) ++ r.bl.flatten))) [(1, 75), (1, 82), (4, r.m)] 4 r.n [(4, r.p), (1, (r.its.length : Int)), (1, (r.bl.length : Int))] rfl ⟨by omega, by omega⟩
  have q3 := cat_front (rcFs r) (itsB r.its ++ (List.replicate (44 - 7 * r.its.length) 0 ++ (le 4 (rcSum r) ++ r.bl.flatten))) [(1, 75), (1, 82), (4, r.m), (4, r.n)] 4 r.p [(1, (r.its.length : Int)), (1, (r.bl.length : Int))] rfl ⟨by omega, by omega⟩
  rw [← rcB_eq] at q1 q2 q3
  have w1 : wid [(1, 75), (1, 82)] = 2 := rfl
  have w2 : wid [(1, 75), (1, 82), (4, r.m)] = 6 := rfl
  have w3 : wid [(1, 75), (1, 82), (4, r.m), (4, r.n)] = 10 := rfl
  rw [w1] at q1
  rw [w2] at q2
  rw [w3] at q3
  have hit : ((rcBytes r).drop 16).take (7 * r.its.length) = itsB r.its := by
    rw [rcB_eq, List.drop_left' (rcFs_len r), List.take_left' (itsB_length _)]
  constructor
  · unfold rcOf
    rw [q1, q2, q3, hN, hK, hit, parse_itsB _ hi, rcBl_bytes h6 hf]
  · unfold rcFit rcHd
    rw [hN, hK, hl]
    have h2 : (rcBytes r).take 2 = [75, 82] := by rw [rcB_eq]; rfl
    rw [h2]
    have := loads_le r.its
    simp only [Bool.and_eq_true, decide_eq_true_eq]
    exact ⟨⟨trivial, ⟨h1, h6⟩, by omega⟩, trivial⟩
theorem dec_rc (h : rcMay r = true) : decRc (rcBytes r) = some (r, rcSum r) := by
  obtain ⟨h1, h2⟩ := rcOf_bytes h
  unfold decRc
  rw [h2, h1]
  unfold encRc
  rw [if_pos h]
  simp
theorem enc_rc (h : rcMay r = true) : encRc r = some (rcBytes r, rcSum r) := by
  unfold encRc
  rw [if_pos h]
theorem of_enc {b : List UInt8} {s : Nat} (h : encRc r = some (b, s)) : rcMay r = true ∧ b = rcBytes r ∧ s = rcSum r := by
  unfold encRc at h
  split at h
  · rename_i hm
    injection h with h
    injection h with h1 h2
    exact ⟨hm, h1.symm, h2.symm⟩
  · cases h
end
/-- closed by its sum, which stands amid it -/
def RcClosed (b : List UInt8) : Prop := (b.drop 60).take 4 = le 4 (csum (b.take 60 ++ b.drop 64))
theorem closed_of_enc {r : Rc} {b : List UInt8} {s : Nat} (h : encRc r = some (b, s)) : RcClosed b := by
  obtain ⟨hm, rfl, rfl⟩ := of_enc h
  obtain ⟨⟨_, _, _, _, h6⟩, _⟩ := rcMay_iff.1 hm
  unfold RcClosed
  rw [rcBytes_head h6, rcBytes_flat h6, rcBytes_sum h6]
  rfl
theorem closed_of_dec {b : List UInt8} {r : Rc} {s : Nat} (h : decRc b = some (r, s)) : RcClosed b := closed_of_enc (encRc_of_dec h).1
theorem csum_app_ne {a a' c : List UInt8} (hn : cadd 4294967295 a ≠ cadd 4294967295 a') : csum (a ++ c) ≠ csum (a' ++ c) := by
  intro h
  unfold csum at h
  have h1 := cadd_lt (x := 4294967295) (by decide) (a ++ c)
  have h2 := cadd_lt (x := 4294967295) (by decide) (a' ++ c)
  have h3 : cadd 4294967295 (a ++ c) = cadd 4294967295 (a' ++ c) := by omega
  rw [cadd_append, cadd_append] at h3
  have l1 := cadd_lt (x := 4294967295) (by decide) a
  have l2 := cadd_lt (x := 4294967295) (by decide) a'
  rw [cadd_brun, cadd_brun c] at h3
  exact hn (brun_inj l1 l2 _ h3)
theorem le4_inj {x y : Nat} (hx : x < 4294967296) (hy : y < 4294967296) (h : le 4 x = le 4 y) : x = y := by
  have h1 := congrArg num h
  have e : (256 : Nat) ^ 4 = 4294967296 := rfl
  rwa [num_le _ _ (by omega), num_le _ _ (by omega)] at h1
theorem rc_spoilt_head {b : List UInt8} (hl : 64 ≤ b.length) (hc : RcClosed b) (first pat : Nat) (h : turnA first (8 * 60) pat 32 = true) : ¬ RcClosed (turnB b first (8 * 60) pat 32) := by
  unfold RcClosed at hc ⊢
  have hd := turnB_drop b first 60 pat 32
  have hd2 : (turnB b first (8 * 60) pat 32).drop 64 = b.drop 64 := by
    have := congrArg (List.drop 4) hd
    simpa [List.drop_drop] using this
  rw [hd, hd2, hc]
  intro he
  have he := le4_inj (csum_lt _) (csum_lt _) he
  exact csum_app_ne (turned_cadd b first 60 pat 4294967295 (by decide) (by omega) h) he.symm
theorem rc_spoilt_tail {a c : List UInt8} (ha : a.length = 64) (hc : RcClosed (a ++ c)) (first pat : Nat) (h : turnA first (8 * c.length) pat 32 = true) : ¬ RcClosed (a ++ turnB c first (8 * c.length) pat 32) := by
  unfold RcClosed at hc ⊢
  have e1 : ∀ x : List UInt8, ((a ++ x).drop 60).take 4 = (a.drop 60).take 4 := by
    intro x
    rw [List.drop_append, List.take_append, show 60 - a.length = 0 from by omega, List.drop_zero, List.length_drop, ha]
    simp
  have e2 : ∀ x : List UInt8, (a ++ x).take 60 = a.take 60 := by
    intro x
    rw [List.take_append, show 60 - a.length = 0 from by omega]
    simp
  have e3 : ∀ x : List UInt8, (a ++ x).drop 64 = x := fun x => List.drop_left' ha
  rw [e1, e2, e3] at hc ⊢
  rw [hc]
  intro he
  have he := le4_inj (csum_lt _) (csum_lt _) he
  unfold csum at he
  have h1 := cadd_lt (x := 4294967295) (by decide) (a.take 60 ++ c)
  have h2 := cadd_lt (x := 4294967295) (by decide) (a.take 60 ++ turnB c first (8 * c.length) pat 32)
  have h3 : cadd 4294967295 (a.take 60 ++ turnB c first (8 * c.length) pat 32) = cadd 4294967295 (a.take 60 ++ c) := by omega
  rw [cadd_append, cadd_append] at h3
  have l1 := cadd_lt (x := 4294967295) (by decide) (a.take 60)
  have h4 := turned_cadd c first c.length pat _ l1 (Nat.le_refl _) h
  rw [List.take_of_length_le (Nat.le_refl c.length), List.take_of_length_le (l := turnB c first (8 * c.length) pat 32) (by rw [turnB_length]; exact Nat.le_refl _)] at h4
  exact h4 h3
theorem dec_rc_turned {b : List UInt8} (hl : 64 ≤ b.length) (hc : RcClosed b) (first pat : Nat) (h : turnA first (8 * 60) pat 32 = true) : decRc (turnB b first (8 * 60) pat 32) = none := by
  cases hd : decRc (turnB b first (8 * 60) pat 32) with
  | none => rfl
  | some x => exact absurd (closed_of_dec hd) (rc_spoilt_head hl hc first pat h)
theorem dec_rc_turned2 {a c : List UInt8} (ha : a.length = 64) (hc : RcClosed (a ++ c)) (first pat : Nat) (h : turnA first (8 * c.length) pat 32 = true) : decRc (a ++ turnB c first (8 * c.length) pat 32) = none := by
  cases hd : decRc (a ++ turnB c first (8 * c.length) pat 32) with
  | none => rfl
  | some x => exact absurd (closed_of_dec hd) (rc_spoilt_tail ha hc first pat h)
/-- of another length it is none -/
theorem dec_rc_len {b : List UInt8} (h : b.length ≠ 64 * (1 + rcK b)) : decRc b = none := by
  unfold decRc rcFit
  rw [decide_eq_false h, Bool.and_false]
  rfl

/-- a slice value -/
def slv (s : Option Addr × Nat × Nat) : Value := .slice s.1 s.2.1 s.2.2
/-- slices that read as lists of bytes -/
def Bls (w : World) (sl : List (Option Addr × Nat × Nat)) (bl : List (List UInt8)) : Prop := sl.length = bl.length ∧ ∀ i (h1 : i < sl.length) (h2 : i < bl.length), Bys w sl[i].1 sl[i].2.1 sl[i].2.2 bl[i]
/-- a slice of slices of bytes -/
def Blks (w : World) (A : Option Addr) (n c : Nat) (bl : List (List UInt8)) : Prop := ∃ sl, Row1 w A n c (sl.map slv) ∧ Bls w sl bl
theorem slv_one (sl : List (Option Addr × Nat × Nat)) : ∀ u ∈ sl.map slv, u.oneCell' = true := by
  intro u hu
  obtain ⟨s, _, rfl⟩ := List.mem_map.1 hu
  rfl
section
variable {w w' : World} {A : Option Addr} {n c : Nat} {bl : List (List UInt8)} {sl : List (Option Addr × Nat × Nat)}
theorem Bls.keep0 (h : Bls w sl bl) (hO : Only [] w w') : Bls w' sl bl := ⟨h.1, fun i h1 h2 => (h.2 i h1 h2).keep0 hO⟩
theorem Blks.keep0 (h : Blks w A n c bl) (hO : Only [] w w') : Blks w' A n c bl := by
  obtain ⟨sl, h1, h2⟩ := h
  exact ⟨sl, h1.keep0 hO, h2.keep0 hO⟩
theorem Blks.len (h : Blks w A n c bl) : bl.length = n := by
  obtain ⟨sl, h1, h2, _⟩ := h
  have := h1.len
  rw [List.length_map] at this
  omega
theorem Blks.le (h : Blks w A n c bl) : n ≤ c := by obtain ⟨sl, h1, _⟩ := h; exact h1.le
theorem Blks.cm (h : Blks w A n c bl) : c ≤ maxLen := by obtain ⟨sl, h1, _⟩ := h; exact h1.cm
theorem Blks.nil (w : World) : Blks w none 0 0 [] := ⟨[], Row1.nil w, rfl, fun i h1 => by simp at h1⟩
theorem Bls.nil (w : World) : Bls w [] [] := ⟨rfl, fun i h1 => by simp at h1⟩
theorem Bls.snoc (h : Bls w sl bl) {B : Option Addr} {m d : Nat} {bs : List UInt8} (hb : Bys w B m d bs) : Bls w (sl ++ [(B, m, d)]) (bl ++ [bs]) := by
  obtain ⟨h1, h2⟩ := h
  refine ⟨by simp [h1], fun i hi hj => ?_⟩
  by_cases hl : i < sl.length
  · have := h2 i hl (by omega)
    rw [List.getElem_append_left hl, List.getElem_append_left (by omega)]
    exact this
  · have e : i = sl.length := by simp at hi; omega
    subst e
    have e2 : (bl ++ [bs])[sl.length] = bs := by
      rw [List.getElem_append_right (by omega)]
      simp [h1]
    rw [e2]
    simpa using hb
theorem Bls.cons (h : Bls w sl bl) {B : Option Addr} {m d : Nat} {bs : List UInt8} (hb : Bys w B m d bs) : Bls w ((B, m, d) :: sl) (bs :: bl) := by
  obtain ⟨h1, h2⟩ := h
  refine ⟨by simp [h1], fun i hi hj => ?_⟩
  cases i with
  | zero => exact hb
  | succ i => exact h2 i (by simpa using hi) (by simpa using hj)
/-- one of the blocks: its cell, its bytes -/
theorem Blks.at_ (h : Blks w A n c bl) (i : Nat) (hi : i < n) : ∃ g o B m d, A = some ⟨g, o, none⟩ ∧ w.cell? ⟨g, o + i, none⟩ = some (.slice B m d) ∧ Bys w B m d (bl[i]'(by rw [h.len]; exact hi)) := by
  have hl := h.len
  obtain ⟨sl, h1, h2, h3⟩ := h
  obtain ⟨g, o, e, hc⟩ := h1.at_ (by omega)
  have hs : i < sl.length := by omega
  have := hc i (by simpa using hs)
  rw [List.getElem_map] at this
  exact ⟨g, o, sl[i].1, sl[i].2.1, sl[i].2.2, e, this, h3 i hs (by omega)⟩
end
/-- a record in the world: its items, its blocks -/
def RcAt (w : World) (r : Rc) (s t : Option Addr × Nat × Nat) : Prop := Its w s.1 s.2.1 s.2.2 r.its ∧ Blks w t.1 t.2.1 t.2.2 r.bl
theorem RcAt.keep0 {w w' : World} {r : Rc} {s t : Option Addr × Nat × Nat} (h : RcAt w r s t) (hO : Only [] w w') : RcAt w' r s t := ⟨h.1.keep0 hO, h.2.keep0 hO⟩
def Rc.cells (r : Rc) (s t : Option Addr × Nat × Nat) : Array Value := #[.int .i64 r.m, .int .i64 r.n, .int .i64 r.p, slv s, slv t]
/-- what lies in blocks that are new -/
def Anew (w w' : World) (f : World → Prop) : Prop := ∀ W : World, (∀ k, w.heap.size ≤ k → k < w'.heap.size → W.heap[k]? = w'.heap[k]?) → f W
theorem Anew.now {w w' : World} {f : World → Prop} (h : Anew w w' f) : f w' := h w' fun _ _ _ => rfl
end Go.Kn
