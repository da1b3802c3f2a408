
/- Numbers in a row, with their sum: laid and read back; what a walk of a codec carries along. Plain, no program in sight. -/
import Derived.Test.YtkpagiokjihmhaaSealed
import Derived.Test.YtkpagiokjihmhaaRowD
import Derived.Test.YtkpagiokjihmhaaItemP
set_option linter.unusedVariables false
namespace Go.Kn
open Go Go.RowKit
/-- numbers, each of its width, one behind the other -/
def cat (fs : List (Nat × Int)) : List UInt8 := fs.flatMap fun f => le f.1 f.2.toNat
def wid (fs : List (Nat × Int)) : Nat := (fs.map (·.1)).sum
@[simp] theorem cat_nil : cat [] = [] := rfl
theorem cat_cons (f : Nat × Int) (fs : List (Nat × Int)) : cat (f :: fs) = le f.1 f.2.toNat ++ cat fs := rfl
theorem cat_append (a b : List (Nat × Int)) : cat (a ++ b) = cat a ++ cat b := by simp [cat]
theorem cat_length : ∀ fs : List (Nat × Int), (cat fs).length = wid fs
  | [] => rfl
  | f :: fs => by
    rw [cat_cons, List.length_append, le_length, cat_length fs]
    simp [wid]
theorem les_cat (n : Nat) (zs : List Int) : les n zs = cat (zs.map fun z => (n, z)) := by simp [les, cat, List.flatMap_map]
/-- a number of a row -/
def rd (bs : List UInt8) (k n : Nat) : Int := ((num ((bs.drop k).take n) : Nat) : Int)
theorem rd_range (bs : List UInt8) (k n : Nat) : 0 ≤ rd bs k n ∧ rd bs k n < 256 ^ n := by
  have h1 := num_lt ((bs.drop k).take n)
  have h2 : (256 : Nat) ^ ((bs.drop k).take n).length ≤ 256 ^ n := Nat.pow_le_pow_right (by decide) (by simp <;> omega)
  have h3 : ((256 ^ n : Nat) : Int) = (256 : Int) ^ n := by simp
  unfold rd
  omega
theorem cat_get (a : List (Nat × Int)) (w : Nat) (z : Int) (b : List (Nat × Int)) (rest : List UInt8) (hz : 0 ≤ z ∧ z < 256 ^ w) : rd (cat (a ++ (w, z) :: b) ++ rest) (wid a) w = z := by
  unfold rd
  have h3 : ((256 ^ w : Nat) : Int) = (256 : Int) ^ w := by simp
  have h4 : z.toNat < 256 ^ w := by omega
  rw [cat_append, cat_cons, List.append_assoc, ← cat_length a, List.drop_left, List.append_assoc, List.take_left' (by simp), num_le _ _ h4]
  show ((z.toNat : Nat) : Int) = z
  omega
theorem rd_sealed (bs : List UInt8) (h : bs.length = 64) (k n : Nat) (hk : k + n ≤ 60) : rd (sealed bs) k n = rd bs k n := by
  unfold rd
  rw [sealed_part bs h k n hk]
/-- rows of calls: one list of numbers more -/
theorem lay_cat (bs : List UInt8) (a : List (Nat × Int)) (k n : Nat) (zs : List Int) (hk : wid a = k) (h : k + n * zs.length ≤ bs.length) : lay (lay bs 0 (cat a)) k (les n zs) = lay bs 0 (cat (a ++ zs.map fun z => (n, z))) := by
  have e := lay_lay bs 0 (cat a) (les n zs) (by rw [cat_length, hk, les_length]; omega)
  rw [cat_length, hk, Nat.zero_add] at e
  rw [e, cat_append, les_cat]

/-- what reads: what it read, laid again, must be the same bytes -/
def decBy {α : Type} (enc : α → Option (List UInt8)) (of : List UInt8 → α) (bs : List UInt8) : Option α := if enc (of bs) = some bs then some (of bs) else none
section
variable {α : Type} {enc : α → Option (List UInt8)} {of : List UInt8 → α}
theorem decBy_back {x : α} {b : List UInt8} (hR : of b = x) (h : enc x = some b) : decBy enc of b = some x := by
  unfold decBy
  rw [hR, if_pos h]
theorem decBy_enc {x : α} {b : List UInt8} (h : decBy enc of b = some x) : enc x = some b := by
  unfold decBy at h
  split at h
  · rename_i hc
    injection h with h
    rw [← h]
    exact hc
  · cases h
theorem decBy_turned {b : List UInt8} {first pat B : Nat} (hC : ∀ x y, enc x = some y → Closed y (y.length - 4)) (hB : B + 4 = b.length) (hb : Closed b B) (ha : turnA first (8 * B) pat 32 = true) : decBy enc of (turnB b first (8 * B) pat 32) = none := by
  cases hd : decBy enc of (turnB b first (8 * B) pat 32) with
  | none => rfl
  | some x =>
    have h1 := hC _ _ (decBy_enc hd)
    rw [turnB_length, show b.length - 4 = B from by omega] at h1
    exact absurd h1 (turned_not_closed b first B pat hB ha hb)
/-- the program's way: what it gathered, laid again -/
theorem decBy_same {x : α} {bs : List UInt8} {N : Nat} (hL : ∀ x y, enc x = some y → y.length = N) (hx : bs.length = N → x = of bs) : (if enc x = some bs then some x else none) = decBy enc of bs := by
  by_cases h : bs.length = N
  · rw [hx h]
    rfl
  · have e1 : enc x ≠ some bs := fun he => h (hL _ _ he)
    have e2 : enc (of bs) ≠ some bs := fun he => h (hL _ _ he)
    unfold decBy
    rw [if_neg e1, if_neg e2]
theorem decBy_len {bs : List UInt8} {N : Nat} (hL : ∀ x y, enc x = some y → y.length = N) (h : bs.length ≠ N) : decBy enc of bs = none := by
  unfold decBy
  rw [if_neg fun he => h (hL _ _ he)]
end

/-- amid a row's laying: the row, the argument's box -/
structure Encs (w0 w : World) (p g k b : Nat) (X : List UInt8) (vs : List Value) : Prop where
  row : RowAt w p g X k
  box : Own w b vs
  only : Only [] w0 w
  bp : b ≠ p
  bg : b ≠ g
  hp : w0.heap.size ≤ p
  hg : w0.heap.size ≤ g
section
variable {w0 w w1 w' : World} {p g k k' b : Nat} {X X' : List UInt8} {vs : List Value}
theorem Encs.start (hb : Own w1 b vs) (hO : Only [] w0 w1) (hp : w1.heap.size ≤ p) (hg : w1.heap.size ≤ g) (hr : RowAt w' p g X k) (hO2 : Only [] w1 w') : Encs w0 w' p g k b X vs := by
  have h1 := hb.lt
  have h2 := hO.size
  exact ⟨hr, hb.keep0 hO2, hO.trans' hO2, by omega, by omega, by omega, by omega⟩
theorem Encs.keep (h : Encs w0 w p g k b X vs) (hO : Only [] w w') : Encs w0 w' p g k b X vs := ⟨h.row.keep0 hO, h.box.keep0 hO, h.only.trans' hO, h.bp, h.bg, h.hp, h.hg⟩
theorem Encs.alloc (h : Encs w0 w p g k b X vs) (o : Obj) : Encs w0 (w.alloc o) p g k b X vs := h.keep ((Only.refl _ _).alloc o)
theorem Encs.drew (h : Encs w0 w p g k b X vs) : Encs w0 w.drew p g k b X vs := h.keep ((Only.refl _ _).drew)
theorem Encs.put (h : Encs w0 w p g k b X vs) (hr : RowAt w' p g X' k') (hO : Only [p, g] w w') : Encs w0 w' p g k' b X' vs :=
  ⟨hr, h.box.keep hO (by simp [h.bp, h.bg]), h.only.trans hO (by simp [h.hp, h.hg]), h.bp, h.bg, h.hp, h.hg⟩
end
/-- amid a row's reading: the row, the box that is filled -/
structure Decs (w0 w : World) (p g k f : Nat) (bs : List UInt8) (vs : List Value) : Prop where
  row : RowAt w p g bs k
  box : Own w f vs
  only : Only [] w0 w
  fp : f ≠ p
  fg : f ≠ g
  hp : w0.heap.size ≤ p
  hg : w0.heap.size ≤ g
  hf : w0.heap.size ≤ f
section
variable {w0 w w1 w' : World} {p g k k' f : Nat} {bs : List UInt8} {vs : List Value}
theorem Decs.start (hf : Own w1 f vs) (hff : w0.heap.size ≤ f) (hO : Only [] w0 w1) (hp : w1.heap.size ≤ p) (hg : w1.heap.size ≤ g) (hr : RowAt w' p g bs k) (hO2 : Only [] w1 w') : Decs w0 w' p g k f bs vs := by
  have h1 := hf.lt
  have h2 := hO.size
  exact ⟨hr, hf.keep0 hO2, hO.trans' hO2, by omega, by omega, by omega, by omega, hff⟩
theorem Decs.keep (h : Decs w0 w p g k f bs vs) (hO : Only [] w w') : Decs w0 w' p g k f bs vs := ⟨h.row.keep0 hO, h.box.keep0 hO, h.only.trans' hO, h.fp, h.fg, h.hp, h.hg, h.hf⟩
theorem Decs.alloc (h : Decs w0 w p g k f bs vs) (o : Obj) : Decs w0 (w.alloc o) p g k f bs vs := h.keep ((Only.refl _ _).alloc o)
theorem Decs.got (h : Decs w0 w p g k f bs vs) (hr : RowAt w' p g bs k') (hO : Only [p] w w') : Decs w0 w' p g k' f bs vs :=
  ⟨hr, h.box.keep hO (by simpa using h.fp), h.only.trans hO (by simpa using h.hp), h.fp, h.fg, h.hp, h.hg, h.hf⟩
theorem Decs.place (h : Decs w0 w p g k f bs vs) (hk : k' ≤ bs.length) : Decs w0 (w.setCell ⟨p, 1, none⟩ (.int .i64 (k' : Int))) p g k' f bs vs :=
  h.got (h.row.place k' hk) ((Only.refl _ _).set (by simp) _)
theorem Decs.put (h : Decs w0 w p g k f bs vs) (i : Nat) (u : Value) : Decs w0 (w.setCell ⟨f, i, none⟩ u) p g k f bs (vs.set i u) :=
  ⟨h.row.keep (S := [f]) ((Only.refl _ _).set (by simp) u) (by simpa using Ne.symm h.fp) (by simpa using Ne.symm h.fg), h.box.set i u, h.only.set (.inr h.hf) u, h.fp, h.fg, h.hp, h.hg, h.hf⟩
end
/-- what an encoder answers, its bytes in a block of its own -/
def EncOwn (w : World) (o : Option (List UInt8)) (e : Ending) (w' : World) : Prop :=
  (o = none ∧ e = .returned (.tuple #[.slice none 0 0, .int .i64 1]) ∧ Only [] w w') ∨
  ∃ bs g c, o = some bs ∧ e = .returned (.tuple #[.slice (some ⟨g, 0, none⟩) bs.length c, .int .i64 0]) ∧ bs.length ≤ c ∧ c ≤ maxLen ∧ w.heap.size ≤ g ∧ Own w' g (bvs bs) ∧ Only [] w w'
theorem EncOwn.no {w w' : World} {o : Option (List UInt8)} (h : o = none) (hO : Only [] w w') : EncOwn w o (.returned (.tuple #[.slice none 0 0, .int .i64 1])) w' := .inl ⟨h, rfl, hO⟩
theorem EncOwn.yes {w w' : World} {o : Option (List UInt8)} {bs : List UInt8} {g c n : Nat} (h : o = some bs) (hl : bs.length = n) (hc : n ≤ c) (hm : c ≤ maxLen) (hg : w.heap.size ≤ g) (ho : Own w' g (bvs bs)) (hO : Only [] w w') :
    EncOwn w o (.returned (.tuple #[.slice (some ⟨g, 0, none⟩) n c, .int .i64 0])) w' := by
  subst hl
  exact .inr ⟨bs, g, c, h, rfl, hc, hm, hg, ho, hO⟩
theorem EncOwn.says {w w' : World} {o : Option (List UInt8)} {e : Ending} (h : EncOwn w o e w') : EncSays w o e w' := by
  rcases h with ⟨rfl, rfl, hO⟩ | ⟨bs, g, c, rfl, rfl, hc, hm, hg, ho, hO⟩
  · exact EncSays.no rfl hO
  · refine ⟨some ⟨g, 0, none⟩, c, by simp, ?_, ?_, hO⟩
    · exact Row1.of_Own ho (by simp) hc hm
    · intro _ a ha
      injection ha with ha
      subst ha
      exact hg
theorem EncOwn.of_some {w w' : World} {bs : List UInt8} {e : Ending} (h : EncOwn w (some bs) e w') : ∃ g c, e = .returned (.tuple #[.slice (some ⟨g, 0, none⟩) bs.length c, .int .i64 0]) ∧ bs.length ≤ c ∧ c ≤ maxLen ∧ w.heap.size ≤ g ∧ Own w' g (bvs bs) ∧ Only [] w w' := by
  rcases h with ⟨h, _⟩ | ⟨bs', g, c, h, rest⟩
  · cases h
  · injection h with h
    subst h
    exact ⟨g, c, rest⟩
/-- boxes of the call's own, and what they hold -/
def Boxes (w : World) (l : List (Nat × List Value)) : Prop := ∀ x ∈ l, Own w x.1 x.2
theorem Boxes.nil (w : World) : Boxes w [] := fun x hx => by simp at hx
theorem Boxes.cons {w : World} {l : List (Nat × List Value)} {b : Nat} {vs : List Value} (h : Own w b vs) (hl : Boxes w l) : Boxes w ((b, vs) :: l) := fun x hx => by
  rcases List.mem_cons.1 hx with rfl | hx
  · exact h
  · exact hl x hx
theorem Boxes.keep0 {w w' : World} {l : List (Nat × List Value)} (h : Boxes w l) (hO : Only [] w w') : Boxes w' l := fun x hx => (h x hx).keep0 hO
theorem Boxes.alloc {w : World} {l : List (Nat × List Value)} (h : Boxes w l) (o : Obj) : Boxes (w.alloc o) l := h.keep0 ((Only.refl _ _).alloc o)
/-- a box more -/
theorem Boxes.new {w : World} {l : List (Nat × List Value)} (h : Boxes w l) (cs : Array Value) (t : TypeId) : Boxes (w.alloc (.cells cs t)) ((w.heap.size, cs.toList) :: l) := (h.alloc _).cons (Own.new w cs t)
/-- an empty slice that is not nil, just made -/
theorem Gath.empty (w : World) (e : Nat) : Gath (w.alloc (.cells #[] e)) w.heap.size e (.slice (some ⟨w.heap.size, 0, none⟩) 0 0) [] :=
  ⟨⟨rfl, .inr ⟨w.heap.size, 0, #[], rfl, Nat.le_refl _, heap_alloc_new w _, Nat.le_refl _, by simp [maxLen], by simp, by simp⟩⟩, by simp⟩
theorem Gath.drew {w : World} {base e : Nat} {v : Value} {xs : List Value} (h : Gath w base e v xs) : Gath w.drew base e v xs := h.keep0 (Only.refl _ _).drew
theorem Gath.alloc {w : World} {base e : Nat} {v : Value} {xs : List Value} (h : Gath w base e v xs) (o : Obj) : Gath (w.alloc o) base e v xs := h.keep0 ((Only.refl _ _).alloc o)
theorem Boxes.at4 {w : World} {l : List (Nat × List Value)} {b : Nat} {a0 a1 a2 a3 : Value} (h : Boxes w l) (hm : (b, [a0, a1, a2, a3]) ∈ l) : w.cell? ⟨b, 0, none⟩ = some a0 ∧ w.cell? ⟨b, 1, none⟩ = some a1 ∧ w.cell? ⟨b, 2, none⟩ = some a2 ∧ w.cell? ⟨b, 3, none⟩ = some a3 ∧ b < w.heap.size :=
  ⟨(h _ hm).cell 0 (by simp), (h _ hm).cell 1 (by simp), (h _ hm).cell 2 (by simp), (h _ hm).cell 3 (by simp), (h _ hm).lt⟩
theorem Boxes.at5 {w : World} {l : List (Nat × List Value)} {b : Nat} {a0 a1 a2 a3 a4 : Value} (h : Boxes w l) (hm : (b, [a0, a1, a2, a3, a4]) ∈ l) : w.cell? ⟨b, 0, none⟩ = some a0 ∧ w.cell? ⟨b, 1, none⟩ = some a1 ∧ w.cell? ⟨b, 2, none⟩ = some a2 ∧ w.cell? ⟨b, 3, none⟩ = some a3 ∧ w.cell? ⟨b, 4, none⟩ = some a4 ∧ b < w.heap.size :=
  ⟨(h _ hm).cell 0 (by simp), (h _ hm).cell 1 (by simp), (h _ hm).cell 2 (by simp), (h _ hm).cell 3 (by simp), (h _ hm).cell 4 (by simp), (h _ hm).lt⟩
theorem got_at {bs : List UInt8} {k n : Nat} (hw : n = 1 ∨ n = 2 ∨ n = 4) (h : k + n ≤ bs.length) : ((getN bs k n : Nat) : Int) = rd bs k n ∧ getK bs k n = k + n := by
  have ho : getOk bs k n = true := decide_eq_true ⟨by omega, by omega⟩
  unfold getN getK rd
  rw [ho]
  simp
theorem took_at {bs : List UInt8} {k n : Nat} (h : k + n ≤ bs.length) : takeB bs k n = (bs.drop k).take n ∧ takeK bs k n = k + n := by
  have ho : takeOk bs k n = true := decide_eq_true ⟨by omega, by omega⟩
  unfold takeB takeK
  rw [ho]
  simp
end Go.Kn
