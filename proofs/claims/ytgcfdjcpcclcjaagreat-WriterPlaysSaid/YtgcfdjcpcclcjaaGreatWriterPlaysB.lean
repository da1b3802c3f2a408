/- Seal, RecP, RecB, Rnd, Wc, DkP, WcP, RngW, Step, DkA, ItemB, ItemC, DkB, DkC: joined by pack.py, without what the claim does not use. -/
import Derived.Test.YtgcfdjcpcclcjaaGreatWriterPlaysA
set_option linter.unusedVariables false
set_option linter.unusedSimpArgs false
namespace Go.Kn
open Go Go.RowKit
/-- numbers, each of its width, one behind the other -/
def cat (fs : List (Nat × Int)) : List UInt8 := fs.flatMap fun f => le f.1 f.2.toNat
def wid (fs : List (Nat × Int)) : Nat := (fs.map (·.1)).sum
@[simp] theorem cat_nil : cat [] = [] := rfl
theorem cat_cons (f : Nat × Int) (fs : List (Nat × Int)) : cat (f :: fs) = le f.1 f.2.toNat ++ cat fs := rfl
theorem cat_append (a b : List (Nat × Int)) : cat (a ++ b) = cat a ++ cat b := by simp [cat]
theorem cat_length : ∀ fs : List (Nat × Int), (cat fs).length = wid fs
 | [] => rfl
 | f :: fs => by
  rw [cat_cons, List.length_append, le_length, cat_length fs]
  simp [wid]
theorem les_cat (n : Nat) (zs : List Int) : les n zs = cat (zs.map fun z => (n, z)) := by simp [les, cat, List.flatMap_map]
/-- a number of a row -/
def rd (bs : List UInt8) (k n : Nat) : Int := ((num ((bs.drop k).take n) : Nat) : Int)
theorem cat_get (a : List (Nat × Int)) (w : Nat) (z : Int) (b : List (Nat × Int)) (rest : List UInt8) (hz : 0 ≤ z ∧ z < 256 ^ w) : rd (cat (a ++ (w, z) :: b) ++ rest) (wid a) w = z := by
 unfold rd
 have h3 : ((256 ^ w : Nat) : Int) = (256 : Int) ^ w := by simp
 have h4 : z.toNat < 256 ^ w := by omega
 rw [cat_append, cat_cons, List.append_assoc, ← cat_length a, List.drop_left, List.append_assoc, List.take_left' (by simp), num_le _ _ h4]
 show ((z.toNat : Nat) : Int) = z
 omega
theorem rd_sealed (bs : List UInt8) (h : bs.length = 64) (k n : Nat) (hk : k + n ≤ 60) : rd (sealed bs) k n = rd bs k n := by
 unfold rd
 rw [sealed_part bs h k n hk]
/-- rows of calls: one list of numbers more -/
theorem lay_cat (bs : List UInt8) (a : List (Nat × Int)) (k n : Nat) (zs : List Int) (hk : wid a = k) (h : k + n * zs.length ≤ bs.length) : lay (lay bs 0 (cat a)) k (les n zs) = lay bs 0 (cat (a ++ zs.map fun z => (n, z))) := by
 have e := lay_lay bs 0 (cat a) (les n zs) (by rw [cat_length, hk, les_length]; omega)
 rw [cat_length, hk, Nat.zero_add] at e
 rw [e, cat_append, les_cat]
/-- what reads: what it read, laid again, must be the same bytes -/
def decBy {α : Type} (enc : α → Option (List UInt8)) (of : List UInt8 → α) (bs : List UInt8) : Option α := if enc (of bs) = some bs then some (of bs) else none
section
variable {α : Type} {enc : α → Option (List UInt8)} {of : List UInt8 → α}
theorem decBy_back {x : α} {b : List UInt8} (hR : of b = x) (h : enc x = some b) : decBy enc of b = some x := by
 unfold decBy
 rw [hR, if_pos h]
end
/-- amid a row's laying: the row, the argument's box -/
structure Encs (w0 w : World) (p g k b : Nat) (X : List UInt8) (vs : List Value) : Prop where
 row : RowAt w p g X k
 box : Own w b vs
 only : Only [] w0 w
 bp : b ≠ p
 bg : b ≠ g
 hp : w0.heap.size ≤ p
 hg : w0.heap.size ≤ g
section
variable {w0 w w1 w' : World} {p g k k' b : Nat} {X X' : List UInt8} {vs : List Value}
theorem Encs.start (hb : Own w1 b vs) (hO : Only [] w0 w1) (hp : w1.heap.size ≤ p) (hg : w1.heap.size ≤ g) (hr : RowAt w' p g X k) (hO2 : Only [] w1 w') : Encs w0 w' p g k b X vs := by
 have h1 := hb.lt
 have h2 := hO.size
 exact ⟨hr, hb.keep0 hO2, hO.trans' hO2, by omega, by omega, by omega, by omega⟩
theorem Encs.keep (h : Encs w0 w p g k b X vs) (hO : Only [] w w') : Encs w0 w' p g k b X vs := ⟨h.row.keep0 hO, h.box.keep0 hO, h.only.trans' hO, h.bp, h.bg, h.hp, h.hg⟩
theorem Encs.alloc (h : Encs w0 w p g k b X vs) (o : Obj) : Encs w0 (w.alloc o) p g k b X vs := h.keep ((Only.refl _ _).alloc o)
theorem Encs.drew (h : Encs w0 w p g k b X vs) : Encs w0 w.drew p g k b X vs := h.keep ((Only.refl _ _).drew)
theorem Encs.put (h : Encs w0 w p g k b X vs) (hr : RowAt w' p g X' k') (hO : Only [p, g] w w') : Encs w0 w' p g k' b X' vs :=
 ⟨hr, h.box.keep hO (by simp [h.bp, h.bg]), h.only.trans hO (by simp [h.hp, h.hg]), h.bp, h.bg, h.hp, h.hg⟩
end
/-- amid a row's reading: the row, the box that is filled -/
structure Decs (w0 w : World) (p g k f : Nat) (bs : List UInt8) (vs : List Value) : Prop where
 row : RowAt w p g bs k
 box : Own w f vs
 only : Only [] w0 w
 fp : f ≠ p
 fg : f ≠ g
 hp : w0.heap.size ≤ p
 hg : w0.heap.size ≤ g
 hf : w0.heap.size ≤ f
section
variable {w0 w w1 w' : World} {p g k k' f : Nat} {bs : List UInt8} {vs : List Value}
theorem Decs.start (hf : Own w1 f vs) (hff : w0.heap.size ≤ f) (hO : Only [] w0 w1) (hp : w1.heap.size ≤ p) (hg : w1.heap.size ≤ g) (hr : RowAt w' p g bs k) (hO2 : Only [] w1 w') : Decs w0 w' p g k f bs vs := by
 have h1 := hf.lt
 have h2 := hO.size
 exact ⟨hr, hf.keep0 hO2, hO.trans' hO2, by omega, by omega, by omega, by omega, hff⟩
theorem Decs.keep (h : Decs w0 w p g k f bs vs) (hO : Only [] w w') : Decs w0 w' p g k f bs vs := ⟨h.row.keep0 hO, h.box.keep0 hO, h.only.trans' hO, h.fp, h.fg, h.hp, h.hg, h.hf⟩
theorem Decs.alloc (h : Decs w0 w p g k f bs vs) (o : Obj) : Decs w0 (w.alloc o) p g k f bs vs := h.keep ((Only.refl _ _).alloc o)
theorem Decs.got (h : Decs w0 w p g k f bs vs) (hr : RowAt w' p g bs k') (hO : Only [p] w w') : Decs w0 w' p g k' f bs vs :=
 ⟨hr, h.box.keep hO (by simpa using h.fp), h.only.trans hO (by simpa using h.hp), h.fp, h.fg, h.hp, h.hg, h.hf⟩
theorem Decs.place (h : Decs w0 w p g k f bs vs) (hk : k' ≤ bs.length) : Decs w0 (w.setCell ⟨p, 1, none⟩ (.int .i64 (k' : Int))) p g k' f bs vs :=
 h.got (h.row.place k' hk) ((Only.refl _ _).set (by simp) _)
theorem Decs.put (h : Decs w0 w p g k f bs vs) (i : Nat) (u : Value) : Decs w0 (w.setCell ⟨f, i, none⟩ u) p g k f bs (vs.set i u) :=
 ⟨h.row.keep (S := [f]) ((Only.refl _ _).set (by simp) u) (by simpa using Ne.symm h.fp) (by simpa using Ne.symm h.fg), h.box.set i u, h.only.set (.inr h.hf) u, h.fp, h.fg, h.hp, h.hg, h.hf⟩
end
/-- what an encoder answers, its bytes in a block of its own -/
def EncOwn (w : World) (o : Option (List UInt8)) (e : Ending) (w' : World) : Prop :=
 (o = none ∧ e = .returned (.tuple #[.slice none 0 0, .int .i64 1]) ∧ Only [] w w') ∨
 ∃ bs g c, o = some bs ∧ e = .returned (.tuple #[.slice (some ⟨g, 0, none⟩) bs.length c, .int .i64 0]) ∧ bs.length ≤ c ∧ c ≤ maxLen ∧ w.heap.size ≤ g ∧ Own w' g (bvs bs) ∧ Only [] w w'
theorem EncOwn.no {w w' : World} {o : Option (List UInt8)} (h : o = none) (hO : Only [] w w') : EncOwn w o (.returned (.tuple #[.slice none 0 0, .int .i64 1])) w' := .inl ⟨h, rfl, hO⟩
theorem EncOwn.yes {w w' : World} {o : Option (List UInt8)} {bs : List UInt8} {g c n : Nat} (h : o = some bs) (hl : bs.length = n) (hc : n ≤ c) (hm : c ≤ maxLen) (hg : w.heap.size ≤ g) (ho : Own w' g (bvs bs)) (hO : Only [] w w') :
  EncOwn w o (.returned (.tuple #[.slice (some ⟨g, 0, none⟩) n c, .int .i64 0])) w' := by
 subst hl
 exact .inr ⟨bs, g, c, h, rfl, hc, hm, hg, ho, hO⟩
theorem EncOwn.says {w w' : World} {o : Option (List UInt8)} {e : Ending} (h : EncOwn w o e w') : EncSays w o e w' := by
 rcases h with ⟨rfl, rfl, hO⟩ | ⟨bs, g, c, rfl, rfl, hc, hm, hg, ho, hO⟩
 ·exact EncSays.no rfl hO
 ·refine ⟨some ⟨g, 0, none⟩, c, by simp, ?_, ?_, hO⟩
  ·exact Row1.of_Own ho (by simp) hc hm
  ·intro _ a ha
   injection ha with ha
   subst ha
   exact hg
theorem EncOwn.of_some {w w' : World} {bs : List UInt8} {e : Ending} (h : EncOwn w (some bs) e w') : ∃ g c, e = .returned (.tuple #[.slice (some ⟨g, 0, none⟩) bs.length c, .int .i64 0]) ∧ bs.length ≤ c ∧ c ≤ maxLen ∧ w.heap.size ≤ g ∧ Own w' g (bvs bs) ∧ Only [] w w' := by
 rcases h with ⟨h, _⟩ | ⟨bs', g, c, h, rest⟩
 ·cases h
 ·injection h with h
  subst h
  exact ⟨g, c, rest⟩
/-- boxes of the call's own, and what they hold -/
def Boxes (w : World) (l : List (Nat × List Value)) : Prop := ∀ x ∈ l, Own w x.1 x.2
theorem Boxes.nil (w : World) : Boxes w [] := fun x hx => by simp at hx
theorem Boxes.cons {w : World} {l : List (Nat × List Value)} {b : Nat} {vs : List Value} (h : Own w b vs) (hl : Boxes w l) : Boxes w ((b, vs) :: l) := fun x hx => by
 rcases List.mem_cons.1 hx with rfl | hx
 ·exact h
 ·exact hl x hx
theorem Boxes.keep0 {w w' : World} {l : List (Nat × List Value)} (h : Boxes w l) (hO : Only [] w w') : Boxes w' l := fun x hx => (h x hx).keep0 hO
theorem Boxes.alloc {w : World} {l : List (Nat × List Value)} (h : Boxes w l) (o : Obj) : Boxes (w.alloc o) l := h.keep0 ((Only.refl _ _).alloc o)
/-- a box more -/
theorem Boxes.new {w : World} {l : List (Nat × List Value)} (h : Boxes w l) (cs : Array Value) (t : TypeId) : Boxes (w.alloc (.cells cs t)) ((w.heap.size, cs.toList) :: l) := (h.alloc _).cons (Own.new w cs t)
/-- an empty slice that is not nil, just made -/
theorem Gath.empty (w : World) (e : Nat) : Gath (w.alloc (.cells #[] e)) w.heap.size e (.slice (some ⟨w.heap.size, 0, none⟩) 0 0) [] :=
 ⟨⟨rfl, .inr ⟨w.heap.size, 0, #[], rfl, Nat.le_refl _, heap_alloc_new w _, Nat.le_refl _, by simp [maxLen], by simp, by simp⟩⟩, by simp⟩
theorem Gath.drew {w : World} {base e : Nat} {v : Value} {xs : List Value} (h : Gath w base e v xs) : Gath w.drew base e v xs := h.keep0 (Only.refl _ _).drew
theorem Gath.alloc {w : World} {base e : Nat} {v : Value} {xs : List Value} (h : Gath w base e v xs) (o : Obj) : Gath (w.alloc o) base e v xs := h.keep0 ((Only.refl _ _).alloc o)
end Go.Kn
namespace Go.Kn
open Go Go.RowKit
/-- a record -/
structure Rc where
 m : Int
 n : Int
 p : Int
 its : List It
 bl : List (List UInt8)
def rcHeadMay (r : Rc) : Bool := decide (1 ≤ r.m ∧ r.m ≤ 2147483647) && (decide (1 ≤ r.n ∧ r.n ≤ 2147483647) && (decide (0 ≤ r.p ∧ r.p ≤ 4294967295) && decide (1 ≤ r.its.length ∧ r.its.length ≤ 6)))
def loads (l : List It) : Nat := (l.filter It.loaded).length
def full64 (bl : List (List UInt8)) : Bool := bl.all fun b => decide (b.length = 64)
def rcMay (r : Rc) : Bool := rcHeadMay r && (r.its.all It.may && (decide (r.bl.length = loads r.its) && full64 r.bl))
theorem rcMay_iff {r : Rc} : rcMay r = true ↔ ((1 ≤ r.m ∧ r.m ≤ 2147483647) ∧ (1 ≤ r.n ∧ r.n ≤ 2147483647) ∧ (0 ≤ r.p ∧ r.p ≤ 4294967295) ∧ (1 ≤ r.its.length ∧ r.its.length ≤ 6)) ∧ r.its.all It.may = true ∧ r.bl.length = loads r.its ∧ full64 r.bl = true := by
 unfold rcMay rcHeadMay
 simp only [Bool.and_eq_true, decide_eq_true_eq]
theorem loads_le (l : List It) : loads l ≤ l.length := List.length_filter_le _ _
theorem loads_snoc (l : List It) (i : It) : loads (l ++ [i]) = loads l + if i.loaded then 1 else 0 := by
 unfold loads
 rw [List.filter_append, List.length_append]
 cases h : i.loaded <;> simp [List.filter, h]
/-- its numbers ahead of its items -/
def rcFs (r : Rc) : List (Nat × Int) := [(1, 75), (1, 82), (4, r.m), (4, r.n), (4, r.p), (1, (r.its.length : Int)), (1, (r.bl.length : Int))]
theorem rcFs_len (r : Rc) : (cat (rcFs r)).length = 16 := cat_length _
/-- a summary ahead of its sum -/
def rcHead (r : Rc) : List UInt8 := cat (rcFs r) ++ (itsB r.its ++ List.replicate (44 - 7 * r.its.length) 0)
theorem rcHead_length {r : Rc} (h : r.its.length ≤ 6) : (rcHead r).length = 60 := by
 unfold rcHead
 rw [List.length_append, List.length_append, rcFs_len, itsB_length, List.length_replicate]
 omega
def rcSum (r : Rc) : Nat := csum (rcHead r ++ r.bl.flatten)
def rcBytes (r : Rc) : List UInt8 := rcHead r ++ (le 4 (rcSum r) ++ r.bl.flatten)
def encRc (r : Rc) : Option (List UInt8 × Nat) := if rcMay r = true then some (rcBytes r, rcSum r) else none
theorem flat64 : ∀ {bl : List (List UInt8)}, full64 bl = true → bl.flatten.length = 64 * bl.length
 | [], _ => rfl
 | b :: bl, h => by
  simp only [full64, List.all_cons, Bool.and_eq_true, decide_eq_true_eq] at h
  have := flat64 (bl := bl) h.2
  rw [List.flatten_cons, List.length_append, this, h.1, List.length_cons]
  omega
theorem full64_take {bl : List (List UInt8)} (h : full64 bl = true) (q : Nat) : full64 (bl.take q) = true :=
 List.all_eq_true.2 fun x hx => List.all_eq_true.1 h x (List.mem_of_mem_take hx)
theorem full64_get {bl : List (List UInt8)} (h : full64 bl = true) (i : Nat) (hi : i < bl.length) : bl[i].length = 64 := by
 simpa using List.all_eq_true.1 h bl[i] (List.getElem_mem _)
theorem flat64_get : ∀ {bl : List (List UInt8)}, full64 bl = true → ∀ (i : Nat) (hi : i < bl.length), (bl.flatten.drop (64 * i)).take 64 = bl[i]
 | [], _, i, hi => by simp at hi
 | b :: bl, h, 0, hi => by
  simp only [full64, List.all_cons, Bool.and_eq_true, decide_eq_true_eq] at h
  rw [List.flatten_cons]
  exact List.take_left' h.1
 | b :: bl, h, i + 1, hi => by
  simp only [full64, List.all_cons, Bool.and_eq_true, decide_eq_true_eq] at h
  rw [List.flatten_cons, List.drop_append, List.drop_of_length_le (by omega), List.nil_append, show 64 * (i + 1) - b.length = 64 * i from by omega, List.getElem_cons_succ]
  exact flat64_get (bl := bl) h.2 i (by simpa using hi)
theorem rcBytes_length {r : Rc} (h : rcMay r = true) : (rcBytes r).length = 64 * (1 + r.bl.length) := by
 obtain ⟨⟨_, _, _, _, h6⟩, _, _, h3⟩ := rcMay_iff.1 h
 unfold rcBytes
 rw [List.length_append, List.length_append, rcHead_length h6, le_length, flat64 h3]
 omega
theorem rcBytes_flat {r : Rc} (h : r.its.length ≤ 6) : (rcBytes r).drop 64 = r.bl.flatten := by
 unfold rcBytes
 rw [← List.append_assoc, List.drop_left' (by rw [List.length_append, rcHead_length h, le_length])]
/-- what a summary tells -/
def rcN (b : List UInt8) : Nat := num ((b.drop 14).take 1)
def rcK (b : List UInt8) : Nat := num ((b.drop 15).take 1)
def rcHd (b : List UInt8) : Bool := decide (b.take 2 = [75, 82]) && (decide (1 ≤ rcN b ∧ rcN b ≤ 6) && decide (rcK b ≤ rcN b))
def rcBl (b : List UInt8) (k : Nat) : List (List UInt8) := (List.range k).map fun i => (b.drop (64 * (i + 1))).take 64
@[simp] theorem rcBl_length (b : List UInt8) (k : Nat) : (rcBl b k).length = k := by simp [rcBl]
def rcOf (b : List UInt8) : Rc := ⟨rd b 2 4, rd b 6 4, rd b 10 4, parse ((b.drop 16).take (7 * rcN b)) (rcN b), rcBl b (rcK b)⟩
def rcFit (b : List UInt8) : Bool := rcHd b && decide (b.length = 64 * (1 + rcK b))
def decRc (b : List UInt8) : Option (Rc × Nat) :=
 if rcFit b = true then (match encRc (rcOf b) with
  | some (y, s) => if y = b then some (rcOf b, s) else none
  | none => none) else none
def sizeRc (b : List UInt8) : Nat := if b.length = 64 ∧ rcHd b = true then 1 + rcK b else 0
theorem encRc_of_dec {b : List UInt8} {r : Rc} {s : Nat} (h : decRc b = some (r, s)) : encRc r = some (b, s) ∧ r = rcOf b ∧ rcFit b = true := by
 unfold decRc at h
 split at h
 ·rename_i hf
  split at h
  ·rename_i y s' he
   split at h
   ·rename_i hy
    injection h with h
    injection h with h1 h2
    subst h1 h2 hy
    exact ⟨he, rfl, hf⟩
   ·cases h
  ·cases h
 ·cases h
theorem cat_front (fs : List (Nat × Int)) (rest : List UInt8) (a : List (Nat × Int)) (w : Nat) (z : Int) (b : List (Nat × Int)) (e : fs = a ++ (w, z) :: b) (hz : 0 ≤ z ∧ z < 256 ^ w) : rd (cat fs ++ rest) (wid a) w = z := by
 subst e
 exact cat_get a w z b rest hz
section
variable {r : Rc}
theorem rcB_eq (r : Rc) : rcBytes r = cat (rcFs r) ++ (itsB r.its ++ (List.replicate (44 - 7 * r.its.length) 0 ++ (le 4 (rcSum r) ++ r.bl.flatten))) := by
 unfold rcBytes rcHead
 simp only [List.append_assoc]
theorem rcN_bytes (h : r.its.length ≤ 6) : rcN (rcBytes r) = r.its.length := by
 have h1 := cat_front (rcFs r) (itsB r.its ++ (List.replicate (44 - 7 * r.its.length) 0 ++ (le 4 (rcSum r) ++ r.bl.flatten))) [(1, 75), (1, 82), (4, r.m), (4, r.n), (4, r.p)] 1 (r.its.length : Int) [(1, (r.bl.length : Int))] rfl ⟨by omega, by omega⟩
 rw [← rcB_eq] at h1
 have e : wid [(1, 75), (1, 82), (4, r.m), (4, r.n), (4, r.p)] = 14 := rfl
 rw [e] at h1
 unfold rd at h1
 unfold rcN
 omega
theorem rcK_bytes (h : r.bl.length ≤ 6) : rcK (rcBytes r) = r.bl.length := by
 have h1 := cat_front (rcFs r) (itsB r.its ++ (List.replicate (44 - 7 * r.its.length) 0 ++ (le 4 (rcSum r) ++ r.bl.flatten))) [(1, 75), (1, 82), (4, r.m), (4, r.n), (4, r.p), (1, (r.its.length : Int))] 1 (r.bl.length : Int) [] rfl ⟨by omega, by omega⟩
 rw [← rcB_eq] at h1
 have e : wid [(1, 75), (1, 82), (4, r.m), (4, r.n), (4, r.p), (1, (r.its.length : Int))] = 15 := rfl
 rw [e] at h1
 unfold rd at h1
 unfold rcK
 omega
theorem rcBl_bytes (h6 : r.its.length ≤ 6) (h : full64 r.bl = true) : rcBl (rcBytes r) r.bl.length = r.bl := by
 apply List.ext_getElem (by simp)
 intro i h1 h2
 simp only [rcBl, List.getElem_map, List.getElem_range]
 have e := rcBytes_flat (r := r) h6
 rw [show 64 * (i + 1) = 64 + 64 * i from by omega, ← List.drop_drop, e]
 exact flat64_get h i h2
theorem rcOf_bytes (h : rcMay r = true) : rcOf (rcBytes r) = r ∧ rcFit (rcBytes r) = true := by
 have hl := rcBytes_length h
 obtain ⟨⟨hm, hn, hp, h1, h6⟩, hi, hb, hf⟩ := rcMay_iff.1 h
 have hk : r.bl.length ≤ 6 := by have := loads_le r.its; omega
 have hN := rcN_bytes h6
 have hK := rcK_bytes (r := r) hk
 have e4 : (256 : Int) ^ 4 = 4294967296 := rfl
 have q1 := cat_front (rcFs r) (itsB r.its ++ (List.replicate (44 - 7 * r.its.length) 0 ++ (le 4 (rcSum r) ++ r.bl.flatten))) [(1, 75), (1, 82)] 4 r.m [(4, r.n), (4, r.p), (1, (r.its.length : Int)), (1, (r.bl.length : Int))] rfl ⟨by omega, by omega⟩
 have q2 := cat_front (rcFs r) (itsB r.its ++ (List.replicate (44 - 7 * r.its.length) 0 ++ (le 4 (rcSum r) ++ r.bl.flatten))) [(1, 75), (1, 82), (4, r.m)] 4 r.n [(4, r.p), (1, (r.its.length : Int)), (1, (r.bl.length : Int))] rfl ⟨by omega, by omega⟩
 have q3 := cat_front (rcFs r) (itsB r.its ++ (List.replicate (44 - 7 * r.its.length) 0 ++ (le 4 (rcSum r) ++ r.bl.flatten))) [(1, 75), (1, 82), (4, r.m), (4, r.n)] 4 r.p [(1, (r.its.length : Int)), (1, (r.bl.length : Int))] rfl ⟨by omega, by omega⟩
 rw [← rcB_eq] at q1 q2 q3
 have w1 : wid [(1, 75), (1, 82)] = 2 := rfl
 have w2 : wid [(1, 75), (1, 82), (4, r.m)] = 6 := rfl
 have w3 : wid [(1, 75), (1, 82), (4, r.m), (4, r.n)] = 10 := rfl
 rw [w1] at q1
 rw [w2] at q2
 rw [w3] at q3
 have hit : ((rcBytes r).drop 16).take (7 * r.its.length) = itsB r.its := by
  rw [rcB_eq, List.drop_left' (rcFs_len r), List.take_left' (itsB_length _)]
 constructor
 ·unfold rcOf
  rw [q1, q2, q3, hN, hK, hit, parse_itsB _ hi, rcBl_bytes h6 hf]
 ·unfold rcFit rcHd
  rw [hN, hK, hl]
  have h2 : (rcBytes r).take 2 = [75, 82] := by rw [rcB_eq]; rfl
  rw [h2]
  have := loads_le r.its
  simp only [Bool.and_eq_true, decide_eq_true_eq]
  exact ⟨⟨trivial, ⟨h1, h6⟩, by omega⟩, trivial⟩
theorem dec_rc (h : rcMay r = true) : decRc (rcBytes r) = some (r, rcSum r) := by
 obtain ⟨h1, h2⟩ := rcOf_bytes h
 unfold decRc
 rw [h2, h1]
 unfold encRc
 rw [if_pos h]
 simp
theorem enc_rc (h : rcMay r = true) : encRc r = some (rcBytes r, rcSum r) := by
 unfold encRc
 rw [if_pos h]
theorem of_enc {b : List UInt8} {s : Nat} (h : encRc r = some (b, s)) : rcMay r = true ∧ b = rcBytes r ∧ s = rcSum r := by
 unfold encRc at h
 split at h
 ·rename_i hm
  injection h with h
  injection h with h1 h2
  exact ⟨hm, h1.symm, h2.symm⟩
 ·cases h
end
/-- a slice value -/
def slv (s : Option Addr × Nat × Nat) : Value := .slice s.1 s.2.1 s.2.2
/-- slices that read as lists of bytes -/
def Bls (w : World) (sl : List (Option Addr × Nat × Nat)) (bl : List (List UInt8)) : Prop := sl.length = bl.length ∧ ∀ i (h1 : i < sl.length) (h2 : i < bl.length), Bys w sl[i].1 sl[i].2.1 sl[i].2.2 bl[i]
/-- a slice of slices of bytes -/
def Blks (w : World) (A : Option Addr) (n c : Nat) (bl : List (List UInt8)) : Prop := ∃ sl, Row1 w A n c (sl.map slv) ∧ Bls w sl bl
theorem slv_one (sl : List (Option Addr × Nat × Nat)) : ∀ u ∈ sl.map slv, u.oneCell' = true := by
 intro u hu
 obtain ⟨s, _, rfl⟩ := List.mem_map.1 hu
 rfl
section
variable {w w' : World} {A : Option Addr} {n c : Nat} {bl : List (List UInt8)} {sl : List (Option Addr × Nat × Nat)}
theorem Bls.keep0 (h : Bls w sl bl) (hO : Only [] w w') : Bls w' sl bl := ⟨h.1, fun i h1 h2 => (h.2 i h1 h2).keep0 hO⟩
theorem Blks.keep0 (h : Blks w A n c bl) (hO : Only [] w w') : Blks w' A n c bl := by
 obtain ⟨sl, h1, h2⟩ := h
 exact ⟨sl, h1.keep0 hO, h2.keep0 hO⟩
theorem Blks.len (h : Blks w A n c bl) : bl.length = n := by
 obtain ⟨sl, h1, h2, _⟩ := h
 have := h1.len
 rw [List.length_map] at this
 omega
theorem Blks.le (h : Blks w A n c bl) : n ≤ c := by obtain ⟨sl, h1, _⟩ := h; exact h1.le
theorem Blks.cm (h : Blks w A n c bl) : c ≤ maxLen := by obtain ⟨sl, h1, _⟩ := h; exact h1.cm
theorem Blks.nil (w : World) : Blks w none 0 0 [] := ⟨[], Row1.nil w, rfl, fun i h1 => by simp at h1⟩
theorem Bls.nil (w : World) : Bls w [] [] := ⟨rfl, fun i h1 => by simp at h1⟩
theorem Bls.snoc (h : Bls w sl bl) {B : Option Addr} {m d : Nat} {bs : List UInt8} (hb : Bys w B m d bs) : Bls w (sl ++ [(B, m, d)]) (bl ++ [bs]) := by
 obtain ⟨h1, h2⟩ := h
 refine ⟨by simp [h1], fun i hi hj => ?_⟩
 by_cases hl : i < sl.length
 ·have := h2 i hl (by omega)
  rw [List.getElem_append_left hl, List.getElem_append_left (by omega)]
  exact this
 ·have e : i = sl.length := by simp at hi; omega
  subst e
  have e2 : (bl ++ [bs])[sl.length] = bs := by
   rw [List.getElem_append_right (by omega)]
   simp [h1]
  rw [e2]
  simpa using hb
theorem Bls.cons (h : Bls w sl bl) {B : Option Addr} {m d : Nat} {bs : List UInt8} (hb : Bys w B m d bs) : Bls w ((B, m, d) :: sl) (bs :: bl) := by
 obtain ⟨h1, h2⟩ := h
 refine ⟨by simp [h1], fun i hi hj => ?_⟩
 cases i with
 | zero => exact hb
 | succ i => exact h2 i (by simpa using hi) (by simpa using hj)
/-- one of the blocks: its cell, its bytes -/
theorem Blks.at_ (h : Blks w A n c bl) (i : Nat) (hi : i < n) : ∃ g o B m d, A = some ⟨g, o, none⟩ ∧ w.cell? ⟨g, o + i, none⟩ = some (.slice B m d) ∧ Bys w B m d (bl[i]'(by rw [h.len]; exact hi)) := by
 have hl := h.len
 obtain ⟨sl, h1, h2, h3⟩ := h
 obtain ⟨g, o, e, hc⟩ := h1.at_ (by omega)
 have hs : i < sl.length := by omega
 have := hc i (by simpa using hs)
 rw [List.getElem_map] at this
 exact ⟨g, o, sl[i].1, sl[i].2.1, sl[i].2.2, e, this, h3 i hs (by omega)⟩
end
/-- a record in the world: its items, its blocks -/
def RcAt (w : World) (r : Rc) (s t : Option Addr × Nat × Nat) : Prop := Its w s.1 s.2.1 s.2.2 r.its ∧ Blks w t.1 t.2.1 t.2.2 r.bl
theorem RcAt.keep0 {w w' : World} {r : Rc} {s t : Option Addr × Nat × Nat} (h : RcAt w r s t) (hO : Only [] w w') : RcAt w' r s t := ⟨h.1.keep0 hO, h.2.keep0 hO⟩
def Rc.cells (r : Rc) (s t : Option Addr × Nat × Nat) : Array Value := #[.int .i64 r.m, .int .i64 r.n, .int .i64 r.p, slv s, slv t]
/-- what lies in blocks that are new -/
def Anew (w w' : World) (f : World → Prop) : Prop := ∀ W : World, (∀ k, w.heap.size ≤ k → k < w'.heap.size → W.heap[k]? = w'.heap[k]?) → f W
theorem Anew.now {w w' : World} {f : World → Prop} (h : Anew w w' f) : f w' := h w' fun _ _ _ => rfl
end Go.Kn
namespace Go.Kn
open Go Go.RowKit
theorem flat_take {bl : List (List UInt8)} {j : Nat} (hj : j < bl.length) : (bl.take (j + 1)).flatten = (bl.take j).flatten ++ bl[j] := by
 rw [List.take_succ_eq_append_getElem hj, List.flatten_append, List.flatten_cons, List.flatten_nil, List.append_nil]
theorem flat_take_le (bl : List (List UInt8)) (j : Nat) : (bl.take j).flatten.length ≤ bl.flatten.length := by
 have h := List.take_append_drop j bl
 have h2 : bl.flatten = (bl.take j).flatten ++ (bl.drop j).flatten := by rw [← List.flatten_append, h]
 rw [h2, List.length_append]
 omega
theorem zeroCells_size (z : Value) (n : Nat) (hz : z.cells.size = 1) : (Builtin.zeroCells z.cells n).size = n := by
 simp [Builtin.zeroCells, hz]
end Go.Kn
namespace Go.Proofs.YtgcfdjcpcclcjaaGreat
open Go Go.RowKit Go.Kn
set_option maxRecDepth 100000 in
set_option maxHeartbeats 4000000 in
theorem crc_sum_blks (A : Option Addr) (n c : Nat) (bl : List (List UInt8)) (w : World) (hi : Blks w A n c bl) :
  Calls Tryz.prog 204 #[.slice A n c] w fun e w' => e = .returned (.int .i64 (csum bl.flatten : Nat)) ∧ Only [] w w' := by
 have hlen := hi.len
 have hcm := hi.cm
 have hcl := hi.le
 unfold maxLen at hcm
 have HI := Lib.hid hi
 have HL := Lib.hid hlen
 clear hi hlen
 go_enter Tryz.func204, Tryz.ntmps204
 go_wp2_with fail
 go_loopg [3, 8] n (fun r v i wr => ∃ j : Nat, j + r = n ∧ i = .int .i64 j ∧ v = .int .u32 (cadd 4294967295 (bl.take j).flatten : Nat) ∧ Only [] w wr)
 case atStart => exact ⟨0, by omega, rfl, by simp [cadd], Only.refl _ _⟩
 obtain ⟨j, hj, rfl, rfl, hO⟩ := hrel
 have HO := Lib.hid hO
 have hlx := cadd_lt (x := 4294967295) (by decide) (bl.take j).flatten
 clear hO
 by_cases hlt : j < n
 ·have hjz : j < bl.length := by rw [HL.out]; exact hlt
  obtain ⟨a, o, B, m, d, rfl, q0, hb⟩ := HI.out.at_ j hlt
  have c0 := HO.out.cell q0 (by simp)
  have HB := Lib.hid (hb.keep0 HO.out)
  have hsn : cadd 4294967295 (bl.take (j + 1)).flatten = cadd (cadd 4294967295 (bl.take j).flatten) bl[j] := by rw [flat_take hjz, cadd_append]
  have HSN := Lib.hid hsn
  clear hb q0 hsn
  generalize bl[j] = bs at *
  generalize cadd 4294967295 (bl.take j).flatten = y at *
  have hlt2 : (j : Int) < (n : Int) := by omega
  go_wp2_with fail
  refine (crc_add_any y B m d bs _ hlx (by exact HB.out)).mono ?_
  rintro e w3 ⟨rfl, hO⟩
  have HO3 := Lib.hid (HO.out.trans' hO)
  clear hO c0
  generalize hz : cadd y bs = z at *
  have HZ := Lib.hid hz
  clear hz
  go_wp2_with fail
  go_roundg (gk - 1)
  case measure => omega
  case rel => exact ⟨j + 1, by omega, by go_num, by rw [HSN.out], HO3.out⟩
 ·obtain rfl : j = n := by omega
  have htk : bl.take j = bl := List.take_of_length_le (by rw [HL.out]; omega)
  rw [htk] at hlx ⊢
  have hy : csum bl.flatten = 4294967295 - cadd 4294967295 bl.flatten := rfl
  have hn := bits_not_u32 (cadd 4294967295 bl.flatten) hlx
  rw [← hy] at hn
  have hs := csum_lt bl.flatten
  clear hy htk
  generalize cadd 4294967295 bl.flatten = y at *
  generalize hcs : csum bl.flatten = s at *
  have HCS := Lib.hid hcs
  clear hcs
  go_wp2
  go_ret
  refine ⟨?_, HO.out⟩
  have hw : wrap64 (s : Int) = s := by unfold wrap64; omega
  rw [HCS.out, ← hw]
  simp [hw]
theorem Tryz.infoU8b : (Tryz.prog.info? 5).map (fun i => (i.zero, i.size, i.bytes)) = some (some (.int .u8 0), 1, 1) := by kernel_rfl
/-- room for so many bytes -/
def GrownNil (w : World) (e : Ending) (w' : World) : Prop := ∃ v, e = .returned v ∧ w'.ownsRow w.heap.size 5 1 v 0 [] ∧ Only [] w w' ∧ ∃ A c, v = .slice A 0 c
set_option maxRecDepth 100000 in
set_option maxHeartbeats 2000000 in
theorem grow_nil_any (n : Nat) (w : World) (hn : n ≤ 1000000) :
  Calls Tryz.prog 219 #[.slice none 0 0, .int .i64 n] w (GrownNil w) := by
 obtain ⟨i0, hi, hz0, hz1, hz2⟩ := info_parts Tryz.infoU8b
 rcases Nat.eq_zero_or_pos n with h0 | h0
 ·subst h0
  go_enter Tryz.func219, Tryz.ntmps219
  go_wp2
  go_ret
  exact ⟨_, rfl, World.ownsRow_nil w _ _ _, Only.refl _ _, none, 0, rfl⟩
 ·have hrz : ∀ ty, (Builtin.append_ #[47, 3] ty #[.slice none 0 0, .int .i64 n]).run Tryz.prog w = .ok (.slice (some ⟨w.heap.size, 0, none⟩) n (grownCap w n 0 5)) (w.drew.alloc (.cells (Builtin.zeroCells (Value.int .u8 0).cells n ++ Builtin.zeroCells (Value.int .u8 0).cells (grownCap w n 0 5 - n)) 5)) := fun ty =>
   Lib.run_append_nil_zeros w 47 3 ty 5 i0 (.int .u8 0) .i64 .i64 Tryz.underlying47 Tryz.underlying3 hi hz0 n h0 (by rw [hz1]; decide) (by omega) (by rw [hz2]; omega)
  have hge := grownCap_ge w n 0 5
  have hle := grownCap_le_maxLen w n 0 5 (by unfold maxLen; omega)
  have hsz : (Builtin.zeroCells (Value.int .u8 0).cells n ++ Builtin.zeroCells (Value.int .u8 0).cells (grownCap w n 0 5 - n)).size = grownCap w n 0 5 := by
   rw [Array.size_append, zeroCells_size _ _ rfl, zeroCells_size _ _ rfl]
   omega
  generalize Builtin.zeroCells (Value.int .u8 0).cells n ++ Builtin.zeroCells (Value.int .u8 0).cells (grownCap w n 0 5 - n) = cur at *
  generalize grownCap w n 0 5 = G at *
  have hG63 : G ≤ 9223372036854775807 := by unfold maxLen at hle; exact hle
  have HSZ := Lib.hid hsz
  clear hsz
  go_enter Tryz.func219, Tryz.ntmps219
  go_wp2_with (at_builtin; refine Lib.wpList_append_run _ rfl _ _ _ _ rfl _ _ rfl rfl _ _ (hrz _) ?_)
  go_ret
  refine ⟨_, rfl, ⟨rfl, .inr ⟨w.heap.size, G, cur, rfl, Nat.le_refl _, ?_, Nat.zero_le _, hle, by rw [HSZ.out, Nat.mul_one], by simp⟩⟩, ((Only.refl _ _).drew).alloc _, _, _, rfl⟩
  exact heap_alloc_new w.drew _
set_option maxRecDepth 100000 in
set_option maxHeartbeats 4000000 in
theorem concat_any (A : Option Addr) (n c : Nat) (bl : List (List UInt8)) (w : World) (hi : Blks w A n c bl) (ht : bl.flatten.length ≤ 65536) :
  Calls Tryz.prog 205 #[.slice A n c] w (MadeBys w bl.flatten) := by
 obtain ⟨i0, hi0, hz0, hz1, hz2⟩ := info_parts Tryz.infoU8b
 have hlen := hi.len
 have hcm := hi.cm
 have hcl := hi.le
 unfold maxLen at hcm
 have HI := Lib.hid hi
 have HL := Lib.hid hlen
 clear hi hlen
 go_enter Tryz.func205, Tryz.ntmps205
 go_wp2_with fail
 go_loopg [3, 11] n (fun r v i wr => ∃ j : Nat, j + r = n ∧ i = .int .i64 j ∧ v = .int .i64 ((bl.take j).flatten.length : Nat) ∧ w = wr)
 case atStart => exact ⟨0, by omega, rfl, by simp, rfl⟩
 obtain ⟨j, hj, rfl, rfl, rfl⟩ := hrel
 have hle := flat_take_le bl j
 by_cases hlt : j < n
 ·have hjz : j < bl.length := by rw [HL.out]; exact hlt
  obtain ⟨a, o, B, m, d, rfl, c0, hb⟩ := HI.out.at_ j hlt
  have hm := hb.len
  have hmd := hb.le
  have hdm := hb.cm
  rw [bvs_length] at hm
  unfold maxLen at hdm
  have hle2 := flat_take_le bl (j + 1)
  have hsn : (bl.take (j + 1)).flatten.length = (bl.take j).flatten.length + m := by rw [flat_take hjz, List.length_append, hm]
  have HSN := Lib.hid hsn
  rw [hsn] at hle2
  clear hb hsn hm
  generalize (bl.take j).flatten.length = y at *
  generalize bl.flatten.length = tt at *
  have hlt2 : (j : Int) < (n : Int) := by omega
  have hng : ¬ ((y : Int) + (m : Int) < 0) := by omega
  go_wp2_with fail
  go_roundg (gk - 1)
  case measure => omega
  case rel => exact ⟨j + 1, by omega, by go_num, by rw [HSN.out]; go_num, rfl⟩
 ·obtain rfl : j = n := by omega
  have htk : bl.take j = bl := List.take_of_length_le (by rw [HL.out]; omega)
  rw [htk] at hle ⊢
  clear htk
  have HFL : ∃ T, T = bl.flatten.length := ⟨_, rfl⟩
  obtain ⟨T, hT⟩ := HFL
  rw [← hT] at ht hle ⊢
  have HT := Lib.hid hT
  clear hT hle
  go_wp2_with fail
  refine (grow_nil_any T _ (by omega)).mono ?_
  rintro e w1 ⟨v, rfl, hown, hO, A1, c1, hv⟩
  have HG : Hid (Gath w1 w.heap.size 5 v []) := Lib.hid ⟨hown, hO.size⟩
  have HO := Lib.hid hO
  have HV := Lib.hid hv
  clear hown hO hv
  go_wp2_with fail
  go_loopg [6, 27] j (fun r v i wr => ∃ k : Nat, k + r = j ∧ i = .int .i64 k ∧ Gath wr w.heap.size 5 v (bvs (bl.take k).flatten) ∧ Only [] w wr)
  case atStart => exact ⟨0, by omega, rfl, by simpa [bvs] using HG.out, HO.out⟩
  obtain ⟨k, hk, rfl, hg, hO⟩ := hrel
  obtain ⟨A2, c2, rfl, _, _⟩ := hg.formN (bvs_length _)
  have HG2 := Lib.hid hg
  have HO2 := Lib.hid hO
  have hle := flat_take_le bl k
  rw [← HT.out] at hle
  clear hg hO HG HO
  by_cases hlt : k < j
  ·have hjz : k < bl.length := by rw [HL.out]; exact hlt
   obtain ⟨a, o, B, m, d, rfl, q0, hb⟩ := HI.out.at_ k hlt
   have c0 := HO2.out.cell q0 (by simp)
   have hm := hb.len
   have hmd := hb.le
   have hdm := hb.cm
   rw [bvs_length] at hm
   have hle2 := flat_take_le bl (k + 1)
   rw [flat_take hjz, List.length_append, hm, ← HT.out] at hle2
   have HB := Lib.hid (hb.keep0 HO2.out)
   have HSN := Lib.hid (flat_take hjz)
   have hone := bvs_one bl[k]
   clear hb q0 hm
   generalize bl[k] = bs at *
   generalize (bl.take k).flatten = acc at *
   have hlt2 : (k : Int) < (j : Int) := by omega
   go_wp2_with (first | (at_builtin; refine wpList_append_row1 rfl (.tmp 31) (.tmp 32) 47 rfl w.heap.size 5 i0 _ 1 Tryz.underlying47 hi0 hz0 hz1 hz2 rfl (.slice A2 acc.length c2) acc.length (bvs acc) rfl (HG2.out.own (Only.refl _ _) (bvs_length _)) B m d (bvs bs) rfl HB.out hone (by unfold maxLen; omega) (by omega) HG2.out.2 ?_; intro v' w8 hown hgrow hat) | fail)
   go_roundg (gk - 1)
   case measure => omega
   case rel =>
    have hl := HB.out.len
    rw [bvs_length] at hl
    obtain ⟨hG, hO⟩ := HG2.out.grown HO2.out rfl hown (by simp [hl]) hgrow
    refine ⟨k + 1, by omega, by go_num, ?_, hO⟩
    rw [HSN.out, show bvs (acc ++ bs) = bvs acc ++ bvs bs by simp [bvs]]
    exact hG
  ·obtain rfl : k = j := by omega
   have htk : bl.take k = bl := List.take_of_length_le (by rw [HL.out]; omega)
   have hG := HG2.out
   rw [htk] at hG ⊢
   have HG3 := Lib.hid hG
   clear hG htk HG2
   go_wp2
   go_ret
   have hown := HG3.out.1
   rw [bvs_length] at hown
   rcases hown.2 with ⟨h1, h2⟩ | ⟨g, cap, cur, h1, hb', hh, hn, hm, hs, htt⟩
   ·injection h1 with h1 h3 h4
    subst h1 h4
    have e : bl.flatten = [] := List.eq_nil_of_length_eq_zero h2
    exact ⟨none, 0, rfl, by rw [e]; simp, by simp [maxLen], by rw [e]; simp, HO2.out⟩
   ·injection h1 with h1 h3 h4
    subst h1 h4
    obtain ⟨ho, _⟩ := Own.of_own hown
    exact ⟨_, _, rfl, hn, hm, fun _ => ⟨g, rfl, hb', ho⟩, HO2.out⟩
end Go.Proofs.YtgcfdjcpcclcjaaGreat
namespace Go.Kn
open Go Go.RowKit
/-- the cells lie as they lay -/
def Cs (w w' : World) : Prop := ∀ (k : Nat) (o : Obj), w.heap[k]? = some o → o.isCells = true → w'.heap[k]? = some o
theorem Cs.refl (w : World) : Cs w w := fun _ _ h _ => h
theorem Cs.trans {a b c : World} (h : Cs a b) (k : Cs b c) : Cs a c := fun i o hi ho => k i o (h i o hi ho) ho
theorem Cs.of_grown {w w' : World} {row : Option Nat} (hg : w.grownBy w' row) (hr : ∀ r, row = some r → ∃ o : Obj, w.heap[r]? = some o ∧ o.isCells = false) : Cs w w' := fun k o hk ho => by
 rw [grownBy_keeps_cells hg hr hk ho]; exact hk
section
variable {w w' : World} {A : Option Addr} {n c g p k : Nat} {xs : List Value} {bs : List UInt8}
theorem Cs.cell (h : Cs w w') {a : Addr} {v : Value} (hc : w.cell? a = some v) : w'.cell? a = some v := by
 obtain ⟨o, ho, hcc⟩ := cells_of_cell hc
 exact (World.cell?_of_block (by rw [h _ _ ho hcc, ho])).trans hc
theorem Cs.frozen (h : Cs w w') {a : Addr} {v : Value} (hc : w.cell? a = some v) : w'.frozen? a = w.frozen? a := by
 obtain ⟨o, ho, hcc⟩ := cells_of_cell hc
 exact World.frozen?_of_block (by rw [h _ _ ho hcc, ho])
theorem Row1.cs (h : Row1 w A n c xs) (hC : Cs w w') : Row1 w' A n c xs :=
 ⟨h.len, h.le, h.cm, fun hn => by obtain ⟨g, o, e, hc⟩ := h.at_ hn; exact ⟨g, o, e, fun i hi => hC.cell (hc i hi)⟩⟩
theorem Own.cs (h : Own w g xs) (hC : Cs w w') : Own w' g xs := by
 obtain ⟨cur, t, h1, h2⟩ := h
 exact ⟨cur, t, hC _ _ h1 rfl, h2⟩
theorem ownsRow_cs {base e sz : Nat} {v : Value} (h : w.ownsRow base e sz v n xs) (hC : Cs w w') : w'.ownsRow base e sz v n xs := by
 obtain ⟨h1, h2⟩ := h
 refine ⟨h1, ?_⟩
 rcases h2 with h2 | ⟨g, cap, cur, hv, hb, hh, rest⟩
 ·exact .inl h2
 ·exact .inr ⟨g, cap, cur, hv, hb, hC _ _ hh rfl, rest⟩
theorem Its.cs {l : List It} (h : Its w A n c l) (hC : Cs w w') : Its w' A n c l :=
 ⟨h.len, h.le, h.cm, fun hn => by
  obtain ⟨g, o, e, hc⟩ := h.at_ hn
  exact ⟨g, o, e, fun i hi => ⟨hC.cell (hc i hi).1, hC.cell (hc i hi).2.1, hC.cell (hc i hi).2.2.1, hC.cell (hc i hi).2.2.2⟩⟩⟩
theorem Bls.cs {sl : List (Option Addr × Nat × Nat)} {bl : List (List UInt8)} (h : Bls w sl bl) (hC : Cs w w') : Bls w' sl bl := ⟨h.1, fun i h1 h2 => Row1.cs (h.2 i h1 h2) hC⟩
theorem Blks.cs {bl : List (List UInt8)} (h : Blks w A n c bl) (hC : Cs w w') : Blks w' A n c bl := by
 obtain ⟨sl, h1, h2⟩ := h
 exact ⟨sl, h1.cs hC, h2.cs hC⟩
end
theorem Own.isCells {w : World} {g : Nat} {xs : List Value} (h : Own w g xs) : ∀ o, w.heap[g]? = some o → o.isCells = true := by
 obtain ⟨cur, t, h1, h2⟩ := h
 intro o ho
 rw [h1] at ho
 injection ho with ho
 subst ho
 rfl
theorem ownsRow_isCells {w : World} {base e sz n : Nat} {v : Value} {xs : List Value} (h : w.ownsRow base e sz v n xs) : ∀ k, v.ownBlock = some k → ∀ o, w.heap[k]? = some o → o.isCells = true := by
 intro k hk o ho
 rcases h.2 with ⟨rfl, _⟩ | ⟨g, cap, cur, rfl, _, hh, _⟩
 ·simp [Value.ownBlock] at hk
 ·simp [Value.ownBlock] at hk
  subst hk
  rw [hh] at ho
  injection ho with ho
  subst ho
  rfl
theorem Only.turn {w0 W W' : World} (h : Only [] w0 W) (hb : ∀ k, k < w0.heap.size → W'.heap[k]? = W.heap[k]?) (hs : W.heap.size ≤ W'.heap.size) (ho : W'.os = W.os ∧ W'.tape = W.tape ∧ W'.output = W.output) : Only [] w0 W' :=
 ⟨ho.1.trans h.os, ho.2.1.trans h.tape, ho.2.2.trans h.output, Nat.le_trans h.size hs, fun k hk hn => (hb k hk).trans (h.block k hk hn)⟩
/-- the blocks of S lie as they lay -/
def KpAt (S : List Nat) (w w' : World) : Prop := ∀ k ∈ S, w'.heap[k]? = w.heap[k]?
theorem KpAt.refl (S : List Nat) (w : World) : KpAt S w w := fun _ _ => rfl
theorem KpAt.trans {S : List Nat} {a b c : World} (h : KpAt S a b) (k : KpAt S b c) : KpAt S a c := fun i hi => (k i hi).trans (h i hi)
theorem KpAt.cell {S : List Nat} {w w' : World} (h : KpAt S w w') {p : Addr} (hp : p.block ∈ S) : w'.cell? p = w.cell? p := World.cell?_of_block (h _ hp)
theorem KpAt.of_only {S T : List Nat} {w w' : World} (h : Only T w w') (hT : ∀ k ∈ S, k ∉ T ∧ k < w.heap.size) : KpAt S w w' := fun k hk => h.block k (hT k hk).2 (hT k hk).1
section
variable {P : Program} {ops : Array Oper} {Q : Exit → Act → World → Prop} {l n : Nat}
theorem oper_inRound {o : Oper} {a : Act} {w : World} {K : Act → World → Prop} (hd : ∀ c, o.op ≠ .defer c) (h : o.wp P a w K Q) : o.wpIn (Fence.wide.inRound l) n P a w K Q := by
 refine ⟨fun _ _ => trivial, ?_⟩
 show o.uponIn _ _ _ _ _ _ ((o.semAt (some l) a.eval).run P w)
 rw [Oper.semAt_some l a.eval o hd]
 unfold Oper.wp at h
 generalize (execOp a.eval o).run P w = r at *
 cases r with
 | ok x w' =>
  cases x with
  | value v => exact h
  | skip => exact h
  | defer d => exact h
  | enter f args => exact ⟨(fun hx => by cases hx), (callsIn_wide (n := n - 1)).2 h⟩
  | row r args => exact ⟨(fun hx => by cases hx), fun c cs _ => let ⟨v, w'', hr, hs⟩ := h c cs; ⟨v, w'', hr, stepsIn_wide.2 hs⟩⟩
  | round => exact h.elim
  | _ => exact h.elim
 | halt x w' => cases x <;> first | exact h | exact h.elim
theorem wpOp_in {i : Nat} {K : Act → World → Prop} {a : Act} {w : World} (hQ : ¬ LetsOut Q) (hd : ∀ o ∈ ops, ∀ c, o.op ≠ .defer c) (h : wpOp P ops Q i K a w) : wpOpIn (Fence.wide.inRound l) n P ops Q i K a w := by
 unfold wpOp at h
 unfold wpOpIn
 split
 ·rename_i hn; simpa [hn] using h
 ·rename_i o ho
  simp only [ho] at h
  split
  ·rename_i hw
   rw [if_pos hw] at h
   rcases h with h | ⟨_, h⟩
   ·exact oper_inRound (hd o (Array.mem_of_getElem? ho)) h
   ·exact absurd h hQ
  ·rename_i hw
   rw [if_neg hw] at h
   exact ⟨fun _ _ => trivial, h⟩
theorem wpAny_in {md : Region.Mode} (hQ : ¬ LetsOut Q) (hd : ∀ o ∈ ops, ∀ c, o.op ≠ .defer c) : ∀ (fuel : Nat) (listed : Array Bool) (a : Act) (w : World), wpAny P md ops Q fuel listed a w → wpAnyIn (Fence.wide.inRound l) n P md ops Q fuel listed a w
 | 0, _, _, _, h => h
 | fuel + 1, listed, a, w, h => ⟨h.1, fun i hi => wpOpIn_mono (fun a w h' => wpAny_in hQ hd fuel _ a w h') (wpOp_in hQ hd (h.2 i hi))⟩
theorem wpIn_region_held_drew {id : Nat} {a : Act} {w : World} {S : World → Prop} (hQ : ¬ LetsOut Q) (hd : ∀ o ∈ ops, ∀ c, o.op ≠ .defer c) (hm : P.follows .mixedOrders = true) (hS : S w.drew)
  (h : S w.drew → wpAnyH P .any ops Q S ops.size (Array.replicate ops.size false) a w.drew) : (Code.region id ops true).wpIn (Fence.wide.inRound l) n P Q a w :=
 wpIn_region_any hm (wpAny_in hQ hd _ _ _ _ (wpAny_of_held _ _ _ _ (h hS)))
end
def plainOps (ops : Array Oper) : Bool := ops.all fun o => match o.op with | .defer _ => false | _ => true
theorem plainOps_spec {ops : Array Oper} (h : plainOps ops = true) : ∀ o ∈ ops, ∀ c, o.op ≠ .defer c := fun o ho c e => by
 have := Array.all_eq_true'.1 h o ho
 rw [e] at this
 cases this
/-- .. behind it -/
theorem marks_ret1 {F : Fence} {n : Nat} {P : Program} {fn : Func} {R : Ending → World → Prop} {a : Act} {w : World} {v : Value} {D : Nat} (hK : w.heap[D]? = some (.deferred (some []))) (hr : (results fn a.tmps).run P (w.putObj D (.deferred none)) = .ok v (w.putObj D (.deferred none))) (hd : a.defers = [{ target := .collected D, args := #[] }]) (hR : R (.returned v) (w.putObj D (.deferred none))) : bodyPostM F n P fn R .ret a w := by
 show LeavesInM F n P fn a.tmps R a.defers .returning w
 rw [hd]
 exact ⟨by simp, .inl ⟨D, _, rfl, run_takeDeferred hK, v, hr, hR⟩⟩
end Go.Kn
namespace Go.Proofs.YtgcfdjcpcclcjaaGreat
open Go Go.RowKit Go.Kn Go.Shelf
attribute [local go_sem] Oper.semAt_some
/-- slices.Chunk(s, 64): the two are boxed -/
theorem chunk_any (A : Option Addr) (n c : Nat) (w : World) :
  Calls Tryz.prog 173 #[.slice A n c, .int .i64 64] w fun e w' => e = .returned (.func (.func 206) #[] #[.pointer (some ⟨w.heap.size, 0, none⟩), .pointer (some ⟨w.heap.size + 1, 0, none⟩)]) ∧ w' = (w.alloc (.cells #[.slice A n c] 47)).alloc (.cells #[.int .i64 64] 3) := by
 go_enter Tryz.func173, Tryz.ntmps173
 go_wp2
 go_ret
 exact ⟨rfl, rfl⟩
end Go.Proofs.YtgcfdjcpcclcjaaGreat
namespace Go.Kn
open Go Go.RowKit
/-- what stays as it is while the cells outside of M stay -/
def Fc (w : World) (M : Nat → Prop) (f : World → Prop) : Prop := ∀ w', (∀ k o, ¬ M k → w.heap[k]? = some o → o.isCells = true → w'.heap[k]? = some o) → f w'
theorem lt_of_obj {w : World} {k : Nat} {o : Obj} (h : w.heap[k]? = some o) : k < w.heap.size := (Array.getElem?_eq_some_iff.1 h).1
structure Wc (w0 w : World) (L : List (Nat × List Value)) (G : List Gs) (F : List (World → Prop)) : Prop where
 only : Only [] w0 w
 own : ∀ x ∈ L, Own w x.1 x.2
 lo : ∀ x ∈ L, w0.heap.size ≤ x.1
 nd : (L.map (·.1)).Nodup
 g1 : ∀ x ∈ G, w.ownsRow w0.heap.size x.e x.sz x.v x.n x.xs
 g2 : G.Pairwise fun x y => ∀ k, x.v.ownBlock = some k → y.v.ownBlock ≠ some k
 g3 : ∀ x ∈ L, ∀ y ∈ G, y.v.ownBlock ≠ some x.1
 fx : ∀ f ∈ F, Fc w (Mut L G) f
section
variable {w0 w w' w1 : World} {L : List (Nat × List Value)} {G : List Gs} {F : List (World → Prop)}
theorem Wc.start (w : World) : Wc w w [] [] [] := ⟨Only.refl _ _, by simp, by simp, by simp, by simp, by simp, by simp, by simp⟩
theorem Wc.mlt (h : Wc w0 w L G F) {k : Nat} (hk : Mut L G k) : k < w.heap.size := by
 rcases hk with hk | ⟨g, hg, hk⟩
 ·obtain ⟨x, hx, rfl⟩ := List.mem_map.1 hk
  exact (h.own x hx).lt
 ·exact ((h.g1 g hg).lt k hk).2
theorem Wc.mlo (h : Wc w0 w L G F) {k : Nat} (hk : Mut L G k) : w0.heap.size ≤ k := by
 rcases hk with hk | ⟨g, hg, hk⟩
 ·obtain ⟨x, hx, rfl⟩ := List.mem_map.1 hk
  exact h.lo x hx
 ·exact ((h.g1 g hg).lt k hk).1
theorem Wc.keep0 (h : Wc w0 w L G F) (hO : Only [] w w') : Wc w0 w' L G F :=
 ⟨h.only.trans' hO, fun x hx => (h.own x hx).keep0 hO, h.lo, h.nd, fun x hx => ownsRow_keep (h.g1 x hx) hO (by simp), h.g2, h.g3, fun f hf w2 h2 => h.fx f hf w2 fun k o hm hk hc => h2 k o hm (by rw [hO.block k (lt_of_obj hk) (by simp)]; exact hk) hc⟩
theorem Wc.drew (h : Wc w0 w L G F) : Wc w0 w.drew L G F := h.keep0 (Only.refl _ _).drew
theorem Wc.drewN (h : Wc w0 w L G F) (n : Nat) : Wc w0 (w.drewN n) L G F := h.keep0 ((Only.refl _ _).drewN n)
theorem Wc.alloc (h : Wc w0 w L G F) (o : Obj) : Wc w0 (w.alloc o) L G F := h.keep0 ((Only.refl _ _).alloc o)
/-- a box that is new: a block that is not older than the world w1, in which all of the others lay -/
theorem Wc.cons (h : Wc w0 w L G F) (hO : Only [] w w') {p : Nat} {cs : List Value} (hp : w.heap.size ≤ p) (ho : Own w' p cs) : Wc w0 w' ((p, cs) :: L) G F := by
 have h' := h.keep0 hO
 refine ⟨h'.only, ?_, ?_, ?_, h'.g1, h'.g2, ?_, ?_⟩
 ·intro x hx
  rcases List.mem_cons.1 hx with rfl | hx
  ·exact ho
  ·exact h'.own x hx
 ·intro x hx
  rcases List.mem_cons.1 hx with rfl | hx
  ·exact Nat.le_trans h.only.size hp
  ·exact h.lo x hx
 ·rw [List.map_cons, List.nodup_cons]
  exact ⟨fun hm => by have := h.mlt (.inl hm); simp at this; omega, h.nd⟩
 ·intro x hx y hy
  rcases List.mem_cons.1 hx with rfl | hx
  ·intro hk
   have := ((h.g1 y hy).lt _ hk).2
   simp at this
   omega
  ·exact h.g3 x hx y hy
 ·intro f hf w2 h2
  refine h.fx f hf w2 fun k o hm hk hc => h2 k o ?_ (by rw [hO.block k (lt_of_obj hk) (by simp)]; exact hk) hc
  have hk' := lt_of_obj hk
  rintro (hm2 | hm2)
  ·rcases List.mem_cons.1 hm2 with e | hm2
   ·have e2 : k = p := e
    omega
   ·exact hm (.inl hm2)
  ·exact hm (.inr hm2)
theorem Wc.new (h : Wc w0 w L G F) (cs : Array Value) (t : TypeId) : Wc w0 (w.alloc (.cells cs t)) ((w.heap.size, cs.toList) :: L) G F := h.cons ((Only.refl _ _).alloc _) (Nat.le_refl _) (Own.new _ _ _)
theorem Wc.newB (h : Wc w0 w L G F) (cs : Array Value) (t : TypeId) {b : Nat} (hb : w.heap.size = b) : Wc w0 (w.alloc (.cells cs t)) ((b, cs.toList) :: L) G F := by subst hb; exact h.new cs t
/-- a call that writes into one box alone -/
theorem Wc.call1 (h : Wc w0 w L G F) (i : Nat) {p : Nat} {cs cs' : List Value} (hi : L[i]? = some (p, cs)) (ho : Own w' p cs') (hO : Only [p] w w') : Wc w0 w' (L.set i (p, cs')) G F := by
 have hpm : (p, cs) ∈ L := List.mem_of_getElem? hi
 have hplo := h.lo _ hpm
 refine ⟨h.only.trans hO (by simpa using hplo), ?_, ?_, by rw [mut_set hi]; exact h.nd, ?_, h.g2, ?_, ?_⟩
 ·intro x hx
  obtain ⟨j, hj⟩ := List.mem_iff_getElem?.1 hx
  rw [List.getElem?_set] at hj
  split at hj
  ·split at hj
   ·injection hj with hj; subst hj; exact ho
   ·cases hj
  ·rename_i hne
   refine (h.own x (List.mem_of_getElem? hj)).keep hO ?_
   simp only [List.mem_singleton]
   intro e
   apply hne
   have hnd := h.nd
   have h1 : (L.map (·.1))[i]? = some p := by simp [hi]
   have h2 : (L.map (·.1))[j]? = some p := by simp [hj, e]
   obtain ⟨l1, e1⟩ := List.getElem?_eq_some_iff.1 h1
   obtain ⟨l2, e2⟩ := List.getElem?_eq_some_iff.1 h2
   rcases Nat.lt_trichotomy i j with hl | hl | hl
   ·exact absurd (e1.trans e2.symm) (List.pairwise_iff_getElem.1 hnd i j l1 l2 hl)
   ·exact hl
   ·exact absurd (e2.trans e1.symm) (List.pairwise_iff_getElem.1 hnd j i l2 l1 hl)
 ·intro x hx
  have : x.1 ∈ L.map (·.1) := by rw [← mut_set (cs' := cs') hi]; exact List.mem_map_of_mem hx
  obtain ⟨y, hy, e⟩ := List.mem_map.1 this
  rw [← e]; exact h.lo y hy
 ·intro x hx
  exact ownsRow_keep (h.g1 x hx) hO (fun k hk => by
   simp only [List.mem_singleton]
   intro e
   subst e
   exact h.g3 _ hpm x hx hk)
 ·intro x hx y hy
  have : x.1 ∈ L.map (·.1) := by rw [← mut_set (cs' := cs') hi]; exact List.mem_map_of_mem hx
  obtain ⟨z, hz, e⟩ := List.mem_map.1 this
  rw [← e]; exact h.g3 z hz y hy
 ·intro f hf w2 h2
  refine h.fx f hf w2 fun k o hm hk hc => h2 k o ?_ ?_ hc
  ·unfold Mut
   rw [mut_set hi]
   exact hm
  ·rw [hO.block k (lt_of_obj hk) ?_]
   ·exact hk
   ·simp only [List.mem_singleton]
    intro e
    subst e
    exact hm (.inl (List.mem_map_of_mem hpm))
theorem Wc.put (h : Wc w0 w L G F) (i : Nat) {p : Nat} {cs : List Value} (hi : L[i]? = some (p, cs)) (j : Nat) (u : Value) : Wc w0 (w.setCell ⟨p, j, none⟩ u) (L.set i (p, cs.set j u)) G F :=
 h.call1 i hi ((h.own _ (List.mem_of_getElem? hi)).set j u) ((Only.refl [p] w).set (by simp) u)
/-- a slice that is to be gathered: nil at first -/
theorem Wc.gnew (h : Wc w0 w L G F) (e sz : Nat) : Wc w0 w L (⟨e, sz, .slice none 0 0, 0, []⟩ :: G) F := by
 have hm : ∀ k, Mut L (⟨e, sz, .slice none 0 0, 0, []⟩ :: G) k ↔ Mut L G k := by
  intro k
  unfold Mut
  constructor
  ·rintro (h1 | ⟨g, hg, h1⟩)
   ·exact .inl h1
   ·rcases List.mem_cons.1 hg with rfl | hg
    ·simp [Value.ownBlock] at h1
    ·exact .inr ⟨g, hg, h1⟩
  ·rintro (h1 | ⟨g, hg, h1⟩)
   ·exact .inl h1
   ·exact .inr ⟨g, List.mem_cons_of_mem _ hg, h1⟩
 refine ⟨h.only, h.own, h.lo, h.nd, ?_, ?_, ?_, ?_⟩
 ·intro x hx
  rcases List.mem_cons.1 hx with rfl | hx
  ·exact World.ownsRow_nil w _ _ _
  ·exact h.g1 x hx
 ·exact List.Pairwise.cons (fun y _ k hk => by simp [Value.ownBlock] at hk) h.g2
 ·intro x hx y hy
  rcases List.mem_cons.1 hy with rfl | hy
  ·simp [Value.ownBlock]
  ·exact h.g3 x hx y hy
 ·intro f hf w2 h2
  exact h.fx f hf w2 fun k o hn hk hc => h2 k o (fun h3 => hn ((hm k).1 h3)) hk hc
theorem Wc.gchange (h : Wc w0 w L G F) (i : Nat) {x y : Gs} (hi : G[i]? = some x) (hsz : w.heap.size ≤ w'.heap.size) (hos : w'.os = w.os ∧ w'.tape = w.tape ∧ w'.output = w.output)
  (hb : ∀ k, k < w.heap.size → x.v.ownBlock ≠ some k → w'.heap[k]? = w.heap[k]?) (ho : w'.ownsRow w0.heap.size y.e y.sz y.v y.n y.xs) (hat : y.v.ownBlock = x.v.ownBlock ∨ y.v.ownBlock = some w.heap.size) : Wc w0 w' L (G.set i y) F := by
 have hxm : x ∈ G := List.mem_of_getElem? hi
 have hxlt := (h.g1 x hxm).lt
 have hlt : ∀ z ∈ G, ∀ k, z.v.ownBlock = some k → k < w.heap.size := fun z hz k hk => ((h.g1 z hz).lt k hk).2
 have hO : Only x.v.ownBlock.toList w w' := ⟨hos.1, hos.2.1, hos.2.2, hsz, fun k hk hn => hb k hk (fun e => hn (by simp [e]))⟩
 have hset : ∀ z ∈ G.set i y, z = y ∨ ∃ j, j ≠ i ∧ G[j]? = some z := by
  intro z hz
  obtain ⟨j, hj⟩ := List.mem_iff_getElem?.1 hz
  rw [List.getElem?_set] at hj
  split at hj
  ·split at hj
   ·injection hj with hj; exact .inl hj.symm
   ·cases hj
  ·rename_i hne
   exact .inr ⟨j, fun e => hne e.symm, hj⟩
 have hap : ∀ j z, j ≠ i → G[j]? = some z → ∀ k, z.v.ownBlock = some k → x.v.ownBlock ≠ some k := by
  intro j z hj hz k hk hx
  have hp := List.pairwise_iff_getElem.1 h.g2
  obtain ⟨l1, e1⟩ := List.getElem?_eq_some_iff.1 hi
  obtain ⟨l2, e2⟩ := List.getElem?_eq_some_iff.1 hz
  rcases Nat.lt_or_gt_of_ne hj with h1 | h1
  ·exact hp j i l2 l1 h1 k (by rw [e2]; exact hk) (by rw [e1]; exact hx)
  ·exact hp i j l1 l2 h1 k (by rw [e1]; exact hx) (by rw [e2]; exact hk)
 refine ⟨h.only.trans hO ?_, ?_, h.lo, h.nd, ?_, ?_, ?_, ?_⟩
 ·intro k hk
  exact .inr (hxlt k (by simpa using hk)).1
 ·intro z hz
  refine (h.own z hz).keep hO ?_
  intro hk
  exact h.g3 z hz x hxm (by simpa using hk)
 ·intro z hz
  rcases hset z hz with rfl | ⟨j, hj, hz⟩
  ·exact ho
  ·exact ownsRow_keep (h.g1 z (List.mem_of_getElem? hz)) hO (fun k hk hin => hap j z hj hz k hk (by simpa using hin))
 ·rw [List.pairwise_iff_getElem]
  have hp := List.pairwise_iff_getElem.1 h.g2
  intro a b ha hb' hab k hk hk2
  rw [List.getElem_set] at hk hk2
  have la : a < G.length := by simpa using ha
  have lb : b < G.length := by simpa using hb'
  split at hk
  ·rename_i e1
   split at hk2
   ·omega
   ·rename_i e2
    have hz : G[b]? = some G[b] := List.getElem?_eq_getElem lb
    rcases hat with hat | hat
    ·exact hap b G[b] (fun e => e2 e.symm) hz k hk2 (by rw [← hat]; exact hk)
    ·have := hlt _ (List.getElem_mem lb) k hk2
     rw [hat] at hk
     injection hk with hk
     omega
  ·rename_i e1
   split at hk2
   ·rename_i e2
    have hz : G[a]? = some G[a] := List.getElem?_eq_getElem la
    rcases hat with hat | hat
    ·exact hap a G[a] (fun e => e1 e.symm) hz k hk (by rw [← hat]; exact hk2)
    ·have := hlt _ (List.getElem_mem la) k hk
     rw [hat] at hk2
     injection hk2 with hk2
     omega
   ·exact hp a b la lb hab k hk hk2
 ·intro z hz u hu
  rcases hset u hu with rfl | ⟨j, hj, hu⟩
  ·rcases hat with hat | hat
   ·rw [hat]; exact h.g3 z hz x hxm
   ·rw [hat]
    intro e
    injection e with e
    have := (h.own z hz).lt
    omega
  ·exact h.g3 z hz u (List.mem_of_getElem? hu)
 ·intro f hf w2 h2
  refine h.fx f hf w2 fun k o hm hk hc => h2 k o ?_ (by rw [hb k (lt_of_obj hk) (fun e => hm (.inr ⟨x, hxm, e⟩))]; exact hk) hc
  have hk' := lt_of_obj hk
  rintro (hm2 | ⟨g, hg, hk2⟩)
  ·exact hm (.inl hm2)
  ·rcases hset g hg with rfl | ⟨j, hj, hg⟩
   ·rcases hat with hat | hat
    ·exact hm (.inr ⟨x, hxm, by rw [← hat]; exact hk2⟩)
    ·rw [hat] at hk2
     injection hk2 with hk2
     omega
   ·exact hm (.inr ⟨g, List.mem_of_getElem? hg, hk2⟩)
/-- what an append leaves -/
theorem Wc.gapp (h : Wc w0 w L G F) (i : Nat) {x : Gs} (hi : G[i]? = some x) {v' : Value} {n' : Nat} {ys : List Value} (ho : w'.ownsRow w0.heap.size x.e x.sz v' n' ys) (hg : w.grownBy w' x.v.ownBlock) (hat : v'.ownBlock = x.v.ownBlock ∨ v'.ownBlock = some w.heap.size) :
  Wc w0 w' L (G.set i ⟨x.e, x.sz, v', n', ys⟩) F :=
 h.gchange i hi hg.size ⟨hg.os, hg.tape, hg.output⟩ (fun k hk hn => hg.block k hk (fun e => hn e.symm)) ho hat
/-- what lies fast in blocks of which none is written into -/
theorem Wc.addF (h : Wc w0 w L G F) (f : World → Prop) (hf : Fc w (Mut L G) f) : Wc w0 w L G (f :: F) :=
 ⟨h.only, h.own, h.lo, h.nd, h.g1, h.g2, h.g3, fun f' hf' => by
  rcases List.mem_cons.1 hf' with rfl | hf'
  ·exact hf
  ·exact h.fx f' hf'⟩
theorem Wc.fact (h : Wc w0 w L G F) (f : World → Prop) (hm : f ∈ F) : f w := h.fx f hm w fun _ _ _ h _ => h
theorem Wc.box (h : Wc w0 w L G F) {p : Nat} {cs : List Value} (hm : (p, cs) ∈ L) : Own w p cs := h.own _ hm
theorem Wc.gath (h : Wc w0 w L G F) {x : Gs} (hm : x ∈ G) : GathN w w0.heap.size x.e x.sz x.v x.n x.xs := ⟨h.g1 x hm, h.only.size⟩
theorem Wc.boxi (h : Wc w0 w L G F) (i : Nat) {p : Nat} {cs : List Value} (hi : L[i]? = some (p, cs)) : Own w p cs := h.own _ (List.mem_of_getElem? hi)
theorem Wc.gi (h : Wc w0 w L G F) (i : Nat) {x : Gs} (hi : G[i]? = some x) : w.ownsRow w0.heap.size x.e x.sz x.v x.n x.xs := h.g1 _ (List.mem_of_getElem? hi)
theorem Wc.fi (h : Wc w0 w L G F) (i : Nat) {f : World → Prop} (hi : F[i]? = some f) : f w := h.fact _ (List.mem_of_getElem? hi)
theorem Wc.gform (h : Wc w0 w L G F) (i : Nat) {e sz n : Nat} {v : Value} {xs : List Value} (hi : G[i]? = some ⟨e, sz, v, n, xs⟩) : ∃ A c, v = .slice A n c := by
 rcases (h.gi i hi).2 with ⟨h1, h2⟩ | ⟨g, cap, cur, h1, _⟩
 ·exact ⟨none, 0, by rw [show n = 0 from h2]; exact h1⟩
 ·exact ⟨_, _, h1⟩
/-- a block that is no cells is turned -/
theorem Wc.turn (h : Wc w0 w L G F) (hC : Cs w w') (hb : ∀ k, k < w0.heap.size → w'.heap[k]? = w.heap[k]?) (hs : w.heap.size ≤ w'.heap.size) (ho : w'.os = w.os ∧ w'.tape = w.tape ∧ w'.output = w.output) : Wc w0 w' L G F :=
 ⟨h.only.turn hb hs ho, fun x hx => (h.own x hx).cs hC, h.lo, h.nd, fun x hx => ownsRow_cs (h.g1 x hx) hC, h.g2, h.g3, fun f hf w2 h2 => h.fx f hf w2 fun k o hm hk hc => h2 k o hm (hC k o hk hc) hc⟩
theorem Wc.putObj (h : Wc w0 w L G F) {D : Nat} {o : Obj} (o' : Obj) (hD : w.heap[D]? = some o) (ho : o.isCells = false) (hw : w0.heap.size ≤ D) : Wc w0 (w.putObj D o') L G F :=
 h.turn (Cs.of_grown (grownBy_putObj' w D o') (fun r e => by cases e; exact ⟨o, hD, ho⟩)) (fun k hk => World.putObj_heap_other (by omega)) (by simp) ⟨rfl, rfl, rfl⟩
theorem Wc.grown {B : Nat} {row : Option Nat} (h : Wc w0 w L G F) (hB : w0.heap.size ≤ B) (hg : w.grownBy w' row) (hr : ∀ r, row = some r → B ≤ r ∧ ∃ o : Obj, w.heap[r]? = some o ∧ o.isCells = false) : Wc w0 w' L G F :=
 h.turn (Cs.of_grown hg fun r e => (hr r e).2) (fun k hk => hg.block k (Nat.lt_of_lt_of_le hk h.only.size) (fun e => by have := (hr k e.symm).1; omega)) hg.size ⟨hg.os, hg.tape, hg.output⟩
/-- what a walk from w to w' left: all that is no cells, and all that lay below n₀ -/
theorem Wc.cellsBlock (h : Wc w0 w L G F) {k : Nat} (hk : Mut L G k) : ∀ o, w.heap[k]? = some o → o.isCells = true := by
 rcases hk with hk | ⟨g, hg, hk⟩
 ·obtain ⟨x, hx, rfl⟩ := List.mem_map.1 hk
  exact (h.own x hx).isCells
 ·exact ownsRow_isCells (h.g1 g hg) k hk
/-- a fact more out of two -/
theorem Wc.fuse (h : Wc w0 w L G F) {f1 f2 f : World → Prop} (h1 : f1 ∈ F) (h2 : f2 ∈ F) (hf : ∀ W, f1 W → f2 W → f W) : Wc w0 w L G (f :: F) :=
 h.addF f fun w' hw' => hf w' (h.fx f1 h1 w' hw') (h.fx f2 h2 w' hw')
/-- fewer boxes -/
theorem Wc.sub (h : Wc w0 w L G F) {L' : List (Nat × List Value)} {F' : List (World → Prop)} (hL : L'.Sublist L) (hF : ∀ f ∈ F', f ∈ F) : Wc w0 w L' G F' :=
 ⟨h.only, fun x hx => h.own x (hL.subset hx), fun x hx => h.lo x (hL.subset hx), h.nd.sublist (hL.map _), h.g1, h.g2, fun x hx => h.g3 x (hL.subset hx), fun f hf w2 h2 => h.fx f (hF f hf) w2 fun k o hm hk hc => h2 k o (fun h3 => hm (by
  rcases h3 with h3 | h3
  ·exact .inl ((hL.map _).subset h3)
  ·exact .inr h3)) hk hc⟩
end
section
variable {w0 w w' : World} {M : Nat → Prop} {L : List (Nat × List Value)} {G : List Gs} {F : List (World → Prop)}
theorem fc_cell {p : Addr} {v : Value} (hc : w.cell? p = some v) (hp : ¬ M p.block) : Fc w M (fun W => W.cell? p = some v) := fun W hW => by
 obtain ⟨o, ho, hcc⟩ := cells_of_cell hc
 exact (World.cell?_of_block (by rw [hW _ _ hp ho hcc, ho])).trans hc
theorem Row1.fc {A : Option Addr} {n c : Nat} {xs : List Value} (h : Row1 w A n c xs) (hA : 0 < n → ∀ a, A = some a → ¬ M a.block) : Fc w M (fun W => Row1 W A n c xs) := fun W hW =>
 ⟨h.len, h.le, h.cm, fun hn => by
  obtain ⟨g, o, e, hc⟩ := h.at_ hn
  exact ⟨g, o, e, fun i hi => fc_cell (hc i hi) (show ¬ M g from hA hn _ e) W hW⟩⟩
theorem Its.fc {A : Option Addr} {n c : Nat} {l : List It} (h : Its w A n c l) (hA : 0 < n → ∀ a, A = some a → ¬ M a.block) : Fc w M (fun W => Its W A n c l) := fun W hW =>
 ⟨h.len, h.le, h.cm, fun hn => by
  obtain ⟨g, o, e, hc⟩ := h.at_ hn
  exact ⟨g, o, e, fun i hi => ⟨fc_cell (hc i hi).1 (show ¬ M g from hA hn _ e) W hW, fc_cell (hc i hi).2.1 (show ¬ M g from hA hn _ e) W hW, fc_cell (hc i hi).2.2.1 (show ¬ M g from hA hn _ e) W hW, fc_cell (hc i hi).2.2.2 (show ¬ M g from hA hn _ e) W hW⟩⟩⟩
theorem Own.fc {p : Nat} {cs : List Value} (h : Own w p cs) (hp : ¬ M p) : Fc w M (fun W => Own W p cs) := fun W hW => by
 obtain ⟨cur, t, h1, h2⟩ := h
 exact ⟨cur, t, hW p _ hp h1 rfl, h2⟩
theorem Bls.fc {sl : List (Option Addr × Nat × Nat)} {bl : List (List UInt8)} (h : Bls w sl bl) (hA : ∀ s ∈ sl, 0 < s.2.1 → ∀ a, s.1 = some a → ¬ M a.block) : Fc w M (fun W => Bls W sl bl) := fun W hW =>
 ⟨h.1, fun i h1 h2 => Row1.fc (h.2 i h1 h2) (hA _ (List.getElem_mem h1)) W hW⟩
/-- what lay below the walk's beginning -/
theorem Wc.old (h : Wc w0 w L G F) {f : World → Prop} (hf : Fc w0 (fun _ => False) f) : Wc w0 w L G (f :: F) :=
 h.addF f fun W hW => hf W fun k o _ hk hc => by
  have hk' := lt_of_obj hk
  refine hW k o (fun hm => ?_) ((h.only.block k hk' (by simp)).trans hk) hc
  have := h.mlo hm
  omega
/-- what a call leaves in blocks of its own -/
theorem Wc.addFc (h : Wc w0 w L G F) (hO : Only [] w w') {f : World → Prop} (hf : Fc w' (fun k => k < w.heap.size) f) : Wc w0 w' L G (f :: F) :=
 (h.keep0 hO).addF f fun W hW => hf W fun k o hn hk hc => hW k o (fun hm => hn (h.mlt hm)) hk hc
end
end Go.Kn
namespace Go.Kn
open Go Go.RowKit
structure Dk where
 safe : List (List UInt8)
 held : List (Nat × List UInt8)
 faults : List Bool
 fuse : Int
 acts : Int
 off : Bool
namespace Dk
/-- sectors with writes laid over them -/
def over (s : List (List UInt8)) (h : List (Nat × List UInt8)) : List (List UInt8) := h.foldl (fun s x => s.set x.1 x.2) s
def now (d : Dk) : List (List UInt8) := over d.safe d.held
def tick (z : Int) : Int := wrap64 (z + 1)
/-- is the power off behind one act more -/
def gone (d : Dk) : Bool := d.off || decide (d.fuse = 0)
def act (d : Dk) : Dk := { d with acts := tick d.acts, off := d.gone, fuse := if d.gone then d.fuse else max (d.fuse - 1) (-1) }
def has (d : Dk) (a : Int) : Bool := decide (0 ≤ a ∧ a < d.safe.length)
def wrote (d : Dk) (a : Int) (b : List UInt8) : Dk := { d.act with held := d.held ++ [(a.toNat, b)] }
def write (d : Dk) (a : Int) (b : List UInt8) : Dk × Int :=
 if (d.has a && decide (b.length = 64)) = true then (if d.gone = true then (d.act, 3) else (d.wrote a b, 0)) else (d, 1)
def sector (d : Dk) (a : Int) : List UInt8 := d.now.getD a.toNat []
def bad (d : Dk) (a : Int) : Bool := d.faults.getD a.toNat false
/-- what a read answers: the bytes, if there are any; the error -/
def err (d : Dk) (a : Int) : Int := if d.has a = true then (if d.off = true then 3 else if d.bad a = true then 4 else 0) else 1
def read (d : Dk) (a : Int) : List UInt8 := if d.err a = 0 then d.sector a else []
def flushed (d : Dk) : Dk := { d.act with safe := d.now, held := [] }
def flush (d : Dk) : Dk × Int := if d.gone = true then (d.act, 3) else (d.flushed, 0)
structure Ok (d : Dk) : Prop where
 n : 1 ≤ d.safe.length ∧ d.safe.length ≤ 4096
 f : d.faults.length = d.safe.length
 s : ∀ b ∈ d.safe, b.length = 64
 h : ∀ x ∈ d.held, x.1 < d.safe.length ∧ x.2.length = 64
 u : -1 ≤ d.fuse ∧ d.fuse ≤ 9223372036854775807
theorem over_length (h : List (Nat × List UInt8)) : ∀ s : List (List UInt8), (over s h).length = s.length := by
 induction h with
 | nil => intro s; rfl
 | cons x h ih => intro s; exact (ih _).trans (by simp)
theorem over_one (s : List (List UInt8)) (h : List (Nat × List UInt8)) (a : Nat) (b : List UInt8) : over s (h ++ [(a, b)]) = (over s h).set a b := by simp [over]
theorem over_64 (h : List (Nat × List UInt8)) : ∀ s : List (List UInt8), (∀ b ∈ s, b.length = 64) → (∀ x ∈ h, x.2.length = 64) → ∀ b ∈ over s h, b.length = 64 := by
 induction h with
 | nil => intro s hs _; exact hs
 | cons x h ih =>
  intro s hs hh
  refine ih _ (fun b hb => ?_) (fun y hy => hh y (List.mem_cons_of_mem _ hy))
  rcases List.mem_or_eq_of_mem_set hb with hb | rfl
  ·exact hs b hb
  ·exact hh x List.mem_cons_self
@[simp] theorem now_length (d : Dk) : d.now.length = d.safe.length := over_length _ _
theorem Ok.now64 {d : Dk} (h : d.Ok) : ∀ b ∈ d.now, b.length = 64 := over_64 _ _ h.s (fun x hx => (h.h x hx).2)
theorem Ok.act {d : Dk} (h : d.Ok) : d.act.Ok := ⟨h.n, h.f, h.s, h.h, by
 have := h.u
 unfold Dk.act
 simp only
 split <;> omega⟩
theorem now_wrote (d : Dk) (a : Int) (b : List UInt8) : (d.wrote a b).now = d.now.set a.toNat b := over_one _ _ _ _
theorem Ok.wrote {d : Dk} (h : d.Ok) {a : Int} {b : List UInt8} (ha : d.has a = true) (hb : b.length = 64) : (d.wrote a b).Ok := by
 have h1 := h.act
 refine ⟨h1.n, h1.f, h1.s, fun x hx => ?_, h1.u⟩
 unfold has at ha
 simp only [decide_eq_true_eq] at ha
 rcases List.mem_append.1 hx with hx | hx
 ·exact h.h x hx
 ·rw [List.mem_singleton] at hx
  subst hx
  exact ⟨show a.toNat < d.safe.length by omega, hb⟩
theorem Ok.write {d : Dk} (h : d.Ok) (a : Int) (b : List UInt8) : (d.write a b).1.Ok := by
 unfold Dk.write
 split
 ·rename_i hc
  simp only [Bool.and_eq_true, decide_eq_true_eq] at hc
  split
  ·exact h.act
  ·exact h.wrote hc.1 hc.2
 ·exact h
theorem Ok.flushed {d : Dk} (h : d.Ok) : d.flushed.Ok := by
 have h1 := h.act
 exact ⟨by show 1 ≤ d.now.length ∧ d.now.length ≤ 4096; rw [now_length]; exact h.n, by show d.faults.length = d.now.length; rw [now_length]; exact h.f, h.now64, fun x hx => absurd hx (by simp [Dk.flushed]), h1.u⟩
theorem Ok.flush {d : Dk} (h : d.Ok) : d.flush.1.Ok := by
 unfold Dk.flush
 split
 ·exact h.act
 ·exact h.flushed
theorem sector_64 {d : Dk} (h : d.Ok) {a : Int} (ha : d.has a = true) : (d.sector a).length = 64 := by
 unfold has at ha
 simp only [decide_eq_true_eq] at ha
 unfold sector
 rw [List.getD_eq_getElem?_getD, List.getElem?_eq_getElem (by rw [now_length]; omega), Option.getD_some]
 exact h.now64 _ (List.getElem_mem _)
theorem err_has {d : Dk} {a : Int} (h : d.err a = 0) : d.has a = true := by
 unfold err at h
 split at h
 ·assumption
 ·cases h
theorem read_64 {d : Dk} (h : d.Ok) {a : Int} (he : d.err a = 0) : (d.read a).length = 64 := by
 unfold Dk.read
 rw [if_pos he]
 exact sector_64 h (err_has he)
/-- a disk of noughts -/
def new (n : Nat) : Dk := ⟨List.replicate n (List.replicate 64 0), [], List.replicate n false, -1, 0, false⟩
theorem new_ok {n : Nat} (h1 : 1 ≤ n) (h2 : n ≤ 4096) : (new n).Ok := ⟨by simp [new]; omega, by simp [new], fun b hb => by rw [(List.mem_replicate.1 hb).2]; simp, by simp [new], by simp [new]⟩
end Dk
/-- sectors as cells, one behind the other -/
def flat (ss : List (List UInt8)) : List Value := ss.flatMap bvs
def bls (l : List Bool) : List Value := l.map Value.bool
@[simp] theorem bls_length (l : List Bool) : (bls l).length = l.length := by simp [bls]
theorem bls_get (l : List Bool) (i : Nat) (h : i < (bls l).length) : (bls l)[i] = .bool (l[i]'(by simpa using h)) := by simp [bls]
theorem flat_length : ∀ (ss : List (List UInt8)), (∀ b ∈ ss, b.length = 64) → (flat ss).length = 64 * ss.length
 | [], _ => rfl
 | s :: ss, h => by
  have h1 := flat_length ss fun b hb => h b (List.mem_cons_of_mem _ hb)
  have h2 := h s List.mem_cons_self
  unfold flat at h1 ⊢
  rw [List.flatMap_cons, List.length_append, bvs_length, h2, h1, List.length_cons]
  omega
theorem flat_append (a b : List (List UInt8)) : flat (a ++ b) = flat a ++ flat b := by simp [flat]
/-- the cells of sector i -/
theorem flat_get (ss : List (List UInt8)) (h : ∀ b ∈ ss, b.length = 64) (i j : Nat) (hi : i < ss.length) (hj : j < 64) : (flat ss)[64 * i + j]? = some (.int .u8 (((ss[i])[j]'(by rw [h _ (List.getElem_mem hi)]; exact hj)).toNat : Int)) := by
 induction ss generalizing i with
 | nil => simp at hi
 | cons s ss ih =>
  have h2 := h s List.mem_cons_self
  have e : flat (s :: ss) = bvs s ++ flat ss := by simp [flat]
  rw [e]
  match i with
  | 0 =>
   rw [List.getElem?_append_left (by rw [bvs_length]; omega)]
   have hlt : j < (bvs s).length := by rw [bvs_length]; omega
   rw [show 64 * 0 + j = j from by omega, List.getElem?_eq_getElem hlt, bvs_get]
   rfl
  | i + 1 =>
   rw [List.getElem?_append_right (by rw [bvs_length]; omega), bvs_length, h2, show 64 * (i + 1) + j - 64 = 64 * i + j from by omega]
   exact ih (fun b hb => h b (List.mem_cons_of_mem _ hb)) i (by simpa using hi)
theorem flat_cut (ss : List (List UInt8)) (h : ∀ b ∈ ss, b.length = 64) (i : Nat) (hi : i < ss.length) : ((flat ss).drop (64 * i)).take 64 = bvs ss[i] := by
 have h3 := h _ (List.getElem_mem hi)
 apply List.ext_getElem?
 intro j
 rw [List.getElem?_take]
 split
 ·rename_i hj
  rw [List.getElem?_drop, flat_get ss h i j hi hj]
  have hlt : j < (bvs ss[i]).length := by rw [bvs_length]; omega
  rw [List.getElem?_eq_getElem hlt, bvs_get]
 ·rw [List.getElem?_eq_none (by rw [bvs_length]; omega)]
theorem flat_set (ss : List (List UInt8)) (h : ∀ b ∈ ss, b.length = 64) (i : Nat) (b : List UInt8) (hi : i < ss.length) (hb : b.length = 64) : flat (ss.set i b) = (flat ss).take (64 * i) ++ bvs b ++ (flat ss).drop (64 * i + 64) := by
 have e1 : ss = ss.take i ++ ss[i] :: ss.drop (i + 1) := by rw [List.getElem_cons_drop, List.take_append_drop]
 have e2 : ss.set i b = ss.take i ++ b :: ss.drop (i + 1) := List.set_eq_take_append_cons_drop.trans (by rw [if_pos hi])
 have h3 := h _ (List.getElem_mem hi)
 have hl : (flat (ss.take i)).length = 64 * i := by
  rw [flat_length _ fun b hb => h b (List.mem_of_mem_take hb), List.length_take, Nat.min_eq_left (by omega)]
 have e3 : flat ss = flat (ss.take i) ++ (bvs ss[i] ++ flat (ss.drop (i + 1))) := by
  have e5 : flat ss = flat (ss.take i ++ ss[i] :: ss.drop (i + 1)) := congrArg flat e1
  rw [e5, flat_append]
  rfl
 have e4 : flat (ss.set i b) = flat (ss.take i) ++ (bvs b ++ flat (ss.drop (i + 1))) := by
  rw [e2, flat_append]
  rfl
 generalize flat (ss.take i) = A at *
 generalize flat (ss.drop (i + 1)) = B at *
 generalize ss[i] = c at *
 rw [e4, e3, List.take_append_of_le_length (by omega), List.take_of_length_le (by omega), List.drop_append, hl, List.drop_of_length_le (by omega), List.nil_append, show 64 * i + 64 - 64 * i = 64 from by omega, List.drop_append, bvs_length, h3, List.drop_of_length_le (by rw [bvs_length]; omega), List.nil_append, List.append_assoc, Nat.sub_self, List.drop_zero]
/-- what is held, as cells of the program's disk -/
def heldV (l : List (Nat × List UInt8)) : List Value := l.flatMap fun x => .int .i64 (x.1 : Int) :: bvs x.2
theorem heldV_snoc (l : List (Nat × List UInt8)) (a : Nat) (b : List UInt8) : heldV (l ++ [(a, b)]) = heldV l ++ (.int .i64 (a : Int) :: bvs b) := by simp [heldV]
theorem Dk.over_take (s : List (List UInt8)) (h : List (Nat × List UInt8)) (j : Nat) (hj : j < h.length) : Dk.over s (h.take (j + 1)) = (Dk.over s (h.take j)).set h[j].1 h[j].2 := by
 rw [List.take_succ_eq_append_getElem hj]
 exact Dk.over_one _ _ _ _
end Go.Kn
namespace Go.Kn
open Go Go.RowKit
section
variable {w0 w w' : World} {L L' A B : List (Nat × List Value)} {G G' : List Gs} {F : List (World → Prop)}
theorem Wc.perm (h : Wc w0 w L G F) (hL : L.Perm L') (hG : G.Perm G') : Wc w0 w L' G' F :=
 ⟨h.only, fun x hx => h.own x (hL.mem_iff.2 hx), fun x hx => h.lo x (hL.mem_iff.2 hx), (hL.map _).nodup_iff.1 h.nd, fun x hx => h.g1 x (hG.mem_iff.2 hx),
  (hG.pairwise_iff (fun hxy k h1 h2 => hxy k h2 h1)).1 h.g2, fun x hx y hy => h.g3 x (hL.mem_iff.2 hx) y (hG.mem_iff.2 hy),
  fun f hf w2 h2 => h.fx f hf w2 fun k o hm => h2 k o fun hm' => hm (by
   rcases hm' with h3 | ⟨g, hg, h3⟩
   ·exact .inl ((hL.map _).mem_iff.2 h3)
   ·exact .inr ⟨g, hG.mem_iff.2 hg, h3⟩)⟩
/-- two heaps of boxes change places -/
theorem Wc.swap {g1 g2 : Gs} (h : Wc w0 w (A ++ (B ++ L)) (g1 :: g2 :: G) F) : Wc w0 w (B ++ (A ++ L)) (g2 :: g1 :: G) F :=
 h.perm (by rw [← List.append_assoc, ← List.append_assoc]; exact List.perm_append_comm.append_right _) (List.Perm.swap _ _ _)
theorem Wc.subG (h : Wc w0 w L G F) (hG : G'.Sublist G) : Wc w0 w L G' F :=
 ⟨h.only, h.own, h.lo, h.nd, fun x hx => h.g1 x (hG.subset hx), h.g2.sublist hG, fun x hx y hy => h.g3 x hx y (hG.subset hy), fun f hf w2 h2 => h.fx f hf w2 fun k o hm => h2 k o fun hm' => hm (by
  rcases hm' with h3 | ⟨g, hg, h3⟩
  ·exact .inl h3
  ·exact .inr ⟨g, hG.subset hg, h3⟩)⟩
theorem Wc.gdrop {g : Gs} (h : Wc w0 w L (g :: G) F) : Wc w0 w L G F := h.subG (List.sublist_cons_self _ _)
theorem Wc.ldrop {x : Nat × List Value} (h : Wc w0 w (x :: L) G F) : Wc w0 w L G F := h.sub (List.sublist_cons_self _ _) (fun _ h => h)
theorem Wc.fdrop {f : World → Prop} (h : Wc w0 w L G (f :: F)) : Wc w0 w L G F := h.sub (List.Sublist.refl _) (fun _ h => List.mem_cons_of_mem _ h)
theorem Wc.fswap {f g : World → Prop} (h : Wc w0 w L G (f :: g :: F)) : Wc w0 w L G (g :: f :: F) := h.sub (List.Sublist.refl _) (fun x hx => by
 rcases List.mem_cons.1 hx with rfl | hx
 ·exact List.mem_cons_of_mem _ List.mem_cons_self
 ·rcases List.mem_cons.1 hx with rfl | hx
  ·exact List.mem_cons_self
  ·exact List.mem_cons_of_mem _ (List.mem_cons_of_mem _ hx))
theorem Wc.subF (h : Wc w0 w L G F) {F' : List (World → Prop)} (hF : ∀ f ∈ F', f ∈ F) : Wc w0 w L G F' := h.sub (List.Sublist.refl _) hF
/-- the walk began elsewhere: a world that is older -/
theorem Wc.from {v : World} (h : Wc w0 w L G F) (hO : Only [] v w0) : Wc v w L G F :=
 ⟨hO.trans' h.only, h.own, fun x hx => Nat.le_trans hO.size (h.lo x hx), h.nd, fun x hx => by
  obtain ⟨h1, h2⟩ := h.g1 x hx
  refine ⟨h1, ?_⟩
  rcases h2 with h2 | ⟨g, cap, cur, hv, hb, rest⟩
  ·exact .inl h2
  ·exact .inr ⟨g, cap, cur, hv, Nat.le_trans hO.size hb, rest⟩, h.g2, h.g3, h.fx⟩
end
end Go.Kn
namespace Go.Kn
open Go Go.RowKit
structure Fr3 where
 L : List (Nat × List Value)
 G : List Gs
 F : List (World → Prop)
def At3 (w0 W : World) (a b : Fr3) : Prop := Wc w0 W (a.L ++ b.L) (a.G ++ b.G) (a.F ++ b.F)
theorem At3.alloc {w0 W : World} {a b : Fr3} (h : At3 w0 W a b) (o : Obj) : At3 w0 (W.alloc o) a b := Wc.alloc h o
theorem At3.drew {w0 W : World} {a b : Fr3} (h : At3 w0 W a b) : At3 w0 W.drew a b := Wc.drew h
theorem At3.putObj {w0 W : World} {a b : Fr3} (h : At3 w0 W a b) {D : Nat} {o : Obj} (o' : Obj) (hD : W.heap[D]? = some o) (ho : o.isCells = false) (hw : w0.heap.size ≤ D) : At3 w0 (W.putObj D o') a b := Wc.putObj h o' hD ho hw
/-- non-cells below B lie as they lay -/
structure Kb (B : Nat) (X Y : World) : Prop where
 size : X.heap.size ≤ Y.heap.size
 keep : ∀ k o, k < B → X.heap[k]? = some o → o.isCells = false → Y.heap[k]? = some o
theorem Kb.refl (B : Nat) (X : World) : Kb B X X := ⟨Nat.le_refl _, fun _ _ _ h _ => h⟩
theorem Kb.trans {B : Nat} {X Y Z : World} (h : Kb B X Y) (k : Kb B Y Z) : Kb B X Z := ⟨Nat.le_trans h.size k.size, fun i o hi ho hc => k.keep i o hi (h.keep i o hi ho hc) hc⟩
theorem Kb.mono {B C : Nat} {X Y : World} (h : Kb B X Y) (hC : C ≤ B) : Kb C X Y := ⟨h.size, fun i o hi ho hc => h.keep i o (by omega) ho hc⟩
theorem Kb.of_only {B : Nat} {S : List Nat} {X Y : World} (h : Only S X Y) (hS : ∀ k ∈ S, ∀ o, X.heap[k]? = some o → o.isCells = true) : Kb B X Y := ⟨h.size, fun k o _ ho hc => by
 refine (h.block k (lt_of_obj ho) fun hm => ?_).trans ho
 rw [hS k hm o ho] at hc
 cases hc⟩
/-- the contract of an iterator: Pre: what it has when it tells x behind pre; Fin: at its end; Fix: where it was stopped; J: what the loop has -/
def SeqW {α : Type} (F : Fence) (n : Nat) (P : Program) (g : Nat) (lb : Array Value) (encs : α → Array Value) (Pre : List α → α → Fr3 → Prop) (Fin Fix : List α → Fr3 → Prop) (N : Nat) (w0 W : World) (φ0 : Fr3) : Prop :=
 ∀ (l : Nat) (J : Option Code → List α → Fr3 → World → Prop) (c0 : Fr3), (∀ pe xs c X Y, J pe xs c X → Kb W.heap.size X Y → J pe xs c Y) →
  (∀ pre x φ c W1, Pre pre x φ → J none pre c W1 → At3 w0 W1 φ c → W.heap.size ≤ W1.heap.size → pre.length < N → YieldAt F (n - 1) P l (encs x) W1 fun e W' =>
   ∃ c', At3 w0 W' φ c' ∧ KeepsFrom W.heap.size W1 W' ∧ ((e = .returned (.bool true) ∧ J none (pre ++ [x]) c' W') ∨ (e = .returned (.bool false) ∧ ∃ cd, J (some cd) (pre ++ [x]) c' W'))) →
  J none [] c0 W → At3 w0 W φ0 c0 →
  CallsIn F n P g (#[.func (.yield l) #[] #[]] ++ lb) W fun e W' => (∃ v, e = .returned v) ∧ W.heap.size ≤ W'.heap.size ∧ ∃ φ c, At3 w0 W' φ c ∧ ((∃ xs, Fin xs φ ∧ J none xs c W') ∨ (∃ pre cd, Fix pre φ ∧ J (some cd) pre c W'))
/-- how the body of a round may be left -/
def postW {α : Type} (B : Nat) (w0 : World) (φ : Fr3) (J : Option Code → List α → Fr3 → World → Prop) (xs : List α) (W : World) : Exit → Act → World → Prop
 | .normal, _, W' => KeepsFrom B W W' ∧ ∃ c, At3 w0 W' φ c ∧ J none xs c W'
 | .ret, _, W' => KeepsFrom B W W' ∧ ∃ c, At3 w0 W' φ c ∧ J (some .ret) xs c W'
 | .exit id, _, W' => KeepsFrom B W W' ∧ ∃ c, At3 w0 W' φ c ∧ J (some (.exit id)) xs c W'
 | .goto t, _, W' => KeepsFrom B W W' ∧ ∃ c, At3 w0 W' φ c ∧ J (some (.goto t)) xs c W'
 | .panic _, _, _ => False
 | .outgrown, _, _ => False
theorem kb_putObj {B D : Nat} (X : World) (o : Obj) (h : B ≤ D) : Kb B X (X.putObj D o) := ⟨by simp, fun k q hk hq _ => (World.putObj_heap_other (by omega)).trans hq⟩
variable {F : Fence} {n : Nat} {P : Program}
theorem wpIn_rangeFunc_W {α : Type} {g : Operand} {ps : Array Tmp} {assign body : Code} {Q : Exit → Act → World → Prop} {a : Act} {w : World}
  (hro : F.round = none) (h1 : 1 ≤ n) {gf : Nat} {lb : Array Value} (hg : a.eval g = .func (.func gf) #[] lb) (hFg : F.fn gf) (eg : ∀ args w, (callFunc gf args).run P w = .ok (.enter gf args) w)
  {encs : α → Array Value} {Pre : List α → α → Fr3 → Prop} {Fin Fix : List α → Fr3 → Prop} {N : Nat} {w0 : World} {φ0 c0 : Fr3}
  (hseq : ∀ W1 : World, w.heap.size ≤ W1.heap.size → SeqW F (n - 1) P gf lb encs Pre Fin Fix N w0 W1 φ0) (hps : ∀ x, (encs x).size = ps.size)
  (J : Option Code → List α → Fr3 → World → Prop) (Jm : List α → α → Act → Fr3 → World → Prop)
  (hJ : ∀ pe xs c X Y, J pe xs c X → Kb w.heap.size X Y → J pe xs c Y) (hJm : ∀ pre x a c X Y, Jm pre x a c X → Kb w.heap.size X Y → Jm pre x a c Y) (hJ0 : J none [] c0 w) (h0 : At3 w0 w φ0 c0)
  (hassign : ∀ (l : Nat) (pre : List α) (x : α) (φ c : Fr3) (W : World) (K : Act → World → Prop), Pre pre x φ → J none pre c W → At3 w0 W φ c → w.heap.size ≤ W.heap.size → pre.length < N →
   (∀ a' c' W', KeepsFrom w.heap.size W W' → At3 w0 W' φ c' → Jm pre x a' c' W' → K a' W') →
   assign.wpIn (F.inRound l) (n - 1 - 1) P (Exit.then K (fun _ _ _ => False)) { tmps := (ps.zip (encs x)).foldl (fun t (p, v) => t.setIfInBounds p v) a.tmps, defers := [] } W)
  (hbody : ∀ (l : Nat) (pre : List α) (x : α) (φ c : Fr3) (a' : Act) (W : World), Pre pre x φ → Jm pre x a' c W → At3 w0 W φ c → w.heap.size ≤ W.heap.size → pre.length < N → body.wpIn (F.inRound l) (n - 1 - 1) P (postW w.heap.size w0 φ J (pre ++ [x]) W) a' W)
  (hdone : ∀ (D : Nat) (xs : List α) (φ c : Fr3) (W : World), w.heap.size ≤ D → Fin xs φ → J none xs c W → At3 w0 W φ c → W.heap[D]? = some (.deferred (some [])) → w.heap.size ≤ W.heap.size → Q .normal { a with defers := { target := .collected D, args := #[] } :: a.defers } W)
  (hstop : ∀ (D : Nat) (cd : Code) (pre : List α) (φ c : Fr3) (W : World), w.heap.size ≤ D → Fix pre φ → J (some cd) pre c W → At3 w0 W φ c → W.heap[D]? = some (.deferred (some [])) → w.heap.size ≤ W.heap.size → cd.wpIn F n P Q { a with defers := { target := .collected D, args := #[] } :: a.defers } W) :
  (Code.rangeFunc g ps assign body).wpIn F n P Q a w := by
 refine wpIn_rangeFunc ?_
 intro fn hfn
 rw [hro]
 have hww := h0.only.size
 obtain ⟨rec, hrec⟩ : ∃ rec : LoopState → Option Code → Loop, rec = fun st pe => { state := st, pending := pe, fn, tmps := a.tmps, params := ps, assign, body, defers := w.heap.size } := ⟨_, rfl⟩
 obtain ⟨W1, hW1⟩ : ∃ W1, (w.alloc (.deferred (some []))).alloc (.loop (rec .ready none)) = W1 := ⟨_, rfl⟩
 have hL1 : W1.heap[w.heap.size + 1]? = some (.loop (rec .ready none)) := by
  rw [← hW1]; have := World.alloc_heap_new (w.alloc (.deferred (some []))) (.loop (rec .ready none)); rwa [World.size_alloc] at this
 have hK1 : W1.heap[w.heap.size]? = some (.deferred (some [])) := by
  rw [← hW1]; exact (Below.heap_alloc _ _ _ (by simp)).trans (World.alloc_heap_new w _)
 have hI1 : At3 w0 W1 φ0 c0 := by rw [← hW1]; exact (h0.alloc _).alloc _
 have hs1 : W1.heap.size = w.heap.size + 2 := by rw [← hW1]; simp
 have hJ1 : J none [] c0 W1 := hJ _ _ _ _ _ hJ0 (by rw [← hW1]; exact Kb.of_only (S := []) (((Only.refl _ _).alloc _).alloc _) (by simp))
 refine ⟨w.heap.size + 1, [{ target := .collected w.heap.size, args := #[] }], W1, { target := .fn (.func gf) lb, args := #[.func (.yield (w.heap.size + 1)) #[] #[]] }, W1, gf,
  #[.func (.yield (w.heap.size + 1)) #[] #[]] ++ lb, W1, ?_, ?_, ?_, ?_, fun _ => h1, ?_⟩
 ·rw [← hW1, hrec]; exact run_enterLoop_outer _ _ _ _ _
 ·simp only [resolve, hg]
  simp [go_sem]
 ·intro f' hf'; simp [Target.leads] at hf'; subst hf'; exact hFg
 ·simp [invoke, go_sem, eg]
 ·refine ((hseq W1 (by omega)) (w.heap.size + 1)
   (fun pe xs c W => W.heap[w.heap.size + 1]? = some (.loop (rec (if pe.isNone then .ready else .done) pe)) ∧ W.heap[w.heap.size]? = some (.deferred (some [])) ∧ J pe xs c W) c0 ?_ ?_ ⟨hL1, hK1, hJ1⟩ hI1).mono ?_
  ·rintro pe xs c X Y ⟨hl, hk, hj⟩ hb
   exact ⟨hb.keep _ _ (by omega) hl rfl, hb.keep _ _ (by omega) hk rfl, hJ _ _ _ _ _ hj (hb.mono (by omega))⟩
  ·-- one round
   rintro pre x φ c W hpre ⟨hl, hk, hC⟩ hAt hWs hlen
   simp only [Option.isNone_none, if_true] at hl
   have hlt : w.heap.size + 1 < W.heap.size := (Array.getElem?_eq_some_iff.1 hl).1
   have hy := run_yield (P := P) (args := encs x) hl (by rw [hrec]; exact hps x)
   rw [hrec] at hy
   refine ⟨fn, _, assign, body, hy, roundIn_of_wpIn hfn (hassign _ pre x φ c W _ hpre hC hAt (by omega) hlen ?_)⟩
   clear hy
   intro a' c1 Wa hkfa hAa hCa
   replace hl := hkfa.same _ _ (by omega) hl rfl
   replace hk := hkfa.same _ _ (Nat.le_refl _) hk rfl
   have hwa := hkfa.size
   have hkfa1 : KeepsFrom W1.heap.size W Wa := ⟨hkfa.size, fun k o hk => hkfa.same k o (by omega)⟩
   clear hAt hC hkfa
   generalize hWb : W = Wb at *
   obtain ⟨W, rfl⟩ : ∃ W, W = Wa := ⟨_, rfl⟩
   have hAt := hAa
   have hlt : w.heap.size + 1 < W.heap.size := (Array.getElem?_eq_some_iff.1 hl).1
   refine ⟨_, run_beginRound hl (by rw [hrec]), ?_⟩
   have hl2 : (W.putObj (w.heap.size + 1) (.loop { rec .ready none with state := .busy })).heap[w.heap.size + 1]? = some (.loop { rec .ready none with state := .busy }) := World.putObj_heap_same hlt
   have hk2 : (W.putObj (w.heap.size + 1) (.loop { rec .ready none with state := .busy })).heap[w.heap.size]? = some (.deferred (some [])) := (World.putObj_heap_other (by omega)).trans hk
   have hA2 := hAt.putObj (.loop { rec .ready none with state := .busy }) hl rfl (by omega)
   have hC2 := hJm _ _ _ _ _ _ hCa (kb_putObj W (.loop { rec .ready none with state := .busy }) (Nat.le_succ w.heap.size))
   refine wpIn_mono (hbody _ pre x φ c1 a' _ hpre hC2 hA2 (by simp; omega) hlen) ?_
   have kput : ∀ (X : World) (o o' : Obj), X.heap[w.heap.size + 1]? = some o → KeepsFrom W1.heap.size X (X.putObj (w.heap.size + 1) o') := fun X o o' hX =>
    KeepsFrom.of_grownBy (grownBy_putObj' X (w.heap.size + 1) o') (fun j e => by cases e; omega)
   have fin : ∀ (jump : Option Code) (W3 : World), KeepsFrom w.heap.size (W.putObj (w.heap.size + 1) (.loop { rec .ready none with state := .busy })) W3 →
     (Instr.endRound (w.heap.size + 1) jump).run P W3 = .ok (.bool jump.isNone) (W3.putObj (w.heap.size + 1) (.loop (rec (if jump.isNone then .ready else .done) jump))) ∧
     W3.heap[w.heap.size + 1]? = some (.loop { rec .ready none with state := .busy }) ∧
     (W3.putObj (w.heap.size + 1) (.loop (rec (if jump.isNone then .ready else .done) jump))).heap[w.heap.size + 1]? = some (.loop (rec (if jump.isNone then .ready else .done) jump)) ∧
     (W3.putObj (w.heap.size + 1) (.loop (rec (if jump.isNone then .ready else .done) jump))).heap[w.heap.size]? = some (.deferred (some [])) ∧
     KeepsFrom W1.heap.size Wb (W3.putObj (w.heap.size + 1) (.loop (rec (if jump.isNone then .ready else .done) jump))) := fun jump W3 hk3 => by
    have hl3 := hk3.same _ _ (by omega) hl2 rfl
    have := run_endRound (P := P) jump hl3
    rw [hrec] at this ⊢
    rw [hrec] at hl3
    have k2 : KeepsFrom W1.heap.size (W.putObj (w.heap.size + 1) (.loop { rec .ready none with state := .busy })) W3 := ⟨hk3.size, fun k o hk => hk3.same k o (by omega)⟩
    refine ⟨this, hl3, World.putObj_heap_same (Array.getElem?_eq_some_iff.1 hl3).1, (World.putObj_heap_other (by omega)).trans (hk3.same _ _ (Nat.le_refl _) hk2 rfl), hkfa1.trans (((kput W _ _ hl).trans k2).trans (kput W3 _ _ hl3))⟩
   rintro e a3 W3 hp
   cases e with
   | normal =>
    obtain ⟨hk3, c', hA3, hC3⟩ := hp
    obtain ⟨hr, hl3, hl4, hk4, hkf⟩ := fin none W3 hk3
    exact ⟨_, _, hr, c', hA3.putObj _ hl3 rfl (by omega), hkf, .inl ⟨rfl, hl4, hk4, hJ _ _ _ _ _ hC3 (kb_putObj W3 _ (Nat.le_succ _))⟩⟩
   | ret =>
    obtain ⟨hk3, c', hA3, hC3⟩ := hp
    obtain ⟨hr, hl3, hl4, hk4, hkf⟩ := fin (some .ret) W3 hk3
    exact ⟨_, _, hr, c', hA3.putObj _ hl3 rfl (by omega), hkf, .inr ⟨rfl, .ret, hl4, hk4, hJ _ _ _ _ _ hC3 (kb_putObj W3 _ (Nat.le_succ _))⟩⟩
   | exit id =>
    obtain ⟨hk3, c', hA3, hC3⟩ := hp
    obtain ⟨hr, hl3, hl4, hk4, hkf⟩ := fin (some (.exit id)) W3 hk3
    exact ⟨_, _, hr, c', hA3.putObj _ hl3 rfl (by omega), hkf, .inr ⟨rfl, .exit id, hl4, hk4, hJ _ _ _ _ _ hC3 (kb_putObj W3 _ (Nat.le_succ _))⟩⟩
   | goto t =>
    obtain ⟨hk3, c', hA3, hC3⟩ := hp
    obtain ⟨hr, hl3, hl4, hk4, hkf⟩ := fin (some (.goto t)) W3 hk3
    exact ⟨_, _, hr, c', hA3.putObj _ hl3 rfl (by omega), hkf, .inr ⟨rfl, .goto t, hl4, hk4, hJ _ _ _ _ _ hC3 (kb_putObj W3 _ (Nat.le_succ _))⟩⟩
   | panic ch => exact hp.elim
   | outgrown => exact hp.elim
  ·-- behind the iterator
   rintro e W2 ⟨⟨v, rfl⟩, hs2, φ, c, hA, (⟨xs, hS, hl, hk, hC⟩ | ⟨pre, cd, hSp, hl, hk, hC⟩)⟩
   ·simp only [Option.isNone_none, if_true] at hl
    exact ⟨none, _, by have := run_endLoop (P := P) hl (by rw [hrec]; simp); rw [hrec] at this; exact this, hdone _ xs φ c _ (Nat.le_refl _) hS (hJ _ _ _ _ _ hC (kb_putObj W2 _ (Nat.le_succ _))) (hA.putObj _ hl rfl (by omega)) ((World.putObj_heap_other (by omega)).trans hk) (by simp; omega)⟩
   ·simp only [Option.isNone_some, Bool.false_eq_true, if_false] at hl
    exact ⟨some cd, _, by have := run_endLoop (P := P) hl (by rw [hrec]; simp); rw [hrec] at this; exact this, hstop _ cd pre φ c _ (Nat.le_refl _) hSp (hJ _ _ _ _ _ hC (kb_putObj W2 _ (Nat.le_succ _))) (hA.putObj _ hl rfl (by omega)) ((World.putObj_heap_other (by omega)).trans hk) (by simp; omega)⟩
end Go.Kn
namespace Go.Kn
open Go Go.RowKit
theorem run_storeAt_part {P : Program} (w : World) (t : TypeId) (b i : Nat) (olds vs : List Value) (hs : (P.info? t).map (·.size) = some vs.length) (ho : Own w b olds) (hl : i + vs.length ≤ olds.length) (h1 : ∀ v ∈ vs, v.oneCell' = true) :
  ∃ w', (Instr.storeAt t (.pointer (some ⟨b, i, none⟩)) (.agg vs.toArray)).run P w = .ok () w' ∧ Own w' b (olds.take i ++ vs ++ olds.drop (i + vs.length)) ∧ Only [b] w w' := by
 obtain ⟨cur, ty, hc, ht⟩ := ho
 have hcl : olds.length ≤ cur.size := by
  have : (cur.toList.take olds.length).length = olds.length := by rw [ht]
  simp at this
  omega
 cases hq : P.info? t with
 | none => simp [hq] at hs
 | some inf =>
  simp [hq] at hs
  have hrun := run_storeCells_at (P := P) b i ty vs 0 cur w hc (by omega) h1
  refine ⟨w.setRow b (cur.toList.take (i + 0) ++ vs ++ cur.toList.drop (i + 0 + vs.length)).toArray, ?_, ⟨_, ty, setRow_heap w b cur _ ty _ hc, ?_⟩, ⟨rfl, rfl, rfl, by simp [World.setRow], fun k _ hk => setRow_other w b k _ (by simpa using hk)⟩⟩
  ·have hq2 : (Instr.sureAddr (Value.pointer (some ⟨b, i, none⟩))).run P w = .ok ⟨b, i, none⟩ w := rfl
   simp only [Nat.add_zero] at hrun ⊢
   unfold Instr.storeAt storeVar
   simp [sizeOf, typeInfo, hq, hs, Value.cells, hq2, Result.andThen, hrun]
  ·have e1 : cur.toList.take i = olds.take i := by rw [← ht, List.take_take, Nat.min_eq_left (by omega)]
   have e2 : (cur.toList.drop (i + vs.length)).take (olds.length - (i + vs.length)) = olds.drop (i + vs.length) := by rw [← List.drop_take, ht]
   have e3 : (olds.take i ++ vs ++ olds.drop (i + vs.length)).length = olds.length := by simp; omega
   have e4 : (olds.take i ++ vs).length = i + vs.length := by simp; omega
   simp only [Nat.add_zero]
   rw [e3, e1, List.take_append, e4, List.take_of_length_le (by omega), e2]
end Go.Kn
namespace Go.Kn
open Go Go.RowKit
theorem Own.range {w : World} {g : Nat} {xs : List Value} (h : Own w g xs) (o n : Nat) : w.rangeAt g o ((xs.drop o).take n) := by
 intro j v hv
 rw [List.getElem?_take] at hv
 split at hv
 ·rw [List.getElem?_drop] at hv
  obtain ⟨hl, e⟩ := List.getElem?_eq_some_iff.1 hv
  rw [h.cell _ hl, e]
 ·cases hv
theorem Row1.range {w : World} {g o n c : Nat} {xs : List Value} (h : Row1 w (some ⟨g, o, none⟩) n c xs) : w.rangeAt g o xs := by
 intro j v hv
 obtain ⟨hl, e⟩ := List.getElem?_eq_some_iff.1 hv
 obtain ⟨g', o', e', hc⟩ := h.at_ (by have := h.len; omega)
 injection e' with e'
 injection e' with e1 e2
 subst e1 e2
 rw [hc j hl, e]
theorem exec_load {P : Program} {o : Oper} {a : Act} {w : World} {t : TypeId} {x : Operand} (hop : o.op = .load t x) {A : Addr} (hx : a.eval x = .pointer (some A)) {v : Value}
  (hrun : (Instr.loadAt t (.pointer (some A))).run P w = .ok v w) : (execOp a.eval o).run P w = .ok (.value v) w := by
 unfold execOp
 simp only [hop, hx, Sem.run_bind, Sem.run_pure, Result.andThen_ok, hrun]
theorem exec_arr {P : Program} {o : Oper} {a : Act} {w : World} {t : TypeId} {x : Operand} (hop : o.op = .sliceToArrayPointer t x) {X : Value} (hx : a.eval x = X) {v : Value}
  (hrun : (Instr.arrayAt t X).run P w = .ok v w) : (execOp a.eval o).run P w = .ok (.value v) w := by
 unfold execOp
 simp only [hop, hx, Sem.run_bind, Sem.run_pure, Result.andThen_ok, hrun]
theorem exec_index {P : Program} {o : Oper} {a : Act} {w : World} {t : TypeId} {x i : Operand} (hop : o.op = .indexAddr t x i) {X I : Value} (hx : a.eval x = X) (hi : a.eval i = I) {v : Value}
  (hrun : (Instr.indexAt t X I).run P w = .ok v w) : (execOp a.eval o).run P w = .ok (.value v) w := by
 unfold execOp
 simp only [hop, hx, hi, Sem.run_bind, Sem.run_pure, Result.andThen_ok, hrun]
theorem exec_build {P : Program} {o : Oper} {a : Act} {w : World} {t : TypeId} {parts : Array (Nat × Operand)} (hop : o.op = .build t parts) {vs : Array (Nat × Value)} (hx : parts.map (fun i => (i.1, a.eval i.2)) = vs) {v : Value}
  (hrun : (Instr.build t vs).run P w = .ok v w) : (execOp a.eval o).run P w = .ok (.value v) w := by
 subst hx
 unfold execOp
 simp only [hop, Sem.run_bind, Sem.run_pure, Result.andThen_ok, hrun]
theorem step_store_part {P : Program} {w : World} {ops : Array Oper} {o : Oper} {a : Act} {K : Act → World → Prop} {Q : Exit → Act → World → Prop} {E : Prop} (hgd : o.guard = none) (t : TypeId) (x y : Operand)
  (hop : o.op = .store t x y) (b i : Nat) (olds vs : List Value) (hs : (P.info? t).map (·.size) = some vs.length) (hx : a.eval x = .pointer (some ⟨b, i, none⟩)) (hy : a.eval y = .agg vs.toArray) (ho : Own w b olds) (hl : i + vs.length ≤ olds.length) (h1 : ∀ v ∈ vs, v.oneCell' = true)
  (h : ∀ w', Own w' b (olds.take i ++ vs ++ olds.drop (i + vs.length)) → Only [b] w w' → K (a.put o.dst undef) w') :
  if Region.wanted o (yielded ops a.tmps) = true then Oper.wp P o a w K Q else E := by
 have hw : Region.wanted o (yielded ops a.tmps) = true := by simp [Region.wanted, hgd]
 rw [if_pos hw]
 obtain ⟨w', hrun, h2, h3⟩ := run_storeAt_part (P := P) w t b i olds vs hs ho hl h1
 unfold Oper.wp execOp
 simp only [hop, Sem.run_bind, Sem.run_pure, Result.andThen_ok, hx, hy, hrun]
 exact h w' h2 h3
theorem step_append_own {P : Program} {w : World} {ops : Array Oper} {o : Oper} {a : Act} {K : Act → World → Prop} {Q : Exit → Act → World → Prop} {E : Prop} (hgd : o.guard = none) (s x : Operand) (t : TypeId)
  (ho : o.op = .call { callee := .builtin .append, args := #[s, x], argTypes := #[t, t] })
  (base : Nat) (e : TypeId) (i : TypeInfo) (z : Value) (size bytes : Nat) (ht : P.underlying t = some (.slice e)) (hi : P.info? e = some i) (hz : i.zero = some z)
  (hsize : i.size = size) (hby : i.bytes = bytes) (hzs : z.cells.size = size) (hsz : 0 < size)
  (v : Value) (n : Nat) (xs : List Value) (hs : a.eval s = v) (hown : w.ownsRow base e size v n xs)
  (ad : Addr) (m c : Nat) (news : List Value) (hx : a.eval x = .slice (some ad) m c) (hl : news.length = m * size) (hnews : ∀ j u, news[j]? = some u → w.cell? (ad.add j) = some u) (h1 : ∀ u ∈ news, u.oneCell' = true)
  (h63 : n + m ≤ maxLen) (hbytes : (n + m) * bytes ≤ 140737488355328) (hbase : base ≤ w.heap.size)
  (h : ∀ v' w', w'.ownsRow base e size v' (n + m) (xs ++ news) → w.grownBy w' v.ownBlock → (v'.ownBlock = v.ownBlock ∨ v'.ownBlock = some w.heap.size) → K (a.put o.dst v') w') :
  if Region.wanted o (yielded ops a.tmps) = true then Oper.wp P o a w K Q else E := by
 have hw : Region.wanted o (yielded ops a.tmps) = true := by simp [Region.wanted, hgd]
 rw [if_pos hw]
 obtain ⟨v', w', hr, h2, h3, h4, h5⟩ := run_append_own_at (P := P) w base t o.type e i z size bytes ht hi hz hsize hby hzs hsz v n xs hown ad m c news hl hnews h1 h63 hbytes hbase
 unfold Oper.wp execOp
 simp only [ho, resolve, invoke, builtin, Sem.run_bind, Sem.run_pure, Result.andThen_ok, List.map_toArray, List.map_cons, List.map_nil, hs, hx, hr]
 exact h v' w' h2 h3 h5
theorem fill_two (c0 : Value) (vs : List Value) (cells : Array Value) (h0 : c0.cells = #[c0]) (hc : cells.size = 1 + vs.length) :
  Instr.fill (fun i => (#[(0, 1), (1, vs.length)] : Array (Nat × Nat))[i]?) cells [(0, c0), (1, .agg vs.toArray)] = some (c0 :: vs).toArray := by
 have hv : (Value.agg vs.toArray).cells = vs.toArray := rfl
 have e0 : (c0.cells.zipIdx.foldl (fun cs (x : Value × Nat) => cs.setIfInBounds (0 + x.2) x.1) cells) = cells.setIfInBounds 0 c0 := by rw [h0]; rfl
 obtain ⟨f1, f2⟩ := Great.foldl_set 1 vs 0 (cells.setIfInBounds 0 c0)
 have e1 : (vs.toArray.zipIdx.foldl (fun cs (x : Value × Nat) => cs.setIfInBounds (1 + x.2) x.1) (cells.setIfInBounds 0 c0)) = (c0 :: vs).toArray := by
  rw [← Array.foldl_toList, Array.toList_zipIdx]
  apply Array.ext_getElem?
  intro k
  rw [f2 k]
  simp only [Array.size_setIfInBounds, List.getElem?_toArray]
  rcases k with _ | k
  ·rw [if_neg (by omega)]
   have h0 : 0 < cells.size := by omega
   simp [h0]
  ·rw [List.getElem?_cons_succ]
   by_cases hk : k < vs.length
   ·rw [if_pos (by omega), show k + 1 - (1 + 0) = k from by omega]
   ·rw [if_neg (by omega), List.getElem?_eq_none (by omega), Array.getElem?_eq_none (by rw [Array.size_setIfInBounds]; omega)]
 have hsz : (cells.setIfInBounds 0 c0).size = cells.size := Array.size_setIfInBounds ..
 have c1 : (decide (c0.cells.size ≠ 1) || decide (0 + c0.cells.size > cells.size)) = false := by
  have e : c0.cells.size = 1 := by rw [h0]; rfl
  rw [e, hc, decide_eq_false (by simp), decide_eq_false (by omega)]; rfl
 have c2 : (decide (vs.toArray.size ≠ vs.length) || decide (1 + vs.toArray.size > (cells.setIfInBounds 0 c0).size)) = false := by
  have e : vs.toArray.size = vs.length := List.size_toArray ..
  rw [e, hsz, hc, decide_eq_false (by simp), decide_eq_false (by omega)]; rfl
 simp only [Instr.fill, List.getElem?_toArray, List.getElem?_cons_zero, List.getElem?_cons_succ, c1, c2, e0, hv, e1, Bool.false_eq_true, if_false]
theorem built_two {P : Program} {t : TypeId} {fields : Array Field} (n : Nat) (hu : P.underlying t = some (.struct fields)) (hi : (P.info? t).map (fun i => (i.zero.map (·.cells.size))) = some (some (1 + n)))
  (hp : fields.toList.mapM (fun f => (P.info? f.type).map fun i => (f.offset, i.size)) = some [(0, 1), (1, n)]) (c0 : Value) (vs : List Value) (h0 : c0.cells = #[c0]) (hn : vs.length = n) :
  P.built t [(0, c0), (1, .agg vs.toArray)] = some (c0 :: vs).toArray := by
 subst hn
 unfold Program.built
 cases hq : P.info? t with
 | none => simp [hq] at hi
 | some it =>
  cases hz : it.zero with
  | none => simp [hq, hz] at hi
  | some z =>
   simp [hq, hz] at hi
   simp only [hu, hz, hp]
   exact fill_two c0 vs z.cells h0 hi
/-- the parts of the program's disk: its box, its blocks, how many sectors -/
structure PD where
 D : Nat
 s : Nat
 n : Nat
 f : Nat
 N : Nat
 cs : Nat
 cn : Nat
 cf : Nat
def PD.box (p : PD) (v : Value) (d : Dk) : List Value := [.slice (some ⟨p.s, 0, none⟩) p.N p.cs, .slice (some ⟨p.n, 0, none⟩) p.N p.cn, v, .slice (some ⟨p.f, 0, none⟩) p.N p.cf, .int .i64 d.fuse, .int .i64 d.acts, .bool d.off]
def PD.L (p : PD) (v : Value) (d : Dk) (L : List (Nat × List Value)) : List (Nat × List Value) := (p.D, p.box v d) :: (p.s, flat d.safe) :: (p.n, flat d.now) :: (p.f, bls d.faults) :: L
/-- the parts of the reference's disk -/
structure RD where
 M : Nat
 s : Nat
 f : Nat
 N : Nat
 cs : Nat
 cf : Nat
 /-- at most so much was laid as one -/
 K : Nat
def RD.box (r : RD) (v lv : Value) (d : Dk) : List Value := [.slice (some ⟨r.s, 0, none⟩) r.N r.cs, v, .slice (some ⟨r.f, 0, none⟩) r.N r.cf, .int .i64 d.fuse, .bool d.off, .int .i64 d.acts, lv]
def RD.L (r : RD) (v lv : Value) (sl : List (Option Addr × Nat × Nat)) (d : Dk) (L : List (Nat × List Value)) : List (Nat × List Value) := (r.M, r.box v lv d) :: (r.s, sl.map slv) :: (r.f, bls d.faults) :: L
/-- what is held, as cells of the reference's disk -/
def heldR (l : List (Nat × List UInt8)) (hs : List (Option Addr × Nat × Nat)) : List Value := (l.zip hs).flatMap fun x => [.int .i64 (x.1.1 : Int), slv x.2]
theorem heldR_snoc (l : List (Nat × List UInt8)) (hs : List (Option Addr × Nat × Nat)) (h : l.length = hs.length) (a : Nat) (b : List UInt8) (s : Option Addr × Nat × Nat) : heldR (l ++ [(a, b)]) (hs ++ [s]) = heldR l hs ++ [.int .i64 (a : Int), slv s] := by
 unfold heldR
 rw [List.zip_append h]
 simp
theorem heldR_get (l : List (Nat × List UInt8)) (hs : List (Option Addr × Nat × Nat)) (h : l.length = hs.length) (i : Nat) (hi : i < l.length) :
  (heldR l hs)[2 * i]? = some (.int .i64 (l[i].1 : Int)) ∧ (heldR l hs)[2 * i + 1]? = some (slv (hs[i]'(by omega))) := by
 induction l generalizing hs i with
 | nil => simp at hi
 | cons x l ih =>
  match hs, h with
  | s :: hs, h =>
   have e : heldR (x :: l) (s :: hs) = .int .i64 (x.1 : Int) :: slv s :: heldR l hs := rfl
   rw [e]
   match i with
   | 0 => exact ⟨rfl, rfl⟩
   | i + 1 =>
    rw [show 2 * (i + 1) = 2 * i + 1 + 1 from by omega]
    exact ih hs (by simpa using h) i (by simpa using hi)
end Go.Kn
namespace Go.Proofs.YtgcfdjcpcclcjaaGreat
open Go Go.RowKit Go.Kn
theorem Tryz.infoWrite : (Tryz.prog.info? 158).map (fun i => (i.zero.map (·.cells.size), i.size, i.bytes)) = some (some 65, 65, 72) := by kernel_rfl
theorem size_block : (Tryz.prog.info? 156).map (·.size) = some 64 := by kernel_rfl
theorem write_parts : ∃ i z, Tryz.prog.info? 158 = some i ∧ i.zero = some z ∧ i.size = 65 ∧ i.bytes = 72 ∧ z.cells.size = 65 := by
 have hq := Tryz.infoWrite
 cases hi : Tryz.prog.info? 158 with
 | none => simp [hi] at hq
 | some ie =>
  cases hz : ie.zero with
  | none => simp [hi, hz] at hq
  | some z =>
   simp [hi, hz] at hq
   exact ⟨ie, z, rfl, hz, hq.2.1, hq.2.2, hq.1⟩
/-- 64 bytes that lie anywhere, as a sector -/
theorem load_bytes {w : World} {g o c : Nat} {b : List UInt8} (h : Bys w (some ⟨g, o, none⟩) 64 c b) :
  (Instr.loadAt 156 (.pointer (some ⟨g, o, none⟩))).run Tryz.prog w = .ok (.agg (bvs b).toArray) w := by
 have hl := h.len
 exact run_loadAt_mid w g o _ (bvs b) _ h.range Tryz.underlying156 rfl (by rw [hl]; exact size_block)
theorem idx_block (g N c k : Nat) (hk : k < N) (w : World) : (Instr.indexAt 150 (.slice (some ⟨g, 0, none⟩) N c) (.int .i64 (k : Int))).run Tryz.prog w = .ok (.pointer (some ⟨g, 64 * k, none⟩)) w := by
 have hs := size_block
 cases hi : Tryz.prog.info? 156 with
 | none => simp [hi] at hs
 | some ie =>
  simp [hi] at hs
  have h1 : 0 ≤ (k : Int) ∧ (k : Int) < (N : Int) := by omega
  simp [Instr.indexAt, run_underlying Tryz.underlying150, sizeOf, typeInfo, hi, hs, asIntOf, h1, hk, Nat.mul_comm k 64, Addr.add_mid]
theorem arr_at (a : Option Addr) (c : Nat) (w : World) : (Instr.arrayAt 156 (.slice a 64 c)).run Tryz.prog w = .ok (.pointer a) w := by
 simp [Instr.arrayAt, run_underlying Tryz.underlying156]
theorem build_write (a : Int) (b : List UInt8) (hb : b.length = 64) (w : World) : (Instr.build 158 #[(0, .int .i64 a), (1, .agg (bvs b).toArray)]).run Tryz.prog w = .ok (.agg (.int .i64 a :: bvs b).toArray) w :=
 run_build w _ _ _ (built_two 64 Tryz.underlying158 (by kernel_rfl) (by kernel_rfl) (.int .i64 a) (bvs b) rfl (by rw [bvs_length, hb]))
theorem bslice_write (xs : List Value) (hl : xs.length = 65) (w : World) : (Instr.buildSlice 151 1 #[(0, .agg xs.toArray)]).run Tryz.prog w = .ok (.slice (some ⟨w.heap.size, 0, none⟩) 1 1) (w.alloc (.cells xs.toArray 158)) := by
 have hq := Tryz.infoWrite
 cases hi : Tryz.prog.info? 158 with
 | none => simp [hi] at hq
 | some ie =>
  cases hz : ie.zero with
  | none => simp [hi, hz] at hq
  | some z =>
   simp [hi, hz] at hq
   obtain ⟨q1, q2, q3⟩ := hq
   refine run_buildSlice w _ _ 1 _ xs.toArray ie z Tryz.underlying151 hi hz (by omega) (by omega) ?_
   have := Great.fill_whole (s := 65) (by omega) [.agg xs.toArray] ((Array.range (1 * 65)).map (z.cells[· % z.cells.size]!)) (by intro v hv; simp at hv; subst hv; show xs.toArray.size = 65; simp [hl]) (by simp)
   rw [q2]
   simpa [Value.cells] using this
theorem step_bslice_write {w : World} {ops : Array Oper} {o : Oper} {a : Act} {K : Act → World → Prop} {Q : Exit → Act → World → Prop} {E : Prop} (hgd : o.guard = none) (x : Operand) (hop : o.op = .buildSlice 151 1 #[(0, x)]) (xs : List Value) (hl : xs.length = 65) (hx : a.eval x = .agg xs.toArray)
  (h : K (a.put o.dst (.slice (some ⟨w.heap.size, 0, none⟩) 1 1)) (w.alloc (.cells xs.toArray 158))) : if Region.wanted o (yielded ops a.tmps) = true then Oper.wp Tryz.prog o a w K Q else E := by
 have hw : Region.wanted o (yielded ops a.tmps) = true := by simp [Region.wanted, hgd]
 rw [if_pos hw]
 have hrun := bslice_write xs hl w
 unfold Oper.wp execOp
 simp only [hop, Sem.run_bind, Sem.run_pure, Result.andThen_ok, List.map_toArray, List.map_cons, List.map_nil, hx, hrun]
 exact h
/-- the program's disk -/
structure Dsk (w0 w : World) (p : PD) (d : Dk) (c : Fr3) : Prop where
 ok : d.Ok
 N : d.safe.length = p.N
 hs : p.N ≤ p.cs
 hn : p.N ≤ p.cn
 hf : p.N ≤ p.cf
 mem : ∃ v, Wc w0 w (p.L v d c.L) (⟨158, 65, v, d.held.length, heldV d.held⟩ :: c.G) c.F
/-- the reference's disk -/
structure Rsk (w0 w : World) (r : RD) (d : Dk) (c : Fr3) : Prop where
 ok : d.Ok
 N : d.safe.length = r.N
 hs : r.N ≤ r.cs
 hf : r.N ≤ r.cf
 mem : ∃ v lv, ∃ k : Fin (r.K + 1), ∃ ls sl hs, hs.length = d.held.length ∧ Wc w0 w (r.L v lv sl d c.L) (⟨175, 2, v, d.held.length, heldR d.held hs⟩ :: ⟨47, 1, lv, k.val, ls⟩ :: c.G) ((fun W => Bls W sl d.safe) :: (fun W => Bls W hs (d.held.map (·.2))) :: c.F)
/-- both -/
structure Duo (w0 w : World) (p : PD) (r : RD) (d e : Dk) (c : Fr3) : Prop where
 ok : d.Ok
 N : d.safe.length = p.N
 hs : p.N ≤ p.cs
 hn : p.N ≤ p.cn
 hf : p.N ≤ p.cf
 ok' : e.Ok
 N' : e.safe.length = r.N
 hs' : r.N ≤ r.cs
 hf' : r.N ≤ r.cf
 mem : ∃ v v' lv, ∃ k : Fin (r.K + 1), ∃ ls sl hs, hs.length = e.held.length ∧ Wc w0 w (p.L v d (r.L v' lv sl e c.L)) (⟨158, 65, v, d.held.length, heldV d.held⟩ :: ⟨175, 2, v', e.held.length, heldR e.held hs⟩ :: ⟨47, 1, lv, k.val, ls⟩ :: c.G) ((fun W => Bls W sl e.safe) :: (fun W => Bls W hs (e.held.map (·.2))) :: c.F)
theorem Dsk.keep0 {w0 w w' : World} {p : PD} {d : Dk} {c : Fr3} (h : Dsk w0 w p d c) (hO : Only [] w w') : Dsk w0 w' p d c := ⟨h.ok, h.N, h.hs, h.hn, h.hf, by obtain ⟨v, hm⟩ := h.mem; exact ⟨v, hm.keep0 hO⟩⟩
theorem Rsk.keep0 {w0 w w' : World} {r : RD} {d : Dk} {c : Fr3} (h : Rsk w0 w r d c) (hO : Only [] w w') : Rsk w0 w' r d c := ⟨h.ok, h.N, h.hs, h.hf, by obtain ⟨v, lv, k, ls, sl, hs, hl, hm⟩ := h.mem; exact ⟨v, lv, k, ls, sl, hs, hl, hm.keep0 hO⟩⟩
theorem Duo.keep0 {w0 w w' : World} {p : PD} {r : RD} {d e : Dk} {c : Fr3} (h : Duo w0 w p r d e c) (hO : Only [] w w') : Duo w0 w' p r d e c := ⟨h.ok, h.N, h.hs, h.hn, h.hf, h.ok', h.N', h.hs', h.hf', by obtain ⟨v, v', lv, k, ls, sl, hs, hl, hm⟩ := h.mem; exact ⟨v, v', lv, k, ls, sl, hs, hl, hm.keep0 hO⟩⟩
/-- the one of both: behind it the other as it is -/
theorem Duo.ofP {w0 w : World} {p : PD} {r : RD} {d e : Dk} {c : Fr3} (h : Duo w0 w p r d e c) : ∃ c', (∀ f ∈ c.F, f ∈ c'.F) ∧ Dsk w0 w p d c' ∧ ∀ w' d', Dsk w0 w' p d' c' → Duo w0 w' p r d' e c := by
 obtain ⟨v, v', lv, k, ls, sl, hs, hl, hm⟩ := h.mem
 refine ⟨⟨r.L v' lv sl e c.L, ⟨175, 2, v', e.held.length, heldR e.held hs⟩ :: ⟨47, 1, lv, k.val, ls⟩ :: c.G, (fun W => Bls W sl e.safe) :: (fun W => Bls W hs (e.held.map (·.2))) :: c.F⟩, fun f hf => List.mem_cons_of_mem _ (List.mem_cons_of_mem _ hf), ⟨h.ok, h.N, h.hs, h.hn, h.hf, v, hm⟩, fun w' d' h' => ?_⟩
 obtain ⟨v2, hm2⟩ := h'.mem
 exact ⟨h'.ok, h'.N, h'.hs, h'.hn, h'.hf, h.ok', h.N', h.hs', h.hf', v2, v', lv, k, ls, sl, hs, hl, hm2⟩
theorem Duo.ofR {w0 w : World} {p : PD} {r : RD} {d e : Dk} {c : Fr3} (h : Duo w0 w p r d e c) : ∃ c', (∀ f ∈ c.F, f ∈ c'.F) ∧ Rsk w0 w r e c' ∧ ∀ w' e', Rsk w0 w' r e' c' → Duo w0 w' p r d e' c := by
 obtain ⟨v, v', lv, k, ls, sl, hs, hl, hm⟩ := h.mem
 have pl : ∀ (v' lv : Value) (sl : List (Option Addr × Nat × Nat)) (e : Dk), (p.L v d (r.L v' lv sl e c.L)).Perm (r.L v' lv sl e (p.L v d c.L)) := fun v' lv sl e => by
  have := (List.perm_append_comm (l₁ := p.L v d []) (l₂ := r.L v' lv sl e [])).append_right c.L
  simpa [PD.L, RD.L] using this
 have pg : ∀ a b x : Gs, (a :: b :: x :: c.G).Perm (b :: x :: a :: c.G) := fun a b x => (List.Perm.swap _ _ _).trans ((List.Perm.swap _ _ _).cons _)
 refine ⟨⟨p.L v d c.L, ⟨158, 65, v, d.held.length, heldV d.held⟩ :: c.G, c.F⟩, fun f hf => hf, ⟨h.ok', h.N', h.hs', h.hf', v', lv, k, ls, sl, hs, hl, hm.perm (pl _ _ _ _) (pg _ _ _)⟩, fun w' e' h' => ?_⟩
 obtain ⟨v2, lv2, k2, ls2, sl2, hs2, hl2, hm2⟩ := h'.mem
 exact ⟨h.ok, h.N, h.hs, h.hn, h.hf, h'.ok, h'.N, h'.hs, h'.hf, v, v2, lv2, k2, ls2, sl2, hs2, hl2, hm2.perm (pl _ _ _ _).symm (pg _ _ _).symm⟩
end Go.Proofs.YtgcfdjcpcclcjaaGreat
namespace Go.Proofs.YtgcfdjcpcclcjaaGreat
open Go Go.RowKit Go.Kn
/-- the ints of a variadic call, just built -/
theorem ins_built (w : World) (zs : List Int) (t : TypeId) (n : Nat) (hn : zs.length = n) (hm : n ≤ 1000000) : Ins (w.alloc (.cells (zs.map (Value.int .i64)).toArray t)) (some ⟨w.heap.size, 0, none⟩) n n zs := by
 have h := Own.new w (zs.map (Value.int .i64)).toArray t
 exact Row1.of_Own (by simpa [ivs] using h) (by simpa using hn) (Nat.le_refl _) (by unfold maxLen; omega)
theorem ne_built {w : World} {p g k : Nat} {bs : List UInt8} (h : RowAt w p g bs k) : ∀ a, some (⟨w.heap.size, 0, none⟩ : Addr) = some a → a.block ≠ p ∧ a.block ≠ g := by
 intro a ha
 injection ha with ha
 subst ha
 have h1 := h.lp
 have h2 := h.lg
 exact ⟨by simp; omega, by simp; omega⟩
theorem made_row {w w' : World} {A : Option Addr} {c : Nat} {bs : List UInt8} (hc : bs.length ≤ c) (hm : c ≤ maxLen) (hpos : 0 < bs.length → ∃ g, A = some ⟨g, 0, none⟩ ∧ w.heap.size ≤ g ∧ Kn.Own w' g (bvs bs)) : Bys w' A bs.length c bs := by
 rcases Nat.eq_zero_or_pos bs.length with h0 | h0
 ·exact ⟨by simp, hc, hm, fun h => absurd h (by omega)⟩
 ·obtain ⟨g, rfl, _, ho⟩ := hpos h0
  exact Row1.of_Own ho (by simp) hc hm
/-- one item more is laid -/
theorem lay_item {zr : List UInt8} {l : List It} {j : Nat} (hj : j < l.length) (hz : zr.length = 7 * l.length) :
  lay (lay (lay zr 0 (itsB (l.take j))) (7 * j) (les 1 [l[j].k, l[j].b, l[j].c])) (7 * j + 1 * 3) (les 4 [l[j].v]) = lay zr 0 (itsB (l.take (j + 1))) := by
 have h1 : (itsB (l.take j)).length = 7 * j := by rw [itsB_length, List.length_take, Nat.min_eq_left (by omega)]
 have e1 := lay_lay zr 0 (itsB (l.take j)) (les 1 [l[j].k, l[j].b, l[j].c]) (by rw [h1]; simp; omega)
 rw [h1, Nat.zero_add] at e1
 have h2 : (itsB (l.take j) ++ les 1 [l[j].k, l[j].b, l[j].c]).length = 7 * j + 3 := by rw [List.length_append, h1]; simp
 have e2 := lay_lay zr 0 (itsB (l.take j) ++ les 1 [l[j].k, l[j].b, l[j].c]) (les 4 [l[j].v]) (by rw [h2]; simp; omega)
 rw [h2, Nat.zero_add] at e2
 rw [e1, e2, List.append_assoc]
 have e3 : les 1 [l[j].k, l[j].b, l[j].c] ++ les 4 [l[j].v] = l[j].bytes := rfl
 rw [e3, ← itsB_snoc, ← List.take_succ_eq_append_getElem hj]
theorem all_take {l : List It} {j : Nat} (hj : j < l.length) (h : (l.take j).all It.may = true) (hm : l[j].may = true) : (l.take (j + 1)).all It.may = true := by
 rw [List.take_succ_eq_append_getElem hj, List.all_append, h]
 simp [hm]
theorem enc_bad {l : List It} {j : Nat} (hj : j < l.length) (hm : l[j].may = false) : encItems l = none := by
 unfold encItems
 rw [if_neg]
 intro h
 have := List.all_eq_true.1 h.2 l[j] (List.getElem_mem _)
 rw [hm] at this
 cases this
set_option maxRecDepth 100000 in
set_option maxHeartbeats 2000000 in
theorem item_enc_any (A : Option Addr) (n c : Nat) (l : List It) (w : World) (hi : Its w A n c l) :
  Calls Tryz.prog 201 #[.slice A n c] w (EncSays w (encItems l)) := by
 have hlen := hi.len
 have hcm := hi.cm
 have hcl := hi.le
 unfold maxLen at hcm
 by_cases h6 : n ≤ 6
 ·have hd6 : decide (6 < (n : Int)) = false := by simp; omega
  have HI := Lib.hid hi
  have HL := Lib.hid hlen
  clear hi hlen
  go_enter Tryz.func201, Tryz.ntmps201
  go_wp2_with fail
  refine (new_any (7 * (n : Int)) _ (by omega) (by omega)).mono ?_
  rintro e w1 ⟨p, g, rfl, hp, hg, hr1, hO1⟩
  have hzr : (List.replicate (7 * (n : Int)).toNat (0 : UInt8)).length = 7 * n := by simp <;> omega
  generalize List.replicate (7 * (n : Int)).toNat (0 : UInt8) = zr at *
  have HZR := Lib.hid hzr
  have HO1 := Lib.hid hO1
  have HR1 := Lib.hid hr1
  clear hO1 hr1 hzr
  go_wp2_with fail
  go_loopg [16] n (fun r i wr => ∃ j : Nat, j + r = n ∧ i = .int .i64 j ∧ RowAt wr p g (lay zr 0 (itsB (l.take j))) (7 * j) ∧ Only [] w wr ∧ (l.take j).all It.may = true)
  case atStart => exact ⟨0, by omega, rfl, by simpa [lay_nil, itsB] using HR1.out, HO1.out, by simp⟩
  obtain ⟨j, hj, rfl, hr, hO, hal⟩ := hrel
  have HR := Lib.hid hr
  have HO := Lib.hid hO
  have HAL := Lib.hid hal
  have hlp := hr.lp
  have hlg := hr.lg
  clear hr hO hal
  by_cases hlt : j < n
  ·have hjz : j < l.length := by rw [HL.out]; exact hlt
   obtain ⟨a, o, rfl, hc⟩ := HI.out.at_ (by omega)
   obtain ⟨q0, q1, q2, q3⟩ := hc j hjz
   have c0 := HO.out.cell q0 (by simp)
   have c1 := HO.out.cell q1 (by simp)
   have c2 := HO.out.cell q2 (by simp)
   have c3 := HO.out.cell q3 (by simp)
   have HIT : Hid (l[j] = ⟨l[j].k, l[j].b, l[j].c, l[j].v⟩) := Lib.hid rfl
   clear hc q0 q1 q2 q3
   cases hm : l[j].may
   ·have HM := Lib.hid hm
    clear hm
    generalize hik : l[j].k = ik at *
    generalize hib : l[j].b = ib at *
    generalize hic : l[j].c = ic at *
    generalize hiv : l[j].v = iv at *
    have HME : Hid (It.may ⟨ik, ib, ic, iv⟩ = false) := Lib.hid (by rw [← HIT.out]; exact HM.out)
    clear hik hib hic hiv
    go_wp2_with fail
    refine (item_may_any ik ib ic iv _).mono ?_
    rintro e w2 ⟨rfl, hO2⟩
    rw [HME.out]
    go_wp2
    go_ret2
    exact EncSays.no (enc_bad hjz HM.out) ((HO.out.alloc _).trans' hO2)
   ·have HM := Lib.hid hm
    have HF1 := Lib.hid (It.fit1 hm)
    have HF4 := Lib.hid (It.fit4 hm)
    have HLI := Lib.hid (lay_item hjz (show zr.length = 7 * l.length by rw [HZR.out, HL.out]))
    have hk1 : (lay zr 0 (itsB (l.take j))).length = 7 * n := by rw [lay_length _ _ _ (by rw [itsB_length, HZR.out, List.length_take]; omega), HZR.out]
    have HK1 := Lib.hid hk1
    clear hm hk1
    generalize hik : l[j].k = ik at *
    generalize hib : l[j].b = ib at *
    generalize hic : l[j].c = ic at *
    generalize hiv : l[j].v = iv at *
    have HME : Hid (It.may ⟨ik, ib, ic, iv⟩ = true) := Lib.hid (by rw [← HIT.out]; exact HM.out)
    clear hik hib hic hiv
    generalize lay zr 0 (itsB (l.take j)) = X at *
    generalize hX' : lay zr 0 (itsB (l.take (j + 1))) = X' at *
    have HX' := Lib.hid hX'
    clear hX'
    go_wp2_with fail
    refine (item_may_any ik ib ic iv _).mono ?_
    rintro e w2 ⟨rfl, hO2⟩
    rw [HME.out]
    have x0 := hO2.cell (p := ⟨wr.heap.size, 0, none⟩) (v := .int .i64 ik) (by simp) (by simp)
    have x1 := hO2.cell (p := ⟨wr.heap.size, 1, none⟩) (v := .int .i64 ib) (by simp) (by simp)
    have x2 := hO2.cell (p := ⟨wr.heap.size, 2, none⟩) (v := .int .i64 ic) (by simp) (by simp)
    have x3 := hO2.cell (p := ⟨wr.heap.size, 3, none⟩) (v := .int .i64 iv) (by simp) (by simp)
    have HR2 := Lib.hid ((HR.out.alloc (.cells #[.int .i64 ik, .int .i64 ib, .int .i64 ic, .int .i64 iv] 63)).keep0 hO2)
    have HO2 := Lib.hid ((HO.out.alloc (.cells #[.int .i64 ik, .int .i64 ib, .int .i64 ic, .int .i64 iv] 63)).trans' hO2)
    have hsz2 := hO2.size
    clear hO2 HR HO c0 c1 c2 c3
    have hpw : wr.heap.size < w2.heap.size := by simp at hsz2; omega
    go_wp2_with fail
    refine (put_any p g (7 * j) X 1 _ 3 3 [ik, ib, ic] _ (by exact HR2.out.alloc _) (by exact ins_built _ [ik, ib, ic] _ 3 rfl (by omega)) (by exact ne_built HR2.out) (by decide) (by rw [HK1.out]; omega) HF1.out).mono ?_
    rintro e w3 ⟨rfl, hr3, hO3⟩
    have hO3' := ((Only.refl [p, g] w2).alloc (.cells #[.int .i64 ik, .int .i64 ib, .int .i64 ic] 3)).trans' hO3
    have x3' := hO3'.cell x3 (by simp; omega)
    have HR3 := Lib.hid hr3
    have HO3 := Lib.hid ((HO2.out.alloc _).trans hO3 (by simp; omega) : Only [] w w3)
    have hk3 : (lay X (7 * j) (les 1 [ik, ib, ic])).length = 7 * n := by rw [lay_length _ _ _ (by simp; have := HK1.out; omega)]; exact HK1.out
    have HK3 := Lib.hid hk3
    clear x0 x1 x2 x3 hr3 hO3 hO3' hk3 HR2 HO2
    go_wp2_with fail
    refine (put_any p g (7 * j + 1 * 3) _ 4 _ 1 1 [iv] _ (by exact HR3.out.alloc _) (by exact ins_built _ [iv] _ 1 rfl (by omega)) (by exact ne_built HR3.out) (by decide) (by rw [HK3.out]; omega) HF4.out).mono ?_
    rintro e w4 ⟨rfl, hr4, hO4⟩
    rw [HLI.out] at hr4
    have HR4 := Lib.hid hr4
    have HO4 := Lib.hid ((HO3.out.alloc _).trans hO4 (by simp; omega) : Only [] w w4)
    clear hr4 hO4 HR3 HO3
    go_wp2
    go_roundg (gk - 1)
    case measure => omega
    case rel =>
     have e : 7 * (j + 1) = 7 * j + 1 * 3 + 4 * 1 := by omega
     refine ⟨j + 1, by omega, by go_num, ?_, HO4.out, all_take hjz HAL.out HM.out⟩
     rw [e, HX'.out]
     exact HR4.out
  ·obtain rfl : j = n := by omega
   have hfull : l.take j = l := List.take_of_length_le (by rw [HL.out]; omega)
   have hr := HR.out
   rw [hfull, lay_all _ _ (by rw [itsB_length, HZR.out, HL.out])] at hr
   have hal := HAL.out
   rw [hfull] at hal
   have henc : encItems l = some (itsB l) := by unfold encItems; rw [if_pos ⟨by rw [HL.out]; exact h6, hal⟩]
   have HR' := Lib.hid hr
   have HE := Lib.hid henc
   clear hr hal henc hfull HR
   go_wp2_with fail
   refine (bytes_any p g _ (itsB l) _ (by exact HR'.out)).mono ?_
   rintro e w3 ⟨A3, c3, rfl, hc3, hm3, hpos3, hO3⟩
   have HB3 := Lib.hid (And.intro hc3 (And.intro hm3 hpos3))
   have hszz := HO.out.size
   go_wp2
   go_ret2
   rw [HE.out]
   refine ⟨A3, c3, rfl, ?_, ?_, HO.out.trans' hO3⟩
   ·exact made_row HB3.out.1 HB3.out.2.1 HB3.out.2.2
   ·intro h0 a ha
    obtain ⟨g3, rfl, hg3, _⟩ := HB3.out.2.2 h0
    injection ha with ha
    subst ha
    exact Nat.le_trans hszz hg3
 ·have hd6 : decide (6 < (n : Int)) = true := by simp; omega
  have henc : encItems l = none := by unfold encItems; rw [if_neg]; omega
  go_enter Tryz.func201, Tryz.ntmps201
  go_wp2
  go_ret2
  exact EncSays.no henc (Only.refl _ _)
set_option maxRecDepth 100000 in
set_option maxHeartbeats 2000000 in
theorem ref_item_enc_any (A : Option Addr) (n c : Nat) (l : List It) (w : World) (hi : Its w A n c l) :
    Calls Tryz.prog 89 #[.slice A n c] w (EncSays w (encItems l)) := by
  have hlen := hi.len
  have hcm := hi.cm
  have hcl := hi.le
  unfold maxLen at hcm
  by_cases h6 : n ≤ 6
  · have hd6 : decide (6 < (n : Int)) = false := by simp; omega
    have HI := Lib.hid hi
    have HL := Lib.hid hlen
    clear hi hlen
    go_enter Tryz.func89, Tryz.ntmps89
    go_wp2_with fail
    go_loopg [4] n (fun r i wr => ∃ j : Nat, j + r = n ∧ i = .int .i64 j ∧ Only [] w wr ∧ (l.take j).all It.may = true)
    case atStart => exact ⟨0, by omega, rfl, Only.refl _ _, by simp⟩
    obtain ⟨j, hj, rfl, hO, hal⟩ := hrel
    have HO := Lib.hid hO
    have HAL := Lib.hid hal
    clear hO hal
    by_cases hlt : j < n
    · have hjz : j < l.length := by rw [HL.out]; exact hlt
      obtain ⟨a, o, rfl, hc⟩ := HI.out.at_ (by omega)
      obtain ⟨q0, q1, q2, q3⟩ := hc j hjz
      have c0 := HO.out.cell q0 (by simp)
      have c1 := HO.out.cell q1 (by simp)
      have c2 := HO.out.cell q2 (by simp)
      have c3 := HO.out.cell q3 (by simp)
      have HIT : Hid (l[j] = ⟨l[j].k, l[j].b, l[j].c, l[j].v⟩) := Lib.hid rfl
      clear hc q0 q1 q2 q3
      cases hm : l[j].may
      · have HM := Lib.hid hm
        clear hm
        generalize hik : l[j].k = ik at *
        generalize hib : l[j].b = ib at *
        generalize hic : l[j].c = ic at *
        generalize hiv : l[j].v = iv at *
        have HME : Hid (It.may ⟨ik, ib, ic, iv⟩ = false) := Lib.hid (by rw [← HIT.out]; exact HM.out)
        clear hik hib hic hiv
        go_wp2_with fail
        refine (ref_item_may_any ik ib ic iv _).mono ?_
        rintro e w2 ⟨rfl, hO2⟩
        rw [HME.out]
        go_wp2
        go_ret2
        exact EncSays.no (enc_bad hjz HM.out) (HO.out.trans' hO2)
      · have HM := Lib.hid hm
        clear hm
        generalize hik : l[j].k = ik at *
        generalize hib : l[j].b = ib at *
        generalize hic : l[j].c = ic at *
        generalize hiv : l[j].v = iv at *
        have HME : Hid (It.may ⟨ik, ib, ic, iv⟩ = true) := Lib.hid (by rw [← HIT.out]; exact HM.out)
        clear hik hib hic hiv
        go_wp2_with fail
        refine (ref_item_may_any ik ib ic iv _).mono ?_
        rintro e w2 ⟨rfl, hO2⟩
        rw [HME.out]
        have HO2 := Lib.hid (HO.out.trans' hO2)
        clear hO2 c0 c1 c2 c3
        go_wp2
        go_roundg (gk - 1)
        case measure => omega
        case rel => exact ⟨j + 1, by omega, by go_num, HO2.out, all_take hjz HAL.out HM.out⟩
    · obtain rfl : j = n := by omega
      have hfull : l.take j = l := List.take_of_length_le (by rw [HL.out]; omega)
      have hal := HAL.out
      rw [hfull] at hal
      have HAL' := Lib.hid hal
      clear hal hfull HAL hlt hj
      go_wp2_with fail
      refine (ref_new_any (7 * (j : Int)) _ (by omega) (by omega)).mono ?_
      rintro e w1 ⟨p, g, rfl, hp, hg, hr1, hO1⟩
      have hzr : (List.replicate (7 * (j : Int)).toNat (0 : UInt8)).length = 7 * j := by simp <;> omega
      generalize List.replicate (7 * (j : Int)).toNat (0 : UInt8) = zr at *
      have HZR := Lib.hid hzr
      have hswr := HO.out.size
      have HO1 := Lib.hid (HO.out.trans' hO1)
      have HR1 := Lib.hid hr1
      clear hO1 hr1 hzr
      go_wp2_with fail
      go_loopg [6] j (fun r i wr => ∃ t : Nat, t + r = j ∧ i = .int .i64 t ∧ RowAt wr p g (lay zr 0 (itsB (l.take t))) (7 * t) ∧ Only [] w wr)
      case atStart => exact ⟨0, by omega, rfl, by simpa [lay_nil, itsB] using HR1.out, HO1.out⟩
      obtain ⟨t, ht, rfl, hr, hO⟩ := hrel
      have HR := Lib.hid hr
      have HO2 := Lib.hid hO
      have hlp := hr.lp
      have hlg := hr.lg
      clear hr hO
      by_cases hlt : t < j
      · have hjz : t < l.length := by rw [HL.out]; exact hlt
        obtain ⟨a, o, rfl, hc⟩ := HI.out.at_ (by omega)
        obtain ⟨q0, q1, q2, q3⟩ := hc t hjz
        have c0 := HO2.out.cell q0 (by simp)
        have c1 := HO2.out.cell q1 (by simp)
        have c2 := HO2.out.cell q2 (by simp)
        have c3 := HO2.out.cell q3 (by simp)
        have hgb := lt_of_cell q0
        have hm : l[t].may = true := List.all_eq_true.1 HAL'.out l[t] (List.getElem_mem _)
        have HF1 := Lib.hid (It.fit1 hm)
        have HF4 := Lib.hid (It.fit4 hm l[t].v (by simp))
        have HLI := Lib.hid (lay_item hjz (show zr.length = 7 * l.length by rw [HZR.out, HL.out]))
        have hk1 : (lay zr 0 (itsB (l.take t))).length = 7 * j := by rw [lay_length _ _ _ (by rw [itsB_length, HZR.out, List.length_take]; omega), HZR.out]
        have HK1 := Lib.hid hk1
        clear hm hk1 hc q0 q1 q2 q3
        generalize hik : l[t].k = ik at *
        generalize hib : l[t].b = ib at *
        generalize hic : l[t].c = ic at *
        generalize hiv : l[t].v = iv at *
        clear hik hib hic hiv
        generalize lay zr 0 (itsB (l.take t)) = X at *
        generalize hX' : lay zr 0 (itsB (l.take (t + 1))) = X' at *
        have HX' := Lib.hid hX'
        clear hX'
        have hx2 : (t : Int) < (j : Int) := by omega
        have hx1 : 0 ≤ (t : Int) := by omega
        go_wp2_with fail
        go_region_held3 (fun w' => w'.cell? ⟨a, o + t * 4, none⟩ = some (.int .i64 ik) ∧ w'.cell? ⟨a, o + t * 4 + 1, none⟩ = some (.int .i64 ib) ∧ w'.cell? ⟨a, o + t * 4 + 2, none⟩ = some (.int .i64 ic)) (first | exact ⟨c0, c1, c2⟩ | exact ⟨c0b, c1b, c2b⟩ | go_keep)
          (first
          | (go_at_call 88; refine (ref_put_any p g (7 * t) X 1 _ 3 3 [ik, ib, ic] _ (by exact (HR.out.alloc _).drew) (by exact (ins_built _ [ik, ib, ic] _ 3 rfl (by omega)).drew) (by exact ne_built HR.out) (by decide) (by rw [HK1.out]; omega) HF1.out).mono ?_
             rintro e w3 ⟨rfl, hr3, hO3⟩
             have hO3' := (((Only.refl [p, g] wr).alloc (.cells #[.int .i64 ik, .int .i64 ib, .int .i64 ic] 3)).drew).trans' hO3
             have c0b := hO3'.cell c0 (by simp; omega)
             have c1b := hO3'.cell c1 (by simp; omega)
             have c2b := hO3'.cell c2 (by simp; omega)))
        have c3' := hO3'.cell c3 (by simp; omega)
        have HR3 := Lib.hid hr3
        have HO3 := Lib.hid (((HO2.out.alloc _).drew).trans hO3 (by simp; omega) : Only [] w w3)
        have hk3 : (lay X (7 * t) (les 1 [ik, ib, ic])).length = 7 * j := by rw [lay_length _ _ _ (by simp; have := HK1.out; omega)]; exact HK1.out
        have HK3 := Lib.hid hk3
        clear c0 c1 c2 c3 c0b c1b c2b hr3 hO3 hO3' hk3 HR HO2
        go_wp2_with fail
        refine (ref_one_any p g (7 * t + 1 * 3) _ 4 iv _ (by exact HR3.out) (by decide) (by rw [HK3.out]; omega) HF4.out).mono ?_
        rintro e w4 ⟨rfl, hr4, hO4⟩
        rw [← les_one, HLI.out] at hr4
        have HR4 := Lib.hid hr4
        have HO4 := Lib.hid (HO3.out.trans hO4 (by simp; omega) : Only [] w w4)
        clear hr4 hO4 HR3 HO3
        go_wp2
        go_roundg (j - (t + 1))
        case measure => omega
        case rel =>
          have e : 7 * (t + 1) = 7 * t + 1 * 3 + 4 := by omega
          refine ⟨t + 1, by omega, by go_num, ?_, HO4.out⟩
          rw [e, HX'.out]
          exact HR4.out
      · obtain rfl : t = j := by omega
        have hfull : l.take t = l := List.take_of_length_le (by rw [HL.out]; omega)
        have hr := HR.out
        rw [hfull, lay_all _ _ (by rw [itsB_length, HZR.out, HL.out])] at hr
        have henc : encItems l = some (itsB l) := by unfold encItems; rw [if_pos ⟨by rw [HL.out]; exact h6, HAL'.out⟩]
        have HE := Lib.hid henc
        have HR' := Lib.hid hr
        obtain ⟨Ab, cb, hf0, hfb, hfA⟩ := row_bys hr
        have HFB := Lib.hid hfb
        have HFA := Lib.hid hfA
        clear hr henc hfull HR hfb hfA
        go_wp2
        go_ret2
        rw [HE.out]
        refine ⟨Ab, cb, rfl, HFB.out, fun h0 a ha => ?_, HO2.out⟩
        rw [HFA.out h0] at ha
        injection ha with ha
        subst ha
        exact Nat.le_trans hswr hg
  · have hd6 : decide (6 < (n : Int)) = true := by simp; omega
    have henc : encItems l = none := by unfold encItems; rw [if_neg]; omega
    go_enter Tryz.func89, Tryz.ntmps89
    go_wp2
    go_ret2
    exact EncSays.no henc (Only.refl _ _)
end Go.Proofs.YtgcfdjcpcclcjaaGreat
namespace Go.Kn
open Go Go.RowKit
theorem RowAt.far {w : World} {p g k : Nat} {bs : List UInt8} (h : RowAt w p g bs k) {q : Addr} (h1 : q.block ≠ p) (h2 : q.block ≠ g) (u : Value) : RowAt (w.setCell q u) p g bs k :=
 h.keep (S := [q.block]) ((Only.refl _ _).set (by simp) u) (by simpa using Ne.symm h1) (by simpa using Ne.symm h2)
/-- what a reader of items answers -/
def DecSays (w : World) (o : Option (List It)) (err : Int) (e : Ending) (w' : World) : Prop :=
 ∃ A c, e = .returned (.tuple #[.slice A (o.getD []).length c, .int .i64 (if o.isSome then 0 else err)]) ∧ Its w' A (o.getD []).length c (o.getD []) ∧
  (0 < (o.getD []).length → ∀ a, A = some a → w.heap.size ≤ a.block) ∧ Only [] w w'
theorem DecSays.no {w w' : World} {o : Option (List It)} {err : Int} (h : o = none) (hO : Only [] w w') : DecSays w o err (.returned (.tuple #[.slice none 0 0, .int .i64 err])) w' := by
 subst h
 exact ⟨none, 0, rfl, Its.nil _, by simp, hO⟩
theorem news_new (w : World) (cs : Array Value) (t : TypeId) (hm : cs.toList.length ≤ maxLen) : ∀ j u, cs.toList[j]? = some u → (w.alloc (.cells cs t)).cell? ((⟨w.heap.size, 0, none⟩ : Addr).add j) = some u :=
 (Row1.of_Own (Own.new w cs t) rfl (Nat.le_refl _) hm).news rfl
/-- amid a round that reads an item: the row, the item's own cells, and what was gathered -/
structure Mid (w0 w : World) (p g k f e : Nat) (bs : List UInt8) (v : Value) (n : Nat) (ys : List Value) (xs : List Value) : Prop where
 row : RowAt w p g bs k
 box : Own w f xs
 only : Only [] w0 w
 gath : GathN w w0.heap.size e 4 v n ys
 ne : ∀ q, v.ownBlock = some q → q ≠ p ∧ q ≠ g ∧ q ≠ f
 fp : p ≠ f
 fg : g ≠ f
 hf : w0.heap.size ≤ f
 hp : w0.heap.size ≤ p
section
variable {w0 w w' : World} {p g k k' f e n : Nat} {bs : List UInt8} {v : Value} {xs ys : List Value}
theorem Mid.got (h : Mid w0 w p g k f e bs v n ys xs) (hr : RowAt w' p g bs k') (hO : Only [p] w w') : Mid w0 w' p g k' f e bs v n ys xs :=
 ⟨hr, h.box.keep hO (by simpa using Ne.symm h.fp), h.only.trans hO (by simpa using h.hp), h.gath.keep hO (fun q hq => by simpa using (h.ne q hq).1), h.ne, h.fp, h.fg, h.hf, h.hp⟩
theorem Mid.put (h : Mid w0 w p g k f e bs v n ys xs) (i : Nat) (u : Value) : Mid w0 (w.setCell ⟨f, i, none⟩ u) p g k f e bs v n ys (xs.set i u) :=
 ⟨h.row.far (Ne.symm h.fp) (Ne.symm h.fg) u, h.box.set i u, h.only.set (.inr h.hf) u, h.gath.keep (S := [f]) ((Only.refl _ _).set (by simp) u) (fun q hq => by simpa using (h.ne q hq).2.2), h.ne, h.fp, h.fg, h.hf, h.hp⟩
end
end Go.Kn
namespace Go.Proofs.YtgcfdjcpcclcjaaGreat
open Go Go.RowKit Go.Kn
theorem Tryz.infoItem : (Tryz.prog.info? 63).map (fun i => (i.zero, i.size, i.bytes)) = some (some (.agg #[.int .i64 0, .int .i64 0, .int .i64 0, .int .i64 0]), 4, 32) := by kernel_rfl
end Go.Proofs.YtgcfdjcpcclcjaaGreat
namespace Go.Proofs.YtgcfdjcpcclcjaaGreat
open Go Go.RowKit Go.Kn
theorem dk_has_any (w0 w : World) (p : PD) (d : Dk) (c : Fr3) (a : Int) (h : Dsk w0 w p d c) :
    Calls Tryz.prog 83 #[.pointer (some ⟨p.D, 0, none⟩), .int .i64 a] w fun e w' => e = .returned (.bool (d.has a)) ∧ w = w' := by
  obtain ⟨v, hm⟩ := h.mem
  have hb := hm.boxi 0 (p := p.D) (cs := p.box v d) rfl
  have c1 := hb.cell 1 (by simp [PD.box])
  have hN := h.N
  have hn := h.ok.n
  have hlt : decide (a < (p.N : Int)) = decide (a < (d.safe.length : Int)) := by rw [hN]
  simp only [PD.box, List.getElem_cons_zero, List.getElem_cons_succ] at c1
  have HN := Lib.hid hN
  have hn' : 1 ≤ p.N ∧ p.N ≤ 4096 := by omega
  obtain ⟨hn1, hn2⟩ := hn'
  clear hm hb hN hn hlt h
  go_enter Tryz.func83, Tryz.ntmps83
  by_cases h1 : 0 ≤ a <;> by_cases h2 : a < (p.N : Int) <;>
  (go_wp2
   go_ret
   exact ⟨by unfold Dk.has; rw [HN.out]; simp [*], rfl⟩)
theorem Dsk.gone1 {w0 w : World} {p : PD} {d : Dk} {c : Fr3} (h : Dsk w0 w p d c) (hg : d.gone = true) :
  Dsk w0 ((w.setCell ⟨p.D, 5, none⟩ (.int .i64 (wrap64 (d.acts + 1)))).setCell ⟨p.D, 6, none⟩ (.bool true)) p d.act c := by
 obtain ⟨v, hm⟩ := h.mem
 have h1 := ((hm.put 0 (p := p.D) (cs := p.box v d) rfl 5 (.int .i64 (wrap64 (d.acts + 1)))).put 0 rfl 6 (.bool true))
 refine ⟨h.ok.act, h.N, h.hs, h.hn, h.hf, v, ?_⟩
 have e : p.L v d.act c.L = (p.D, [.slice (some ⟨p.s, 0, none⟩) p.N p.cs, .slice (some ⟨p.n, 0, none⟩) p.N p.cn, v, .slice (some ⟨p.f, 0, none⟩) p.N p.cf, .int .i64 d.fuse, .int .i64 (wrap64 (d.acts + 1)), .bool true]) :: (p.s, flat d.safe) :: (p.n, flat d.now) :: (p.f, bls d.faults) :: c.L := by
  simp only [PD.L, PD.box, Dk.act, hg, if_true, Dk.tick, Dk.now]
 rw [e]
 exact h1
theorem Dsk.gone0 {w0 w : World} {p : PD} {d : Dk} {c : Fr3} (h : Dsk w0 w p d c) (hg : d.gone = false) {m : Int} (hm : m = max (d.fuse - 1) (-1)) :
  Dsk w0 (((w.setCell ⟨p.D, 5, none⟩ (.int .i64 (wrap64 (d.acts + 1)))).setCell ⟨p.D, 6, none⟩ (.bool false)).setCell ⟨p.D, 4, none⟩ (.int .i64 m)) p d.act c := by
 subst hm
 obtain ⟨v, hm⟩ := h.mem
 have h1 := ((hm.put 0 (p := p.D) (cs := p.box v d) rfl 5 (.int .i64 (wrap64 (d.acts + 1)))).put 0 rfl 6 (.bool false)).put 0 rfl 4 (.int .i64 (max (d.fuse - 1) (-1)))
 refine ⟨h.ok.act, h.N, h.hs, h.hn, h.hf, v, ?_⟩
 have e : p.L v d.act c.L = (p.D, [.slice (some ⟨p.s, 0, none⟩) p.N p.cs, .slice (some ⟨p.n, 0, none⟩) p.N p.cn, v, .slice (some ⟨p.f, 0, none⟩) p.N p.cf, .int .i64 (max (d.fuse - 1) (-1)), .int .i64 (wrap64 (d.acts + 1)), .bool false]) :: (p.s, flat d.safe) :: (p.n, flat d.now) :: (p.f, bls d.faults) :: c.L := by
  simp only [PD.L, PD.box, Dk.act, hg, Bool.false_eq_true, if_false, Dk.tick, Dk.now]
 rw [e]
 exact h1
theorem dk_act_any (w0 w : World) (p : PD) (d : Dk) (c : Fr3) (h : Dsk w0 w p d c) :
  Calls Tryz.prog 85 #[.pointer (some ⟨p.D, 0, none⟩)] w fun e w' => e = .returned (.int .i64 (if d.gone = true then 3 else 0)) ∧ Dsk w0 w' p d.act c := by
 obtain ⟨v, hm⟩ := h.mem
 have hb := hm.boxi 0 (p := p.D) (cs := p.box v d) rfl
 have c4 := hb.cell 4 (by simp [PD.box])
 have c5 := hb.cell 5 (by simp [PD.box])
 have c6 := hb.cell 6 (by simp [PD.box])
 have f4 := hb.frozen 4
 have f5 := hb.frozen 5
 have f6 := hb.frozen 6
 simp only [PD.box, List.getElem_cons_zero, List.getElem_cons_succ] at c4 c5 c6
 have hu := h.ok.u
 have hlt := hb.lt
 obtain ⟨hu1, hu2⟩ := hu
 clear hm hb
 by_cases hg : d.gone = true
 ·refine (show Calls _ _ _ _ (fun e w' => e = .returned (.int .i64 3) ∧ Dsk w0 w' p d.act c) from ?_).mono (fun e w' h => by rw [if_pos hg]; exact h)
  have H := Lib.hid (Dsk.gone1 h hg)
  clear h
  unfold Dk.gone at hg
  by_cases ho : d.off = true
  ·rw [ho] at c6
   clear hg ho
   go_enter Tryz.func85, Tryz.ntmps85
   go_wp2
   go_ret
   exact ⟨rfl, H.out⟩
  ·rw [Bool.not_eq_true] at ho
   have hf : d.fuse = 0 := by rw [ho] at hg; simpa using hg
   rw [ho] at c6
   rw [hf] at c4
   clear hg ho hf hu1 hu2
   go_enter Tryz.func85, Tryz.ntmps85
   go_wp2
   go_ret
   exact ⟨rfl, H.out⟩
 ·refine (show Calls _ _ _ _ (fun e w' => e = .returned (.int .i64 0) ∧ Dsk w0 w' p d.act c) from ?_).mono (fun e w' h => by rw [if_neg hg]; exact h)
  rw [Bool.not_eq_true] at hg
  have H := Lib.hid (fun m hm => Dsk.gone0 h hg (m := m) hm)
  clear h
  unfold Dk.gone at hg
  rw [Bool.or_eq_false_iff] at hg
  obtain ⟨ho, hf⟩ := hg
  rw [ho] at c6
  have hf : ¬ d.fuse = 0 := by simpa using hf
  clear ho
  by_cases hz : 0 ≤ d.fuse
  ·have hz1 : decide (-1 ≤ d.fuse - 1) = true := by simp; omega
   go_enter Tryz.func85, Tryz.ntmps85
   go_wp2
   all_goals (first | (exfalso; omega) | skip)
   go_ret
   exact ⟨rfl, H.out _ (by omega)⟩
  ·go_enter Tryz.func85, Tryz.ntmps85
   go_wp2
   all_goals (first | (exfalso; omega) | skip)
   go_ret
   exact ⟨rfl, H.out _ (by omega)⟩
theorem Dsk.app {w0 w w' : World} {p : PD} {d : Dk} {c : Fr3} {v v' : Value} {a : Int} {b : List UInt8} (hm : Wc w0 w (p.L v d.act c.L) (⟨158, 65, v, d.held.length, heldV d.held⟩ :: c.G) c.F)
  (hown : w'.ownsRow w0.heap.size 158 65 v' (d.held.length + 1) (heldV d.held ++ (.int .i64 a :: bvs b))) (hg : w.grownBy w' v.ownBlock) (hat : v'.ownBlock = v.ownBlock ∨ v'.ownBlock = some w.heap.size) (ha : 0 ≤ a) :
  Wc w0 (w'.setCell ⟨p.D, 2, none⟩ v') ((p.D, p.box v' d.act) :: (p.s, flat d.safe) :: (p.n, flat d.now) :: (p.f, bls d.faults) :: c.L) (⟨158, 65, v', (d.held ++ [(a.toNat, b)]).length, heldV (d.held ++ [(a.toNat, b)])⟩ :: c.G) c.F := by
 have h1 := hm.gapp 0 rfl hown hg hat
 have h2 := h1.put 0 (p := p.D) (cs := p.box v d.act) rfl 2 v'
 have e : heldV (d.held ++ [(a.toNat, b)]) = heldV d.held ++ (.int .i64 a :: bvs b) := by rw [heldV_snoc, show ((a.toNat : Nat) : Int) = a from by omega]
 rw [e, List.length_append]
 exact h2
theorem Dsk.wroteMk {w0 w w' : World} {p : PD} {d : Dk} {c : Fr3} {v : Value} {k : Nat} {b : List UInt8} (h : Dsk w0 w p d c) (hh : d.has k = true) (hb : b.length = 64)
  (hm : Wc w0 w' ((p.D, p.box v d.act) :: (p.s, flat d.safe) :: (p.n, flat (d.now.set k b)) :: (p.f, bls d.faults) :: c.L) (⟨158, 65, v, (d.held ++ [((k : Int).toNat, b)]).length, heldV (d.held ++ [((k : Int).toNat, b)])⟩ :: c.G) c.F) :
  Dsk w0 w' p (d.wrote k b) c := by
 refine ⟨h.ok.wrote hh hb, h.N, h.hs, h.hn, h.hf, v, ?_⟩
 have e : (d.wrote k b).now = d.now.set k b := Dk.now_wrote d k b
 unfold PD.L
 rw [e]
 exact hm
set_option maxRecDepth 100000 in
set_option maxHeartbeats 4000000 in
theorem dk_write_any (w0 w : World) (p : PD) (d : Dk) (c : Fr3) (a : Int) (A : Option Addr) (n cc : Nat) (b : List UInt8) (h : Dsk w0 w p d c) (hb : (fun W => Bys W A n cc b) ∈ c.F) (hh : d.held.length ≤ 1000000) :
  Calls Tryz.prog 24 #[.pointer (some ⟨p.D, 0, none⟩), .int .i64 a, .slice A n cc] w fun e w' => e = .returned (.int .i64 (d.write a b).2) ∧ Dsk w0 w' p (d.write a b).1 c := by
 have hbl : b.length = n := by
  obtain ⟨v, hm⟩ := h.mem
  have := (hm.fact _ hb).len
  rwa [bvs_length] at this
 by_cases hok : d.has a = true ∧ b.length = 64
 ·obtain ⟨ho1, ho2⟩ := hok
  obtain rfl : n = 64 := by omega
  by_cases hg : d.gone = true
  ·have e : d.write a b = (d.act, 3) := by unfold Dk.write; simp [ho1, ho2, hg]
   rw [e]
   have H := Lib.hid h
   have HG := Lib.hid hg
   have HO := Lib.hid ho1
   clear h hbl ho2 ho1 hg e
   go_enter Tryz.func24, Tryz.ntmps24
   go_wp2_with fail
   refine (dk_has_any w0 w p d c a H.out).mono ?_
   rintro e w1 ⟨rfl, rfl⟩
   rw [HO.out]
   go_wp2_with fail
   refine (dk_act_any w0 w p d c H.out).mono ?_
   rintro e w1 ⟨rfl, h1⟩
   rw [if_pos HG.out]
   have H1 := Lib.hid h1
   clear h1
   go_wp2
   go_ret
   exact ⟨rfl, H1.out⟩
  ·have e : d.write a b = (d.wrote a b, 0) := by unfold Dk.write; simp [ho1, ho2, hg]
   rw [e]
   have hN := h.N
   have hn := h.ok.n
   have hr : 0 ≤ a ∧ a < (p.N : Int) := by unfold Dk.has at ho1; simp only [decide_eq_true_eq] at ho1; omega
   obtain ⟨k, rfl⟩ : ∃ k : Nat, a = k := ⟨a.toNat, by omega⟩
   have hkN : k < p.N := by omega
   have H := Lib.hid h
   have HG := Lib.hid hg
   have HO := Lib.hid ho1
   have HB := Lib.hid hb
   have HN := Lib.hid hN
   have HL := Lib.hid ho2
   clear h hbl ho2 ho1 hg e hb hN hn
   go_enter Tryz.func24, Tryz.ntmps24
   go_wp2_with fail
   refine (dk_has_any w0 w p d c k H.out).mono ?_
   rintro e w1 ⟨rfl, rfl⟩
   rw [HO.out]
   go_wp2_with fail
   refine (dk_act_any w0 w p d c H.out).mono ?_
   rintro e w1 ⟨rfl, h1⟩
   rw [if_neg HG.out]
   obtain ⟨v, hm⟩ := h1.mem
   have hbx := hm.boxi 0 (p := p.D) (cs := p.box v d.act) rfl
   have c2 := hbx.cell 2 (by simp [PD.box])
   have c1 := hbx.cell 1 (by simp [PD.box])
   simp only [PD.box, List.getElem_cons_zero, List.getElem_cons_succ] at c1 c2
   have hby := hm.fact _ HB.out
   obtain ⟨g, o, rfl, _⟩ := hby.at_ (by omega)
   have hbw := build_write k b HL.out
   obtain ⟨ar, har⟩ : ∃ ar, (bvs b).toArray = ar := ⟨_, rfl⟩
   obtain ⟨ar2, har2⟩ : ∃ ar, (Value.int .i64 (k : Int) :: bvs b).toArray = ar := ⟨_, rfl⟩
   simp only [har, har2] at hbw
   have HBW := Lib.hid hbw
   have HAR := Lib.hid har
   have HAR2 := Lib.hid har2
   have har3 : ar2.toList = Value.int .i64 (k : Int) :: bvs b := by rw [← har2]
   have HAR3 := Lib.hid har3
   have hdl : d.act.held.length = d.held.length := rfl
   have hde : heldV d.act.held = heldV d.held := rfl
   rw [hdl, hde] at hm
   have HM := Lib.hid hm
   have hfl : (flat d.now).length = 64 * p.N := by rw [flat_length _ H.out.ok.now64, Dk.now_length, HN.out]
   have HFL := Lib.hid hfl
   have hfs := flat_set d.now H.out.ok.now64 k b (by rw [Dk.now_length, HN.out]; exact hkN) HL.out
   have HFS := Lib.hid hfs
   clear hfl hfs
   obtain ⟨i0, z0, hi0, hz0, hz1, hz2, hz3⟩ := write_parts
   have hone : ∀ u ∈ (Value.int .i64 (k : Int) :: bvs b), u.oneCell' = true := by
    intro u hu
    rcases List.mem_cons.1 hu with rfl | hu
    ·rfl
    ·exact bvs_one _ u hu
   have HON := Lib.hid hone
   have HD7 := Lib.hid HM.out.drew
   clear har har2 har3 hbw hm hbx hby h1 hdl hde hone HM c1 c2
   go_wp2_with fail
   refine wp_region_held_drew (S := fun w' => w'.cell? ⟨p.D, 1, none⟩ = some (.slice (some ⟨p.n, 0, none⟩) p.N p.cn) ∧ Bys w' (some ⟨g, o, none⟩) 64 cc b) (by kernel_rfl) ⟨by simpa [PD.box] using (HD7.out.boxi 0 (p := p.D) rfl).cell 1 (by simp [PD.box]), HD7.out.fact _ HB.out⟩ (fun hSw0 => ?_)
   generalize w1.drew = ws at *
   refine Kn.takeS 0 ⟨some 22, _, _, _, _, _⟩ ?_
   refine Kn.takeS 1 ⟨some 23, _, _, _, _, _⟩ ?_
   refine Kn.takeS 2 ⟨some 24, _, _, _, _, _⟩ ?_
   refine Kn.takeS 3 ⟨some 25, _, _, _, _, _⟩ ?_
   refine Kn.takeS 5 ⟨some 27, _, _, _, _, _⟩ ?_
   refine Kn.takeS 6 ⟨some 28, _, _, _, _, _⟩ ?_
   refine Kn.takeS 7 ⟨some 29, _, _, _, _, _⟩ (v := (.pointer (some ⟨g, o, none⟩))) (hy := fun w hSw => by
    exact exec_arr rfl rfl (arr_at (some ⟨g, o, none⟩) cc w)) ?_
   refine Kn.takeS 8 ⟨some 30, _, _, _, _, _⟩ (v := (.agg ar)) (hy := fun w hSw => by
    have hld := load_bytes hSw.2
    rw [HAR.out] at hld
    exact exec_load rfl rfl hld) ?_
   refine Kn.takeS 9 ⟨some 31, _, _, _, _, _⟩ (v := (.agg ar2)) (hy := fun w hSw => by
    exact exec_build (vs := #[(0, .int .i64 (k : Int)), (1, .agg ar)]) rfl (by kernel_rfl) (HBW.out w)) ?_
   refine wpAnyH_ready (rs := [4, 10]) (by kernel_rfl) (by simp) ?_
   refine AllReadyH.cons (o := ⟨some 26, _, _, _, _, _⟩) rfl (fun K hK => ?_) ?_
   ·have yq := (HD7.out.boxi 0 (p := p.D) rfl).cell 2 (by simp [PD.box])
    simp only [PD.box, List.getElem_cons_zero, List.getElem_cons_succ] at yq
    go_simp
    clear yq
    refine hK.out _ _ ⟨by simpa [PD.box] using (HD7.out.boxi 0 (p := p.D) rfl).cell 1 (by simp [PD.box]), HD7.out.fact _ HB.out⟩ (fun hSn => ?_)
    clear hK K hSw0
    have hSw0 := hSn
    clear hSn
    refine Kn.takeR 10 ⟨some 32, _, _, _, _, _⟩ fun K hK => ?_
    refine step_bslice_write rfl (.tmp 31) rfl (.int .i64 (k : Int) :: bvs b) (by simp [HL.out]) (by rw [HAR2.out]; rfl) ?_
    rw [HAR2.out]
    have HDb := Lib.hid (HD7.out.alloc (.cells ar2 158))
    have hnw := news_new ws ar2 158 (by rw [HAR3.out]; simp [HL.out, maxLen])
    rw [HAR3.out] at hnw
    have HNW := Lib.hid hnw
    clear hnw
    generalize hvz : ws.heap.size = vz at *
    generalize hvb : ws.alloc (.cells ar2 158) = vb at *
    clear hvb hvz
    refine hK.out _ _ ⟨by simpa [PD.box] using (HDb.out.boxi 0 (p := p.D) rfl).cell 1 (by simp [PD.box]), HDb.out.fact _ HB.out⟩ (fun hSn => ?_)
    clear hK K hSw0
    have hSw0 := hSn
    clear hSn
    refine Kn.takeR 11 ⟨some 33, _, _, _, _, _⟩ fun K hK => ?_
    have hbw := HDb.out.only.size
    refine step_append_own rfl (.tmp 26) (.tmp 32) 151 rfl w0.heap.size 158 i0 z0 65 72 Tryz.underlying151 hi0 hz0 hz1 hz2 hz3 (by decide) v d.held.length (heldV d.held) rfl (HDb.out.gi 0 rfl) ⟨vz, 0, none⟩ 1 1 (.int .i64 (k : Int) :: bvs b) rfl (by simp [HL.out]) HNW.out HON.out (by unfold maxLen; omega) (by omega) hbw ?_
    intro v5 w5 hown hgrow hat
    have hdd := HDb.out.gapp 0 rfl hown hgrow hat
    obtain ⟨A5, c5, rfl⟩ := hdd.gform 0 rfl
    have HDd := Lib.hid hdd
    have HDx := Lib.hid (Dsk.app HDb.out hown hgrow hat (by omega))
    clear hdd hown hgrow hat hbw
    simp only [List.set_cons_zero] at HDd
    refine hK.out _ _ ⟨by simpa [PD.box] using (HDd.out.boxi 0 (p := p.D) rfl).cell 1 (by simp [PD.box]), HDd.out.fact _ HB.out⟩ (fun hSn => ?_)
    clear hK K hSw0
    have hSw0 := hSn
    clear hSn
    refine Kn.takeS 12 ⟨some 34, _, _, _, _, _⟩ ?_
    refine Kn.takeS 13 ⟨some 35, _, _, _, _, _⟩ ?_
    refine Kn.takeR 14 ⟨none, _, _, _, _, _⟩ fun K hK => ?_
    have hxb := HDd.out.boxi 0 (p := p.D) rfl
    have yq := hxb.cell 2 (by simp [PD.box])
    simp only [PD.box, List.getElem_cons_zero, List.getElem_cons_succ] at yq
    have fq := hxb.frozen 2
    go_simp
    clear yq fq hxb
    refine hK.out _ _ ⟨by simpa [PD.box] using (HDx.out.boxi 0 (p := p.D) rfl).cell 1 (by simp [PD.box]), HDx.out.fact _ HB.out⟩ (fun hSn => ?_)
    clear hK K hSw0
    have hSw0 := hSn
    clear hSn
    refine wpAnyH_done (by kernel_rfl) ?_ _
    clear hSw0 HDd
    have HDy := Lib.hid HDx.out.drew
    clear HDx
    go_wp2_with fail
    refine wp_region_held_drew (S := fun w' => w'.cell? ⟨p.D, 1, none⟩ = some (.slice (some ⟨p.n, 0, none⟩) p.N p.cn) ∧ Bys w' (some ⟨g, o, none⟩) 64 cc b) (by kernel_rfl) ⟨by simpa [PD.box] using (HDy.out.boxi 0 (p := p.D) rfl).cell 1 (by simp [PD.box]), HDy.out.fact _ HB.out⟩ (fun hSw0 => ?_)
    generalize (w5.setCell ⟨p.D, 2, none⟩ (.slice A5 (d.held.length + 1) c5)).drew = wt at *
    refine Kn.takeS 0 ⟨some 36, _, _, _, _, _⟩ ?_
    refine Kn.takeS 1 ⟨some 37, _, _, _, _, _⟩ ?_
    refine Kn.takeS 2 ⟨some 38, _, _, _, _, _⟩ ?_
    refine Kn.takeS 3 ⟨some 39, _, _, _, _, _⟩ ?_
    refine Kn.takeS 4 ⟨some 40, _, _, _, _, _⟩ ?_
    refine Kn.takeS 5 ⟨some 41, _, _, _, _, _⟩ ?_
    refine Kn.takeS 6 ⟨some 42, _, _, _, _, _⟩ (v := (.pointer (some ⟨g, o, none⟩))) (hy := fun w hSw => by
     exact exec_arr rfl rfl (arr_at (some ⟨g, o, none⟩) cc w)) ?_
    refine Kn.takeS 7 ⟨some 43, _, _, _, _, _⟩ (v := (.agg ar)) (hy := fun w hSw => by
     have hld := load_bytes hSw.2
     rw [HAR.out] at hld
     exact exec_load rfl rfl hld) ?_
    refine Kn.takeS 8 ⟨some 44, _, _, _, _, _⟩ (v := (.pointer (some ⟨p.n, 64 * k, none⟩))) (hy := fun w hSw => by
     exact exec_index rfl rfl rfl (idx_block p.n p.N p.cn k hkN w)) ?_
    refine Kn.takeR 9 ⟨none, _, _, _, _, _⟩ fun K hK => ?_
    refine step_store_part rfl 156 (.tmp 44) (.tmp 43) rfl p.n (64 * k) (flat d.now) (bvs b) (by rw [bvs_length, HL.out]; exact size_block) rfl (by rw [HAR.out]; rfl) (HDy.out.boxi 2 rfl) (by rw [bvs_length, HL.out, HFL.out]; omega) (bvs_one _) ?_
    intro w6 hown hO6
    rw [bvs_length, HL.out, ← HFS.out] at hown
    have HDz := Lib.hid (HDy.out.call1 2 rfl hown hO6)
    clear hown hO6 HDy
    refine hK.out _ _ ⟨by simpa [PD.box] using (HDz.out.boxi 0 (p := p.D) rfl).cell 1 (by simp [PD.box]), HDz.out.fact _ HB.out⟩ (fun hSn => ?_)
    clear hK K hSw0
    have hSw0 := hSn
    clear hSn
    refine wpAnyH_done (by kernel_rfl) ?_ _
    clear hSw0
    have HE := Lib.hid (H.out.wroteMk HO.out HL.out HDz.out)
    clear HDz
    go_wp2
    go_ret
    exact ⟨rfl, HE.out⟩
   refine AllReadyH.cons (o := ⟨some 32, _, _, _, _, _⟩) rfl (fun K hK => ?_) ?_
   ·refine step_bslice_write rfl (.tmp 31) rfl (.int .i64 (k : Int) :: bvs b) (by simp [HL.out]) (by rw [HAR2.out]; rfl) ?_
    rw [HAR2.out]
    have HDb := Lib.hid (HD7.out.alloc (.cells ar2 158))
    have hnw := news_new ws ar2 158 (by rw [HAR3.out]; simp [HL.out, maxLen])
    rw [HAR3.out] at hnw
    have HNW := Lib.hid hnw
    clear hnw
    generalize hvz : ws.heap.size = vz at *
    generalize hvb : ws.alloc (.cells ar2 158) = vb at *
    clear hvb hvz
    refine hK.out _ _ ⟨by simpa [PD.box] using (HDb.out.boxi 0 (p := p.D) rfl).cell 1 (by simp [PD.box]), HDb.out.fact _ HB.out⟩ (fun hSn => ?_)
    clear hK K hSw0
    have hSw0 := hSn
    clear hSn
    refine Kn.takeR 4 ⟨some 26, _, _, _, _, _⟩ fun K hK => ?_
    have yq := (HDb.out.boxi 0 (p := p.D) rfl).cell 2 (by simp [PD.box])
    simp only [PD.box, List.getElem_cons_zero, List.getElem_cons_succ] at yq
    go_simp
    clear yq
    refine hK.out _ _ ⟨by simpa [PD.box] using (HDb.out.boxi 0 (p := p.D) rfl).cell 1 (by simp [PD.box]), HDb.out.fact _ HB.out⟩ (fun hSn => ?_)
    clear hK K hSw0
    have hSw0 := hSn
    clear hSn
    refine Kn.takeR 11 ⟨some 33, _, _, _, _, _⟩ fun K hK => ?_
    have hbw := HDb.out.only.size
    refine step_append_own rfl (.tmp 26) (.tmp 32) 151 rfl w0.heap.size 158 i0 z0 65 72 Tryz.underlying151 hi0 hz0 hz1 hz2 hz3 (by decide) v d.held.length (heldV d.held) rfl (HDb.out.gi 0 rfl) ⟨vz, 0, none⟩ 1 1 (.int .i64 (k : Int) :: bvs b) rfl (by simp [HL.out]) HNW.out HON.out (by unfold maxLen; omega) (by omega) hbw ?_
    intro v5 w5 hown hgrow hat
    have hdd := HDb.out.gapp 0 rfl hown hgrow hat
    obtain ⟨A5, c5, rfl⟩ := hdd.gform 0 rfl
    have HDd := Lib.hid hdd
    have HDx := Lib.hid (Dsk.app HDb.out hown hgrow hat (by omega))
    clear hdd hown hgrow hat hbw
    simp only [List.set_cons_zero] at HDd
    refine hK.out _ _ ⟨by simpa [PD.box] using (HDd.out.boxi 0 (p := p.D) rfl).cell 1 (by simp [PD.box]), HDd.out.fact _ HB.out⟩ (fun hSn => ?_)
    clear hK K hSw0
    have hSw0 := hSn
    clear hSn
    refine Kn.takeS 12 ⟨some 34, _, _, _, _, _⟩ ?_
    refine Kn.takeS 13 ⟨some 35, _, _, _, _, _⟩ ?_
    refine Kn.takeR 14 ⟨none, _, _, _, _, _⟩ fun K hK => ?_
    have hxb := HDd.out.boxi 0 (p := p.D) rfl
    have yq := hxb.cell 2 (by simp [PD.box])
    simp only [PD.box, List.getElem_cons_zero, List.getElem_cons_succ] at yq
    have fq := hxb.frozen 2
    go_simp
    clear yq fq hxb
    refine hK.out _ _ ⟨by simpa [PD.box] using (HDx.out.boxi 0 (p := p.D) rfl).cell 1 (by simp [PD.box]), HDx.out.fact _ HB.out⟩ (fun hSn => ?_)
    clear hK K hSw0
    have hSw0 := hSn
    clear hSn
    refine wpAnyH_done (by kernel_rfl) ?_ _
    clear hSw0 HDd
    have HDy := Lib.hid HDx.out.drew
    clear HDx
    go_wp2_with fail
    refine wp_region_held_drew (S := fun w' => w'.cell? ⟨p.D, 1, none⟩ = some (.slice (some ⟨p.n, 0, none⟩) p.N p.cn) ∧ Bys w' (some ⟨g, o, none⟩) 64 cc b) (by kernel_rfl) ⟨by simpa [PD.box] using (HDy.out.boxi 0 (p := p.D) rfl).cell 1 (by simp [PD.box]), HDy.out.fact _ HB.out⟩ (fun hSw0 => ?_)
    generalize (w5.setCell ⟨p.D, 2, none⟩ (.slice A5 (d.held.length + 1) c5)).drew = wt at *
    refine Kn.takeS 0 ⟨some 36, _, _, _, _, _⟩ ?_
    refine Kn.takeS 1 ⟨some 37, _, _, _, _, _⟩ ?_
    refine Kn.takeS 2 ⟨some 38, _, _, _, _, _⟩ ?_
    refine Kn.takeS 3 ⟨some 39, _, _, _, _, _⟩ ?_
    refine Kn.takeS 4 ⟨some 40, _, _, _, _, _⟩ ?_
    refine Kn.takeS 5 ⟨some 41, _, _, _, _, _⟩ ?_
    refine Kn.takeS 6 ⟨some 42, _, _, _, _, _⟩ (v := (.pointer (some ⟨g, o, none⟩))) (hy := fun w hSw => by
     exact exec_arr rfl rfl (arr_at (some ⟨g, o, none⟩) cc w)) ?_
    refine Kn.takeS 7 ⟨some 43, _, _, _, _, _⟩ (v := (.agg ar)) (hy := fun w hSw => by
     have hld := load_bytes hSw.2
     rw [HAR.out] at hld
     exact exec_load rfl rfl hld) ?_
    refine Kn.takeS 8 ⟨some 44, _, _, _, _, _⟩ (v := (.pointer (some ⟨p.n, 64 * k, none⟩))) (hy := fun w hSw => by
     exact exec_index rfl rfl rfl (idx_block p.n p.N p.cn k hkN w)) ?_
    refine Kn.takeR 9 ⟨none, _, _, _, _, _⟩ fun K hK => ?_
    refine step_store_part rfl 156 (.tmp 44) (.tmp 43) rfl p.n (64 * k) (flat d.now) (bvs b) (by rw [bvs_length, HL.out]; exact size_block) rfl (by rw [HAR.out]; rfl) (HDy.out.boxi 2 rfl) (by rw [bvs_length, HL.out, HFL.out]; omega) (bvs_one _) ?_
    intro w6 hown hO6
    rw [bvs_length, HL.out, ← HFS.out] at hown
    have HDz := Lib.hid (HDy.out.call1 2 rfl hown hO6)
    clear hown hO6 HDy
    refine hK.out _ _ ⟨by simpa [PD.box] using (HDz.out.boxi 0 (p := p.D) rfl).cell 1 (by simp [PD.box]), HDz.out.fact _ HB.out⟩ (fun hSn => ?_)
    clear hK K hSw0
    have hSw0 := hSn
    clear hSn
    refine wpAnyH_done (by kernel_rfl) ?_ _
    clear hSw0
    have HE := Lib.hid (H.out.wroteMk HO.out HL.out HDz.out)
    clear HDz
    go_wp2
    go_ret
    exact ⟨rfl, HE.out⟩
   exact AllReadyH.nil
 ·have e : d.write a b = (d, 1) := by
   unfold Dk.write
   rw [if_neg]
   simp only [Bool.and_eq_true, decide_eq_true_eq]
   exact hok
  rw [e]
  have H := Lib.hid h
  by_cases ho1 : d.has a = true
  ·have hn : ((n : Int) == 64) = false := by
    have : ¬ n = 64 := fun h => hok ⟨ho1, by omega⟩
    simp; omega
   have hn2 : ((n : Int) != 64) = true := by simpa using hn
   have HO := Lib.hid ho1
   clear h hbl hok ho1 e
   go_enter Tryz.func24, Tryz.ntmps24
   go_wp2_with fail
   refine (dk_has_any w0 w p d c a H.out).mono ?_
   rintro e w1 ⟨rfl, rfl⟩
   rw [HO.out]
   go_wp2
   go_ret
   exact ⟨rfl, H.out⟩
  ·rw [Bool.not_eq_true] at ho1
   have HO := Lib.hid ho1
   clear h hbl hok ho1 e
   go_enter Tryz.func24, Tryz.ntmps24
   go_wp2_with fail
   refine (dk_has_any w0 w p d c a H.out).mono ?_
   rintro e w1 ⟨rfl, rfl⟩
   rw [HO.out]
   go_wp2
   go_ret
   exact ⟨rfl, H.out⟩
end Go.Proofs.YtgcfdjcpcclcjaaGreat
namespace Go.Kn
open Go Go.RowKit
/-- what a read answers: bytes in new memory -/
def RdSays (w : World) (b : List UInt8) (err : Int) (e : Ending) (w' : World) : Prop := ∃ A n c, e = .returned (.tuple #[.slice A n c, .int .i64 err]) ∧ Fc w' (fun k => k < w.heap.size) (fun W => Bys W A n c b) ∧ Only [] w w'
theorem RdSays.none (w : World) (err : Int) : RdSays w [] err (.returned (.tuple #[.slice none 0 0, .int .i64 err])) w := ⟨Option.none, 0, 0, rfl, fun W _ => Row1.nil W, Only.refl _ _⟩
theorem MadeBys.fc {w w' : World} {bs : List UInt8} {A : Option Addr} {c : Nat} (hc : bs.length ≤ c) (hm : c ≤ maxLen) (hp : 0 < bs.length → ∃ g, A = some ⟨g, 0, none⟩ ∧ w.heap.size ≤ g ∧ Own w' g (bvs bs)) : Fc w' (fun k => k < w.heap.size) (fun W => Bys W A bs.length c bs) := by
 by_cases h0 : 0 < bs.length
 ·obtain ⟨g, rfl, hg, ho⟩ := hp h0
  exact Row1.fc (Row1.of_Own ho (by simp) hc hm) (fun _ a ha => by injection ha with ha; subst ha; simp; omega)
 ·obtain rfl : bs = [] := List.eq_nil_of_length_eq_zero (by omega)
  exact fun W _ => ⟨rfl, by omega, hm, fun h => absurd h (by omega)⟩
theorem Row1.subrow {w : World} {g n c : Nat} {xs : List Value} {o m : Nat} (h : Own w g xs) (hl : o + m ≤ xs.length) (hc : m ≤ c) (hm : c ≤ maxLen) : Row1 w (some ⟨g, o, none⟩) m c ((xs.drop o).take m) :=
 ⟨by rw [List.length_take, List.length_drop]; omega, hc, hm, fun _ => ⟨g, o, rfl, fun i hi => by
  rw [List.length_take, List.length_drop] at hi
  rw [List.getElem_take, List.getElem_drop]
  exact h.cell _ (by omega)⟩⟩
end Go.Kn
namespace Go.Proofs.YtgcfdjcpcclcjaaGreat
open Go Go.RowKit Go.Kn
set_option maxRecDepth 100000 in
set_option maxHeartbeats 4000000 in
theorem dk_read_any (w0 w : World) (p : PD) (d : Dk) (c : Fr3) (a : Int) (h : Dsk w0 w p d c) :
  Calls Tryz.prog 23 #[.pointer (some ⟨p.D, 0, none⟩), .int .i64 a] w (RdSays w (d.read a) (d.err a)) := by
 obtain ⟨v, hm⟩ := h.mem
 have hbx := hm.boxi 0 (p := p.D) (cs := p.box v d) rfl
 have c1 := hbx.cell 1 (by simp [PD.box])
 have c3 := hbx.cell 3 (by simp [PD.box])
 have c6 := hbx.cell 6 (by simp [PD.box])
 simp only [PD.box, List.getElem_cons_zero, List.getElem_cons_succ] at c1 c3 c6
 have hfb := hm.boxi 3 (p := p.f) (cs := bls d.faults) rfl
 have hnb := hm.boxi 2 (p := p.n) (cs := flat d.now) rfl
 have H := Lib.hid h
 have hN := h.N
 have hF := h.ok.f
 have hn := h.ok.n
 by_cases ho : d.has a = true
 ·have hr : 0 ≤ a ∧ a < (p.N : Int) := by unfold Dk.has at ho; simp only [decide_eq_true_eq] at ho; omega
  obtain ⟨k, rfl⟩ : ∃ k : Nat, a = k := ⟨a.toNat, by omega⟩
  have hkN : k < p.N := by omega
  have hN1 : 1 ≤ p.N ∧ p.N ≤ 4096 := by omega
  obtain ⟨hN1, hN2⟩ := hN1
  have HO := Lib.hid ho
  by_cases hof : d.off = true
  ·have e1 : d.err k = 3 := by unfold Dk.err; rw [if_pos ho, if_pos hof]
   have e2 : d.read k = [] := by unfold Dk.read; rw [e1]; rfl
   rw [e1, e2]
   rw [hof] at c6
   clear hm hbx hfb hnb h hN hF hn ho hof e1 e2 c1 c3
   go_enter Tryz.func23, Tryz.ntmps23
   go_wp2_with fail
   refine (dk_has_any w0 w p d c k H.out).mono ?_
   rintro e w1 ⟨rfl, rfl⟩
   rw [HO.out]
   go_wp2
   go_ret2
   exact RdSays.none _ _
  ·rw [Bool.not_eq_true] at hof
   have hbl : k < (bls d.faults).length := by rw [bls_length]; omega
   have q0 := hfb.cell k hbl
   have hbg : (bls d.faults)[k] = .bool (d.bad k) := by
    unfold Dk.bad
    rw [bls_get, List.getD_eq_getElem?_getD, show ((k : Int)).toNat = k from by omega, List.getElem?_eq_getElem (by omega), Option.getD_some]
   rw [hbg] at q0
   rw [hof] at c6
   by_cases hb : d.bad k = true
   ·have e1 : d.err k = 4 := by unfold Dk.err; rw [if_pos ho, if_neg (by simp [hof]), if_pos hb]
    have e2 : d.read k = [] := by unfold Dk.read; rw [e1]; rfl
    rw [e1, e2]
    rw [hb] at q0
    clear hm hbx hfb hnb h hN hF hn ho hof e1 e2 c1 hbg hbl hb
    go_enter Tryz.func23, Tryz.ntmps23
    go_wp2_with fail
    refine (dk_has_any w0 w p d c k H.out).mono ?_
    rintro e w1 ⟨rfl, rfl⟩
    rw [HO.out]
    go_wp2
    go_ret2
    exact RdSays.none _ _
   ·rw [Bool.not_eq_true] at hb
    have e1 : d.err k = 0 := by unfold Dk.err; rw [if_pos ho, if_neg (by simp [hof]), if_neg (by simp [hb])]
    have e2 : d.read k = d.sector k := by unfold Dk.read; rw [if_pos e1]
    rw [e1, e2]
    rw [hb] at q0
    have hkl : k < d.now.length := by rw [Dk.now_length]; omega
    have hsec : d.sector k = d.now[k] := by
     unfold Dk.sector
     rw [List.getD_eq_getElem?_getD, show ((k : Int)).toNat = k from by omega, List.getElem?_eq_getElem hkl, Option.getD_some]
    have hrow := Row1.subrow (n := 0) (o := 64 * k) (m := 64) (c := 64) hnb (by rw [flat_length _ h.ok.now64, Dk.now_length]; omega) (Nat.le_refl _) (by simp [maxLen])
    rw [flat_cut _ h.ok.now64 k hkl, ← hsec, Nat.mul_comm 64 k] at hrow
    have hsl := Dk.sector_64 h.ok ho
    have HR := Lib.hid hrow
    clear hm hbx hfb hnb h hN hF hn ho hof e1 e2 hbg hbl hb hrow hsec hkl
    go_enter Tryz.func23, Tryz.ntmps23
    go_wp2_with fail
    refine (dk_has_any w0 w p d c k H.out).mono ?_
    rintro e w1 ⟨rfl, rfl⟩
    rw [HO.out]
    go_wp2_with fail
    refine (clone_any _ 64 64 _ _ (by exact HR.out) (by decide)).mono ?_
    rintro e w1 ⟨A, cc, rfl, hcc, hcm, hpos, hO⟩
    have hfc := MadeBys.fc hcc hcm hpos
    rw [hsl] at hfc
    have HF := Lib.hid hfc
    have HO1 := Lib.hid hO
    clear hfc hpos hO
    go_wp2
    go_ret2
    exact ⟨A, _, cc, rfl, HF.out, HO1.out⟩
 ·have e1 : d.err a = 1 := by unfold Dk.err; rw [if_neg ho]
  have e2 : d.read a = [] := by unfold Dk.read; rw [e1]; rfl
  rw [e1, e2]
  rw [Bool.not_eq_true] at ho
  have HO := Lib.hid ho
  clear hm hbx hfb hnb h hN hF hn ho e1 e2
  go_enter Tryz.func23, Tryz.ntmps23
  go_wp2_with fail
  refine (dk_has_any w0 w p d c a H.out).mono ?_
  rintro e w1 ⟨rfl, rfl⟩
  rw [HO.out]
  go_wp2
  go_ret2
  exact RdSays.none _ _
end Go.Proofs.YtgcfdjcpcclcjaaGreat
