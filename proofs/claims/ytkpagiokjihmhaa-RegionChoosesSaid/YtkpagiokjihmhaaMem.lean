
/- Plain words on memory, no program in sight: what a call leaves as it was (Only), a slice of bytes that reads as a list (Bys), a slice of ints (Ins), a row object (RowAt). -/
import Derived.WalkKit
import Derived.Deep.Draws
import Derived.Lib.Hide
import Derived.Laws.CopyOwn
import Derived.Maps.AppendAt
import Derived.OwnWalk
import Derived.Deep.AppendLies
namespace Go.Kn
open Go Go.RowKit

/-- w' is w but for new blocks and what was written into the blocks of S. -/
structure Only (S : List Nat) (w w' : World) : Prop where
  os : w'.os = w.os
  tape : w'.tape = w.tape
  output : w'.output = w.output
  size : w.heap.size ≤ w'.heap.size
  block : ∀ k, k < w.heap.size → k ∉ S → w'.heap[k]? = w.heap[k]?

section
variable {S T : List Nat} {a b c w w' : World}
theorem Only.refl (S : List Nat) (w : World) : Only S w w := ⟨rfl, rfl, rfl, Nat.le_refl _, fun _ _ _ => rfl⟩
theorem Only.trans (h : Only S a b) (k : Only T b c) (hT : ∀ i ∈ T, i ∈ S ∨ a.heap.size ≤ i) : Only S a c :=
  ⟨k.os.trans h.os, k.tape.trans h.tape, k.output.trans h.output, Nat.le_trans h.size k.size, fun i hi hn =>
    (k.block i (Nat.lt_of_lt_of_le hi h.size) (fun hm => by rcases hT i hm with h1 | h1; exact hn h1; omega)).trans (h.block i hi hn)⟩
theorem Only.trans' (h : Only S a b) (k : Only S b c) : Only S a c := h.trans k fun _ hi => .inl hi
theorem Only.mono (h : Only S a b) (hS : ∀ i ∈ S, i ∈ T ∨ a.heap.size ≤ i) : Only T a b :=
  ⟨h.os, h.tape, h.output, h.size, fun i hi hn => h.block i hi (fun hm => by rcases hS i hm with h1 | h1; exact hn h1; omega)⟩
theorem Only.congr (h : Only S b c) (e : b.heap = a.heap ∧ b.os = a.os ∧ b.tape = a.tape ∧ b.output = a.output) : Only S a c := by
  obtain ⟨e1, e2, e3, e4⟩ := e
  exact ⟨by rw [← e2]; exact h.os, by rw [← e3]; exact h.tape, by rw [← e4]; exact h.output, by rw [← e1]; exact h.size, fun k hk hn => by rw [← e1]; exact h.block k (by rw [e1]; exact hk) hn⟩
theorem only_of_drawn {n : Nat} (h : Only S (a.drewN n) c) : Only S a c := h.congr ⟨rfl, rfl, rfl, rfl⟩
theorem only_of_drawn1 {n : Nat} (h : Only S (a.drew.drewN n) c) : Only S a c := h.congr ⟨rfl, rfl, rfl, rfl⟩
theorem Only.alloc (h : Only S a w) (o : Obj) : Only S a (w.alloc o) :=
  h.trans (T := []) ⟨rfl, rfl, rfl, by simp, fun k hk _ => Below.heap_alloc _ _ _ hk⟩ (by simp)
theorem Only.drew (h : Only S a w) : Only S a w.drew := ⟨h.os, h.tape, h.output, h.size, h.block⟩
theorem Only.drewN (h : Only S a w) (n : Nat) : Only S a (w.drewN n) := ⟨h.os, h.tape, h.output, h.size, h.block⟩
theorem Only.set (h : Only S a w) {p : Addr} (hp : p.block ∈ S ∨ a.heap.size ≤ p.block) (u : Value) : Only S a (w.setCell p u) :=
  h.trans (T := [p.block]) ⟨rfl, rfl, rfl, by simp [World.setCell], fun k _ hk => Below.heap_setCell _ _ _ _ (by simpa using hk)⟩
    (by simpa using hp)
theorem Only.grown {row : Option Nat} (h : Only S a w) (hg : w.grownBy w' row) (hr : ∀ k, row = some k → k ∈ S ∨ a.heap.size ≤ k) : Only S a w' :=
  ⟨hg.os.trans h.os, hg.tape.trans h.tape, hg.output.trans h.output, Nat.le_trans h.size hg.size, fun k hk hn =>
    (hg.block k (Nat.lt_of_lt_of_le hk h.size) (fun e => by rcases hr k e.symm with h1 | h1; exact hn h1; omega)).trans (h.block k hk hn)⟩
theorem Only.below (h : Only S w w') {B : Nat} (hS : ∀ i ∈ S, B ≤ i) (hB : B ≤ w.heap.size) : Below B w w' :=
  ⟨h.os, h.tape, h.output, h.size, fun k hk => h.block k (by omega) (fun hm => by have := hS k hm; omega)⟩
theorem Only.below0 (h : Only [] w w') : Below w.heap.size w w' := h.below (by simp) (Nat.le_refl _)
theorem Only.of_below (h : Below w.heap.size w w') : Only S w w' := ⟨h.os, h.tape, h.output, h.size, fun k hk _ => h.block k hk⟩
theorem lt_of_cell {p : Addr} {v : Value} (h : w.cell? p = some v) : p.block < w.heap.size := World.block_lt_of_cell? w p h
theorem Only.cell (h : Only S w w') {p : Addr} {v : Value} (hc : w.cell? p = some v) (hp : p.block ∉ S) : w'.cell? p = some v :=
  (World.cell?_of_block (w := w) (h.block p.block (lt_of_cell hc) hp)).trans hc
theorem Only.frozen (h : Only S w w') {p : Addr} (hl : p.block < w.heap.size) (hp : p.block ∉ S) : w'.frozen? p = w.frozen? p :=
  World.frozen?_of_block (w := w) (h.block p.block hl hp)
end

/-- a slice (address A, length, capacity) that reads as the cells xs, one cell an element. -/
structure Row1 (w : World) (A : Option Addr) (n c : Nat) (xs : List Value) : Prop where
  len : xs.length = n
  le : n ≤ c
  cm : c ≤ maxLen
  at_ : 0 < n → ∃ g o, A = some ⟨g, o, none⟩ ∧ ∀ i (h : i < xs.length), w.cell? ⟨g, o + i, none⟩ = some xs[i]

section
variable {S : List Nat} {w w' : World} {A : Option Addr} {n c : Nat} {xs : List Value}
theorem Row1.keep (h : Row1 w A n c xs) (ho : Only S w w') (hs : ∀ a, A = some a → a.block ∉ S) : Row1 w' A n c xs :=
  ⟨h.len, h.le, h.cm, fun hn => by
    obtain ⟨g, o, e, hc⟩ := h.at_ hn
    exact ⟨g, o, e, fun i hi => ho.cell (hc i hi) (by have := hs _ e; simpa using this)⟩⟩
theorem Row1.keepP (h : Row1 w A n c xs) (ho : Only S w w') (hs : 0 < n → ∀ a, A = some a → a.block ∉ S) : Row1 w' A n c xs :=
  ⟨h.len, h.le, h.cm, fun hn => by
    obtain ⟨g, o, e, hc⟩ := h.at_ hn
    exact ⟨g, o, e, fun i hi => ho.cell (hc i hi) (by have := hs hn _ e; simpa using this)⟩⟩
theorem Row1.keep0 (h : Row1 w A n c xs) (ho : Only [] w w') : Row1 w' A n c xs := h.keep ho (by simp)
theorem Row1.lt (h : Row1 w A n c xs) (hn : 0 < n) : ∃ g o, A = some ⟨g, o, none⟩ ∧ g < w.heap.size := by
  obtain ⟨g, o, e, hc⟩ := h.at_ hn
  exact ⟨g, o, e, lt_of_cell (hc 0 (by have := h.len; omega))⟩
theorem Row1.block_lt (h : Row1 w A n c xs) (hn : 0 < n) : ∀ a, A = some a → a.block < w.heap.size := by
  obtain ⟨g, o, e, hc⟩ := h.at_ hn
  intro a ha
  rw [e] at ha
  injection ha with ha
  subst ha
  exact lt_of_cell (p := ⟨g, o + 0, none⟩) (hc 0 (by have := h.len; omega))
theorem Row1.drew (h : Row1 w A n c xs) : Row1 w.drew A n c xs := h.keep0 (Only.refl _ _).drew
theorem Row1.drewN (h : Row1 w A n c xs) (k : Nat) : Row1 (w.drewN k) A n c xs := h.keep0 ((Only.refl _ _).drewN k)
theorem Row1.alloc (h : Row1 w A n c xs) (o : Obj) : Row1 (w.alloc o) A n c xs := h.keep0 ((Only.refl _ _).alloc o)
theorem Row1.nil (w : World) : Row1 w none 0 0 [] := ⟨rfl, Nat.le_refl _, by simp [maxLen], fun h => absurd h (by omega)⟩
end

/-- bytes as cells -/
def bvs (bs : List UInt8) : List Value := bs.map fun c => Value.int .u8 (c.toNat : Int)
/-- ints as cells -/
def ivs (zs : List Int) : List Value := zs.map fun z => Value.int .i64 z
@[simp] theorem bvs_length (bs : List UInt8) : (bvs bs).length = bs.length := by simp [bvs]
@[simp] theorem ivs_length (zs : List Int) : (ivs zs).length = zs.length := by simp [ivs]
@[simp] theorem bvs_get (bs : List UInt8) (i : Nat) (h : i < (bvs bs).length) : (bvs bs)[i] = .int .u8 ((bs[i]'(by simpa using h)).toNat : Int) := by simp [bvs]
@[simp] theorem ivs_get (zs : List Int) (i : Nat) (h : i < (ivs zs).length) : (ivs zs)[i] = .int .i64 (zs[i]'(by simpa using h)) := by simp [ivs]

abbrev Bys (w : World) (A : Option Addr) (n c : Nat) (bs : List UInt8) : Prop := Row1 w A n c (bvs bs)
abbrev Ins (w : World) (A : Option Addr) (n c : Nat) (zs : List Int) : Prop := Row1 w A n c (ivs zs)

/-- block g is wholly the call's own (not frozen) and begins with the cells xs. -/
def Own (w : World) (g : Nat) (xs : List Value) : Prop := ∃ (cur : Array Value) (t : TypeId), w.heap[g]? = some (.cells cur t (0, 0)) ∧ cur.toList.take xs.length = xs

section
variable {S : List Nat} {w w' : World} {g : Nat} {xs : List Value}
theorem Own.lt (h : Own w g xs) : g < w.heap.size := by obtain ⟨cur, t, h1, _⟩ := h; exact lt_of_block h1
theorem Own.cell (h : Own w g xs) (i : Nat) (hi : i < xs.length) : w.cell? ⟨g, i, none⟩ = some xs[i] := by
  obtain ⟨cur, t, h1, h2⟩ := h
  rw [cell_of_row w g i cur t (0, 0) h1]
  have : cur.toList[i]? = some xs[i] := by
    have h3 : (cur.toList.take xs.length)[i]? = xs[i]? := by rw [h2]
    rw [List.getElem?_take, if_pos hi, List.getElem?_eq_getElem hi] at h3
    exact h3
  simpa using this
theorem Own.frozen (h : Own w g xs) (i : Nat) : w.frozen? ⟨g, i, none⟩ = false := by
  obtain ⟨cur, t, h1, h2⟩ := h
  simp [World.frozen?, h1]
theorem Own.keep (h : Own w g xs) (ho : Only S w w') (hg : g ∉ S) : Own w' g xs := by
  obtain ⟨cur, t, h1, h2⟩ := h
  exact ⟨cur, t, (ho.block g (lt_of_block h1) hg).trans h1, h2⟩
theorem Own.keep0 (h : Own w g xs) (ho : Only [] w w') : Own w' g xs := h.keep ho (by simp)
theorem Own.drew (h : Own w g xs) : Own w.drew g xs := h
theorem Own.drewN (h : Own w g xs) (n : Nat) : Own (w.drewN n) g xs := h
theorem Own.take (h : Own w g xs) (n : Nat) : Own w g (xs.take n) := by
  obtain ⟨cur, t, h1, h2⟩ := h
  refine ⟨cur, t, h1, ?_⟩
  have h3 : cur.toList.take (min n xs.length) = (cur.toList.take xs.length).take n := by rw [List.take_take]
  rw [List.length_take, h3, h2]
theorem take_set_le (L : List Value) (n j : Nat) (u : Value) (xs : List Value) (h : L.take n = xs) : (L.set j u).take n = xs.set j u := by
  rw [List.take_set, h]
theorem Own.set (h : Own w g xs) (j : Nat) (u : Value) : Own (w.setCell ⟨g, j, none⟩ u) g (xs.set j u) := by
  obtain ⟨cur, t, h1, h2⟩ := h
  refine ⟨cur.setIfInBounds j u, t, ?_, ?_⟩
  · simp [World.setCell, Array.getElem?_modify, h1]
  · rw [List.length_set]
    simp only [Array.toList_setIfInBounds]
    exact take_set_le _ _ _ _ _ h2
theorem Own.far (h : Own w g xs) {p : Addr} (hp : p.block ≠ g) (u : Value) : Own (w.setCell p u) g xs :=
  h.keep (S := [p.block]) ((Only.refl _ _).set (by simp) u) (by simpa using Ne.symm hp)
theorem Own.alloc (h : Own w g xs) (o : Obj) : Own (w.alloc o) g xs := h.keep0 ((Only.refl _ _).alloc o)
theorem Own.new (w : World) (cs : Array Value) (t : TypeId) : Own (w.alloc (.cells cs t)) w.heap.size cs.toList := ⟨cs, t, heap_alloc_new w _, by rw [Array.length_toList, ← Array.length_toList, List.take_length]⟩
theorem Own.of_own {base : Nat} {e : TypeId} {g c n : Nat} (h : w.ownsRow base e 1 (.slice (some ⟨g, 0, none⟩) n c) n xs) : Own w g xs ∧ base ≤ g ∧ n ≤ c ∧ c ≤ maxLen ∧ xs.length = n := by
  obtain ⟨h1, h2⟩ := h
  rcases h2 with ⟨h2, _⟩ | ⟨g', cap, cur, hv, hb, hh, hn, hm, hs, ht⟩
  · cases h2
  · simp at hv
    obtain ⟨rfl, rfl⟩ := hv
    simp at h1 ht
    exact ⟨⟨cur, e, hh, by rw [h1]; exact ht⟩, hb, hn, hm, h1⟩
theorem Row1.of_Own {n c : Nat} (h : Own w g xs) (hl : xs.length = n) (hc : n ≤ c) (hm : c ≤ maxLen) : Row1 w (some ⟨g, 0, none⟩) n c xs :=
  ⟨hl, hc, hm, fun _ => ⟨g, 0, rfl, fun i hi => by rw [Nat.zero_add]; exact h.cell i hi⟩⟩
theorem Row1.news {A : Option Addr} {n c : Nat} {ad : Addr} (h : Row1 w A n c xs) (hA : A = some ad) : ∀ j u, xs[j]? = some u → w.cell? (ad.add j) = some u := by
  intro j u hu
  have hj : j < xs.length := by
    rcases Nat.lt_or_ge j xs.length with h' | h'
    · exact h'
    · rw [List.getElem?_eq_none h'] at hu; cases hu
  obtain ⟨g, o, e, hc⟩ := h.at_ (by have := h.len; omega)
  rw [hA] at e
  injection e with e
  subst e
  have h1 := hc j hj
  rw [List.getElem?_eq_getElem hj] at hu
  injection hu with hu
  have hadd : (⟨g, o, none⟩ : Addr).add j = ⟨g, o + j, none⟩ := by unfold Addr.add; split <;> simp_all
  rw [hadd, h1, hu]
end

/-- the address of 'x[l:..]' (one-cell elements) -/
def cutA (A : Option Addr) (c l : Nat) : Option Addr := if c = l then A else A.map (·.add l)
theorem run_slice1 {P : Program} (w : World) (t e : TypeId) (ht : P.underlying t = some (.slice e)) (hs : (P.info? e).map (·.size) = some 1) (A : Option Addr) (len cap : Nat) (li hi : Int) (l h m : Nat) (kl kh : IntKind)
    (e1 : li = l) (e2 : hi = h) (hl : l ≤ h) (hh : h ≤ cap) (hm : h - l = m) :
    (Instr.slice t (.slice A len cap) (some (.int kl li)) (some (.int kh hi)) none).run P w = .ok (.slice (cutA A cap l) m (cap - l)) w := by
  subst e1 e2 hm
  cases hq : P.info? e with
  | none => simp [hq] at hs
  | some i =>
    simp [hq] at hs
    simp [Instr.slice, Instr.sliceBounds, Instr.sliceBound, run_underlying ht, sizeOf, typeInfo, hq, asIntOf, hl, hh, hs, cutA]
theorem run_slice1_lo {P : Program} (w : World) (t e : TypeId) (ht : P.underlying t = some (.slice e)) (hs : (P.info? e).map (·.size) = some 1) (A : Option Addr) (len cap : Nat) (li : Int) (l m : Nat) (kl : IntKind)
    (e1 : li = l) (hl : l ≤ len) (hm : len - l = m) :
    (Instr.slice t (.slice A len cap) (some (.int kl li)) none none).run P w = .ok (.slice (cutA A cap l) m (cap - l)) w := by
  subst e1 hm
  cases hq : P.info? e with
  | none => simp [hq] at hs
  | some i =>
    simp [hq] at hs
    simp [Instr.slice, Instr.sliceBounds, Instr.sliceBound, run_underlying ht, sizeOf, typeInfo, hq, asIntOf, hl, hs, cutA]
theorem Row1.cut {w : World} {A : Option Addr} {n c l m : Nat} {xs : List Value} (h : Row1 w A n c xs) (hl : l + m ≤ n) : Row1 w (cutA A c l) m (c - l) ((xs.drop l).take m) := by
  have h1 := h.len
  have h2 := h.le
  have h3 := h.cm
  refine ⟨by simp; omega, by omega, by omega, fun hm => ?_⟩
  obtain ⟨g, o, rfl, hc⟩ := h.at_ (by omega)
  rw [cutA, if_neg (by omega)]
  have hadd : (⟨g, o, none⟩ : Addr).add l = ⟨g, o + l, none⟩ := by unfold Addr.add; split <;> simp_all
  refine ⟨g, o + l, by simp [hadd], fun i hi => ?_⟩
  simp at hi
  rw [List.getElem_take, List.getElem_drop, Nat.add_assoc]
  exact hc (l + i) (by omega)

/-- 'append(s, x...)', s a row of the call's own, x whatever reads as a row of one-cell elements. -/
theorem run_append_row1 {P : Program} (w : World) (base : Nat) (t ty e : TypeId) (i : TypeInfo) (z : Value) (bytes : Nat) (ht : P.underlying t = some (.slice e)) (hi : P.info? e = some i) (hz : i.zero = some z)
    (hsize : i.size = 1) (hby : i.bytes = bytes) (hzs : z.cells.size = 1)
    (v : Value) (n : Nat) (xs : List Value) (hown : w.ownsRow base e 1 v n xs)
    (A : Option Addr) (m c : Nat) (news : List Value) (hr : Row1 w A m c news) (h1 : ∀ u ∈ news, u.oneCell' = true)
    (h63 : n + m ≤ maxLen) (hbytes : (n + m) * bytes ≤ 140737488355328) (hbase : base ≤ w.heap.size) :
    ∃ v' w', (Builtin.append_ #[t, t] ty #[v, .slice A m c]).run P w = .ok v' w' ∧ w'.ownsRow base e 1 v' (n + m) (xs ++ news) ∧ w.grownBy w' v.ownBlock ∧
      (v'.ownBlock = v.ownBlock ∨ v'.ownBlock = some w.heap.size) := by
  rcases A with _ | ad
  · have hm : m = 0 := by
      rcases Nat.eq_zero_or_pos m with h0 | h0
      · exact h0
      · obtain ⟨g, o, h, _⟩ := hr.at_ h0
        cases h
    subst hm
    have hn : news = [] := List.eq_nil_of_length_eq_zero hr.len
    subst hn
    refine ⟨v, w, ?_, by simpa using hown, World.grownBy.refl w _, .inl rfl⟩
    rcases hown.2 with ⟨rfl, rfl⟩ | ⟨g, cap, cur, rfl, _, _, hnc, _⟩
    · simp [Builtin.append_, run_underlying ht, sizeOf, typeInfo, hi, Builtin.lenOf, Builtin.firstCells]
    · simp [Builtin.append_, run_underlying ht, sizeOf, typeInfo, hi, Builtin.lenOf, Builtin.firstCells, hnc, storeCells]
  · obtain ⟨v', w', hrun, h2, h3, _, h5⟩ := run_append_own_at (P := P) w base t ty e i z 1 bytes ht hi hz hsize hby hzs (by omega) v n xs hown ad m c news (by rw [hr.len]; omega) (hr.news rfl) h1 h63 hbytes hbase
    exact ⟨v', w', hrun, h2, h3, h5⟩

theorem wpList_append_row1 {P : Program} {w : World} {ops : Array Oper} {rest : List Oper} {o : Oper} {a : Act} {Q : Exit → Act → World → Prop} (hgd : o.guard = none) (s x : Operand) (t : TypeId)
    (ho : o.op = .call { callee := .builtin .append, args := #[s, x], argTypes := #[t, t] })
    (base : Nat) (e : TypeId) (i : TypeInfo) (z : Value) (bytes : Nat) (ht : P.underlying t = some (.slice e)) (hi : P.info? e = some i) (hz : i.zero = some z)
    (hsize : i.size = 1) (hby : i.bytes = bytes) (hzs : z.cells.size = 1)
    (v : Value) (n : Nat) (xs : List Value) (hs : a.eval s = v) (hown : w.ownsRow base e 1 v n xs)
    (A : Option Addr) (m c : Nat) (news : List Value) (hx : a.eval x = .slice A m c) (hr : Row1 w A m c news) (h1 : ∀ u ∈ news, u.oneCell' = true)
    (h63 : n + m ≤ maxLen) (hbytes : (n + m) * bytes ≤ 140737488355328) (hbase : base ≤ w.heap.size)
    (h : ∀ v' w', w'.ownsRow base e 1 v' (n + m) (xs ++ news) → w.grownBy w' v.ownBlock → (v'.ownBlock = v.ownBlock ∨ v'.ownBlock = some w.heap.size) → wpList P ops Q rest (a.put o.dst v') w') : wpList P ops Q (o :: rest) a w := by
  refine wpList_plain hgd fun K hK => ?_
  obtain ⟨v', w', hrun, h2, h3, h4⟩ := run_append_row1 (P := P) w base t o.type e i z bytes ht hi hz hsize hby hzs v n xs hown A m c news hr h1 h63 hbytes hbase
  unfold Oper.wp execOp
  simp only [ho, resolve, invoke, builtin, Sem.run_bind, Sem.run_pure, Result.andThen_ok, List.map_toArray, List.map_cons, List.map_nil, hs, hx, hrun]
  exact hK _ _ (h v' w' h2 h3 h4)

/-- the same as one step of a region that draws its order -/
theorem step_append_row1 {P : Program} {w : World} {ops : Array Oper} {o : Oper} {a : Act} {K : Act → World → Prop} {Q : Exit → Act → World → Prop} {E : Prop} (hgd : o.guard = none) (s x : Operand) (t : TypeId)
    (ho : o.op = .call { callee := .builtin .append, args := #[s, x], argTypes := #[t, t] })
    (base : Nat) (e : TypeId) (i : TypeInfo) (z : Value) (bytes : Nat) (ht : P.underlying t = some (.slice e)) (hi : P.info? e = some i) (hz : i.zero = some z)
    (hsize : i.size = 1) (hby : i.bytes = bytes) (hzs : z.cells.size = 1)
    (v : Value) (n : Nat) (xs : List Value) (hs : a.eval s = v) (hown : w.ownsRow base e 1 v n xs)
    (A : Option Addr) (m c : Nat) (news : List Value) (hx : a.eval x = .slice A m c) (hr : Row1 w A m c news) (h1 : ∀ u ∈ news, u.oneCell' = true)
    (h63 : n + m ≤ maxLen) (hbytes : (n + m) * bytes ≤ 140737488355328) (hbase : base ≤ w.heap.size)
    (h : ∀ v' w', w'.ownsRow base e 1 v' (n + m) (xs ++ news) → w.grownBy w' v.ownBlock → (v'.ownBlock = v.ownBlock ∨ v'.ownBlock = some w.heap.size) → K (a.put o.dst v') w') :
    if Region.wanted o (yielded ops a.tmps) = true then Oper.wp P o a w K Q else E := by
  have hw : Region.wanted o (yielded ops a.tmps) = true := by simp [Region.wanted, hgd]
  rw [if_pos hw]
  obtain ⟨v', w', hrun, h2, h3, h4⟩ := run_append_row1 (P := P) w base t o.type e i z bytes ht hi hz hsize hby hzs v n xs hown A m c news hr h1 h63 hbytes hbase
  unfold Oper.wp execOp
  simp only [ho, resolve, invoke, builtin, Sem.run_bind, Sem.run_pure, Result.andThen_ok, List.map_toArray, List.map_cons, List.map_nil, hs, hx, hrun]
  exact h v' w' h2 h3 h4

/-- a slice that the call gathers by append: its cells, its own block from base on -/
def Gath (w : World) (base e : Nat) (v : Value) (xs : List Value) : Prop := w.ownsRow base e 1 v xs.length xs ∧ base ≤ w.heap.size
theorem Gath.nil (w : World) (base e : Nat) (h : base ≤ w.heap.size) : Gath w base e (.slice none 0 0) [] := ⟨World.ownsRow_nil w base e 1, h⟩
theorem Gath.keep {w w' : World} {base e : Nat} {v : Value} {xs : List Value} {S : List Nat} (h : Gath w base e v xs) (ho : Only S w w') (hs : ∀ k, v.ownBlock = some k → k ∉ S) : Gath w' base e v xs := by
  obtain ⟨⟨h1, h2⟩, hb⟩ := h
  refine ⟨⟨h1, ?_⟩, Nat.le_trans hb ho.size⟩
  rcases h2 with h2 | ⟨g, cap, cur, rfl, hb', hh, rest⟩
  · exact .inl h2
  · exact .inr ⟨g, cap, cur, rfl, hb', (ho.block g (lt_of_block hh) (hs g rfl)).trans hh, rest⟩
theorem Gath.keep0 {w w' : World} {base e : Nat} {v : Value} {xs : List Value} (h : Gath w base e v xs) (ho : Only [] w w') : Gath w' base e v xs := h.keep ho (by simp)
/-- its value, as a row; its block -/
theorem Gath.form {w : World} {base e : Nat} {v : Value} {xs : List Value} (h : Gath w base e v xs) : ∃ A c, v = .slice A xs.length c ∧ Row1 w A xs.length c xs ∧ (∀ a, A = some a → base ≤ a.block ∧ a.block < w.heap.size) := by
  obtain ⟨⟨h1, h2⟩, hb⟩ := h
  rcases h2 with ⟨rfl, h0⟩ | ⟨g, cap, cur, rfl, hb', hh, hn, hm, hs, ht⟩
  · have e : xs = [] := List.eq_nil_of_length_eq_zero h0
    subst e
    exact ⟨none, 0, rfl, Row1.nil w, by simp⟩
  · refine ⟨_, cap, rfl, Row1.of_Own ⟨cur, _, hh, by simpa using ht⟩ rfl hn hm, ?_⟩
    intro a ha
    injection ha with ha
    subst ha
    exact ⟨hb', lt_of_block hh⟩
theorem Gath.formN {w : World} {base e n : Nat} {v : Value} {xs : List Value} (h : Gath w base e v xs) (hn : xs.length = n) : ∃ A c, v = .slice A n c ∧ Row1 w A n c xs ∧ (∀ a, A = some a → base ≤ a.block ∧ a.block < w.heap.size) := by
  subst hn; exact h.form
theorem Gath.own {w w' : World} {base e n : Nat} {v : Value} {xs : List Value} (h : Gath w base e v xs) (ho : Only [] w w') (hn : xs.length = n) : w'.ownsRow base e 1 v n xs := by
  subst hn; exact (h.keep0 ho).1
theorem Gath.base_le {w w' : World} {base e : Nat} {v : Value} {xs : List Value} (h : Gath w base e v xs) (ho : Only [] w w') : base ≤ w'.heap.size := (h.keep0 ho).2
theorem Gath.grown {w0 w w' : World} {base e : Nat} {v v' : Value} {xs ys : List Value} {m : Nat} {S : List Nat} (h : Gath w base e v xs) (hO : Only S w0 w) (hB : base = w0.heap.size) (ho : w'.ownsRow base e 1 v' m ys) (hm : m = ys.length) (hg : w.grownBy w' v.ownBlock) :
    Gath w' base e v' ys ∧ Only S w0 w' := by
  subst hm
  refine ⟨⟨ho, Nat.le_trans h.2 hg.size⟩, hO.grown hg fun k hk => ?_⟩
  right
  obtain ⟨A, c, rfl, _, hA⟩ := h.form
  rcases A with _ | a
  · simp [Value.ownBlock] at hk
  · simp [Value.ownBlock] at hk
    have := (hA a rfl).1
    omega

theorem cutA_at {g c k n : Nat} (h : k < n) (hc : n ≤ c) : cutA (some ⟨g, 0, none⟩) c k = some ⟨g, k, none⟩ := by
  rw [cutA, if_neg (by omega)]
  simp only [Option.map_some, Addr.add]
  split <;> simp_all
theorem bvs_cut (bs : List UInt8) (l m : Nat) : ((bvs bs).drop l).take m = bvs ((bs.drop l).take m) := by simp [bvs]
theorem ivs_cut (bs : List Int) (l m : Nat) : ((ivs bs).drop l).take m = ivs ((bs.drop l).take m) := by simp [ivs]
theorem bvs_one (bs : List UInt8) : ∀ u ∈ bvs bs, u.oneCell' = true := by
  intro u hu
  simp only [bvs, List.mem_map] at hu
  obtain ⟨c, _, rfl⟩ := hu
  rfl
theorem ivs_one (zs : List Int) : ∀ u ∈ ivs zs, u.oneCell' = true := by
  intro u hu
  simp only [ivs, List.mem_map] at hu
  obtain ⟨c, _, rfl⟩ := hu
  rfl

/-- 'copy(dst, src)' where dst begins at place off of a block of the call's own (or nothing goes over). The world behind it: only that block has turned. -/
theorem run_copy_bys {P : Program} (w : World) (dT sT ty elem : TypeId) (hu : P.underlying dT = some (.slice elem)) (hsz : (P.info? elem).map (·.size) = some 1)
    (dp sp : Option Addr) (dLen dCap sLen sCap g off : Nat) (bs xs : List Value) (hs : Row1 w sp sLen sCap xs) (hx1 : ∀ u ∈ xs, u.oneCell' = true) (hle : sLen ≤ dLen) (hfit : off + sLen ≤ bs.length)
    (hd : 0 < sLen → dp = some ⟨g, off, none⟩) (hown : 0 < bs.length → Own w g bs) :
    ∃ w', (Builtin.copy_ #[dT, sT] ty #[.slice dp dLen dCap, .slice sp sLen sCap]).run P w = .ok (goInt sLen) w' ∧
      (0 < bs.length → Own w' g (bs.take off ++ (xs ++ bs.drop (off + xs.length)))) ∧ Only [g] w w' ∧ (sLen = 0 → w' = w) := by
  have hl := hs.len
  by_cases h0 : sLen = 0
  · subst h0
    obtain rfl : xs = [] := List.eq_nil_of_length_eq_zero hl
    refine ⟨w, run_copy_none (P := P) w dT sT ty elem dp sp dLen dCap 0 sCap hu hsz (by simp), fun h => ?_, Only.refl _ _, fun _ => rfl⟩
    simpa using hown h
  · have e := hd (by omega)
    subst e
    obtain ⟨ga, oa, rfl, _⟩ := hs.at_ (by omega)
    obtain ⟨cur, t, hc, ht⟩ := hown (by omega)
    have hcl : bs.length ≤ cur.size := by
      have : (cur.toList.take bs.length).length = bs.length := by rw [ht]
      simp at this
      omega
    have hrun := run_copy_row (P := P) w dT sT ty elem g off dLen dCap ⟨ga, oa, none⟩ sLen sCap cur t xs hu hsz hc (by rw [hl]; exact (Nat.min_eq_left hle).symm) (hs.news rfl) (by omega) hx1
    rw [hl] at hrun
    refine ⟨_, hrun, fun _ => ⟨_, t, setRow_heap w g _ _ t _ hc, ?_⟩, ⟨rfl, rfl, rfl, by simp [World.setRow], fun k _ hk => setRow_other w g k _ (by simpa using hk)⟩, fun h => absurd h h0⟩
    have e1 : cur.toList.take off = bs.take off := by rw [← ht, List.take_take, Nat.min_eq_left (by omega)]
    have e2 : (cur.toList.drop (off + sLen)).take (bs.length - (off + sLen)) = bs.drop (off + sLen) := by
      rw [← List.drop_take, ht]
    have e3 : (bs.take off ++ (xs ++ bs.drop (off + xs.length))).length = bs.length := by simp; omega
    have e4 : (bs.take off).length = off := by simp; omega
    rw [e3, hl, e1, List.append_assoc, List.take_append, e4, List.take_of_length_le (by omega), List.take_append, hl, ← e2, List.take_of_length_le (l := xs) (by omega)]
    congr 3
    omega

theorem wpList_copy_bys {P : Program} {w : World} {ops : Array Oper} {rest : List Oper} {o : Oper} {a : Act} {Q : Exit → Act → World → Prop} (hgd : o.guard = none) (d s : Operand) (dT sT : TypeId)
    (ho : o.op = .call { callee := .builtin .copy, args := #[d, s], argTypes := #[dT, sT] }) (elem : TypeId) (hu : P.underlying dT = some (.slice elem)) (hsz : (P.info? elem).map (·.size) = some 1)
    (dp sp : Option Addr) (dLen dCap sLen sCap : Nat) (hed : a.eval d = .slice dp dLen dCap) (hes : a.eval s = .slice sp sLen sCap)
    (g off : Nat) (bs xs : List Value) (hs : Row1 w sp sLen sCap xs) (hx1 : ∀ u ∈ xs, u.oneCell' = true) (hle : sLen ≤ dLen) (hfit : off + sLen ≤ bs.length)
    (hd : 0 < sLen → dp = some ⟨g, off, none⟩) (hown : 0 < bs.length → Own w g bs)
    (h : ∀ w', (0 < bs.length → Own w' g (bs.take off ++ (xs ++ bs.drop (off + xs.length)))) → Only [g] w w' → (sLen = 0 → w' = w) → wpList P ops Q rest (a.put o.dst (goInt sLen)) w') : wpList P ops Q (o :: rest) a w := by
  refine wpList_plain hgd fun K hK => ?_
  obtain ⟨w', hrun, h1, h2, h3⟩ := run_copy_bys (P := P) w dT sT o.type elem hu hsz dp sp dLen dCap sLen sCap g off bs xs hs hx1 hle hfit hd hown
  unfold Oper.wp
  simp [execOp, ho, resolve, invoke, builtin, hed, hes, hrun, Result.andThen]
  exact hK _ _ (h w' h1 h2 h3)

/-- the same as one step of a region that draws its order -/
theorem step_copy_bys {P : Program} {w : World} {ops : Array Oper} {o : Oper} {a : Act} {K : Act → World → Prop} {Q : Exit → Act → World → Prop} {E : Prop} (hgd : o.guard = none) (d s : Operand) (dT sT : TypeId)
    (ho : o.op = .call { callee := .builtin .copy, args := #[d, s], argTypes := #[dT, sT] }) (elem : TypeId) (hu : P.underlying dT = some (.slice elem)) (hsz : (P.info? elem).map (·.size) = some 1)
    (dp sp : Option Addr) (dLen dCap sLen sCap : Nat) (hed : a.eval d = .slice dp dLen dCap) (hes : a.eval s = .slice sp sLen sCap)
    (g off : Nat) (bs xs : List Value) (hs : Row1 w sp sLen sCap xs) (hx1 : ∀ u ∈ xs, u.oneCell' = true) (hle : sLen ≤ dLen) (hfit : off + sLen ≤ bs.length)
    (hd : 0 < sLen → dp = some ⟨g, off, none⟩) (hown : 0 < bs.length → Own w g bs)
    (h : ∀ w', (0 < bs.length → Own w' g (bs.take off ++ (xs ++ bs.drop (off + xs.length)))) → Only [g] w w' → (sLen = 0 → w' = w) → K (a.put o.dst (goInt sLen)) w') :
    if Region.wanted o (yielded ops a.tmps) = true then Oper.wp P o a w K Q else E := by
  have hw : Region.wanted o (yielded ops a.tmps) = true := by simp [Region.wanted, hgd]
  rw [if_pos hw]
  obtain ⟨w', hrun, h1, h2, h3⟩ := run_copy_bys (P := P) w dT sT o.type elem hu hsz dp sp dLen dCap sLen sCap g off bs xs hs hx1 hle hfit hd hown
  unfold Oper.wp
  simp [execOp, ho, resolve, invoke, builtin, hed, hes, hrun, Result.andThen]
  exact h w' h1 h2 h3

/-- a row object: its struct lies in block p, its bytes in block g, none frozen; it has the bytes bs and stands at place k. Of no bytes g is p. -/
structure RowAt (w : World) (p g : Nat) (bs : List UInt8) (k : Nat) : Prop where
  ne : 0 < bs.length → p ≠ g
  fb : ∃ A c, w.cell? ⟨p, 0, none⟩ = some (.slice A bs.length c) ∧ bs.length ≤ c ∧ c ≤ maxLen ∧ (0 < bs.length → A = some ⟨g, 0, none⟩)
  fk : w.cell? ⟨p, 1, none⟩ = some (.int .i64 (k : Int))
  pz : ∀ i, w.frozen? ⟨p, i, none⟩ = false
  own : 0 < bs.length → Own w g (bvs bs)
  le : k ≤ bs.length
  mx : bs.length ≤ 65536
  ge : bs.length = 0 → g = p

section
variable {S : List Nat} {w w' : World} {p g k : Nat} {bs : List UInt8}
theorem RowAt.lp (h : RowAt w p g bs k) : p < w.heap.size := lt_of_cell h.fk
theorem RowAt.lg (h : RowAt w p g bs k) : g < w.heap.size := by
  rcases Nat.eq_zero_or_pos bs.length with h0 | h0
  · rw [h.ge h0]; exact h.lp
  · exact (h.own h0).lt
theorem RowAt.cl (h : RowAt w p g bs k) (i : Nat) (hi : i < bs.length) : w.cell? ⟨g, i, none⟩ = some (.int .u8 (bs[i].toNat : Int)) := by
  rw [(h.own (by omega)).cell i (by simpa using hi)]; simp
theorem RowAt.gz (h : RowAt w p g bs k) (h0 : 0 < bs.length) (i : Nat) : w.frozen? ⟨g, i, none⟩ = false := (h.own h0).frozen i
theorem RowAt.keep (h : RowAt w p g bs k) (ho : Only S w w') (hp : p ∉ S) (hg : g ∉ S) : RowAt w' p g bs k :=
  ⟨h.ne, by obtain ⟨A, c, h1, h2⟩ := h.fb; exact ⟨A, c, ho.cell h1 hp, h2⟩, ho.cell h.fk hp, fun i => (ho.frozen (p := ⟨p, i, none⟩) h.lp hp).trans (h.pz i),
    fun h0 => (h.own h0).keep ho hg, h.le, h.mx, h.ge⟩
theorem RowAt.keep0 (h : RowAt w p g bs k) (ho : Only [] w w') : RowAt w' p g bs k := h.keep ho (by simp) (by simp)
theorem cell_set_ne {p q : Addr} {v : Value} (h : p ≠ q) (hc : w.cell? q = some v) (u : Value) : (w.setCell p u).cell? q = some v := (World.cell?_setCell_other w p q u h).trans hc
/-- the place is set -/
theorem RowAt.place (h : RowAt w p g bs k) (k' : Nat) (hk : k' ≤ bs.length) : RowAt (w.setCell ⟨p, 1, none⟩ (.int .i64 (k' : Int))) p g bs k' :=
  ⟨h.ne, by obtain ⟨A, c, h1, h2⟩ := h.fb; exact ⟨A, c, cell_set_ne (by simp) h1 _, h2⟩, World.cell?_setCell_same w _ _ h.fk, fun i => (World.frozen?_setCell w _ _ _).trans (h.pz i),
    fun h0 => (h.own h0).far (h.ne h0) _, hk, h.mx, h.ge⟩
/-- a byte is set -/
theorem RowAt.byte (h : RowAt w p g bs k) (j : Nat) (c : UInt8) (hj : j < bs.length) : RowAt (w.setCell ⟨g, j, none⟩ (.int .u8 (c.toNat : Int))) p g (bs.set j c) k :=
  ⟨by simpa using h.ne, by obtain ⟨A, c, h1, h2⟩ := h.fb; exact ⟨A, c, cell_set_ne (by have := h.ne (by omega); simp) (by simpa using h1) _, by simpa using h2⟩,
    cell_set_ne (by have := h.ne (by omega); simp) h.fk _, fun i => (World.frozen?_setCell w _ _ _).trans (h.pz i),
    fun h0 => by
      have := (h.own (by omega)).set j (.int .u8 (c.toNat : Int))
      simpa [bvs] using this,
    by simpa using h.le, by simpa using h.mx, by simpa using h.ge⟩
theorem RowAt.facts {N j : Nat} (h : RowAt w p g bs k) (hN : bs.length = N) (hj : j < N) : ∃ old c, w.cell? ⟨p, 0, none⟩ = some (.slice (some ⟨g, 0, none⟩) N c) ∧ N ≤ c ∧ w.cell? ⟨p, 1, none⟩ = some (.int .i64 (k : Int)) ∧
    w.cell? ⟨g, j, none⟩ = some old ∧ w.frozen? ⟨g, j, none⟩ = false := by
  subst hN
  obtain ⟨A, c, h1, h2, h3, h4⟩ := h.fb
  exact ⟨_, c, by rw [h1, h4 (by omega)], h2, h.fk, h.cl j hj, h.gz (by omega) j⟩
/-- bytes are laid by a copy -/
theorem RowAt.copied {ys : List Value} {ys' : List UInt8} (h : RowAt w p g bs k) (h0 : 0 < bs.length) (hO : Only [g] w w') (hown : 0 < bs.length → Own w' g ys) (hy : ys = bvs ys') (hl : ys'.length = bs.length) : RowAt w' p g ys' k := by
  have hne := h.ne h0
  exact ⟨fun _ => hne, by obtain ⟨A, c, h1, h2, h3, h4⟩ := h.fb; rw [hl]; exact ⟨A, c, hO.cell h1 (by simpa using hne), h2, h3, fun _ => h4 h0⟩, hO.cell h.fk (by simpa using hne),
      fun i => (hO.frozen (p := ⟨p, i, none⟩) h.lp (by simpa using hne)).trans (h.pz i), fun _ => by rw [← hy]; exact hown h0, by rw [hl]; exact h.le, by rw [hl]; exact h.mx, fun h' => by omega⟩
theorem RowAt.drew (h : RowAt w p g bs k) : RowAt w.drew p g bs k := h.keep0 ((Only.refl _ _).drew)
theorem RowAt.drewN (h : RowAt w p g bs k) (n : Nat) : RowAt (w.drewN n) p g bs k := h.keep0 ((Only.refl _ _).drewN n)
theorem RowAt.alloc (h : RowAt w p g bs k) (o : Obj) : RowAt (w.alloc o) p g bs k := h.keep0 ((Only.refl _ _).alloc o)
end
end Go.Kn
