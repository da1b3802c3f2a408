/- TakeA, Mem, OwnN, Enter, Leaf, ItemA, Plain, ItemP, ItemQ, Wd, ItemR, RowA, RefA, RowB, RowC, RefB, RefC, Crc, CrcB, TurnP, Sealed, RowD: joined by pack.py, without what the claim does not use. -/
import Derived.Test.YtgcfdjcpcclcjaaGreatRows
import Derived.Test.YtgcfdjcpcclcjaaGreatChecked
import Derived.OrdersHeld
import Derived.Deep.RegionHeld
import Derived.WalkKit
import Derived.Deep.Draws
import Derived.Lib.Hide
import Derived.Laws.CopyOwn
import Derived.Maps.AppendAt
import Derived.OwnWalk
import Derived.Deep.AppendLies
import Derived.KernelRfl
import Derived.JoinedOf
import Derived.WalkLawsBesides
import Derived.WalkSpells
import Derived.Outline
import Derived.IntWalk
import Derived.Laws.Bits64b
import Derived.RangeFuncNested
import Derived.RangeFuncBound
import Derived.RangeFuncCalls
import Derived.RangeFuncLeaves
import Derived.Shelf.Abstract
import Derived.Shelf.RegionOpen
import Derived.OwnWalkIn
import Derived.TacticsInMore
import Derived.LoopNIn
import Derived.LoopIn
import Derived.Deep.RegionHeld3
import Derived.Deep.QuietTactic
import Derived.BigQuiet
import Derived.StillTailTactics
import Derived.Deep.LoopGhost
import Derived.Deep.RegionWith
import Derived.BigRegion
import Derived.Deep.RegionLaw
import Derived.Lib.AppendZerosOnto
import Derived.RangeFuncWrites
import Derived.Deep.MidRow
import Derived.Great.BuildSlice
import Derived.Laws.BytesString
import Derived.Deep.Cut
import Derived.Deep.DeepCutAuto
import Derived.OpenShut
import Derived.Maps.OwnIn
import Derived.ProofKit
import Derived.ShutString
import Derived.ChangeOld
import Derived.Below
import Derived.Deep.Slices
import Derived.Deep.Fields
import Derived.ChangeSame
import Derived.Sort.CutIn
import Derived.Sort.LoopGhostIn
import Derived.Laws.IdiomArrays
set_option linter.unusedVariables false
set_option linter.unusedSimpArgs false
namespace Go.Kn
open Go
section
variable {P : Program} {ops : Array Oper} {Q : Exit → Act → World → Prop} {S : World → Prop} {fuel : Nat} {listed : Array Bool} {a : Act} {w : World}
/-- an operation that only reads -/
theorem takeS (i : Nat) (oi : Oper) {v : Value} {a' : Act} (h : wpAnyH P .any ops Q S fuel (listed.setIfInBounds i true) a' w)
  (hi : ops[i]? = some oi := by rfl) (hw : Region.wanted oi (yielded ops a.tmps) = true := by rfl)
  (hy : ∀ w, S w → (execOp a.eval oi).run P w = .ok (.value v) w := by (intro w hSw; (try dsimp only at hSw); go_simp; all_goals (try with_reducible rfl)))
  (hs : Region.noSelect ops = true := by kernel_rfl) (hf : Region.free .any ops listed i = true := by kernel_rfl) (hr : (Region.ready .any ops listed).contains i = true := by kernel_rfl)
  (hQ : ∀ c a w, Q (.panic c) (a.put oi.dst v) w → Q (.panic c) a w := by exact fun _ _ _ h => h) (hS : S w := by assumption)
  (ha : a.put oi.dst v = a' := by (simp only [Act.put, List.setIfInBounds_toArray, List.set_cons_zero, List.set_cons_succ]; try rfl)) : wpAnyH P .any ops Q S (fuel + 1) listed a w := by
 subst ha
 exact wpAnyH_take hi hs hf hr hQ (.inl ⟨hw, hy⟩) hS h
/-- one that is passed over -/
theorem takeN (i : Nat) (oi : Oper) {a' : Act} (h : wpAnyH P .any ops Q S fuel (listed.setIfInBounds i true) a' w)
  (hi : ops[i]? = some oi := by rfl) (hw : Region.wanted oi (yielded ops a.tmps) = false := by rfl)
  (hs : Region.noSelect ops = true := by kernel_rfl) (hf : Region.free .any ops listed i = true := by kernel_rfl) (hr : (Region.ready .any ops listed).contains i = true := by kernel_rfl)
  (hQ : ∀ c a w, Q (.panic c) (a.put oi.dst undef) w → Q (.panic c) a w := by exact fun _ _ _ h => h) (hS : S w := by assumption)
  (ha : a.put oi.dst undef = a' := by (simp only [Act.put, List.setIfInBounds_toArray, List.set_cons_zero, List.set_cons_succ]; try rfl)) : wpAnyH P .any ops Q S (fuel + 1) listed a w := by
 subst ha
 exact wpAnyH_take hi hs hf hr hQ (.inr ⟨hw, rfl⟩) hS h
/-- one that must come next -/
theorem takeR (i : Nat) (o : Oper) (h : ∀ K' : Act → World → Prop, Shut (∀ a w, S w → (S w → wpAnyH P .any ops Q S fuel (listed.setIfInBounds i true) a w) → K' a w) → if Region.wanted o (yielded ops a.tmps) = true then Oper.wp P o a w K' Q else K' (a.put o.dst undef) w)
  (ho : ops[i]? = some o := by rfl) (hr : Region.ready .any ops listed = [i] := by kernel_rfl) : wpAnyH P .any ops Q S (fuel + 1) listed a w :=
 wpAnyH_ready hr (by simp) (AllReadyH.cons ho h AllReadyH.nil)
end
end Go.Kn
namespace Go.Kn
open Go Go.RowKit
/-- w' is w but for new blocks and what was written into the blocks of S. -/
structure Only (S : List Nat) (w w' : World) : Prop where
 os : w'.os = w.os
 tape : w'.tape = w.tape
 output : w'.output = w.output
 size : w.heap.size ≤ w'.heap.size
 block : ∀ k, k < w.heap.size → k ∉ S → w'.heap[k]? = w.heap[k]?
section
variable {S T : List Nat} {a b c w w' : World}
theorem Only.refl (S : List Nat) (w : World) : Only S w w := ⟨rfl, rfl, rfl, Nat.le_refl _, fun _ _ _ => rfl⟩
theorem Only.trans (h : Only S a b) (k : Only T b c) (hT : ∀ i ∈ T, i ∈ S ∨ a.heap.size ≤ i) : Only S a c :=
 ⟨k.os.trans h.os, k.tape.trans h.tape, k.output.trans h.output, Nat.le_trans h.size k.size, fun i hi hn =>
  (k.block i (Nat.lt_of_lt_of_le hi h.size) (fun hm => by rcases hT i hm with h1 | h1; exact hn h1; omega)).trans (h.block i hi hn)⟩
theorem Only.trans' (h : Only S a b) (k : Only S b c) : Only S a c := h.trans k fun _ hi => .inl hi
theorem Only.mono (h : Only S a b) (hS : ∀ i ∈ S, i ∈ T ∨ a.heap.size ≤ i) : Only T a b :=
 ⟨h.os, h.tape, h.output, h.size, fun i hi hn => h.block i hi (fun hm => by rcases hS i hm with h1 | h1; exact hn h1; omega)⟩
theorem Only.congr (h : Only S b c) (e : b.heap = a.heap ∧ b.os = a.os ∧ b.tape = a.tape ∧ b.output = a.output) : Only S a c := by
 obtain ⟨e1, e2, e3, e4⟩ := e
 exact ⟨by rw [← e2]; exact h.os, by rw [← e3]; exact h.tape, by rw [← e4]; exact h.output, by rw [← e1]; exact h.size, fun k hk hn => by rw [← e1]; exact h.block k (by rw [e1]; exact hk) hn⟩
theorem Only.alloc (h : Only S a w) (o : Obj) : Only S a (w.alloc o) :=
 h.trans (T := []) ⟨rfl, rfl, rfl, by simp, fun k hk _ => Below.heap_alloc _ _ _ hk⟩ (by simp)
theorem Only.drew (h : Only S a w) : Only S a w.drew := ⟨h.os, h.tape, h.output, h.size, h.block⟩
theorem Only.drewN (h : Only S a w) (n : Nat) : Only S a (w.drewN n) := ⟨h.os, h.tape, h.output, h.size, h.block⟩
theorem Only.set (h : Only S a w) {p : Addr} (hp : p.block ∈ S ∨ a.heap.size ≤ p.block) (u : Value) : Only S a (w.setCell p u) :=
 h.trans (T := [p.block]) ⟨rfl, rfl, rfl, by simp [World.setCell], fun k _ hk => Below.heap_setCell _ _ _ _ (by simpa using hk)⟩
  (by simpa using hp)
theorem Only.grown {row : Option Nat} (h : Only S a w) (hg : w.grownBy w' row) (hr : ∀ k, row = some k → k ∈ S ∨ a.heap.size ≤ k) : Only S a w' :=
 ⟨hg.os.trans h.os, hg.tape.trans h.tape, hg.output.trans h.output, Nat.le_trans h.size hg.size, fun k hk hn =>
  (hg.block k (Nat.lt_of_lt_of_le hk h.size) (fun e => by rcases hr k e.symm with h1 | h1; exact hn h1; omega)).trans (h.block k hk hn)⟩
theorem Only.below (h : Only S w w') {B : Nat} (hS : ∀ i ∈ S, B ≤ i) (hB : B ≤ w.heap.size) : Below B w w' :=
 ⟨h.os, h.tape, h.output, h.size, fun k hk => h.block k (by omega) (fun hm => by have := hS k hm; omega)⟩
theorem Only.below0 (h : Only [] w w') : Below w.heap.size w w' := h.below (by simp) (Nat.le_refl _)
theorem lt_of_cell {p : Addr} {v : Value} (h : w.cell? p = some v) : p.block < w.heap.size := World.block_lt_of_cell? w p h
theorem Only.cell (h : Only S w w') {p : Addr} {v : Value} (hc : w.cell? p = some v) (hp : p.block ∉ S) : w'.cell? p = some v :=
 (World.cell?_of_block (w := w) (h.block p.block (lt_of_cell hc) hp)).trans hc
theorem Only.frozen (h : Only S w w') {p : Addr} (hl : p.block < w.heap.size) (hp : p.block ∉ S) : w'.frozen? p = w.frozen? p :=
 World.frozen?_of_block (w := w) (h.block p.block hl hp)
end
/-- a slice (address A, length, capacity) that reads as the cells xs, one cell an element. -/
structure Row1 (w : World) (A : Option Addr) (n c : Nat) (xs : List Value) : Prop where
 len : xs.length = n
 le : n ≤ c
 cm : c ≤ maxLen
 at_ : 0 < n → ∃ g o, A = some ⟨g, o, none⟩ ∧ ∀ i (h : i < xs.length), w.cell? ⟨g, o + i, none⟩ = some xs[i]
section
variable {S : List Nat} {w w' : World} {A : Option Addr} {n c : Nat} {xs : List Value}
theorem Row1.keep (h : Row1 w A n c xs) (ho : Only S w w') (hs : ∀ a, A = some a → a.block ∉ S) : Row1 w' A n c xs :=
 ⟨h.len, h.le, h.cm, fun hn => by
  obtain ⟨g, o, e, hc⟩ := h.at_ hn
  exact ⟨g, o, e, fun i hi => ho.cell (hc i hi) (by have := hs _ e; simpa using this)⟩⟩
theorem Row1.keepP (h : Row1 w A n c xs) (ho : Only S w w') (hs : 0 < n → ∀ a, A = some a → a.block ∉ S) : Row1 w' A n c xs :=
 ⟨h.len, h.le, h.cm, fun hn => by
  obtain ⟨g, o, e, hc⟩ := h.at_ hn
  exact ⟨g, o, e, fun i hi => ho.cell (hc i hi) (by have := hs hn _ e; simpa using this)⟩⟩
theorem Row1.keep0 (h : Row1 w A n c xs) (ho : Only [] w w') : Row1 w' A n c xs := h.keep ho (by simp)
theorem Row1.lt (h : Row1 w A n c xs) (hn : 0 < n) : ∃ g o, A = some ⟨g, o, none⟩ ∧ g < w.heap.size := by
 obtain ⟨g, o, e, hc⟩ := h.at_ hn
 exact ⟨g, o, e, lt_of_cell (hc 0 (by have := h.len; omega))⟩
theorem Row1.block_lt (h : Row1 w A n c xs) (hn : 0 < n) : ∀ a, A = some a → a.block < w.heap.size := by
 obtain ⟨g, o, e, hc⟩ := h.at_ hn
 intro a ha
 rw [e] at ha
 injection ha with ha
 subst ha
 exact lt_of_cell (p := ⟨g, o + 0, none⟩) (hc 0 (by have := h.len; omega))
theorem Row1.drew (h : Row1 w A n c xs) : Row1 w.drew A n c xs := h.keep0 (Only.refl _ _).drew
theorem Row1.drewN (h : Row1 w A n c xs) (k : Nat) : Row1 (w.drewN k) A n c xs := h.keep0 ((Only.refl _ _).drewN k)
theorem Row1.alloc (h : Row1 w A n c xs) (o : Obj) : Row1 (w.alloc o) A n c xs := h.keep0 ((Only.refl _ _).alloc o)
theorem Row1.nil (w : World) : Row1 w none 0 0 [] := ⟨rfl, Nat.le_refl _, by simp [maxLen], fun h => absurd h (by omega)⟩
end
/-- bytes as cells -/
def bvs (bs : List UInt8) : List Value := bs.map fun c => Value.int .u8 (c.toNat : Int)
/-- ints as cells -/
def ivs (zs : List Int) : List Value := zs.map fun z => Value.int .i64 z
@[simp] theorem bvs_length (bs : List UInt8) : (bvs bs).length = bs.length := by simp [bvs]
@[simp] theorem ivs_length (zs : List Int) : (ivs zs).length = zs.length := by simp [ivs]
@[simp] theorem bvs_get (bs : List UInt8) (i : Nat) (h : i < (bvs bs).length) : (bvs bs)[i] = .int .u8 ((bs[i]'(by simpa using h)).toNat : Int) := by simp [bvs]
@[simp] theorem ivs_get (zs : List Int) (i : Nat) (h : i < (ivs zs).length) : (ivs zs)[i] = .int .i64 (zs[i]'(by simpa using h)) := by simp [ivs]
abbrev Bys (w : World) (A : Option Addr) (n c : Nat) (bs : List UInt8) : Prop := Row1 w A n c (bvs bs)
abbrev Ins (w : World) (A : Option Addr) (n c : Nat) (zs : List Int) : Prop := Row1 w A n c (ivs zs)
/-- block g is wholly the call's own (not frozen) and begins with the cells xs. -/
def Own (w : World) (g : Nat) (xs : List Value) : Prop := ∃ (cur : Array Value) (t : TypeId), w.heap[g]? = some (.cells cur t (0, 0)) ∧ cur.toList.take xs.length = xs
section
variable {S : List Nat} {w w' : World} {g : Nat} {xs : List Value}
theorem Own.lt (h : Own w g xs) : g < w.heap.size := by obtain ⟨cur, t, h1, _⟩ := h; exact lt_of_block h1
theorem Own.cell (h : Own w g xs) (i : Nat) (hi : i < xs.length) : w.cell? ⟨g, i, none⟩ = some xs[i] := by
 obtain ⟨cur, t, h1, h2⟩ := h
 rw [cell_of_row w g i cur t (0, 0) h1]
 have : cur.toList[i]? = some xs[i] := by
  have h3 : (cur.toList.take xs.length)[i]? = xs[i]? := by rw [h2]
  rw [List.getElem?_take, if_pos hi, List.getElem?_eq_getElem hi] at h3
  exact h3
 simpa using this
theorem Own.frozen (h : Own w g xs) (i : Nat) : w.frozen? ⟨g, i, none⟩ = false := by
 obtain ⟨cur, t, h1, h2⟩ := h
 simp [World.frozen?, h1]
theorem Own.keep (h : Own w g xs) (ho : Only S w w') (hg : g ∉ S) : Own w' g xs := by
 obtain ⟨cur, t, h1, h2⟩ := h
 exact ⟨cur, t, (ho.block g (lt_of_block h1) hg).trans h1, h2⟩
theorem Own.keep0 (h : Own w g xs) (ho : Only [] w w') : Own w' g xs := h.keep ho (by simp)
theorem Own.drew (h : Own w g xs) : Own w.drew g xs := h
theorem Own.drewN (h : Own w g xs) (n : Nat) : Own (w.drewN n) g xs := h
theorem Own.take (h : Own w g xs) (n : Nat) : Own w g (xs.take n) := by
 obtain ⟨cur, t, h1, h2⟩ := h
 refine ⟨cur, t, h1, ?_⟩
 have h3 : cur.toList.take (min n xs.length) = (cur.toList.take xs.length).take n := by rw [List.take_take]
 rw [List.length_take, h3, h2]
theorem take_set_le (L : List Value) (n j : Nat) (u : Value) (xs : List Value) (h : L.take n = xs) : (L.set j u).take n = xs.set j u := by
 rw [List.take_set, h]
theorem Own.set (h : Own w g xs) (j : Nat) (u : Value) : Own (w.setCell ⟨g, j, none⟩ u) g (xs.set j u) := by
 obtain ⟨cur, t, h1, h2⟩ := h
 refine ⟨cur.setIfInBounds j u, t, ?_, ?_⟩
 ·simp [World.setCell, Array.getElem?_modify, h1]
 ·rw [List.length_set]
  simp only [Array.toList_setIfInBounds]
  exact take_set_le _ _ _ _ _ h2
theorem Own.far (h : Own w g xs) {p : Addr} (hp : p.block ≠ g) (u : Value) : Own (w.setCell p u) g xs :=
 h.keep (S := [p.block]) ((Only.refl _ _).set (by simp) u) (by simpa using Ne.symm hp)
theorem Own.alloc (h : Own w g xs) (o : Obj) : Own (w.alloc o) g xs := h.keep0 ((Only.refl _ _).alloc o)
theorem Own.new (w : World) (cs : Array Value) (t : TypeId) : Own (w.alloc (.cells cs t)) w.heap.size cs.toList := ⟨cs, t, heap_alloc_new w _, by rw [Array.length_toList, ← Array.length_toList, List.take_length]⟩
theorem Own.of_own {base : Nat} {e : TypeId} {g c n : Nat} (h : w.ownsRow base e 1 (.slice (some ⟨g, 0, none⟩) n c) n xs) : Own w g xs ∧ base ≤ g ∧ n ≤ c ∧ c ≤ maxLen ∧ xs.length = n := by
 obtain ⟨h1, h2⟩ := h
 rcases h2 with ⟨h2, _⟩ | ⟨g', cap, cur, hv, hb, hh, hn, hm, hs, ht⟩
 ·cases h2
 ·simp at hv
  obtain ⟨rfl, rfl⟩ := hv
  simp at h1 ht
  exact ⟨⟨cur, e, hh, by rw [h1]; exact ht⟩, hb, hn, hm, h1⟩
theorem Row1.of_Own {n c : Nat} (h : Own w g xs) (hl : xs.length = n) (hc : n ≤ c) (hm : c ≤ maxLen) : Row1 w (some ⟨g, 0, none⟩) n c xs :=
 ⟨hl, hc, hm, fun _ => ⟨g, 0, rfl, fun i hi => by rw [Nat.zero_add]; exact h.cell i hi⟩⟩
theorem Row1.news {A : Option Addr} {n c : Nat} {ad : Addr} (h : Row1 w A n c xs) (hA : A = some ad) : ∀ j u, xs[j]? = some u → w.cell? (ad.add j) = some u := by
 intro j u hu
 have hj : j < xs.length := by
  rcases Nat.lt_or_ge j xs.length with h' | h'
  ·exact h'
  ·rw [List.getElem?_eq_none h'] at hu; cases hu
 obtain ⟨g, o, e, hc⟩ := h.at_ (by have := h.len; omega)
 rw [hA] at e
 injection e with e
 subst e
 have h1 := hc j hj
 rw [List.getElem?_eq_getElem hj] at hu
 injection hu with hu
 have hadd : (⟨g, o, none⟩ : Addr).add j = ⟨g, o + j, none⟩ := by unfold Addr.add; split <;> simp_all
 rw [hadd, h1, hu]
end
/-- the address of 'x[l:..]' (one-cell elements) -/
def cutA (A : Option Addr) (c l : Nat) : Option Addr := if c = l then A else A.map (·.add l)
theorem run_slice1 {P : Program} (w : World) (t e : TypeId) (ht : P.underlying t = some (.slice e)) (hs : (P.info? e).map (·.size) = some 1) (A : Option Addr) (len cap : Nat) (li hi : Int) (l h m : Nat) (kl kh : IntKind)
  (e1 : li = l) (e2 : hi = h) (hl : l ≤ h) (hh : h ≤ cap) (hm : h - l = m) :
  (Instr.slice t (.slice A len cap) (some (.int kl li)) (some (.int kh hi)) none).run P w = .ok (.slice (cutA A cap l) m (cap - l)) w := by
 subst e1 e2 hm
 cases hq : P.info? e with
 | none => simp [hq] at hs
 | some i =>
  simp [hq] at hs
  simp [Instr.slice, Instr.sliceBounds, Instr.sliceBound, run_underlying ht, sizeOf, typeInfo, hq, asIntOf, hl, hh, hs, cutA]
theorem run_slice1_lo {P : Program} (w : World) (t e : TypeId) (ht : P.underlying t = some (.slice e)) (hs : (P.info? e).map (·.size) = some 1) (A : Option Addr) (len cap : Nat) (li : Int) (l m : Nat) (kl : IntKind)
  (e1 : li = l) (hl : l ≤ len) (hm : len - l = m) :
  (Instr.slice t (.slice A len cap) (some (.int kl li)) none none).run P w = .ok (.slice (cutA A cap l) m (cap - l)) w := by
 subst e1 hm
 cases hq : P.info? e with
 | none => simp [hq] at hs
 | some i =>
  simp [hq] at hs
  simp [Instr.slice, Instr.sliceBounds, Instr.sliceBound, run_underlying ht, sizeOf, typeInfo, hq, asIntOf, hl, hs, cutA]
theorem Row1.cut {w : World} {A : Option Addr} {n c l m : Nat} {xs : List Value} (h : Row1 w A n c xs) (hl : l + m ≤ n) : Row1 w (cutA A c l) m (c - l) ((xs.drop l).take m) := by
 have h1 := h.len
 have h2 := h.le
 have h3 := h.cm
 refine ⟨by simp; omega, by omega, by omega, fun hm => ?_⟩
 obtain ⟨g, o, rfl, hc⟩ := h.at_ (by omega)
 rw [cutA, if_neg (by omega)]
 have hadd : (⟨g, o, none⟩ : Addr).add l = ⟨g, o + l, none⟩ := by unfold Addr.add; split <;> simp_all
 refine ⟨g, o + l, by simp [hadd], fun i hi => ?_⟩
 simp at hi
 rw [List.getElem_take, List.getElem_drop, Nat.add_assoc]
 exact hc (l + i) (by omega)
/-- 'append(s, x...)', s a row of the call's own, x whatever reads as a row of one-cell elements. -/
theorem run_append_row1 {P : Program} (w : World) (base : Nat) (t ty e : TypeId) (i : TypeInfo) (z : Value) (bytes : Nat) (ht : P.underlying t = some (.slice e)) (hi : P.info? e = some i) (hz : i.zero = some z)
  (hsize : i.size = 1) (hby : i.bytes = bytes) (hzs : z.cells.size = 1)
  (v : Value) (n : Nat) (xs : List Value) (hown : w.ownsRow base e 1 v n xs)
  (A : Option Addr) (m c : Nat) (news : List Value) (hr : Row1 w A m c news) (h1 : ∀ u ∈ news, u.oneCell' = true)
  (h63 : n + m ≤ maxLen) (hbytes : (n + m) * bytes ≤ 140737488355328) (hbase : base ≤ w.heap.size) :
  ∃ v' w', (Builtin.append_ #[t, t] ty #[v, .slice A m c]).run P w = .ok v' w' ∧ w'.ownsRow base e 1 v' (n + m) (xs ++ news) ∧ w.grownBy w' v.ownBlock ∧
   (v'.ownBlock = v.ownBlock ∨ v'.ownBlock = some w.heap.size) := by
 rcases A with _ | ad
 ·have hm : m = 0 := by
   rcases Nat.eq_zero_or_pos m with h0 | h0
   ·exact h0
   ·obtain ⟨g, o, h, _⟩ := hr.at_ h0
    cases h
  subst hm
  have hn : news = [] := List.eq_nil_of_length_eq_zero hr.len
  subst hn
  refine ⟨v, w, ?_, by simpa using hown, World.grownBy.refl w _, .inl rfl⟩
  rcases hown.2 with ⟨rfl, rfl⟩ | ⟨g, cap, cur, rfl, _, _, hnc, _⟩
  ·simp [Builtin.append_, run_underlying ht, sizeOf, typeInfo, hi, Builtin.lenOf, Builtin.firstCells]
  ·simp [Builtin.append_, run_underlying ht, sizeOf, typeInfo, hi, Builtin.lenOf, Builtin.firstCells, hnc, storeCells]
 ·obtain ⟨v', w', hrun, h2, h3, _, h5⟩ := run_append_own_at (P := P) w base t ty e i z 1 bytes ht hi hz hsize hby hzs (by omega) v n xs hown ad m c news (by rw [hr.len]; omega) (hr.news rfl) h1 h63 hbytes hbase
  exact ⟨v', w', hrun, h2, h3, h5⟩
theorem wpList_append_row1 {P : Program} {w : World} {ops : Array Oper} {rest : List Oper} {o : Oper} {a : Act} {Q : Exit → Act → World → Prop} (hgd : o.guard = none) (s x : Operand) (t : TypeId)
  (ho : o.op = .call { callee := .builtin .append, args := #[s, x], argTypes := #[t, t] })
  (base : Nat) (e : TypeId) (i : TypeInfo) (z : Value) (bytes : Nat) (ht : P.underlying t = some (.slice e)) (hi : P.info? e = some i) (hz : i.zero = some z)
  (hsize : i.size = 1) (hby : i.bytes = bytes) (hzs : z.cells.size = 1)
  (v : Value) (n : Nat) (xs : List Value) (hs : a.eval s = v) (hown : w.ownsRow base e 1 v n xs)
  (A : Option Addr) (m c : Nat) (news : List Value) (hx : a.eval x = .slice A m c) (hr : Row1 w A m c news) (h1 : ∀ u ∈ news, u.oneCell' = true)
  (h63 : n + m ≤ maxLen) (hbytes : (n + m) * bytes ≤ 140737488355328) (hbase : base ≤ w.heap.size)
  (h : ∀ v' w', w'.ownsRow base e 1 v' (n + m) (xs ++ news) → w.grownBy w' v.ownBlock → (v'.ownBlock = v.ownBlock ∨ v'.ownBlock = some w.heap.size) → wpList P ops Q rest (a.put o.dst v') w') : wpList P ops Q (o :: rest) a w := by
 refine wpList_plain hgd fun K hK => ?_
 obtain ⟨v', w', hrun, h2, h3, h4⟩ := run_append_row1 (P := P) w base t o.type e i z bytes ht hi hz hsize hby hzs v n xs hown A m c news hr h1 h63 hbytes hbase
 unfold Oper.wp execOp
 simp only [ho, resolve, invoke, builtin, Sem.run_bind, Sem.run_pure, Result.andThen_ok, List.map_toArray, List.map_cons, List.map_nil, hs, hx, hrun]
 exact hK _ _ (h v' w' h2 h3 h4)
/-- the same as one step of a region that draws its order -/
theorem step_append_row1 {P : Program} {w : World} {ops : Array Oper} {o : Oper} {a : Act} {K : Act → World → Prop} {Q : Exit → Act → World → Prop} {E : Prop} (hgd : o.guard = none) (s x : Operand) (t : TypeId)
  (ho : o.op = .call { callee := .builtin .append, args := #[s, x], argTypes := #[t, t] })
  (base : Nat) (e : TypeId) (i : TypeInfo) (z : Value) (bytes : Nat) (ht : P.underlying t = some (.slice e)) (hi : P.info? e = some i) (hz : i.zero = some z)
  (hsize : i.size = 1) (hby : i.bytes = bytes) (hzs : z.cells.size = 1)
  (v : Value) (n : Nat) (xs : List Value) (hs : a.eval s = v) (hown : w.ownsRow base e 1 v n xs)
  (A : Option Addr) (m c : Nat) (news : List Value) (hx : a.eval x = .slice A m c) (hr : Row1 w A m c news) (h1 : ∀ u ∈ news, u.oneCell' = true)
  (h63 : n + m ≤ maxLen) (hbytes : (n + m) * bytes ≤ 140737488355328) (hbase : base ≤ w.heap.size)
  (h : ∀ v' w', w'.ownsRow base e 1 v' (n + m) (xs ++ news) → w.grownBy w' v.ownBlock → (v'.ownBlock = v.ownBlock ∨ v'.ownBlock = some w.heap.size) → K (a.put o.dst v') w') :
  if Region.wanted o (yielded ops a.tmps) = true then Oper.wp P o a w K Q else E := by
 have hw : Region.wanted o (yielded ops a.tmps) = true := by simp [Region.wanted, hgd]
 rw [if_pos hw]
 obtain ⟨v', w', hrun, h2, h3, h4⟩ := run_append_row1 (P := P) w base t o.type e i z bytes ht hi hz hsize hby hzs v n xs hown A m c news hr h1 h63 hbytes hbase
 unfold Oper.wp execOp
 simp only [ho, resolve, invoke, builtin, Sem.run_bind, Sem.run_pure, Result.andThen_ok, List.map_toArray, List.map_cons, List.map_nil, hs, hx, hrun]
 exact h v' w' h2 h3 h4
/-- a slice that the call gathers by append: its cells, its own block from base on -/
def Gath (w : World) (base e : Nat) (v : Value) (xs : List Value) : Prop := w.ownsRow base e 1 v xs.length xs ∧ base ≤ w.heap.size
theorem Gath.nil (w : World) (base e : Nat) (h : base ≤ w.heap.size) : Gath w base e (.slice none 0 0) [] := ⟨World.ownsRow_nil w base e 1, h⟩
theorem Gath.keep {w w' : World} {base e : Nat} {v : Value} {xs : List Value} {S : List Nat} (h : Gath w base e v xs) (ho : Only S w w') (hs : ∀ k, v.ownBlock = some k → k ∉ S) : Gath w' base e v xs := by
 obtain ⟨⟨h1, h2⟩, hb⟩ := h
 refine ⟨⟨h1, ?_⟩, Nat.le_trans hb ho.size⟩
 rcases h2 with h2 | ⟨g, cap, cur, rfl, hb', hh, rest⟩
 ·exact .inl h2
 ·exact .inr ⟨g, cap, cur, rfl, hb', (ho.block g (lt_of_block hh) (hs g rfl)).trans hh, rest⟩
theorem Gath.keep0 {w w' : World} {base e : Nat} {v : Value} {xs : List Value} (h : Gath w base e v xs) (ho : Only [] w w') : Gath w' base e v xs := h.keep ho (by simp)
/-- its value, as a row; its block -/
theorem Gath.form {w : World} {base e : Nat} {v : Value} {xs : List Value} (h : Gath w base e v xs) : ∃ A c, v = .slice A xs.length c ∧ Row1 w A xs.length c xs ∧ (∀ a, A = some a → base ≤ a.block ∧ a.block < w.heap.size) := by
 obtain ⟨⟨h1, h2⟩, hb⟩ := h
 rcases h2 with ⟨rfl, h0⟩ | ⟨g, cap, cur, rfl, hb', hh, hn, hm, hs, ht⟩
 ·have e : xs = [] := List.eq_nil_of_length_eq_zero h0
  subst e
  exact ⟨none, 0, rfl, Row1.nil w, by simp⟩
 ·refine ⟨_, cap, rfl, Row1.of_Own ⟨cur, _, hh, by simpa using ht⟩ rfl hn hm, ?_⟩
  intro a ha
  injection ha with ha
  subst ha
  exact ⟨hb', lt_of_block hh⟩
theorem Gath.formN {w : World} {base e n : Nat} {v : Value} {xs : List Value} (h : Gath w base e v xs) (hn : xs.length = n) : ∃ A c, v = .slice A n c ∧ Row1 w A n c xs ∧ (∀ a, A = some a → base ≤ a.block ∧ a.block < w.heap.size) := by
 subst hn; exact h.form
theorem Gath.own {w w' : World} {base e n : Nat} {v : Value} {xs : List Value} (h : Gath w base e v xs) (ho : Only [] w w') (hn : xs.length = n) : w'.ownsRow base e 1 v n xs := by
 subst hn; exact (h.keep0 ho).1
theorem Gath.grown {w0 w w' : World} {base e : Nat} {v v' : Value} {xs ys : List Value} {m : Nat} {S : List Nat} (h : Gath w base e v xs) (hO : Only S w0 w) (hB : base = w0.heap.size) (ho : w'.ownsRow base e 1 v' m ys) (hm : m = ys.length) (hg : w.grownBy w' v.ownBlock) :
  Gath w' base e v' ys ∧ Only S w0 w' := by
 subst hm
 refine ⟨⟨ho, Nat.le_trans h.2 hg.size⟩, hO.grown hg fun k hk => ?_⟩
 right
 obtain ⟨A, c, rfl, _, hA⟩ := h.form
 rcases A with _ | a
 ·simp [Value.ownBlock] at hk
 ·simp [Value.ownBlock] at hk
  have := (hA a rfl).1
  omega
theorem cutA_at {g c k n : Nat} (h : k < n) (hc : n ≤ c) : cutA (some ⟨g, 0, none⟩) c k = some ⟨g, k, none⟩ := by
 rw [cutA, if_neg (by omega)]
 simp only [Option.map_some, Addr.add]
 split <;> simp_all
theorem bvs_cut (bs : List UInt8) (l m : Nat) : ((bvs bs).drop l).take m = bvs ((bs.drop l).take m) := by simp [bvs]
theorem bvs_one (bs : List UInt8) : ∀ u ∈ bvs bs, u.oneCell' = true := by
 intro u hu
 simp only [bvs, List.mem_map] at hu
 obtain ⟨c, _, rfl⟩ := hu
 rfl
/-- 'copy(dst, src)' where dst begins at place off of a block of the call's own (or nothing goes over). The world behind it: only that block has turned. -/
theorem run_copy_bys {P : Program} (w : World) (dT sT ty elem : TypeId) (hu : P.underlying dT = some (.slice elem)) (hsz : (P.info? elem).map (·.size) = some 1)
  (dp sp : Option Addr) (dLen dCap sLen sCap g off : Nat) (bs xs : List Value) (hs : Row1 w sp sLen sCap xs) (hx1 : ∀ u ∈ xs, u.oneCell' = true) (hle : sLen ≤ dLen) (hfit : off + sLen ≤ bs.length)
  (hd : 0 < sLen → dp = some ⟨g, off, none⟩) (hown : 0 < bs.length → Own w g bs) :
  ∃ w', (Builtin.copy_ #[dT, sT] ty #[.slice dp dLen dCap, .slice sp sLen sCap]).run P w = .ok (goInt sLen) w' ∧
   (0 < bs.length → Own w' g (bs.take off ++ (xs ++ bs.drop (off + xs.length)))) ∧ Only [g] w w' ∧ (sLen = 0 → w' = w) := by
 have hl := hs.len
 by_cases h0 : sLen = 0
 ·subst h0
  obtain rfl : xs = [] := List.eq_nil_of_length_eq_zero hl
  refine ⟨w, run_copy_none (P := P) w dT sT ty elem dp sp dLen dCap 0 sCap hu hsz (by simp), fun h => ?_, Only.refl _ _, fun _ => rfl⟩
  simpa using hown h
 ·have e := hd (by omega)
  subst e
  obtain ⟨ga, oa, rfl, _⟩ := hs.at_ (by omega)
  obtain ⟨cur, t, hc, ht⟩ := hown (by omega)
  have hcl : bs.length ≤ cur.size := by
   have : (cur.toList.take bs.length).length = bs.length := by rw [ht]
   simp at this
   omega
  have hrun := run_copy_row (P := P) w dT sT ty elem g off dLen dCap ⟨ga, oa, none⟩ sLen sCap cur t xs hu hsz hc (by rw [hl]; exact (Nat.min_eq_left hle).symm) (hs.news rfl) (by omega) hx1
  rw [hl] at hrun
  refine ⟨_, hrun, fun _ => ⟨_, t, setRow_heap w g _ _ t _ hc, ?_⟩, ⟨rfl, rfl, rfl, by simp [World.setRow], fun k _ hk => setRow_other w g k _ (by simpa using hk)⟩, fun h => absurd h h0⟩
  have e1 : cur.toList.take off = bs.take off := by rw [← ht, List.take_take, Nat.min_eq_left (by omega)]
  have e2 : (cur.toList.drop (off + sLen)).take (bs.length - (off + sLen)) = bs.drop (off + sLen) := by
   rw [← List.drop_take, ht]
  have e3 : (bs.take off ++ (xs ++ bs.drop (off + xs.length))).length = bs.length := by simp; omega
  have e4 : (bs.take off).length = off := by simp; omega
  rw [e3, hl, e1, List.append_assoc, List.take_append, e4, List.take_of_length_le (by omega), List.take_append, hl, ← e2, List.take_of_length_le (l := xs) (by omega)]
  congr 3
  omega
theorem wpList_copy_bys {P : Program} {w : World} {ops : Array Oper} {rest : List Oper} {o : Oper} {a : Act} {Q : Exit → Act → World → Prop} (hgd : o.guard = none) (d s : Operand) (dT sT : TypeId)
  (ho : o.op = .call { callee := .builtin .copy, args := #[d, s], argTypes := #[dT, sT] }) (elem : TypeId) (hu : P.underlying dT = some (.slice elem)) (hsz : (P.info? elem).map (·.size) = some 1)
  (dp sp : Option Addr) (dLen dCap sLen sCap : Nat) (hed : a.eval d = .slice dp dLen dCap) (hes : a.eval s = .slice sp sLen sCap)
  (g off : Nat) (bs xs : List Value) (hs : Row1 w sp sLen sCap xs) (hx1 : ∀ u ∈ xs, u.oneCell' = true) (hle : sLen ≤ dLen) (hfit : off + sLen ≤ bs.length)
  (hd : 0 < sLen → dp = some ⟨g, off, none⟩) (hown : 0 < bs.length → Own w g bs)
  (h : ∀ w', (0 < bs.length → Own w' g (bs.take off ++ (xs ++ bs.drop (off + xs.length)))) → Only [g] w w' → (sLen = 0 → w' = w) → wpList P ops Q rest (a.put o.dst (goInt sLen)) w') : wpList P ops Q (o :: rest) a w := by
 refine wpList_plain hgd fun K hK => ?_
 obtain ⟨w', hrun, h1, h2, h3⟩ := run_copy_bys (P := P) w dT sT o.type elem hu hsz dp sp dLen dCap sLen sCap g off bs xs hs hx1 hle hfit hd hown
 unfold Oper.wp
 simp [execOp, ho, resolve, invoke, builtin, hed, hes, hrun, Result.andThen]
 exact hK _ _ (h w' h1 h2 h3)
/-- the same as one step of a region that draws its order -/
theorem step_copy_bys {P : Program} {w : World} {ops : Array Oper} {o : Oper} {a : Act} {K : Act → World → Prop} {Q : Exit → Act → World → Prop} {E : Prop} (hgd : o.guard = none) (d s : Operand) (dT sT : TypeId)
  (ho : o.op = .call { callee := .builtin .copy, args := #[d, s], argTypes := #[dT, sT] }) (elem : TypeId) (hu : P.underlying dT = some (.slice elem)) (hsz : (P.info? elem).map (·.size) = some 1)
  (dp sp : Option Addr) (dLen dCap sLen sCap : Nat) (hed : a.eval d = .slice dp dLen dCap) (hes : a.eval s = .slice sp sLen sCap)
  (g off : Nat) (bs xs : List Value) (hs : Row1 w sp sLen sCap xs) (hx1 : ∀ u ∈ xs, u.oneCell' = true) (hle : sLen ≤ dLen) (hfit : off + sLen ≤ bs.length)
  (hd : 0 < sLen → dp = some ⟨g, off, none⟩) (hown : 0 < bs.length → Own w g bs)
  (h : ∀ w', (0 < bs.length → Own w' g (bs.take off ++ (xs ++ bs.drop (off + xs.length)))) → Only [g] w w' → (sLen = 0 → w' = w) → K (a.put o.dst (goInt sLen)) w') :
  if Region.wanted o (yielded ops a.tmps) = true then Oper.wp P o a w K Q else E := by
 have hw : Region.wanted o (yielded ops a.tmps) = true := by simp [Region.wanted, hgd]
 rw [if_pos hw]
 obtain ⟨w', hrun, h1, h2, h3⟩ := run_copy_bys (P := P) w dT sT o.type elem hu hsz dp sp dLen dCap sLen sCap g off bs xs hs hx1 hle hfit hd hown
 unfold Oper.wp
 simp [execOp, ho, resolve, invoke, builtin, hed, hes, hrun, Result.andThen]
 exact h w' h1 h2 h3
/-- a row object: its struct lies in block p, its bytes in block g, none frozen; it has the bytes bs and stands at place k. Of no bytes g is p. -/
structure RowAt (w : World) (p g : Nat) (bs : List UInt8) (k : Nat) : Prop where
 ne : 0 < bs.length → p ≠ g
 fb : ∃ A c, w.cell? ⟨p, 0, none⟩ = some (.slice A bs.length c) ∧ bs.length ≤ c ∧ c ≤ maxLen ∧ (0 < bs.length → A = some ⟨g, 0, none⟩)
 fk : w.cell? ⟨p, 1, none⟩ = some (.int .i64 (k : Int))
 pz : ∀ i, w.frozen? ⟨p, i, none⟩ = false
 own : 0 < bs.length → Own w g (bvs bs)
 le : k ≤ bs.length
 mx : bs.length ≤ 65536
 ge : bs.length = 0 → g = p
section
variable {S : List Nat} {w w' : World} {p g k : Nat} {bs : List UInt8}
theorem RowAt.lp (h : RowAt w p g bs k) : p < w.heap.size := lt_of_cell h.fk
theorem RowAt.lg (h : RowAt w p g bs k) : g < w.heap.size := by
 rcases Nat.eq_zero_or_pos bs.length with h0 | h0
 ·rw [h.ge h0]; exact h.lp
 ·exact (h.own h0).lt
theorem RowAt.cl (h : RowAt w p g bs k) (i : Nat) (hi : i < bs.length) : w.cell? ⟨g, i, none⟩ = some (.int .u8 (bs[i].toNat : Int)) := by
 rw [(h.own (by omega)).cell i (by simpa using hi)]; simp
theorem RowAt.gz (h : RowAt w p g bs k) (h0 : 0 < bs.length) (i : Nat) : w.frozen? ⟨g, i, none⟩ = false := (h.own h0).frozen i
theorem RowAt.keep (h : RowAt w p g bs k) (ho : Only S w w') (hp : p ∉ S) (hg : g ∉ S) : RowAt w' p g bs k :=
 ⟨h.ne, by obtain ⟨A, c, h1, h2⟩ := h.fb; exact ⟨A, c, ho.cell h1 hp, h2⟩, ho.cell h.fk hp, fun i => (ho.frozen (p := ⟨p, i, none⟩) h.lp hp).trans (h.pz i),
  fun h0 => (h.own h0).keep ho hg, h.le, h.mx, h.ge⟩
theorem RowAt.keep0 (h : RowAt w p g bs k) (ho : Only [] w w') : RowAt w' p g bs k := h.keep ho (by simp) (by simp)
theorem cell_set_ne {p q : Addr} {v : Value} (h : p ≠ q) (hc : w.cell? q = some v) (u : Value) : (w.setCell p u).cell? q = some v := (World.cell?_setCell_other w p q u h).trans hc
/-- the place is set -/
theorem RowAt.place (h : RowAt w p g bs k) (k' : Nat) (hk : k' ≤ bs.length) : RowAt (w.setCell ⟨p, 1, none⟩ (.int .i64 (k' : Int))) p g bs k' :=
 ⟨h.ne, by obtain ⟨A, c, h1, h2⟩ := h.fb; exact ⟨A, c, cell_set_ne (by simp) h1 _, h2⟩, World.cell?_setCell_same w _ _ h.fk, fun i => (World.frozen?_setCell w _ _ _).trans (h.pz i),
  fun h0 => (h.own h0).far (h.ne h0) _, hk, h.mx, h.ge⟩
/-- a byte is set -/
theorem RowAt.byte (h : RowAt w p g bs k) (j : Nat) (c : UInt8) (hj : j < bs.length) : RowAt (w.setCell ⟨g, j, none⟩ (.int .u8 (c.toNat : Int))) p g (bs.set j c) k :=
 ⟨by simpa using h.ne, by obtain ⟨A, c, h1, h2⟩ := h.fb; exact ⟨A, c, cell_set_ne (by have := h.ne (by omega); simp) (by simpa using h1) _, by simpa using h2⟩,
  cell_set_ne (by have := h.ne (by omega); simp) h.fk _, fun i => (World.frozen?_setCell w _ _ _).trans (h.pz i),
  fun h0 => by
   have := (h.own (by omega)).set j (.int .u8 (c.toNat : Int))
   simpa [bvs] using this,
  by simpa using h.le, by simpa using h.mx, by simpa using h.ge⟩
theorem RowAt.facts {N j : Nat} (h : RowAt w p g bs k) (hN : bs.length = N) (hj : j < N) : ∃ old c, w.cell? ⟨p, 0, none⟩ = some (.slice (some ⟨g, 0, none⟩) N c) ∧ N ≤ c ∧ w.cell? ⟨p, 1, none⟩ = some (.int .i64 (k : Int)) ∧
  w.cell? ⟨g, j, none⟩ = some old ∧ w.frozen? ⟨g, j, none⟩ = false := by
 subst hN
 obtain ⟨A, c, h1, h2, h3, h4⟩ := h.fb
 exact ⟨_, c, by rw [h1, h4 (by omega)], h2, h.fk, h.cl j hj, h.gz (by omega) j⟩
/-- bytes are laid by a copy -/
theorem RowAt.copied {ys : List Value} {ys' : List UInt8} (h : RowAt w p g bs k) (h0 : 0 < bs.length) (hO : Only [g] w w') (hown : 0 < bs.length → Own w' g ys) (hy : ys = bvs ys') (hl : ys'.length = bs.length) : RowAt w' p g ys' k := by
 have hne := h.ne h0
 exact ⟨fun _ => hne, by obtain ⟨A, c, h1, h2, h3, h4⟩ := h.fb; rw [hl]; exact ⟨A, c, hO.cell h1 (by simpa using hne), h2, h3, fun _ => h4 h0⟩, hO.cell h.fk (by simpa using hne),
   fun i => (hO.frozen (p := ⟨p, i, none⟩) h.lp (by simpa using hne)).trans (h.pz i), fun _ => by rw [← hy]; exact hown h0, by rw [hl]; exact h.le, by rw [hl]; exact h.mx, fun h' => by omega⟩
theorem RowAt.drew (h : RowAt w p g bs k) : RowAt w.drew p g bs k := h.keep0 ((Only.refl _ _).drew)
theorem RowAt.drewN (h : RowAt w p g bs k) (n : Nat) : RowAt (w.drewN n) p g bs k := h.keep0 ((Only.refl _ _).drewN n)
theorem RowAt.alloc (h : RowAt w p g bs k) (o : Obj) : RowAt (w.alloc o) p g bs k := h.keep0 ((Only.refl _ _).alloc o)
end
end Go.Kn
namespace Go.Kn
open Go Go.RowKit
theorem Own.cellv {w : World} {g : Nat} {xs : List Value} (h : Own w g xs) (i : Nat) {v : Value} (hv : xs[i]? = some v := by rfl) : w.cell? ⟨g, i, none⟩ = some v := by
 obtain ⟨hlt, e⟩ := List.getElem?_eq_some_iff.1 hv
 rw [h.cell i hlt, e]
theorem own1 {w : World} {b : Nat} {c0 : Value} {xs : List Value} (h : Own w b (c0 :: xs)) : w.cell? ⟨b, 0, none⟩ = some c0 := h.cellv 0
theorem own3 {w : World} {b : Nat} {c0 c1 c2 : Value} {xs : List Value} (h : Own w b (c0 :: c1 :: c2 :: xs)) : w.cell? ⟨b, 0, none⟩ = some c0 ∧ w.cell? ⟨b, 1, none⟩ = some c1 ∧ w.cell? ⟨b, 2, none⟩ = some c2 := ⟨h.cellv 0, h.cellv 1, h.cellv 2⟩
theorem own4 {w : World} {b : Nat} {c0 c1 c2 c3 : Value} {xs : List Value} (h : Own w b (c0 :: c1 :: c2 :: c3 :: xs)) : w.cell? ⟨b, 0, none⟩ = some c0 ∧ w.cell? ⟨b, 1, none⟩ = some c1 ∧ w.cell? ⟨b, 2, none⟩ = some c2 ∧ w.cell? ⟨b, 3, none⟩ = some c3 := ⟨h.cellv 0, h.cellv 1, h.cellv 2, h.cellv 3⟩
theorem own5 {w : World} {b : Nat} {c0 c1 c2 c3 c4 : Value} {xs : List Value} (h : Own w b (c0 :: c1 :: c2 :: c3 :: c4 :: xs)) : w.cell? ⟨b, 0, none⟩ = some c0 ∧ w.cell? ⟨b, 1, none⟩ = some c1 ∧ w.cell? ⟨b, 2, none⟩ = some c2 ∧ w.cell? ⟨b, 3, none⟩ = some c3 ∧ w.cell? ⟨b, 4, none⟩ = some c4 := ⟨h.cellv 0, h.cellv 1, h.cellv 2, h.cellv 3, h.cellv 4⟩
theorem own8 {w : World} {b : Nat} {c0 c1 c2 c3 c4 c5 c6 c7 : Value} {xs : List Value} (h : Own w b (c0 :: c1 :: c2 :: c3 :: c4 :: c5 :: c6 :: c7 :: xs)) : w.cell? ⟨b, 0, none⟩ = some c0 ∧ w.cell? ⟨b, 1, none⟩ = some c1 ∧ w.cell? ⟨b, 2, none⟩ = some c2 ∧ w.cell? ⟨b, 3, none⟩ = some c3 ∧ w.cell? ⟨b, 4, none⟩ = some c4 ∧ w.cell? ⟨b, 5, none⟩ = some c5 ∧ w.cell? ⟨b, 6, none⟩ = some c6 ∧ w.cell? ⟨b, 7, none⟩ = some c7 := ⟨h.cellv 0, h.cellv 1, h.cellv 2, h.cellv 3, h.cellv 4, h.cellv 5, h.cellv 6, h.cellv 7⟩
end Go.Kn
namespace Go.Kn
open Go
theorem words_app : ∀ (a r : List Char), (∀ c ∈ a, c ≠ Char.ofNat 32) → wordsSigns (a ++ Char.ofNat 32 :: r) = a :: wordsSigns r
 | [], r, _ => rfl
 | c :: a, r, h => by
  have ih := words_app a r fun x hx => h x (List.mem_cons_of_mem _ hx)
  have hc : c ≠ Char.ofNat 32 := h c (List.mem_cons_self ..)
  rw [List.cons_append, wordsSigns, ih]
  exact hc
theorem head_words {L S R : List Char} (hs : L = "harness".toList ++ Char.ofNat 32 :: (S ++ Char.ofNat 32 :: ("cut".toList ++ Char.ofNat 32 :: R))) (hS : isSumSigns S = true) (hn : S.all (fun c => c != Char.ofNat 32) = true) :
  behindMainWord (wordsSigns L) = "cut".toList :: wordsSigns R := by
 have h1 : ∀ c ∈ "harness".toList, c ≠ Char.ofNat 32 := by decide
 have h2 : ∀ c ∈ S, c ≠ Char.ofNat 32 := fun c hc => by simpa using List.all_eq_true.1 hn c hc
 have h3 : ∀ c ∈ "cut".toList, c ≠ Char.ofNat 32 := by decide
 rw [hs, words_app _ _ h1, words_app _ _ h2, words_app _ _ h3, behindMainWord]
 rw [hS]
 rfl
theorem head_words' (L : List Char) (hs : L = "harness".toList ++ Char.ofNat 32 :: ((L.drop 8).take 64 ++ Char.ofNat 32 :: ("cut".toList ++ Char.ofNat 32 :: L.drop 77))) (hS : isSumSigns ((L.drop 8).take 64) = true) (hn : ((L.drop 8).take 64).all (fun c => c != Char.ofNat 32) = true) :
  ∃ rest, behindMainWord (wordsSigns L) = "cut".toList :: rest := ⟨_, head_words hs hS hn⟩
section
variable {P : Program} {rest : List (List Char)}
theorem make_of (h : behindMainWord (wordsSigns P.initOrder.toList) = "cut".toList :: rest) : P.make = some .cut := by
 unfold Program.make
 rw [h]
 rfl
theorem lifts_of (h : behindMainWord (wordsSigns P.initOrder.toList) = "cut".toList :: rest) : P.liftsFinal = false := by
 unfold Program.liftsFinal Program.headLifts
 rw [h]
 rfl
theorem may_of (h : behindMainWord (wordsSigns P.initOrder.toList) = "cut".toList :: rest) (h1 : P.laysLater = false) (h2 : P.bearsReflect = false) (h3 : P.doorFits [] = true) : P.mayEnter = true := by
 unfold Program.mayEnter
 rw [h]
 have e : stripLifts liftWords ("cut".toList :: rest) = ([], "cut".toList :: rest) := rfl
 simp only [e, h1, h2, h3]
 rfl
end
end Go.Kn
namespace Go.Proofs.YtgcfdjcpcclcjaaGreat
open Go Go.Kn
set_option maxRecDepth 100000 in
theorem enter_words : ∃ rest, behindMainWord (wordsSigns Tryz.prog.initOrder.toList) = "cut".toList :: rest := by
 rw [show Tryz.prog.initOrder.toList = (_ : List Char) from (congrArg String.toList (rfl : Tryz.prog.initOrder = String.ofList _)).trans String.toList_ofList]
 exact head_words' _ (by kernel_rfl) (by kernel_rfl) (by kernel_rfl)
theorem enter_make : Tryz.prog.make = some .cut := by
 obtain ⟨rest, h⟩ := enter_words
 exact make_of h
theorem enter_lifts : Tryz.prog.liftsFinal = false := by
 obtain ⟨rest, h⟩ := enter_words
 exact lifts_of h
theorem enter_lays : Tryz.prog.laysLater = false := by kernel_rfl
theorem enter_bears : Tryz.prog.bearsReflect = false := by kernel_rfl
theorem enter_door : Tryz.prog.doorFits [] = true := by kernel_rfl
theorem enter_may : Tryz.prog.mayEnter = true := by
 obtain ⟨rest, h⟩ := enter_words
 exact may_of h enter_lays enter_bears enter_door
end Go.Proofs.YtgcfdjcpcclcjaaGreat
namespace Go.Proofs.YtgcfdjcpcclcjaaGreat
open Go Go.RowKit Go.Kn
theorem within_any (n lo hi : Int) (w : World) : Calls Tryz.prog 99 #[.int .i64 n, .int .i64 lo, .int .i64 hi] w fun e w' => e = .returned (.bool (decide (lo ≤ n ∧ n ≤ hi))) ∧ w = w' := by
  go_enter Tryz.func99, Tryz.ntmps99
  by_cases h1 : lo ≤ n <;> by_cases h2 : n ≤ hi <;>
  (go_wp2
   go_ret
   exact ⟨by simp [*], rfl⟩)
theorem wide_any (n : Int) (w : World) : Calls Tryz.prog 213 #[.int .i64 n] w fun e w' => e = .returned (.bool (decide (n = 1 ∨ n = 2 ∨ n = 4))) ∧ w = w' := by
 by_cases h1 : n = 1
 ·subst h1
  go_enter Tryz.func213, Tryz.ntmps213
  go_wp2
  go_ret
  exact ⟨by simp, rfl⟩
 by_cases h2 : n = 2
 ·subst h2
  go_enter Tryz.func213, Tryz.ntmps213
  go_wp2
  go_ret
  exact ⟨by simp, rfl⟩
 by_cases h4 : n = 4
 ·subst h4
  go_enter Tryz.func213, Tryz.ntmps213
  go_wp2
  go_ret
  exact ⟨by simp, rfl⟩
 have h1' : (n == 1) = false := by simpa using h1
 have h2' : (n == 2) = false := by simpa using h2
 have h4' : (n == 4) = false := by simpa using h4
 go_enter Tryz.func213, Tryz.ntmps213
 go_wp2
 go_ret
 exact ⟨by simp [h1, h2, h4], rfl⟩
/-- the greatest number of so many bytes; -1 -/
def mostF (n : Int) : Int := if n = 1 then 255 else if n = 2 then 65535 else if n = 4 then 4294967295 else -1
theorem most_any (n : Int) (w : World) : Calls Tryz.prog 149 #[.int .i64 n] w fun e w' => e = .returned (.int .i64 (mostF n)) ∧ w = w' := by
 by_cases h1 : n = 1
 ·subst h1
  go_enter Tryz.func149, Tryz.ntmps149
  go_wp2
  go_ret
  exact ⟨by simp [mostF], rfl⟩
 by_cases h2 : n = 2
 ·subst h2
  go_enter Tryz.func149, Tryz.ntmps149
  go_wp2
  go_ret
  exact ⟨by simp [mostF], rfl⟩
 by_cases h4 : n = 4
 ·subst h4
  go_enter Tryz.func149, Tryz.ntmps149
  go_wp2
  go_ret
  exact ⟨by simp [mostF], rfl⟩
 have h1' : (n == 1) = false := by simpa using h1
 have h2' : (n == 2) = false := by simpa using h2
 have h4' : (n == 4) = false := by simpa using h4
 go_enter Tryz.func149, Tryz.ntmps149
 go_wp2
 go_ret
 exact ⟨by simp [mostF, h1, h2, h4], rfl⟩
theorem mod_any (n m : Int) (w : World) (hn : (Lit.int .i64 n).wf = true) (hm : 0 < m) (hm2 : m ≤ 4611686018427387904) :
  Calls Tryz.prog 81 #[.int .i64 n, .int .i64 m] w fun e w' => e = .returned (.int .i64 (n % m)) ∧ w = w' := by
 have hx : -9223372036854775808 ≤ n ∧ n ≤ 9223372036854775807 := by simpa [Lit.wf, IntKind.min, IntKind.max, IntKind.signed, IntKind.bits] using hn
 have hz : (m == 0) = false := by simp; omega
 have hb := Int.tmod_lt_of_pos n hm
 have hb2 : -m < n.tmod m := by
  have h1 := Int.tmod_lt_of_pos (-n) hm
  rw [Int.neg_tmod] at h1
  omega
 have e1 : 0 ≤ n.tmod m → n.tmod m = n % m := fun h => by
  have h2 := Int.emod_nonneg n (show m ≠ 0 by omega)
  have h3 := Int.emod_lt_of_pos n hm
  have h4 := Int.emod_emod_of_dvd n (Int.dvd_refl m)
  have h5 : (n.tmod m) % m = n % m := by
   have := Int.tmod_add_mul_tdiv n m
   rw [← this, Int.add_mul_emod_self_left]
   rw [this]
  rw [← h5, Int.emod_eq_of_lt h hb]
 have e2 : n.tmod m < 0 → n.tmod m + m = n % m := fun h => by
  have h5 : (n.tmod m + m) % m = n % m := by
   have := Int.tmod_add_mul_tdiv n m
   rw [Int.add_emod_right, ← this, Int.add_mul_emod_self_left]
   rw [this]
  rw [← h5, Int.emod_eq_of_lt (by omega) (by omega)]
 have E1 := Lib.hid e1
 have E2 := Lib.hid e2
 clear e1 e2
 go_enter Tryz.func81, Tryz.ntmps81
 go_wp2
 ·have h : n.tmod m < 0 := by assumption
  go_ret
  exact ⟨by rw [E2.out h]; rfl, rfl⟩
 ·have h : 0 ≤ n.tmod m := by assumption
  go_ret
  exact ⟨by rw [E1.out h]; rfl, rfl⟩
theorem round_any (n m : Int) (w : World) (hn : (Lit.int .i64 n).wf = true) (hm : 0 < m) (hm2 : m ≤ 4611686018427387904) :
  Calls Tryz.prog 21 #[.int .i64 n, .int .i64 m] w fun e w' => e = .returned (.int .i64 (n % m)) ∧ w = w' := by
 go_enter Tryz.func21, Tryz.ntmps21
 go_wp2_with (go_at_call 81; refine (mod_any _ _ _ hn hm hm2).mono ?_; rintro e w' ⟨rfl, rfl⟩)
 go_ret
 exact ⟨rfl, rfl⟩
end Go.Proofs.YtgcfdjcpcclcjaaGreat
namespace Go.Kn
/-- an item's numbers -/
structure It where
 k : Int
 b : Int
 c : Int
 v : Int
/-- may an item be -/
def It.may (i : It) : Bool :=
 if i.k = 1 ∨ i.k = 5 then decide (0 ≤ i.b ∧ i.b ≤ 63) && (i.c == 0) && (i.v == 0)
 else if i.k = 2 ∨ i.k = 6 then decide (0 ≤ i.b ∧ i.b ≤ 63) && decide (1 ≤ i.c ∧ i.c ≤ 64 - i.b) && (i.v == 0)
 else if i.k = 3 then (i.b == 0) && (i.c == 0) && decide (1 ≤ i.v ∧ i.v ≤ 2147483647)
 else if i.k = 4 then decide (0 ≤ i.b ∧ i.b ≤ 63) && (i.c == 0) && decide (1 ≤ i.v ∧ i.v ≤ 4095)
 else if i.k = 7 then (i.b == 0) && (i.c == 0) && decide (0 ≤ i.v ∧ i.v ≤ 31)
 else false
def It.loaded (i : It) : Bool := i.may && (i.k == 1 || i.k == 4 || i.k == 5)
def It.vals (i : It) : Array Value := #[.int .i64 i.k, .int .i64 i.b, .int .i64 i.c, .int .i64 i.v]
end Go.Kn
namespace Go.Proofs.YtgcfdjcpcclcjaaGreat
open Go Go.RowKit Go.Kn
theorem item_within_any (n lo hi : Int) (w : World) : Calls Tryz.prog 165 #[.int .i64 n, .int .i64 lo, .int .i64 hi] w fun e w' => e = .returned (.bool (decide (lo ≤ n ∧ n ≤ hi))) ∧ w = w' := by
  go_enter Tryz.func165, Tryz.ntmps165
  by_cases h1 : lo ≤ n <;> by_cases h2 : n ≤ hi <;>
  (go_wp2
   go_ret
   exact ⟨by simp [*], rfl⟩)
set_option maxRecDepth 100000 in
set_option maxHeartbeats 1000000 in
theorem item_may_1y (b c v : Int) (w : World) (hb : 0 ≤ b ∧ b ≤ 63) :
  Calls Tryz.prog 119 #[.agg #[.int .i64 1, .int .i64 b, .int .i64 c, .int .i64 v]] w fun e w' => e = .returned (.bool (It.may ⟨1, b, c, v⟩)) ∧ Only [] w w' := by
 have hbd : decide (0 ≤ b ∧ b ≤ 63) = true := by simp; omega
 go_enter Tryz.func119, Tryz.ntmps119
 go_wp2_with (first | (go_at_call 165; refine (item_within_any _ _ _ _).mono ?_; rintro e w' ⟨rfl, rfl⟩))
 all_goals (go_ret; exact ⟨by simp [It.may, *], (Only.refl _ _).alloc _⟩)
set_option maxRecDepth 100000 in
set_option maxHeartbeats 1000000 in
theorem item_may_2y (b c v : Int) (w : World) (hb : 0 ≤ b ∧ b ≤ 63) :
  Calls Tryz.prog 119 #[.agg #[.int .i64 2, .int .i64 b, .int .i64 c, .int .i64 v]] w fun e w' => e = .returned (.bool (It.may ⟨2, b, c, v⟩)) ∧ Only [] w w' := by
 have hbd : decide (0 ≤ b ∧ b ≤ 63) = true := by simp; omega
 have hw1 : IntKind.i64.wrap (64 - b) = 64 - b := IntWalk.i64_in _ (by omega)
 go_enter Tryz.func119, Tryz.ntmps119
 go_wp2_with (first | (go_at_call 165; refine (item_within_any _ _ _ _).mono ?_; rintro e w' ⟨rfl, rfl⟩))
 all_goals (go_ret; exact ⟨by simp [It.may, *], (Only.refl _ _).alloc _⟩)
set_option maxRecDepth 100000 in
set_option maxHeartbeats 1000000 in
theorem item_may_3y (b c v : Int) (w : World) (hb : 0 ≤ b ∧ b ≤ 63) :
  Calls Tryz.prog 119 #[.agg #[.int .i64 3, .int .i64 b, .int .i64 c, .int .i64 v]] w fun e w' => e = .returned (.bool (It.may ⟨3, b, c, v⟩)) ∧ Only [] w w' := by
 have hbd : decide (0 ≤ b ∧ b ≤ 63) = true := by simp; omega
 go_enter Tryz.func119, Tryz.ntmps119
 go_wp2_with (first | (go_at_call 165; refine (item_within_any _ _ _ _).mono ?_; rintro e w' ⟨rfl, rfl⟩))
 all_goals (go_ret; exact ⟨by simp [It.may, *], (Only.refl _ _).alloc _⟩)
set_option maxRecDepth 100000 in
set_option maxHeartbeats 1000000 in
theorem item_may_4y (b c v : Int) (w : World) (hb : 0 ≤ b ∧ b ≤ 63) :
  Calls Tryz.prog 119 #[.agg #[.int .i64 4, .int .i64 b, .int .i64 c, .int .i64 v]] w fun e w' => e = .returned (.bool (It.may ⟨4, b, c, v⟩)) ∧ Only [] w w' := by
 have hbd : decide (0 ≤ b ∧ b ≤ 63) = true := by simp; omega
 go_enter Tryz.func119, Tryz.ntmps119
 go_wp2_with (first | (go_at_call 165; refine (item_within_any _ _ _ _).mono ?_; rintro e w' ⟨rfl, rfl⟩))
 all_goals (go_ret; exact ⟨by simp [It.may, *], (Only.refl _ _).alloc _⟩)
set_option maxRecDepth 100000 in
set_option maxHeartbeats 1000000 in
theorem item_may_5y (b c v : Int) (w : World) (hb : 0 ≤ b ∧ b ≤ 63) :
  Calls Tryz.prog 119 #[.agg #[.int .i64 5, .int .i64 b, .int .i64 c, .int .i64 v]] w fun e w' => e = .returned (.bool (It.may ⟨5, b, c, v⟩)) ∧ Only [] w w' := by
 have hbd : decide (0 ≤ b ∧ b ≤ 63) = true := by simp; omega
 go_enter Tryz.func119, Tryz.ntmps119
 go_wp2_with (first | (go_at_call 165; refine (item_within_any _ _ _ _).mono ?_; rintro e w' ⟨rfl, rfl⟩))
 all_goals (go_ret; exact ⟨by simp [It.may, *], (Only.refl _ _).alloc _⟩)
set_option maxRecDepth 100000 in
set_option maxHeartbeats 1000000 in
theorem item_may_6y (b c v : Int) (w : World) (hb : 0 ≤ b ∧ b ≤ 63) :
  Calls Tryz.prog 119 #[.agg #[.int .i64 6, .int .i64 b, .int .i64 c, .int .i64 v]] w fun e w' => e = .returned (.bool (It.may ⟨6, b, c, v⟩)) ∧ Only [] w w' := by
 have hbd : decide (0 ≤ b ∧ b ≤ 63) = true := by simp; omega
 have hw1 : IntKind.i64.wrap (64 - b) = 64 - b := IntWalk.i64_in _ (by omega)
 go_enter Tryz.func119, Tryz.ntmps119
 go_wp2_with (first | (go_at_call 165; refine (item_within_any _ _ _ _).mono ?_; rintro e w' ⟨rfl, rfl⟩))
 all_goals (go_ret; exact ⟨by simp [It.may, *], (Only.refl _ _).alloc _⟩)
set_option maxRecDepth 100000 in
set_option maxHeartbeats 1000000 in
theorem item_may_7y (b c v : Int) (w : World) (hb : 0 ≤ b ∧ b ≤ 63) :
  Calls Tryz.prog 119 #[.agg #[.int .i64 7, .int .i64 b, .int .i64 c, .int .i64 v]] w fun e w' => e = .returned (.bool (It.may ⟨7, b, c, v⟩)) ∧ Only [] w w' := by
 have hbd : decide (0 ≤ b ∧ b ≤ 63) = true := by simp; omega
 go_enter Tryz.func119, Tryz.ntmps119
 go_wp2_with (first | (go_at_call 165; refine (item_within_any _ _ _ _).mono ?_; rintro e w' ⟨rfl, rfl⟩))
 all_goals (go_ret; exact ⟨by simp [It.may, *], (Only.refl _ _).alloc _⟩)
set_option maxRecDepth 100000 in
set_option maxHeartbeats 1000000 in
theorem item_may_0y (k b c v : Int) (w : World) (hb : 0 ≤ b ∧ b ≤ 63) (k1 : k ≠ 1) (k2 : k ≠ 2) (k3 : k ≠ 3) (k4 : k ≠ 4) (k5 : k ≠ 5) (k6 : k ≠ 6) (k7 : k ≠ 7) :
  Calls Tryz.prog 119 #[.agg #[.int .i64 k, .int .i64 b, .int .i64 c, .int .i64 v]] w fun e w' => e = .returned (.bool (It.may ⟨k, b, c, v⟩)) ∧ Only [] w w' := by
 have hbd : decide (0 ≤ b ∧ b ≤ 63) = true := by simp; omega
 have e1 : (k == 1) = false := by simpa using k1
 have e2 : (k == 2) = false := by simpa using k2
 have e3 : (k == 3) = false := by simpa using k3
 have e4 : (k == 4) = false := by simpa using k4
 have e5 : (k == 5) = false := by simpa using k5
 have e6 : (k == 6) = false := by simpa using k6
 have e7 : (k == 7) = false := by simpa using k7
 go_enter Tryz.func119, Tryz.ntmps119
 go_wp2_with (first | (go_at_call 165; refine (item_within_any _ _ _ _).mono ?_; rintro e w' ⟨rfl, rfl⟩))
 all_goals (go_ret; exact ⟨by simp [It.may, *], (Only.refl _ _).alloc _⟩)
set_option maxRecDepth 100000 in
set_option maxHeartbeats 1000000 in
theorem item_may_1n (b c v : Int) (w : World) (hb : ¬ (0 ≤ b ∧ b ≤ 63)) :
  Calls Tryz.prog 119 #[.agg #[.int .i64 1, .int .i64 b, .int .i64 c, .int .i64 v]] w fun e w' => e = .returned (.bool (It.may ⟨1, b, c, v⟩)) ∧ Only [] w w' := by
 have hbd : decide (0 ≤ b ∧ b ≤ 63) = false := by simp; omega
 go_enter Tryz.func119, Tryz.ntmps119
 go_wp2_with (first | (go_at_call 165; refine (item_within_any _ _ _ _).mono ?_; rintro e w' ⟨rfl, rfl⟩))
 all_goals (go_ret; exact ⟨by simp [It.may, *], (Only.refl _ _).alloc _⟩)
set_option maxRecDepth 100000 in
set_option maxHeartbeats 1000000 in
theorem item_may_2n (b c v : Int) (w : World) (hb : ¬ (0 ≤ b ∧ b ≤ 63)) :
  Calls Tryz.prog 119 #[.agg #[.int .i64 2, .int .i64 b, .int .i64 c, .int .i64 v]] w fun e w' => e = .returned (.bool (It.may ⟨2, b, c, v⟩)) ∧ Only [] w w' := by
 have hbd : decide (0 ≤ b ∧ b ≤ 63) = false := by simp; omega
 go_enter Tryz.func119, Tryz.ntmps119
 go_wp2_with (first | (go_at_call 165; refine (item_within_any _ _ _ _).mono ?_; rintro e w' ⟨rfl, rfl⟩))
 all_goals (go_ret; exact ⟨by simp [It.may, *], (Only.refl _ _).alloc _⟩)
set_option maxRecDepth 100000 in
set_option maxHeartbeats 1000000 in
theorem item_may_3n (b c v : Int) (w : World) (hb : ¬ (0 ≤ b ∧ b ≤ 63)) :
  Calls Tryz.prog 119 #[.agg #[.int .i64 3, .int .i64 b, .int .i64 c, .int .i64 v]] w fun e w' => e = .returned (.bool (It.may ⟨3, b, c, v⟩)) ∧ Only [] w w' := by
 have hbd : decide (0 ≤ b ∧ b ≤ 63) = false := by simp; omega
 go_enter Tryz.func119, Tryz.ntmps119
 go_wp2_with (first | (go_at_call 165; refine (item_within_any _ _ _ _).mono ?_; rintro e w' ⟨rfl, rfl⟩))
 all_goals (go_ret; exact ⟨by simp [It.may, *], (Only.refl _ _).alloc _⟩)
set_option maxRecDepth 100000 in
set_option maxHeartbeats 1000000 in
theorem item_may_4n (b c v : Int) (w : World) (hb : ¬ (0 ≤ b ∧ b ≤ 63)) :
  Calls Tryz.prog 119 #[.agg #[.int .i64 4, .int .i64 b, .int .i64 c, .int .i64 v]] w fun e w' => e = .returned (.bool (It.may ⟨4, b, c, v⟩)) ∧ Only [] w w' := by
 have hbd : decide (0 ≤ b ∧ b ≤ 63) = false := by simp; omega
 go_enter Tryz.func119, Tryz.ntmps119
 go_wp2_with (first | (go_at_call 165; refine (item_within_any _ _ _ _).mono ?_; rintro e w' ⟨rfl, rfl⟩))
 all_goals (go_ret; exact ⟨by simp [It.may, *], (Only.refl _ _).alloc _⟩)
set_option maxRecDepth 100000 in
set_option maxHeartbeats 1000000 in
theorem item_may_5n (b c v : Int) (w : World) (hb : ¬ (0 ≤ b ∧ b ≤ 63)) :
  Calls Tryz.prog 119 #[.agg #[.int .i64 5, .int .i64 b, .int .i64 c, .int .i64 v]] w fun e w' => e = .returned (.bool (It.may ⟨5, b, c, v⟩)) ∧ Only [] w w' := by
 have hbd : decide (0 ≤ b ∧ b ≤ 63) = false := by simp; omega
 go_enter Tryz.func119, Tryz.ntmps119
 go_wp2_with (first | (go_at_call 165; refine (item_within_any _ _ _ _).mono ?_; rintro e w' ⟨rfl, rfl⟩))
 all_goals (go_ret; exact ⟨by simp [It.may, *], (Only.refl _ _).alloc _⟩)
set_option maxRecDepth 100000 in
set_option maxHeartbeats 1000000 in
theorem item_may_6n (b c v : Int) (w : World) (hb : ¬ (0 ≤ b ∧ b ≤ 63)) :
  Calls Tryz.prog 119 #[.agg #[.int .i64 6, .int .i64 b, .int .i64 c, .int .i64 v]] w fun e w' => e = .returned (.bool (It.may ⟨6, b, c, v⟩)) ∧ Only [] w w' := by
 have hbd : decide (0 ≤ b ∧ b ≤ 63) = false := by simp; omega
 go_enter Tryz.func119, Tryz.ntmps119
 go_wp2_with (first | (go_at_call 165; refine (item_within_any _ _ _ _).mono ?_; rintro e w' ⟨rfl, rfl⟩))
 all_goals (go_ret; exact ⟨by simp [It.may, *], (Only.refl _ _).alloc _⟩)
set_option maxRecDepth 100000 in
set_option maxHeartbeats 1000000 in
theorem item_may_7n (b c v : Int) (w : World) (hb : ¬ (0 ≤ b ∧ b ≤ 63)) :
  Calls Tryz.prog 119 #[.agg #[.int .i64 7, .int .i64 b, .int .i64 c, .int .i64 v]] w fun e w' => e = .returned (.bool (It.may ⟨7, b, c, v⟩)) ∧ Only [] w w' := by
 have hbd : decide (0 ≤ b ∧ b ≤ 63) = false := by simp; omega
 go_enter Tryz.func119, Tryz.ntmps119
 go_wp2_with (first | (go_at_call 165; refine (item_within_any _ _ _ _).mono ?_; rintro e w' ⟨rfl, rfl⟩))
 all_goals (go_ret; exact ⟨by simp [It.may, *], (Only.refl _ _).alloc _⟩)
set_option maxRecDepth 100000 in
set_option maxHeartbeats 1000000 in
theorem item_may_0n (k b c v : Int) (w : World) (hb : ¬ (0 ≤ b ∧ b ≤ 63)) (k1 : k ≠ 1) (k2 : k ≠ 2) (k3 : k ≠ 3) (k4 : k ≠ 4) (k5 : k ≠ 5) (k6 : k ≠ 6) (k7 : k ≠ 7) :
  Calls Tryz.prog 119 #[.agg #[.int .i64 k, .int .i64 b, .int .i64 c, .int .i64 v]] w fun e w' => e = .returned (.bool (It.may ⟨k, b, c, v⟩)) ∧ Only [] w w' := by
 have hbd : decide (0 ≤ b ∧ b ≤ 63) = false := by simp; omega
 have e1 : (k == 1) = false := by simpa using k1
 have e2 : (k == 2) = false := by simpa using k2
 have e3 : (k == 3) = false := by simpa using k3
 have e4 : (k == 4) = false := by simpa using k4
 have e5 : (k == 5) = false := by simpa using k5
 have e6 : (k == 6) = false := by simpa using k6
 have e7 : (k == 7) = false := by simpa using k7
 go_enter Tryz.func119, Tryz.ntmps119
 go_wp2_with (first | (go_at_call 165; refine (item_within_any _ _ _ _).mono ?_; rintro e w' ⟨rfl, rfl⟩))
 all_goals (go_ret; exact ⟨by simp [It.may, *], (Only.refl _ _).alloc _⟩)
theorem item_may_any (k b c v : Int) (w : World) :
  Calls Tryz.prog 119 #[.agg #[.int .i64 k, .int .i64 b, .int .i64 c, .int .i64 v]] w fun e w' => e = .returned (.bool (It.may ⟨k, b, c, v⟩)) ∧ Only [] w w' := by
 by_cases hb : 0 ≤ b ∧ b ≤ 63
 ·by_cases k1 : k = 1
  ·subst k1; exact item_may_1y b c v w hb
  by_cases k2 : k = 2
  ·subst k2; exact item_may_2y b c v w hb
  by_cases k3 : k = 3
  ·subst k3; exact item_may_3y b c v w hb
  by_cases k4 : k = 4
  ·subst k4; exact item_may_4y b c v w hb
  by_cases k5 : k = 5
  ·subst k5; exact item_may_5y b c v w hb
  by_cases k6 : k = 6
  ·subst k6; exact item_may_6y b c v w hb
  by_cases k7 : k = 7
  ·subst k7; exact item_may_7y b c v w hb
  exact item_may_0y k b c v w hb k1 k2 k3 k4 k5 k6 k7
 ·by_cases k1 : k = 1
  ·subst k1; exact item_may_1n b c v w hb
  by_cases k2 : k = 2
  ·subst k2; exact item_may_2n b c v w hb
  by_cases k3 : k = 3
  ·subst k3; exact item_may_3n b c v w hb
  by_cases k4 : k = 4
  ·subst k4; exact item_may_4n b c v w hb
  by_cases k5 : k = 5
  ·subst k5; exact item_may_5n b c v w hb
  by_cases k6 : k = 6
  ·subst k6; exact item_may_6n b c v w hb
  by_cases k7 : k = 7
  ·subst k7; exact item_may_7n b c v w hb
  exact item_may_0n k b c v w hb k1 k2 k3 k4 k5 k6 k7
set_option maxRecDepth 100000 in
set_option maxHeartbeats 1000000 in
theorem ref_item_may_1y (b c v : Int) (w : World) (hb : 0 ≤ b ∧ b ≤ 63) :
  Calls Tryz.prog 123 #[.agg #[.int .i64 1, .int .i64 b, .int .i64 c, .int .i64 v]] w fun e w' => e = .returned (.bool (It.may ⟨1, b, c, v⟩)) ∧ Only [] w w' := by
 have hbd : decide (0 ≤ b ∧ b ≤ 63) = true := by simp; omega
 go_enter Tryz.func123, Tryz.ntmps123
 go_wp2_with (first | (go_at_call 99; refine (within_any _ _ _ _).mono ?_; rintro e w' ⟨rfl, rfl⟩))
 all_goals (go_ret; exact ⟨by simp [It.may, *], (Only.refl _ _).alloc _⟩)
set_option maxRecDepth 100000 in
set_option maxHeartbeats 1000000 in
theorem ref_item_may_2y (b c v : Int) (w : World) (hb : 0 ≤ b ∧ b ≤ 63) :
  Calls Tryz.prog 123 #[.agg #[.int .i64 2, .int .i64 b, .int .i64 c, .int .i64 v]] w fun e w' => e = .returned (.bool (It.may ⟨2, b, c, v⟩)) ∧ Only [] w w' := by
 have hbd : decide (0 ≤ b ∧ b ≤ 63) = true := by simp; omega
 have hw1 : IntKind.i64.wrap (64 - b) = 64 - b := IntWalk.i64_in _ (by omega)
 go_enter Tryz.func123, Tryz.ntmps123
 go_wp2_with (first | (go_at_call 99; refine (within_any _ _ _ _).mono ?_; rintro e w' ⟨rfl, rfl⟩))
 all_goals (go_ret; exact ⟨by simp [It.may, *], (Only.refl _ _).alloc _⟩)
set_option maxRecDepth 100000 in
set_option maxHeartbeats 1000000 in
theorem ref_item_may_3y (b c v : Int) (w : World) (hb : 0 ≤ b ∧ b ≤ 63) :
  Calls Tryz.prog 123 #[.agg #[.int .i64 3, .int .i64 b, .int .i64 c, .int .i64 v]] w fun e w' => e = .returned (.bool (It.may ⟨3, b, c, v⟩)) ∧ Only [] w w' := by
 have hbd : decide (0 ≤ b ∧ b ≤ 63) = true := by simp; omega
 go_enter Tryz.func123, Tryz.ntmps123
 go_wp2_with (first | (go_at_call 99; refine (within_any _ _ _ _).mono ?_; rintro e w' ⟨rfl, rfl⟩))
 all_goals (go_ret; exact ⟨by simp [It.may, *], (Only.refl _ _).alloc _⟩)
set_option maxRecDepth 100000 in
set_option maxHeartbeats 1000000 in
theorem ref_item_may_4y (b c v : Int) (w : World) (hb : 0 ≤ b ∧ b ≤ 63) :
  Calls Tryz.prog 123 #[.agg #[.int .i64 4, .int .i64 b, .int .i64 c, .int .i64 v]] w fun e w' => e = .returned (.bool (It.may ⟨4, b, c, v⟩)) ∧ Only [] w w' := by
 have hbd : decide (0 ≤ b ∧ b ≤ 63) = true := by simp; omega
 go_enter Tryz.func123, Tryz.ntmps123
 go_wp2_with (first | (go_at_call 99; refine (within_any _ _ _ _).mono ?_; rintro e w' ⟨rfl, rfl⟩))
 all_goals (go_ret; exact ⟨by simp [It.may, *], (Only.refl _ _).alloc _⟩)
set_option maxRecDepth 100000 in
set_option maxHeartbeats 1000000 in
theorem ref_item_may_5y (b c v : Int) (w : World) (hb : 0 ≤ b ∧ b ≤ 63) :
  Calls Tryz.prog 123 #[.agg #[.int .i64 5, .int .i64 b, .int .i64 c, .int .i64 v]] w fun e w' => e = .returned (.bool (It.may ⟨5, b, c, v⟩)) ∧ Only [] w w' := by
 have hbd : decide (0 ≤ b ∧ b ≤ 63) = true := by simp; omega
 go_enter Tryz.func123, Tryz.ntmps123
 go_wp2_with (first | (go_at_call 99; refine (within_any _ _ _ _).mono ?_; rintro e w' ⟨rfl, rfl⟩))
 all_goals (go_ret; exact ⟨by simp [It.may, *], (Only.refl _ _).alloc _⟩)
set_option maxRecDepth 100000 in
set_option maxHeartbeats 1000000 in
theorem ref_item_may_6y (b c v : Int) (w : World) (hb : 0 ≤ b ∧ b ≤ 63) :
  Calls Tryz.prog 123 #[.agg #[.int .i64 6, .int .i64 b, .int .i64 c, .int .i64 v]] w fun e w' => e = .returned (.bool (It.may ⟨6, b, c, v⟩)) ∧ Only [] w w' := by
 have hbd : decide (0 ≤ b ∧ b ≤ 63) = true := by simp; omega
 have hw1 : IntKind.i64.wrap (64 - b) = 64 - b := IntWalk.i64_in _ (by omega)
 go_enter Tryz.func123, Tryz.ntmps123
 go_wp2_with (first | (go_at_call 99; refine (within_any _ _ _ _).mono ?_; rintro e w' ⟨rfl, rfl⟩))
 all_goals (go_ret; exact ⟨by simp [It.may, *], (Only.refl _ _).alloc _⟩)
set_option maxRecDepth 100000 in
set_option maxHeartbeats 1000000 in
theorem ref_item_may_7y (b c v : Int) (w : World) (hb : 0 ≤ b ∧ b ≤ 63) :
  Calls Tryz.prog 123 #[.agg #[.int .i64 7, .int .i64 b, .int .i64 c, .int .i64 v]] w fun e w' => e = .returned (.bool (It.may ⟨7, b, c, v⟩)) ∧ Only [] w w' := by
 have hbd : decide (0 ≤ b ∧ b ≤ 63) = true := by simp; omega
 go_enter Tryz.func123, Tryz.ntmps123
 go_wp2_with (first | (go_at_call 99; refine (within_any _ _ _ _).mono ?_; rintro e w' ⟨rfl, rfl⟩))
 all_goals (go_ret; exact ⟨by simp [It.may, *], (Only.refl _ _).alloc _⟩)
set_option maxRecDepth 100000 in
set_option maxHeartbeats 1000000 in
theorem ref_item_may_0y (k b c v : Int) (w : World) (hb : 0 ≤ b ∧ b ≤ 63) (k1 : k ≠ 1) (k2 : k ≠ 2) (k3 : k ≠ 3) (k4 : k ≠ 4) (k5 : k ≠ 5) (k6 : k ≠ 6) (k7 : k ≠ 7) :
  Calls Tryz.prog 123 #[.agg #[.int .i64 k, .int .i64 b, .int .i64 c, .int .i64 v]] w fun e w' => e = .returned (.bool (It.may ⟨k, b, c, v⟩)) ∧ Only [] w w' := by
 have hbd : decide (0 ≤ b ∧ b ≤ 63) = true := by simp; omega
 have e1 : (k == 1) = false := by simpa using k1
 have e2 : (k == 2) = false := by simpa using k2
 have e3 : (k == 3) = false := by simpa using k3
 have e4 : (k == 4) = false := by simpa using k4
 have e5 : (k == 5) = false := by simpa using k5
 have e6 : (k == 6) = false := by simpa using k6
 have e7 : (k == 7) = false := by simpa using k7
 go_enter Tryz.func123, Tryz.ntmps123
 go_wp2_with (first | (go_at_call 99; refine (within_any _ _ _ _).mono ?_; rintro e w' ⟨rfl, rfl⟩))
 all_goals (go_ret; exact ⟨by simp [It.may, *], (Only.refl _ _).alloc _⟩)
set_option maxRecDepth 100000 in
set_option maxHeartbeats 1000000 in
theorem ref_item_may_1n (b c v : Int) (w : World) (hb : ¬ (0 ≤ b ∧ b ≤ 63)) :
  Calls Tryz.prog 123 #[.agg #[.int .i64 1, .int .i64 b, .int .i64 c, .int .i64 v]] w fun e w' => e = .returned (.bool (It.may ⟨1, b, c, v⟩)) ∧ Only [] w w' := by
 have hbd : decide (0 ≤ b ∧ b ≤ 63) = false := by simp; omega
 go_enter Tryz.func123, Tryz.ntmps123
 go_wp2_with (first | (go_at_call 99; refine (within_any _ _ _ _).mono ?_; rintro e w' ⟨rfl, rfl⟩))
 all_goals (go_ret; exact ⟨by simp [It.may, *], (Only.refl _ _).alloc _⟩)
set_option maxRecDepth 100000 in
set_option maxHeartbeats 1000000 in
theorem ref_item_may_2n (b c v : Int) (w : World) (hb : ¬ (0 ≤ b ∧ b ≤ 63)) :
  Calls Tryz.prog 123 #[.agg #[.int .i64 2, .int .i64 b, .int .i64 c, .int .i64 v]] w fun e w' => e = .returned (.bool (It.may ⟨2, b, c, v⟩)) ∧ Only [] w w' := by
 have hbd : decide (0 ≤ b ∧ b ≤ 63) = false := by simp; omega
 go_enter Tryz.func123, Tryz.ntmps123
 go_wp2_with (first | (go_at_call 99; refine (within_any _ _ _ _).mono ?_; rintro e w' ⟨rfl, rfl⟩))
 all_goals (go_ret; exact ⟨by simp [It.may, *], (Only.refl _ _).alloc _⟩)
set_option maxRecDepth 100000 in
set_option maxHeartbeats 1000000 in
theorem ref_item_may_3n (b c v : Int) (w : World) (hb : ¬ (0 ≤ b ∧ b ≤ 63)) :
  Calls Tryz.prog 123 #[.agg #[.int .i64 3, .int .i64 b, .int .i64 c, .int .i64 v]] w fun e w' => e = .returned (.bool (It.may ⟨3, b, c, v⟩)) ∧ Only [] w w' := by
 have hbd : decide (0 ≤ b ∧ b ≤ 63) = false := by simp; omega
 go_enter Tryz.func123, Tryz.ntmps123
 go_wp2_with (first | (go_at_call 99; refine (within_any _ _ _ _).mono ?_; rintro e w' ⟨rfl, rfl⟩))
 all_goals (go_ret; exact ⟨by simp [It.may, *], (Only.refl _ _).alloc _⟩)
set_option maxRecDepth 100000 in
set_option maxHeartbeats 1000000 in
theorem ref_item_may_4n (b c v : Int) (w : World) (hb : ¬ (0 ≤ b ∧ b ≤ 63)) :
  Calls Tryz.prog 123 #[.agg #[.int .i64 4, .int .i64 b, .int .i64 c, .int .i64 v]] w fun e w' => e = .returned (.bool (It.may ⟨4, b, c, v⟩)) ∧ Only [] w w' := by
 have hbd : decide (0 ≤ b ∧ b ≤ 63) = false := by simp; omega
 go_enter Tryz.func123, Tryz.ntmps123
 go_wp2_with (first | (go_at_call 99; refine (within_any _ _ _ _).mono ?_; rintro e w' ⟨rfl, rfl⟩))
 all_goals (go_ret; exact ⟨by simp [It.may, *], (Only.refl _ _).alloc _⟩)
set_option maxRecDepth 100000 in
set_option maxHeartbeats 1000000 in
theorem ref_item_may_5n (b c v : Int) (w : World) (hb : ¬ (0 ≤ b ∧ b ≤ 63)) :
  Calls Tryz.prog 123 #[.agg #[.int .i64 5, .int .i64 b, .int .i64 c, .int .i64 v]] w fun e w' => e = .returned (.bool (It.may ⟨5, b, c, v⟩)) ∧ Only [] w w' := by
 have hbd : decide (0 ≤ b ∧ b ≤ 63) = false := by simp; omega
 go_enter Tryz.func123, Tryz.ntmps123
 go_wp2_with (first | (go_at_call 99; refine (within_any _ _ _ _).mono ?_; rintro e w' ⟨rfl, rfl⟩))
 all_goals (go_ret; exact ⟨by simp [It.may, *], (Only.refl _ _).alloc _⟩)
set_option maxRecDepth 100000 in
set_option maxHeartbeats 1000000 in
theorem ref_item_may_6n (b c v : Int) (w : World) (hb : ¬ (0 ≤ b ∧ b ≤ 63)) :
  Calls Tryz.prog 123 #[.agg #[.int .i64 6, .int .i64 b, .int .i64 c, .int .i64 v]] w fun e w' => e = .returned (.bool (It.may ⟨6, b, c, v⟩)) ∧ Only [] w w' := by
 have hbd : decide (0 ≤ b ∧ b ≤ 63) = false := by simp; omega
 go_enter Tryz.func123, Tryz.ntmps123
 go_wp2_with (first | (go_at_call 99; refine (within_any _ _ _ _).mono ?_; rintro e w' ⟨rfl, rfl⟩))
 all_goals (go_ret; exact ⟨by simp [It.may, *], (Only.refl _ _).alloc _⟩)
set_option maxRecDepth 100000 in
set_option maxHeartbeats 1000000 in
theorem ref_item_may_7n (b c v : Int) (w : World) (hb : ¬ (0 ≤ b ∧ b ≤ 63)) :
  Calls Tryz.prog 123 #[.agg #[.int .i64 7, .int .i64 b, .int .i64 c, .int .i64 v]] w fun e w' => e = .returned (.bool (It.may ⟨7, b, c, v⟩)) ∧ Only [] w w' := by
 have hbd : decide (0 ≤ b ∧ b ≤ 63) = false := by simp; omega
 go_enter Tryz.func123, Tryz.ntmps123
 go_wp2_with (first | (go_at_call 99; refine (within_any _ _ _ _).mono ?_; rintro e w' ⟨rfl, rfl⟩))
 all_goals (go_ret; exact ⟨by simp [It.may, *], (Only.refl _ _).alloc _⟩)
set_option maxRecDepth 100000 in
set_option maxHeartbeats 1000000 in
theorem ref_item_may_0n (k b c v : Int) (w : World) (hb : ¬ (0 ≤ b ∧ b ≤ 63)) (k1 : k ≠ 1) (k2 : k ≠ 2) (k3 : k ≠ 3) (k4 : k ≠ 4) (k5 : k ≠ 5) (k6 : k ≠ 6) (k7 : k ≠ 7) :
  Calls Tryz.prog 123 #[.agg #[.int .i64 k, .int .i64 b, .int .i64 c, .int .i64 v]] w fun e w' => e = .returned (.bool (It.may ⟨k, b, c, v⟩)) ∧ Only [] w w' := by
 have hbd : decide (0 ≤ b ∧ b ≤ 63) = false := by simp; omega
 have e1 : (k == 1) = false := by simpa using k1
 have e2 : (k == 2) = false := by simpa using k2
 have e3 : (k == 3) = false := by simpa using k3
 have e4 : (k == 4) = false := by simpa using k4
 have e5 : (k == 5) = false := by simpa using k5
 have e6 : (k == 6) = false := by simpa using k6
 have e7 : (k == 7) = false := by simpa using k7
 go_enter Tryz.func123, Tryz.ntmps123
 go_wp2_with (first | (go_at_call 99; refine (within_any _ _ _ _).mono ?_; rintro e w' ⟨rfl, rfl⟩))
 all_goals (go_ret; exact ⟨by simp [It.may, *], (Only.refl _ _).alloc _⟩)
theorem ref_item_may_any (k b c v : Int) (w : World) :
  Calls Tryz.prog 123 #[.agg #[.int .i64 k, .int .i64 b, .int .i64 c, .int .i64 v]] w fun e w' => e = .returned (.bool (It.may ⟨k, b, c, v⟩)) ∧ Only [] w w' := by
 by_cases hb : 0 ≤ b ∧ b ≤ 63
 ·by_cases k1 : k = 1
  ·subst k1; exact ref_item_may_1y b c v w hb
  by_cases k2 : k = 2
  ·subst k2; exact ref_item_may_2y b c v w hb
  by_cases k3 : k = 3
  ·subst k3; exact ref_item_may_3y b c v w hb
  by_cases k4 : k = 4
  ·subst k4; exact ref_item_may_4y b c v w hb
  by_cases k5 : k = 5
  ·subst k5; exact ref_item_may_5y b c v w hb
  by_cases k6 : k = 6
  ·subst k6; exact ref_item_may_6y b c v w hb
  by_cases k7 : k = 7
  ·subst k7; exact ref_item_may_7y b c v w hb
  exact ref_item_may_0y k b c v w hb k1 k2 k3 k4 k5 k6 k7
 ·by_cases k1 : k = 1
  ·subst k1; exact ref_item_may_1n b c v w hb
  by_cases k2 : k = 2
  ·subst k2; exact ref_item_may_2n b c v w hb
  by_cases k3 : k = 3
  ·subst k3; exact ref_item_may_3n b c v w hb
  by_cases k4 : k = 4
  ·subst k4; exact ref_item_may_4n b c v w hb
  by_cases k5 : k = 5
  ·subst k5; exact ref_item_may_5n b c v w hb
  by_cases k6 : k = 6
  ·subst k6; exact ref_item_may_6n b c v w hb
  by_cases k7 : k = 7
  ·subst k7; exact ref_item_may_7n b c v w hb
  exact ref_item_may_0n k b c v w hb k1 k2 k3 k4 k5 k6 k7
set_option maxRecDepth 100000 in
set_option maxHeartbeats 1000000 in
theorem item_loaded_any (k b c v : Int) (w : World) :
  Calls Tryz.prog 118 #[.agg #[.int .i64 k, .int .i64 b, .int .i64 c, .int .i64 v]] w fun e w' => e = .returned (.bool (It.loaded ⟨k, b, c, v⟩)) ∧ Only [] w w' := by
 cases hm : It.may ⟨k, b, c, v⟩
 ·have HM := Lib.hid hm
  clear hm
  go_enter Tryz.func118, Tryz.ntmps118
  go_wp2_with (first | (go_at_call 119; refine (item_may_any _ _ _ _ _).mono ?_; rintro e w1 ⟨rfl, hO1⟩; have HO1 := Lib.hid hO1; clear hO1; rw [HM.out]))
  go_ret
  exact ⟨by simp [It.loaded, HM.out], ((Only.refl _ _).alloc _).trans' HO1.out⟩
 ·have HM := Lib.hid hm
  clear hm
  by_cases k1 : k = 1
  ·subst k1
   go_enter Tryz.func118, Tryz.ntmps118
   go_wp2_with (first | (go_at_call 119; refine (item_may_any _ _ _ _ _).mono ?_; rintro e w1 ⟨rfl, hO1⟩; have HO1 := Lib.hid hO1; have hx := hO1.cell (p := ⟨w.heap.size, 0, none⟩) (v := .int .i64 1) (by simp) (by simp); clear hO1; rw [HM.out]))
   go_ret
   exact ⟨by simp [It.loaded, HM.out], ((Only.refl _ _).alloc _).trans' HO1.out⟩
  by_cases k4 : k = 4
  ·subst k4
   go_enter Tryz.func118, Tryz.ntmps118
   go_wp2_with (first | (go_at_call 119; refine (item_may_any _ _ _ _ _).mono ?_; rintro e w1 ⟨rfl, hO1⟩; have HO1 := Lib.hid hO1; have hx := hO1.cell (p := ⟨w.heap.size, 0, none⟩) (v := .int .i64 4) (by simp) (by simp); clear hO1; rw [HM.out]))
   go_ret
   exact ⟨by simp [It.loaded, HM.out], ((Only.refl _ _).alloc _).trans' HO1.out⟩
  by_cases k5 : k = 5
  ·subst k5
   go_enter Tryz.func118, Tryz.ntmps118
   go_wp2_with (first | (go_at_call 119; refine (item_may_any _ _ _ _ _).mono ?_; rintro e w1 ⟨rfl, hO1⟩; have HO1 := Lib.hid hO1; have hx := hO1.cell (p := ⟨w.heap.size, 0, none⟩) (v := .int .i64 5) (by simp) (by simp); clear hO1; rw [HM.out]))
   go_ret
   exact ⟨by simp [It.loaded, HM.out], ((Only.refl _ _).alloc _).trans' HO1.out⟩
  have e1 : (k == 1) = false := by simpa using k1
  have e4 : (k == 4) = false := by simpa using k4
  have e5 : (k == 5) = false := by simpa using k5
  go_enter Tryz.func118, Tryz.ntmps118
  go_wp2_with (first | (go_at_call 119; refine (item_may_any _ _ _ _ _).mono ?_; rintro e w1 ⟨rfl, hO1⟩; have HO1 := Lib.hid hO1; have hx := hO1.cell (p := ⟨w.heap.size, 0, none⟩) (v := .int .i64 k) (by simp) (by simp); clear hO1; rw [HM.out]))
  go_ret
  exact ⟨by simp [It.loaded, HM.out, e1, e4, e5], ((Only.refl _ _).alloc _).trans' HO1.out⟩
set_option maxRecDepth 100000 in
set_option maxHeartbeats 1000000 in
theorem ref_item_loaded_any (k b c v : Int) (w : World) :
  Calls Tryz.prog 117 #[.agg #[.int .i64 k, .int .i64 b, .int .i64 c, .int .i64 v]] w fun e w' => e = .returned (.bool (It.loaded ⟨k, b, c, v⟩)) ∧ Only [] w w' := by
 cases hm : It.may ⟨k, b, c, v⟩
 ·have HM := Lib.hid hm
  clear hm
  go_enter Tryz.func117, Tryz.ntmps117
  go_wp2_with (first | (go_at_call 123; refine (ref_item_may_any _ _ _ _ _).mono ?_; rintro e w1 ⟨rfl, hO1⟩; have HO1 := Lib.hid hO1; clear hO1; rw [HM.out]))
  go_ret
  exact ⟨by simp [It.loaded, HM.out], ((Only.refl _ _).alloc _).trans' HO1.out⟩
 ·have HM := Lib.hid hm
  clear hm
  by_cases k1 : k = 1
  ·subst k1
   go_enter Tryz.func117, Tryz.ntmps117
   go_wp2_with (first | (go_at_call 123; refine (ref_item_may_any _ _ _ _ _).mono ?_; rintro e w1 ⟨rfl, hO1⟩; have HO1 := Lib.hid hO1; have hx := hO1.cell (p := ⟨w.heap.size, 0, none⟩) (v := .int .i64 1) (by simp) (by simp); clear hO1; rw [HM.out]))
   go_ret
   exact ⟨by simp [It.loaded, HM.out], ((Only.refl _ _).alloc _).trans' HO1.out⟩
  by_cases k4 : k = 4
  ·subst k4
   go_enter Tryz.func117, Tryz.ntmps117
   go_wp2_with (first | (go_at_call 123; refine (ref_item_may_any _ _ _ _ _).mono ?_; rintro e w1 ⟨rfl, hO1⟩; have HO1 := Lib.hid hO1; have hx := hO1.cell (p := ⟨w.heap.size, 0, none⟩) (v := .int .i64 4) (by simp) (by simp); clear hO1; rw [HM.out]))
   go_ret
   exact ⟨by simp [It.loaded, HM.out], ((Only.refl _ _).alloc _).trans' HO1.out⟩
  by_cases k5 : k = 5
  ·subst k5
   go_enter Tryz.func117, Tryz.ntmps117
   go_wp2_with (first | (go_at_call 123; refine (ref_item_may_any _ _ _ _ _).mono ?_; rintro e w1 ⟨rfl, hO1⟩; have HO1 := Lib.hid hO1; have hx := hO1.cell (p := ⟨w.heap.size, 0, none⟩) (v := .int .i64 5) (by simp) (by simp); clear hO1; rw [HM.out]))
   go_ret
   exact ⟨by simp [It.loaded, HM.out], ((Only.refl _ _).alloc _).trans' HO1.out⟩
  have e1 : (k == 1) = false := by simpa using k1
  have e4 : (k == 4) = false := by simpa using k4
  have e5 : (k == 5) = false := by simpa using k5
  go_enter Tryz.func117, Tryz.ntmps117
  go_wp2_with (first | (go_at_call 123; refine (ref_item_may_any _ _ _ _ _).mono ?_; rintro e w1 ⟨rfl, hO1⟩; have HO1 := Lib.hid hO1; have hx := hO1.cell (p := ⟨w.heap.size, 0, none⟩) (v := .int .i64 k) (by simp) (by simp); clear hO1; rw [HM.out]))
  go_ret
  exact ⟨by simp [It.loaded, HM.out, e1, e4, e5], ((Only.refl _ _).alloc _).trans' HO1.out⟩
end Go.Proofs.YtgcfdjcpcclcjaaGreat
namespace Go.Kn
open Go Go.RowKit
theorem bits_and_i64_nat (a b : Nat) (ha : a < 9223372036854775808) (hb : b < 9223372036854775808) :
  bits .and .i64 (a : Int) (b : Int) = ((a &&& b : Nat) : Int) := by
 have hx : a &&& b < 2 ^ 63 := Nat.and_lt_two_pow _ (by omega)
 have h1 : (BitVec.ofInt 64 (a : Int)).toNat = a := by
  rw [BitVec.ofInt_natCast, BitVec.toNat_ofNat]; exact Nat.mod_eq_of_lt (by omega)
 have h2 : (BitVec.ofInt 64 (b : Int)).toNat = b := by
  rw [BitVec.ofInt_natCast, BitVec.toNat_ofNat]; exact Nat.mod_eq_of_lt (by omega)
 show IntKind.i64.wrap ((BitVec.ofInt 64 (a : Int) &&& BitVec.ofInt 64 (b : Int)).toNat : Int) = _
 rw [BitVec.toNat_and, h1, h2, IntKind.wrap_i64]
 omega
/-- the number that bytes are, the least first -/
def num : List UInt8 → Nat
 | [] => 0
 | c :: r => c.toNat + 256 * num r
theorem pow_256 (j : Nat) : (2 : Nat) ^ (8 * j) = 256 ^ j := by rw [Nat.pow_mul]
/-- a number as bytes, the least first -/
def le : Nat → Nat → List UInt8
 | 0, _ => []
 | n + 1, z => UInt8.ofNat z :: le n (z / 256)
@[simp] theorem le_length : ∀ n z, (le n z).length = n
 | 0, _ => rfl
 | n + 1, z => by simp [le, le_length n]
theorem le_get : ∀ (n z i : Nat) (h : i < (le n z).length), (le n z)[i] = UInt8.ofNat (z / 256 ^ i)
 | 0, z, i, h => by simp at h
 | n + 1, z, 0, h => by simp [le]
 | n + 1, z, i + 1, h => by
  simp only [le, List.getElem_cons_succ]
  rw [le_get n (z / 256) i, Nat.div_div_eq_div_mul, Nat.pow_succ, Nat.mul_comm 256]
theorem num_le : ∀ (n z : Nat), z < 256 ^ n → num (le n z) = z
 | 0, z, h => by simp at h; simp [le, num, h]
 | n + 1, z, h => by
  have h1 : z / 256 < 256 ^ n := by rw [Nat.pow_succ] at h; exact Nat.div_lt_of_lt_mul (by rw [Nat.mul_comm]; exact h)
  simp only [le, num, num_le n _ h1, UInt8.toNat_ofNat']
  omega
/-- bytes laid over others from a place on -/
def lay (bs : List UInt8) (k : Nat) (xs : List UInt8) : List UInt8 := bs.take k ++ (xs ++ bs.drop (k + xs.length))
theorem lay_length (bs : List UInt8) (k : Nat) (xs : List UInt8) (h : k + xs.length ≤ bs.length) : (lay bs k xs).length = bs.length := by simp [lay]; omega
theorem lay_nil (bs : List UInt8) (k : Nat) : lay bs k [] = bs := by simp [lay]
theorem lay_set (bs : List UInt8) (k : Nat) (xs : List UInt8) (c : UInt8) (h : k + xs.length < bs.length) : (lay bs k xs).set (k + xs.length) c = lay bs k (xs ++ [c]) := by
 unfold lay
 have h1 : (bs.take k).length = k := by simp; omega
 rw [List.set_append_right _ _ (by omega), h1, Nat.add_sub_cancel_left, List.set_append_right _ _ (by omega), Nat.sub_self, List.drop_eq_getElem_cons h]
 simp [Nat.add_assoc]
theorem lay_lay (bs : List UInt8) (k : Nat) (xs ys : List UInt8) (h : k + xs.length + ys.length ≤ bs.length) : lay (lay bs k xs) (k + xs.length) ys = lay bs k (xs ++ ys) := by
 unfold lay
 have h1 : (bs.take k).length = k := by simp; omega
 have h2 : (bs.take k ++ (xs ++ bs.drop (k + xs.length))).take (k + xs.length) = bs.take k ++ xs := by
  rw [← List.append_assoc, List.take_append_of_le_length (by simp; omega)]
  exact List.take_of_length_le (by simp; omega)
 have h3 : (bs.take k ++ (xs ++ bs.drop (k + xs.length))).drop (k + xs.length + ys.length) = bs.drop (k + xs.length + ys.length) := by
  rw [← List.append_assoc, List.drop_append]
  have : (bs.take k ++ xs).length = k + xs.length := by simp; omega
  rw [this, List.drop_eq_nil_of_le (by omega), List.nil_append, List.drop_drop]
  congr 1
  omega
 rw [h2, h3]
 simp [Nat.add_assoc]
theorem bvs_lay (bs : List UInt8) (k : Nat) (xs : List UInt8) : (bvs bs).take k ++ (bvs xs ++ (bvs bs).drop (k + (bvs xs).length)) = bvs (lay bs k xs) := by simp [bvs, lay]
/-- numbers as bytes, one after the other -/
def les (n : Nat) (zs : List Int) : List UInt8 := zs.flatMap fun z => le n z.toNat
@[simp] theorem les_nil (n : Nat) : les n [] = [] := rfl
theorem les_cons (n : Nat) (z : Int) (zs : List Int) : les n (z :: zs) = le n z.toNat ++ les n zs := rfl
theorem les_append (n : Nat) (a b : List Int) : les n (a ++ b) = les n a ++ les n b := by simp [les]
@[simp] theorem les_length (n : Nat) (zs : List Int) : (les n zs).length = n * zs.length := by
 induction zs with
 | nil => simp
 | cons z zs ih => rw [les_cons, List.length_append, ih, le_length, List.length_cons, Nat.mul_succ]; omega
/-- numbers that fit so many bytes -/
def Fit (n : Nat) (zs : List Int) : Prop := ∀ z ∈ zs, 0 ≤ z ∧ z < 256 ^ n
/-- l numbers laid, and t bytes of the next -/
def mid (bs : List UInt8) (k n : Nat) (zs : List Int) (l t : Nat) : List UInt8 := lay bs k (les n (zs.take l) ++ (le n (zs.getD l 0).toNat).take t)
theorem mid_len {n : Nat} {zs : List Int} {l t : Nat} (hl : l < zs.length) (ht : t ≤ n) : (les n (zs.take l) ++ (le n (zs.getD l 0).toNat).take t).length = n * l + t := by
 rw [List.length_append, les_length, List.length_take, List.length_take, le_length, Nat.min_eq_left (by omega), Nat.min_eq_left ht]
theorem mid_room {k n L m l : Nat} (h : k + n * m ≤ L) (hl : l < m) : k + n * l + n ≤ L := by
 have := Nat.mul_le_mul_left n (show l + 1 ≤ m by omega)
 rw [Nat.mul_succ] at this
 omega
theorem mid_length {bs : List UInt8} {k n : Nat} {zs : List Int} {l t : Nat} (h : k + n * zs.length ≤ bs.length) (hl : l < zs.length) (ht : t ≤ n) : (mid bs k n zs l t).length = bs.length := by
 have h1 := mid_room h hl
 have h2 := mid_len hl ht
 exact lay_length _ _ _ (by rw [h2]; omega)
theorem mid_set {bs : List UInt8} {k n : Nat} {zs : List Int} {l t : Nat} (h : k + n * zs.length ≤ bs.length) (hl : l < zs.length) (ht : t < n) :
  (mid bs k n zs l t).set (k + n * l + t) (UInt8.ofNat ((zs.getD l 0).toNat / 256 ^ t)) = mid bs k n zs l (t + 1) := by
 have h1 := mid_room h hl
 have h2 := mid_len hl (Nat.le_of_lt ht)
 have h3 := lay_set bs k (les n (zs.take l) ++ (le n (zs.getD l 0).toNat).take t) (UInt8.ofNat ((zs.getD l 0).toNat / 256 ^ t)) (by rw [h2]; omega)
 rw [h2, ← Nat.add_assoc] at h3
 unfold mid
 rw [h3, List.append_assoc, List.take_succ_eq_append_getElem (by simpa using ht), le_get]
theorem mid_next {bs : List UInt8} {k n : Nat} {zs : List Int} {l : Nat} (hl : l < zs.length) : mid bs k n zs l n = lay bs k (les n (zs.take (l + 1))) := by
 unfold mid
 have h2 : (le n (zs.getD l 0).toNat).take n = le n (zs.getD l 0).toNat := List.take_of_length_le (by simp)
 rw [List.take_succ_eq_append_getElem hl, les_append, h2]
 have e : zs.getD l 0 = zs[l] := by simp [hl]
 rw [e]
 simp [les]
instance (n : Nat) (zs : List Int) : Decidable (Fit n zs) := inferInstanceAs (Decidable (∀ z ∈ zs, 0 ≤ z ∧ z < 256 ^ n))
theorem lay_all (bs xs : List UInt8) (h : xs.length = bs.length) : lay bs 0 xs = xs := by
 unfold lay
 rw [List.take_zero, List.nil_append, Nat.zero_add, List.drop_eq_nil_of_le (by omega), List.append_nil]
theorem fit_one {n : Nat} {z : Int} (h : 0 ≤ z ∧ z < 256 ^ n) : Fit n [z] := by
 intro x hx
 simp at hx
 subst hx
 exact h
theorem les_one (n : Nat) (z : Int) : les n [z] = le n z.toNat := by simp [les]
theorem pow_256_le {n : Nat} (h : n ≤ 4) : (256 : Int) ^ n ≤ 4294967296 := by
 rcases n with _ | _ | _ | _ | _ | n
 all_goals first | decide | omega
theorem byte_of (z i : Nat) (hz : z < 9223372036854775808) : IntKind.u8.wrap (bits .and .i64 ((z : Int) / 2 ^ (8 * i)) 255) = ((UInt8.ofNat (z / 256 ^ i)).toNat : Int) := by
 have e1 : ((z : Int) / 2 ^ (8 * i)) = ((z / 256 ^ i : Nat) : Int) := by
  rw [← pow_256]
  simp
 have h1 : z / 256 ^ i ≤ z := Nat.div_le_self _ _
 rw [e1, show (255 : Int) = ((255 : Nat) : Int) from rfl, bits_and_i64_nat _ _ (by omega) (by omega), show 255 = 2 ^ 8 - 1 from rfl, Nat.and_two_pow_sub_one_eq_mod, UInt8.toNat_ofNat', IntKind.wrap_u8]
 omega
theorem shr_zero (z : Int) (n : Nat) (h0 : 0 ≤ z) : (z / 2 ^ (8 * n) == 0) = decide (z < 256 ^ n) := by
 have e : (2 : Int) ^ (8 * n) = 256 ^ n := by rw [Int.pow_mul]; rfl
 have hp : (0 : Int) < 256 ^ n := Int.pow_pos (by omega)
 rw [e]
 rw [Bool.eq_iff_iff]
 simp only [beq_iff_eq, decide_eq_true_eq]
 constructor
 ·intro h
  have := Int.lt_mul_ediv_self_add (x := z) hp
  rw [h] at this
  omega
 ·intro h
  exact Int.ediv_eq_zero_of_lt h0 h
end Go.Kn
namespace Go.Kn
open Go Go.RowKit
/-- an item as bytes -/
def It.bytes (i : It) : List UInt8 := les 1 [i.k, i.b, i.c] ++ les 4 [i.v]
theorem It.bytes_length (i : It) : i.bytes.length = 7 := by simp [It.bytes]
def itsB (l : List It) : List UInt8 := l.flatMap It.bytes
theorem itsB_length (l : List It) : (itsB l).length = 7 * l.length := by
 induction l with
 | nil => rfl
 | cons i l ih =>
  have : itsB (i :: l) = i.bytes ++ itsB l := rfl
  rw [this, List.length_append, ih, It.bytes_length, List.length_cons]
  omega
theorem itsB_snoc (l : List It) (i : It) : itsB (l ++ [i]) = itsB l ++ i.bytes := by simp [itsB]
theorem itsB_cons (i : It) (l : List It) : itsB (i :: l) = i.bytes ++ itsB l := rfl
/-- the numbers of an item that may be -/
theorem It.may_bounds {i : It} (h : i.may = true) : (1 ≤ i.k ∧ i.k ≤ 7) ∧ (0 ≤ i.b ∧ i.b ≤ 63) ∧ (0 ≤ i.c ∧ i.c ≤ 64) ∧ (0 ≤ i.v ∧ i.v ≤ 2147483647) := by
 obtain ⟨k, b, c, v⟩ := i
 unfold It.may at h
 simp only at h ⊢
 split at h
 ·simp at h; omega
 split at h
 ·simp at h; omega
 split at h
 ·simp at h; omega
 split at h
 ·simp at h; omega
 split at h
 ·simp at h; omega
 ·cases h
theorem It.fit1 {i : It} (h : i.may = true) : Fit 1 [i.k, i.b, i.c] := by
 obtain ⟨h1, h2, h3, h4⟩ := i.may_bounds h
 intro z hz
 simp at hz
 have e : (256 : Int) ^ 1 = 256 := rfl
 rw [e]
 rcases hz with rfl | rfl | rfl <;> omega
theorem It.fit4 {i : It} (h : i.may = true) : Fit 4 [i.v] := by
  obtain ⟨h1, h2, h3, h4⟩ := i.may_bounds h
  exact fit_one ⟨by omega, by have e : (256 : Int) ^ 4 = 4294967296 := rfl
                              omega⟩
/-- items as bytes, or refused -/
def encItems (l : List It) : Option (List UInt8) := if l.length ≤ 6 ∧ l.all It.may = true then some (itsB l) else none
/-- a slice of items that reads as a list -/
structure Its (w : World) (A : Option Addr) (n c : Nat) (l : List It) : Prop where
 len : l.length = n
 le : n ≤ c
 cm : c ≤ maxLen
 at_ : 0 < n → ∃ g o, A = some ⟨g, o, none⟩ ∧ ∀ i (h : i < l.length), w.cell? ⟨g, o + i * 4, none⟩ = some (.int .i64 l[i].k) ∧ w.cell? ⟨g, o + i * 4 + 1, none⟩ = some (.int .i64 l[i].b) ∧
  w.cell? ⟨g, o + i * 4 + 2, none⟩ = some (.int .i64 l[i].c) ∧ w.cell? ⟨g, o + i * 4 + 3, none⟩ = some (.int .i64 l[i].v)
section
variable {S : List Nat} {w w' : World} {A : Option Addr} {n c : Nat} {l : List It}
theorem Its.keepP (h : Its w A n c l) (ho : Only S w w') (hs : 0 < n → ∀ a, A = some a → a.block ∉ S) : Its w' A n c l :=
 ⟨h.len, h.le, h.cm, fun hn => by
  obtain ⟨g, o, e, hc⟩ := h.at_ hn
  have hg := hs hn _ e
  refine ⟨g, o, e, fun i hi => ?_⟩
  obtain ⟨c0, c1, c2, c3⟩ := hc i hi
  exact ⟨ho.cell c0 hg, ho.cell c1 hg, ho.cell c2 hg, ho.cell c3 hg⟩⟩
theorem Its.keep0 (h : Its w A n c l) (ho : Only [] w w') : Its w' A n c l := h.keepP ho (by simp)
theorem Its.block_lt (h : Its w A n c l) (hn : 0 < n) : ∀ a, A = some a → a.block < w.heap.size := by
 obtain ⟨g, o, e, hc⟩ := h.at_ hn
 intro a ha
 rw [e] at ha
 injection ha with ha
 subst ha
 exact lt_of_cell (p := ⟨g, o + 0 * 4, none⟩) (hc 0 (by have := h.len; omega)).1
theorem Its.nil (w : World) : Its w none 0 0 [] := ⟨rfl, Nat.le_refl _, by simp [maxLen], fun h => absurd h (by omega)⟩
end
/-- what an encoder answers: bytes and no error, or none and the error of an argument -/
def EncSays (w : World) (o : Option (List UInt8)) (e : Ending) (w' : World) : Prop :=
 ∃ A c, e = .returned (.tuple #[.slice A (o.getD []).length c, .int .i64 (if o.isSome then 0 else 1)]) ∧ Bys w' A (o.getD []).length c (o.getD []) ∧
  (0 < (o.getD []).length → ∀ a, A = some a → w.heap.size ≤ a.block) ∧ Only [] w w'
theorem EncSays.no {w w' : World} {o : Option (List UInt8)} (h : o = none) (hO : Only [] w w') : EncSays w o (.returned (.tuple #[.slice none 0 0, .int .i64 1])) w' := by
 subst h
 exact ⟨none, 0, rfl, Row1.nil _, by simp, hO⟩
end Go.Kn
namespace Go.Kn
open Go Go.RowKit
/-- the item that stands from byte 7 j on -/
def itAt (bs : List UInt8) (j : Nat) : It :=
 ⟨(num ((bs.drop (7 * j)).take 1) : Nat), (num ((bs.drop (7 * j + 1)).take 1) : Nat), (num ((bs.drop (7 * j + 1 + 1)).take 1) : Nat), (num ((bs.drop (7 * j + 1 + 1 + 1)).take 4) : Nat)⟩
def parse (bs : List UInt8) (m : Nat) : List It := (List.range m).map (itAt bs)
@[simp] theorem parse_length (bs : List UInt8) (m : Nat) : (parse bs m).length = m := by simp [parse]
/-- the cells of items -/
def itsV (l : List It) : List Value := l.flatMap fun i => i.vals.toList
theorem itsV_length (l : List It) : (itsV l).length = l.length * 4 := by
 induction l with
 | nil => rfl
 | cons i l ih =>
  have : itsV (i :: l) = i.vals.toList ++ itsV l := rfl
  rw [this, List.length_append, ih, List.length_cons]
  simp [It.vals]
  omega
theorem itsV_get : ∀ (l : List It) (i : Nat) (h : i < l.length), (itsV l)[i * 4]? = some (.int .i64 l[i].k) ∧ (itsV l)[i * 4 + 1]? = some (.int .i64 l[i].b) ∧ (itsV l)[i * 4 + 2]? = some (.int .i64 l[i].c) ∧ (itsV l)[i * 4 + 3]? = some (.int .i64 l[i].v)
 | [], i, h => by simp at h
 | x :: r, 0, h => by simp [itsV, It.vals]
 | x :: r, i + 1, h => by
  have h1 := itsV_get r i (by simpa using h)
  have e : itsV (x :: r) = x.vals.toList ++ itsV r := rfl
  have hl : x.vals.toList.length = 4 := rfl
  have e0 : (i + 1) * 4 = 4 + i * 4 := by omega
  simp only [List.getElem_cons_succ]
  rw [e, e0]
  refine ⟨?_, ?_, ?_, ?_⟩
  ·rw [List.getElem?_append_right (by omega), hl, Nat.add_sub_cancel_left]; exact h1.1
  ·rw [List.getElem?_append_right (by omega), hl, show 4 + i * 4 + 1 - 4 = i * 4 + 1 from by omega]; exact h1.2.1
  ·rw [List.getElem?_append_right (by omega), hl, show 4 + i * 4 + 2 - 4 = i * 4 + 2 from by omega]; exact h1.2.2.1
  ·rw [List.getElem?_append_right (by omega), hl, show 4 + i * 4 + 3 - 4 = i * 4 + 3 from by omega]; exact h1.2.2.2
theorem itsV_one (l : List It) : ∀ u ∈ itsV l, u.oneCell' = true := by
 intro u hu
 simp only [itsV, List.mem_flatMap, It.vals] at hu
 obtain ⟨i, _, hi⟩ := hu
 simp at hi
 rcases hi with rfl | rfl | rfl | rfl <;> rfl
/-- a slice of n elements of sz cells that the call gathers by append -/
def GathN (w : World) (base e sz : Nat) (v : Value) (n : Nat) (xs : List Value) : Prop := w.ownsRow base e sz v n xs ∧ base ≤ w.heap.size
section
variable {w w' : World} {base e sz n : Nat} {v : Value} {xs : List Value}
theorem GathN.nil (w : World) (base e sz : Nat) (h : base ≤ w.heap.size) : GathN w base e sz (.slice none 0 0) 0 [] := ⟨World.ownsRow_nil w base e sz, h⟩
theorem GathN.keep {S : List Nat} (h : GathN w base e sz v n xs) (ho : Only S w w') (hs : ∀ k, v.ownBlock = some k → k ∉ S) : GathN w' base e sz v n xs := by
 obtain ⟨⟨h1, h2⟩, hb⟩ := h
 refine ⟨⟨h1, ?_⟩, Nat.le_trans hb ho.size⟩
 rcases h2 with h2 | ⟨g, cap, cur, rfl, hb', hh, rest⟩
 ·exact .inl h2
 ·exact .inr ⟨g, cap, cur, rfl, hb', (ho.block g (lt_of_block hh) (hs g rfl)).trans hh, rest⟩
theorem GathN.keep0 (h : GathN w base e sz v n xs) (ho : Only [] w w') : GathN w' base e sz v n xs := h.keep ho (by simp)
/-- its value; its cells; its block -/
theorem GathN.form (h : GathN w base e sz v n xs) (hsz : 0 < sz) : ∃ A c, v = .slice A n c ∧ n ≤ c ∧ c ≤ maxLen ∧ (0 < n → ∃ g, A = some ⟨g, 0, none⟩ ∧ base ≤ g ∧ g < w.heap.size ∧ ∀ i u, xs[i]? = some u → w.cell? ⟨g, i, none⟩ = some u) ∧ (∀ k, v.ownBlock = some k → base ≤ k ∧ k < w.heap.size) := by
 have hlt := h.1.lt
 obtain ⟨⟨h1, h2⟩, hb⟩ := h
 rcases h2 with ⟨rfl, rfl⟩ | ⟨g, cap, cur, rfl, hb', hh, hn, hm, hs, ht⟩
 ·exact ⟨none, 0, rfl, Nat.le_refl _, by simp [maxLen], fun h => absurd h (by omega), hlt⟩
 ·refine ⟨_, cap, rfl, hn, hm, fun _ => ⟨g, rfl, hb', lt_of_block hh, fun i u hu => ?_⟩, hlt⟩
  rw [cell_of_row w g i cur e (0, 0) hh]
  rw [← ht, List.getElem?_take] at hu
  split at hu
  ·simpa using hu
  ·cases hu
theorem GathN.grown {w0 : World} {v' : Value} {n' : Nat} {ys : List Value} {S : List Nat} (h : GathN w base e sz v n xs) (hO : Only S w0 w) (hB : base = w0.heap.size) (ho : w'.ownsRow base e sz v' n' ys) (hg : w.grownBy w' v.ownBlock) :
  GathN w' base e sz v' n' ys ∧ Only S w0 w' := by
 refine ⟨⟨ho, Nat.le_trans h.2 hg.size⟩, hO.grown hg fun k hk => ?_⟩
 right
 have := (h.1.lt k hk).1
 omega
end
/-- gathered items, as a slice of items -/
theorem GathN.its {w : World} {base e : Nat} {v : Value} {l : List It} {n : Nat} (h : GathN w base e 4 v n (itsV l)) (hl : l.length = n) : ∃ A c, v = .slice A n c ∧ Its w A n c l ∧ (∀ k, v.ownBlock = some k → base ≤ k ∧ k < w.heap.size) := by
 obtain ⟨A, c, hv, hn, hm, hc, hb⟩ := h.form (by omega)
 refine ⟨A, c, hv, ⟨hl, hn, hm, fun h0 => ?_⟩, hb⟩
 obtain ⟨g, rfl, _, _, hcell⟩ := hc h0
 refine ⟨g, 0, rfl, fun i hi => ?_⟩
 obtain ⟨c0, c1, c2, c3⟩ := itsV_get l i hi
 simp only [Nat.zero_add]
 exact ⟨hcell _ _ c0, hcell _ _ c1, hcell _ _ c2, hcell _ _ c3⟩
end Go.Kn
namespace Go.Kn
open Go Go.RowKit
/-- a slice that is gathered: element type, cells of an element, value, length, cells -/
structure Gs where
 e : Nat
 sz : Nat
 v : Value
 n : Nat
 xs : List Value
/-- the blocks that a walk writes into -/
def Mut (L : List (Nat × List Value)) (G : List Gs) (k : Nat) : Prop := k ∈ L.map (·.1) ∨ ∃ g ∈ G, g.v.ownBlock = some k
/-- what stays as it is while blocks outside of M stay -/
def Fx (w : World) (M : Nat → Prop) (f : World → Prop) : Prop := ∀ w', (∀ k, k < w.heap.size → ¬ M k → w'.heap[k]? = w.heap[k]?) → f w'
structure Wd (w0 w : World) (L : List (Nat × List Value)) (G : List Gs) (F : List (World → Prop)) : Prop where
 only : Only [] w0 w
 own : ∀ x ∈ L, Own w x.1 x.2
 lo : ∀ x ∈ L, w0.heap.size ≤ x.1
 nd : (L.map (·.1)).Nodup
 g1 : ∀ x ∈ G, w.ownsRow w0.heap.size x.e x.sz x.v x.n x.xs
 g2 : G.Pairwise fun x y => ∀ k, x.v.ownBlock = some k → y.v.ownBlock ≠ some k
 g3 : ∀ x ∈ L, ∀ y ∈ G, y.v.ownBlock ≠ some x.1
 fx : ∀ f ∈ F, Fx w (Mut L G) f
section
variable {w0 w w' w1 : World} {L : List (Nat × List Value)} {G : List Gs} {F : List (World → Prop)}
theorem Wd.start (w : World) : Wd w w [] [] [] := ⟨Only.refl _ _, by simp, by simp, by simp, by simp, by simp, by simp, by simp⟩
theorem Wd.mlt (h : Wd w0 w L G F) {k : Nat} (hk : Mut L G k) : k < w.heap.size := by
 rcases hk with hk | ⟨g, hg, hk⟩
 ·obtain ⟨x, hx, rfl⟩ := List.mem_map.1 hk
  exact (h.own x hx).lt
 ·exact ((h.g1 g hg).lt k hk).2
theorem Wd.mlo (h : Wd w0 w L G F) {k : Nat} (hk : Mut L G k) : w0.heap.size ≤ k := by
 rcases hk with hk | ⟨g, hg, hk⟩
 ·obtain ⟨x, hx, rfl⟩ := List.mem_map.1 hk
  exact h.lo x hx
 ·exact ((h.g1 g hg).lt k hk).1
theorem ownsRow_keep {S : List Nat} {base e sz n : Nat} {v : Value} {xs : List Value} (h : w.ownsRow base e sz v n xs) (ho : Only S w w') (hs : ∀ k, v.ownBlock = some k → k ∉ S) : w'.ownsRow base e sz v n xs := by
 obtain ⟨h1, h2⟩ := h
 refine ⟨h1, ?_⟩
 rcases h2 with h2 | ⟨g, cap, cur, rfl, hb', hh, rest⟩
 ·exact .inl h2
 ·exact .inr ⟨g, cap, cur, rfl, hb', (ho.block g (lt_of_block hh) (hs g rfl)).trans hh, rest⟩
theorem Wd.keep0 (h : Wd w0 w L G F) (hO : Only [] w w') : Wd w0 w' L G F :=
 ⟨h.only.trans' hO, fun x hx => (h.own x hx).keep0 hO, h.lo, h.nd, fun x hx => ownsRow_keep (h.g1 x hx) hO (by simp), h.g2, h.g3, fun f hf w2 h2 => h.fx f hf w2 fun k hk hm => by
  rw [h2 k (Nat.lt_of_lt_of_le hk hO.size) hm]
  exact hO.block k hk (by simp)⟩
theorem Wd.drew (h : Wd w0 w L G F) : Wd w0 w.drew L G F := h.keep0 (Only.refl _ _).drew
theorem Wd.drewN (h : Wd w0 w L G F) (n : Nat) : Wd w0 (w.drewN n) L G F := h.keep0 ((Only.refl _ _).drewN n)
theorem Wd.alloc (h : Wd w0 w L G F) (o : Obj) : Wd w0 (w.alloc o) L G F := h.keep0 ((Only.refl _ _).alloc o)
/-- a box that is new: a block that is not older than the world w1, in which all of the others lay -/
theorem Wd.cons (h : Wd w0 w L G F) (hO : Only [] w w') {p : Nat} {cs : List Value} (hp : w.heap.size ≤ p) (ho : Own w' p cs) : Wd w0 w' ((p, cs) :: L) G F := by
 have h' := h.keep0 hO
 refine ⟨h'.only, ?_, ?_, ?_, h'.g1, h'.g2, ?_, ?_⟩
 ·intro x hx
  rcases List.mem_cons.1 hx with rfl | hx
  ·exact ho
  ·exact h'.own x hx
 ·intro x hx
  rcases List.mem_cons.1 hx with rfl | hx
  ·exact Nat.le_trans h.only.size hp
  ·exact h.lo x hx
 ·rw [List.map_cons, List.nodup_cons]
  exact ⟨fun hm => by have := h.mlt (.inl hm); simp at this; omega, h.nd⟩
 ·intro x hx y hy
  rcases List.mem_cons.1 hx with rfl | hx
  ·intro hk
   have := ((h.g1 y hy).lt _ hk).2
   simp at this
   omega
  ·exact h.g3 x hx y hy
 ·intro f hf w2 h2
  refine h.fx f hf w2 fun k hk hm => ?_
  rw [h2 k (Nat.lt_of_lt_of_le hk hO.size) ?_]
  ·exact hO.block k hk (by simp)
  ·rintro (hm2 | hm2)
   ·rcases List.mem_cons.1 hm2 with e | hm2
    ·have e2 : k = p := e
     omega
    ·exact hm (.inl hm2)
   ·exact hm (.inr hm2)
theorem Wd.new (h : Wd w0 w L G F) (cs : Array Value) (t : TypeId) : Wd w0 (w.alloc (.cells cs t)) ((w.heap.size, cs.toList) :: L) G F := h.cons ((Only.refl _ _).alloc _) (Nat.le_refl _) (Own.new _ _ _)
theorem Wd.newB (h : Wd w0 w L G F) (cs : Array Value) (t : TypeId) {b : Nat} (hb : w.heap.size = b) : Wd w0 (w.alloc (.cells cs t)) ((b, cs.toList) :: L) G F := by subst hb; exact h.new cs t
theorem mut_set {p : Nat} {cs cs' : List Value} {i : Nat} (hi : L[i]? = some (p, cs)) : (L.set i (p, cs')).map (·.1) = L.map (·.1) := by
 rw [List.map_set]
 apply List.ext_getElem?
 intro j
 rw [List.getElem?_set]
 split
 ·rename_i hj
  subst hj
  split
  ·simp [hi]
  ·rename_i hl
   rw [List.getElem?_eq_none (by simpa using hl)]
 ·rfl
/-- a call that writes into one box alone -/
theorem Wd.call1 (h : Wd w0 w L G F) (i : Nat) {p : Nat} {cs cs' : List Value} (hi : L[i]? = some (p, cs)) (ho : Own w' p cs') (hO : Only [p] w w') : Wd w0 w' (L.set i (p, cs')) G F := by
 have hpm : (p, cs) ∈ L := List.mem_of_getElem? hi
 have hplo := h.lo _ hpm
 refine ⟨h.only.trans hO (by simpa using hplo), ?_, ?_, by rw [mut_set hi]; exact h.nd, ?_, h.g2, ?_, ?_⟩
 ·intro x hx
  obtain ⟨j, hj⟩ := List.mem_iff_getElem?.1 hx
  rw [List.getElem?_set] at hj
  split at hj
  ·split at hj
   ·injection hj with hj; subst hj; exact ho
   ·cases hj
  ·rename_i hne
   refine (h.own x (List.mem_of_getElem? hj)).keep hO ?_
   simp only [List.mem_singleton]
   intro e
   apply hne
   have hnd := h.nd
   have h1 : (L.map (·.1))[i]? = some p := by simp [hi]
   have h2 : (L.map (·.1))[j]? = some p := by simp [hj, e]
   obtain ⟨l1, e1⟩ := List.getElem?_eq_some_iff.1 h1
   obtain ⟨l2, e2⟩ := List.getElem?_eq_some_iff.1 h2
   rcases Nat.lt_trichotomy i j with hl | hl | hl
   ·exact absurd (e1.trans e2.symm) (List.pairwise_iff_getElem.1 hnd i j l1 l2 hl)
   ·exact hl
   ·exact absurd (e2.trans e1.symm) (List.pairwise_iff_getElem.1 hnd j i l2 l1 hl)
 ·intro x hx
  have : x.1 ∈ L.map (·.1) := by rw [← mut_set (cs' := cs') hi]; exact List.mem_map_of_mem hx
  obtain ⟨y, hy, e⟩ := List.mem_map.1 this
  rw [← e]; exact h.lo y hy
 ·intro x hx
  exact ownsRow_keep (h.g1 x hx) hO (fun k hk => by
   simp only [List.mem_singleton]
   intro e
   subst e
   exact h.g3 _ hpm x hx hk)
 ·intro x hx y hy
  have : x.1 ∈ L.map (·.1) := by rw [← mut_set (cs' := cs') hi]; exact List.mem_map_of_mem hx
  obtain ⟨z, hz, e⟩ := List.mem_map.1 this
  rw [← e]; exact h.g3 z hz y hy
 ·intro f hf w2 h2
  refine h.fx f hf w2 fun k hk hm => ?_
  rw [h2 k (Nat.lt_of_lt_of_le hk hO.size) ?_]
  ·refine hO.block k hk ?_
   simp only [List.mem_singleton]
   intro e
   subst e
   exact hm (.inl (List.mem_map_of_mem hpm))
  ·unfold Mut
   rw [mut_set hi]
   exact hm
theorem Wd.put (h : Wd w0 w L G F) (i : Nat) {p : Nat} {cs : List Value} (hi : L[i]? = some (p, cs)) (j : Nat) (u : Value) : Wd w0 (w.setCell ⟨p, j, none⟩ u) (L.set i (p, cs.set j u)) G F :=
 h.call1 i hi ((h.own _ (List.mem_of_getElem? hi)).set j u) ((Only.refl [p] w).set (by simp) u)
/-- a slice that is to be gathered: nil at first -/
theorem Wd.gnew (h : Wd w0 w L G F) (e sz : Nat) : Wd w0 w L (⟨e, sz, .slice none 0 0, 0, []⟩ :: G) F := by
 have hm : ∀ k, Mut L (⟨e, sz, .slice none 0 0, 0, []⟩ :: G) k ↔ Mut L G k := by
  intro k
  unfold Mut
  constructor
  ·rintro (h1 | ⟨g, hg, h1⟩)
   ·exact .inl h1
   ·rcases List.mem_cons.1 hg with rfl | hg
    ·simp [Value.ownBlock] at h1
    ·exact .inr ⟨g, hg, h1⟩
  ·rintro (h1 | ⟨g, hg, h1⟩)
   ·exact .inl h1
   ·exact .inr ⟨g, List.mem_cons_of_mem _ hg, h1⟩
 refine ⟨h.only, h.own, h.lo, h.nd, ?_, ?_, ?_, ?_⟩
 ·intro x hx
  rcases List.mem_cons.1 hx with rfl | hx
  ·exact World.ownsRow_nil w _ _ _
  ·exact h.g1 x hx
 ·exact List.Pairwise.cons (fun y _ k hk => by simp [Value.ownBlock] at hk) h.g2
 ·intro x hx y hy
  rcases List.mem_cons.1 hy with rfl | hy
  ·simp [Value.ownBlock]
  ·exact h.g3 x hx y hy
 ·intro f hf w2 h2
  exact h.fx f hf w2 fun k hk hn => h2 k hk (fun h3 => hn ((hm k).1 h3))
theorem Wd.gchange (h : Wd w0 w L G F) (i : Nat) {x y : Gs} (hi : G[i]? = some x) (hsz : w.heap.size ≤ w'.heap.size) (hos : w'.os = w.os ∧ w'.tape = w.tape ∧ w'.output = w.output)
  (hb : ∀ k, k < w.heap.size → x.v.ownBlock ≠ some k → w'.heap[k]? = w.heap[k]?) (ho : w'.ownsRow w0.heap.size y.e y.sz y.v y.n y.xs) (hat : y.v.ownBlock = x.v.ownBlock ∨ y.v.ownBlock = some w.heap.size) : Wd w0 w' L (G.set i y) F := by
 have hxm : x ∈ G := List.mem_of_getElem? hi
 have hxlt := (h.g1 x hxm).lt
 have hlt : ∀ z ∈ G, ∀ k, z.v.ownBlock = some k → k < w.heap.size := fun z hz k hk => ((h.g1 z hz).lt k hk).2
 have hO : Only x.v.ownBlock.toList w w' := ⟨hos.1, hos.2.1, hos.2.2, hsz, fun k hk hn => hb k hk (fun e => hn (by simp [e]))⟩
 have hset : ∀ z ∈ G.set i y, z = y ∨ ∃ j, j ≠ i ∧ G[j]? = some z := by
  intro z hz
  obtain ⟨j, hj⟩ := List.mem_iff_getElem?.1 hz
  rw [List.getElem?_set] at hj
  split at hj
  ·split at hj
   ·injection hj with hj; exact .inl hj.symm
   ·cases hj
  ·rename_i hne
   exact .inr ⟨j, fun e => hne e.symm, hj⟩
 have hap : ∀ j z, j ≠ i → G[j]? = some z → ∀ k, z.v.ownBlock = some k → x.v.ownBlock ≠ some k := by
  intro j z hj hz k hk hx
  have hp := List.pairwise_iff_getElem.1 h.g2
  obtain ⟨l1, e1⟩ := List.getElem?_eq_some_iff.1 hi
  obtain ⟨l2, e2⟩ := List.getElem?_eq_some_iff.1 hz
  rcases Nat.lt_or_gt_of_ne hj with h1 | h1
  ·exact hp j i l2 l1 h1 k (by rw [e2]; exact hk) (by rw [e1]; exact hx)
  ·exact hp i j l1 l2 h1 k (by rw [e1]; exact hx) (by rw [e2]; exact hk)
 refine ⟨h.only.trans hO ?_, ?_, h.lo, h.nd, ?_, ?_, ?_, ?_⟩
 ·intro k hk
  exact .inr (hxlt k (by simpa using hk)).1
 ·intro z hz
  refine (h.own z hz).keep hO ?_
  intro hk
  exact h.g3 z hz x hxm (by simpa using hk)
 ·intro z hz
  rcases hset z hz with rfl | ⟨j, hj, hz⟩
  ·exact ho
  ·exact ownsRow_keep (h.g1 z (List.mem_of_getElem? hz)) hO (fun k hk hin => hap j z hj hz k hk (by simpa using hin))
 ·rw [List.pairwise_iff_getElem]
  have hp := List.pairwise_iff_getElem.1 h.g2
  intro a b ha hb' hab k hk hk2
  rw [List.getElem_set] at hk hk2
  have la : a < G.length := by simpa using ha
  have lb : b < G.length := by simpa using hb'
  split at hk
  ·rename_i e1
   split at hk2
   ·omega
   ·rename_i e2
    have hz : G[b]? = some G[b] := List.getElem?_eq_getElem lb
    rcases hat with hat | hat
    ·exact hap b G[b] (fun e => e2 e.symm) hz k hk2 (by rw [← hat]; exact hk)
    ·have := hlt _ (List.getElem_mem lb) k hk2
     rw [hat] at hk
     injection hk with hk
     omega
  ·rename_i e1
   split at hk2
   ·rename_i e2
    have hz : G[a]? = some G[a] := List.getElem?_eq_getElem la
    rcases hat with hat | hat
    ·exact hap a G[a] (fun e => e1 e.symm) hz k hk (by rw [← hat]; exact hk2)
    ·have := hlt _ (List.getElem_mem la) k hk
     rw [hat] at hk2
     injection hk2 with hk2
     omega
   ·exact hp a b la lb hab k hk hk2
 ·intro z hz u hu
  rcases hset u hu with rfl | ⟨j, hj, hu⟩
  ·rcases hat with hat | hat
   ·rw [hat]; exact h.g3 z hz x hxm
   ·rw [hat]
    intro e
    injection e with e
    have := (h.own z hz).lt
    omega
  ·exact h.g3 z hz u (List.mem_of_getElem? hu)
 ·intro f hf w2 h2
  refine h.fx f hf w2 fun k hk hm => ?_
  rw [h2 k (Nat.lt_of_lt_of_le hk hsz) ?_]
  ·exact hb k hk (fun e => hm (.inr ⟨x, hxm, e⟩))
  ·rintro (hm2 | ⟨g, hg, hk2⟩)
   ·exact hm (.inl hm2)
   ·rcases hset g hg with rfl | ⟨j, hj, hg⟩
    ·rcases hat with hat | hat
     ·exact hm (.inr ⟨x, hxm, by rw [← hat]; exact hk2⟩)
     ·rw [hat] at hk2
      injection hk2 with hk2
      omega
    ·exact hm (.inr ⟨g, List.mem_of_getElem? hg, hk2⟩)
/-- what an append leaves -/
theorem Wd.gapp (h : Wd w0 w L G F) (i : Nat) {x : Gs} (hi : G[i]? = some x) {v' : Value} {n' : Nat} {ys : List Value} (ho : w'.ownsRow w0.heap.size x.e x.sz v' n' ys) (hg : w.grownBy w' x.v.ownBlock) (hat : v'.ownBlock = x.v.ownBlock ∨ v'.ownBlock = some w.heap.size) :
  Wd w0 w' L (G.set i ⟨x.e, x.sz, v', n', ys⟩) F :=
 h.gchange i hi hg.size ⟨hg.os, hg.tape, hg.output⟩ (fun k hk hn => hg.block k hk (fun e => hn e.symm)) ho hat
/-- what lies fast in blocks of which none is written into -/
theorem Wd.addF (h : Wd w0 w L G F) (f : World → Prop) (hf : Fx w (Mut L G) f) : Wd w0 w L G (f :: F) :=
 ⟨h.only, h.own, h.lo, h.nd, h.g1, h.g2, h.g3, fun f' hf' => by
  rcases List.mem_cons.1 hf' with rfl | hf'
  ·exact hf
  ·exact h.fx f' hf'⟩
theorem Wd.fact (h : Wd w0 w L G F) (f : World → Prop) (hm : f ∈ F) : f w := h.fx f hm w fun _ _ _ => rfl
theorem Wd.box (h : Wd w0 w L G F) {p : Nat} {cs : List Value} (hm : (p, cs) ∈ L) : Own w p cs := h.own _ hm
theorem Wd.gath (h : Wd w0 w L G F) {x : Gs} (hm : x ∈ G) : GathN w w0.heap.size x.e x.sz x.v x.n x.xs := ⟨h.g1 x hm, h.only.size⟩
theorem Wd.boxi (h : Wd w0 w L G F) (i : Nat) {p : Nat} {cs : List Value} (hi : L[i]? = some (p, cs)) : Own w p cs := h.own _ (List.mem_of_getElem? hi)
theorem Wd.gi (h : Wd w0 w L G F) (i : Nat) {x : Gs} (hi : G[i]? = some x) : w.ownsRow w0.heap.size x.e x.sz x.v x.n x.xs := h.g1 _ (List.mem_of_getElem? hi)
theorem Wd.fi (h : Wd w0 w L G F) (i : Nat) {f : World → Prop} (hi : F[i]? = some f) : f w := h.fact _ (List.mem_of_getElem? hi)
theorem Wd.gform (h : Wd w0 w L G F) (i : Nat) {e sz n : Nat} {v : Value} {xs : List Value} (hi : G[i]? = some ⟨e, sz, v, n, xs⟩) : ∃ A c, v = .slice A n c := by
 rcases (h.gi i hi).2 with ⟨h1, h2⟩ | ⟨g, cap, cur, h1, _⟩
 ·exact ⟨none, 0, by rw [show n = 0 from h2]; exact h1⟩
 ·exact ⟨_, _, h1⟩
/-- fewer boxes -/
theorem Wd.sub (h : Wd w0 w L G F) {L' : List (Nat × List Value)} {F' : List (World → Prop)} (hL : L'.Sublist L) (hF : ∀ f ∈ F', f ∈ F) : Wd w0 w L' G F' :=
 ⟨h.only, fun x hx => h.own x (hL.subset hx), fun x hx => h.lo x (hL.subset hx), h.nd.sublist (hL.map _), h.g1, h.g2, fun x hx => h.g3 x (hL.subset hx), fun f hf w2 h2 => h.fx f (hF f hf) w2 fun k hk hm => h2 k hk fun h3 => hm (by
  rcases h3 with h3 | h3
  ·exact .inl ((hL.map _).subset h3)
  ·exact .inr h3)⟩
end
end Go.Kn
namespace Go.Kn
open Go Go.RowKit
theorem itAt_front (i : It) (r : List UInt8) (h : i.may = true) : itAt (i.bytes ++ r) 0 = i := by
 obtain ⟨h1, h2, h3, h4⟩ := i.may_bounds h
 have e1 : num (le 1 i.k.toNat) = i.k.toNat := num_le 1 _ (by omega)
 have e2 : num (le 1 i.b.toNat) = i.b.toNat := num_le 1 _ (by omega)
 have e3 : num (le 1 i.c.toNat) = i.c.toNat := num_le 1 _ (by omega)
 have e5 : i.v.toNat < 256 ^ 4 := by
  have e : (256 : Nat) ^ 4 = 4294967296 := rfl
  omega
 have e4 : num (le 4 i.v.toNat) = i.v.toNat := num_le 4 _ e5
 have hb : i.bytes ++ r = le 1 i.k.toNat ++ (le 1 i.b.toNat ++ (le 1 i.c.toNat ++ (le 4 i.v.toNat ++ r))) := by
  simp [It.bytes, les_cons]
 have d1 : ∀ (a b : List UInt8), a.length = 1 → (a ++ b).drop 1 = b ∧ (a ++ b).take 1 = a := fun a b h => ⟨by rw [List.drop_left' h], by rw [List.take_left' h]⟩
 have t0 : (i.bytes ++ r).take 1 = le 1 i.k.toNat := by rw [hb]; exact (d1 _ _ (by simp)).2
 have s1 : (i.bytes ++ r).drop 1 = le 1 i.b.toNat ++ (le 1 i.c.toNat ++ (le 4 i.v.toNat ++ r)) := by rw [hb]; exact (d1 _ _ (by simp)).1
 have s2 : (i.bytes ++ r).drop 2 = le 1 i.c.toNat ++ (le 4 i.v.toNat ++ r) := by
  have := List.drop_drop (l := i.bytes ++ r) (i := 1) (j := 1)
  rw [s1] at this
  rw [show (2 : Nat) = 1 + 1 from rfl, ← this]
  exact (d1 _ _ (by simp)).1
 have s3 : (i.bytes ++ r).drop 3 = le 4 i.v.toNat ++ r := by
  have := List.drop_drop (l := i.bytes ++ r) (i := 1) (j := 2)
  rw [s2] at this
  rw [show (3 : Nat) = 2 + 1 from rfl, ← this]
  exact (d1 _ _ (by simp)).1
 obtain ⟨k, b, c, v⟩ := i
 simp only at *
 simp only [itAt, Nat.mul_zero, List.drop_zero, Nat.zero_add, Nat.reduceAdd]
 rw [t0, s1, s2, s3, (d1 _ _ (by simp)).2, (d1 _ _ (by simp)).2, List.take_left' (by simp), e1, e2, e3, e4]
 simp only [It.mk.injEq]
 omega
theorem itAt_behind (i : It) (r : List UInt8) (j : Nat) : itAt (i.bytes ++ r) (j + 1) = itAt r j := by
 have hl := i.bytes_length
 have hd : ∀ x, (i.bytes ++ r).drop (7 * (j + 1) + x) = r.drop (7 * j + x) := by
  intro x
  rw [List.drop_append, List.drop_of_length_le (by omega), List.nil_append]
  congr 1
  omega
 have h0 := hd 0
 have h1 := hd 1
 have h2 := hd 2
 have h3 := hd 3
 simp only [Nat.add_zero] at h0
 simp only [itAt, Nat.add_assoc, Nat.reduceAdd] at *
 rw [h0, h1, h2, h3]
theorem parse_itsB : ∀ l : List It, l.all It.may = true → parse (itsB l) l.length = l
 | [], _ => rfl
 | i :: l, h => by
  simp only [List.all_cons, Bool.and_eq_true] at h
  have ih := parse_itsB l h.2
  rw [itsB_cons, List.length_cons]
  unfold parse at ih ⊢
  rw [List.range_succ_eq_map, List.map_cons, List.map_map, itAt_front i _ h.1]
  have e : (List.range l.length).map (itAt (i.bytes ++ itsB l) ∘ Nat.succ) = l := by
   conv => rhs; rw [← ih]
   apply List.map_congr_left
   intro j _
   exact itAt_behind i _ j
  rw [e]
end Go.Kn
namespace Go.Proofs.YtgcfdjcpcclcjaaGreat
open Go Go.RowKit Go.Kn
theorem still_tail {P : Program} {id : Nat} {Q : Exit → Act → World → Prop} {a : Act} {w : World} {l : List Oper} (n : Nat) (hm : P.follows .mixedOrders = true) (hB : Region.lexTailB .any l.toArray n = true)
  (h : wpStill P l.toArray w.drew (fun a' => wpList P l.toArray Q (l.drop n) a' w.drew) (l.take n) a) : (Code.region id l.toArray true).wp P Q a w :=
 wp_region_still_tail n hm hB h
theorem Tryz.infoU8 : (Tryz.prog.info? 5).map (fun i => (i.zero, i.size, i.bytes)) = some (some (.int .u8 0), 1, 1) := by kernel_rfl
theorem Tryz.infoInt : (Tryz.prog.info? 3).map (fun i => (i.zero, i.size, i.bytes)) = some (some (.int .i64 0), 1, 8) := by kernel_rfl
/-- make([]byte, n) -/
theorem make_bys (n : Nat) (hn : n ≤ 1000000) (w : World) : (Instr.makeSlice 47 (.int .i64 n) (.int .i64 n)).run Tryz.prog w = .ok (.slice (some ⟨w.heap.size, 0, none⟩) n n) (w.alloc (.cells (bvs (List.replicate n 0)).toArray 5)) := by
 obtain ⟨i0, hi, hz0, hz1, hz2⟩ := info_parts Tryz.infoU8
 have h := run_make (P := Tryz.prog) w 47 5 i0 (.int .u8 0) Tryz.underlying47 hi hz0 .i64 .i64 n n (by omega) (by omega) (by rw [hz2]; omega) (by omega)
 rw [h]
 have e : madeCells (Value.int IntKind.u8 0).cells ((n : Int).toNat * i0.size) = (bvs (List.replicate n 0)).toArray := by
  rw [hz1, Nat.mul_one]
  have := toList_madeCells_one (Value.int IntKind.u8 0) n
  rw [Int.toNat_natCast]
  have e2 : (madeCells (Value.int IntKind.u8 0).cells n).toList = bvs (List.replicate n 0) := by
   show (madeCells #[Value.int IntKind.u8 0] n).toList = _
   rw [this, bvs, List.map_replicate]
   rfl
  rw [← e2]
 rw [e]
 rfl
theorem left_any (p g k : Nat) (bs : List UInt8) (w : World) (h : RowAt w p g bs k) :
  Calls Tryz.prog 214 #[.pointer (some ⟨p, 0, none⟩)] w fun e w' => e = .returned (.int .i64 ((bs.length - k : Nat) : Int)) ∧ ∃ n, w' = w.drewN n := by
 obtain ⟨A, c, h0, h1, h2, h3⟩ := h.fb
 have hk := h.fk
 have hle := h.le
 have hmx := h.mx
 unfold maxLen at h2
 have e : ((bs.length : Nat) : Int) - (k : Int) = ((bs.length - k : Nat) : Int) := by omega
 have E := Lib.hid e
 clear e h3 h
 go_enter Tryz.func214, Tryz.ntmps214
 go_wp2
 go_quiet (fail)
 go_wp2
 go_ret
 exact ⟨by rw [← E.out]; rfl, _, rfl⟩
/-- what makes a row: new blocks, the bytes, at place 0 -/
def MadeRow (w : World) (bs : List UInt8) (e : Ending) (w' : World) : Prop :=
 ∃ p g, e = .returned (.pointer (some ⟨p, 0, none⟩)) ∧ w.heap.size ≤ p ∧ w.heap.size ≤ g ∧ RowAt w' p g bs 0 ∧ Only [] w w'
/-- what makes new bytes -/
def MadeBys (w : World) (bs : List UInt8) (e : Ending) (w' : World) : Prop :=
 ∃ A c, e = .returned (.slice A bs.length c) ∧ bs.length ≤ c ∧ c ≤ maxLen ∧ (0 < bs.length → ∃ g, A = some ⟨g, 0, none⟩ ∧ w.heap.size ≤ g ∧ Kn.Own w' g (bvs bs)) ∧ Only [] w w'
theorem new_row_at (w : World) (cs : List Value) (bs : List UInt8) (g t : Nat) (hg : Kn.Own w g cs) (hcs : cs = bvs bs) (hb : bs.length ≤ 65536) (hpos : bs.length ≠ 0) :
  RowAt (w.alloc (.cells #[.slice (some ⟨g, 0, none⟩) bs.length bs.length, .int .i64 0] t)) w.heap.size g bs 0 := by
 subst hcs
 have hl := hg.lt
 refine ⟨fun _ e => by omega, ⟨_, bs.length, by simp, Nat.le_refl _, by unfold maxLen; omega, fun _ => rfl⟩, by simp, fun i => by simp, fun _ => hg.alloc _, by omega, hb, fun h => absurd h hpos⟩
set_option maxRecDepth 100000 in
theorem new_any (n : Int) (w : World) (hn : 0 ≤ n) (hm : n ≤ 65536) :
  Calls Tryz.prog 196 #[.int .i64 n] w (MadeRow w (List.replicate n.toNat 0)) := by
 obtain ⟨i0, hi, hz0, hz1, hz2⟩ := info_parts Tryz.infoU8
 obtain ⟨m, rfl⟩ := Int.eq_ofNat_of_zero_le hn
 go_enter Tryz.func196, Tryz.ntmps196
 go_wp2_with (first | (at_make; refine wpList_make_full _ rfl _ _ 47 rfl w.heap.size 5 i0 (.int .u8 0) 1 Tryz.underlying47 hi hz0 hz1 _ _ _ _ m rfl rfl rfl rfl (by rw [hz2]; omega) (by unfold maxLen; omega) (Nat.le_refl _) ?_; intro w1 hown hgrow))
 go_ret
 have e1 : (madeCells (Value.int IntKind.u8 0).cells (m * 1)).toList = bvs (List.replicate m 0) := by
  show (madeCells #[Value.int IntKind.u8 0] (m * 1)).toList = _
  rw [toList_madeCells_one, Nat.mul_one, bvs, List.map_replicate]
  rfl
 rw [e1] at hown
 obtain ⟨ho, hb, _, _, _⟩ := Own.of_own hown
 have hO : Only [] w w1 := (Only.refl _ _).grown hgrow (by simp)
 have hsz := hO.size
 have hl := ho.lt
 rw [Int.toNat_natCast]
 by_cases h0 : m = 0
 ·subst h0
  refine ⟨w1.heap.size, w1.heap.size, rfl, hsz, hsz, ⟨by simp, ⟨some ⟨w.heap.size, 0, none⟩, 0, by simp, by simp, by simp [maxLen], by simp⟩, by simp, fun i => by simp, by simp, by simp, by simp, by simp⟩, hO.alloc _⟩
 ·refine ⟨w1.heap.size, w.heap.size, rfl, hsz, Nat.le_refl _, ?_, hO.alloc _⟩
  have := new_row_at w1 _ (List.replicate m 0) w.heap.size 271 ho rfl (by simp; omega) (by simp; omega)
  simpa using this
set_option maxRecDepth 100000 in
/-- slices.Clone of bytes -/
theorem clone_any (A : Option Addr) (n c : Nat) (bs : List UInt8) (w : World) (h : Bys w A n c bs) (hb : n ≤ 1000000) :
  Calls Tryz.prog 84 #[.slice A n c] w (MadeBys w bs) := by
 obtain ⟨i0, hi, hz0, hz1, hz2⟩ := info_parts Tryz.infoU8
 have hlen := h.len
 rw [bvs_length] at hlen
 have hone := bvs_one bs
 rcases A with _ | ad
 ·have hn : n = 0 := by
   rcases Nat.eq_zero_or_pos n with h0 | h0
   ·exact h0
   ·obtain ⟨g, o, h, _⟩ := h.at_ h0
    cases h
  subst hn
  obtain rfl : bs = [] := List.eq_nil_of_length_eq_zero hlen
  have hnil := fun (w : World) => Lib.run_eql_slice_nil (P := Tryz.prog) w 47 5 none 0 c 0 0 Tryz.underlying47
  go_enter Tryz.func84, Tryz.ntmps84
  go_wp2
  go_ret
  exact ⟨none, 0, rfl, by simp, by simp [maxLen], by simp, Only.refl _ _⟩
 ·have hnil := fun (w : World) => Lib.run_eql_slice_nil (P := Tryz.prog) w 47 5 (some ad) n c 0 0 Tryz.underlying47
  go_enter Tryz.func84, Tryz.ntmps84
  go_wp2_with (first | (at_builtin; refine wpList_append_row1 rfl (.tmp 5) (.tmp 6) _ rfl w.heap.size 5 i0 _ 1 Tryz.underlying47 hi hz0 hz1 hz2 rfl _ 0 [] rfl (World.ownsRow_made w #[] 0 (Nat.le_refl _) (by unfold maxLen; omega) rfl) (some ad) n c (bvs bs) rfl (h.keep0 ((Only.refl _ _).alloc _)) hone (by unfold maxLen; omega) (by omega) (by simp) ?_; intro v' w1 hown hgrow hat))
  go_ret
  have hO : Only [] w w1 := ((Only.refl _ _).alloc _).grown hgrow (by intro k hk; injection hk with hk; right; rw [← hk]; exact Nat.le_refl _)
  simp only [Nat.zero_add, List.nil_append] at hown
  rcases hown.2 with ⟨rfl, h0⟩ | ⟨g, cap, cur, rfl, hb', hh, hn, hm, hs, ht⟩
  ·subst h0
   obtain rfl : bs = [] := List.eq_nil_of_length_eq_zero hlen
   exact ⟨none, 0, rfl, by simp, by simp [maxLen], by simp, hO⟩
  ·obtain ⟨ho, _⟩ := Own.of_own hown
   subst hlen
   exact ⟨_, cap, rfl, hn, hm, fun _ => ⟨g, rfl, hb', ho⟩, hO⟩
theorem row_bys {w : World} {p g k : Nat} {bs : List UInt8} (h : RowAt w p g bs k) : ∃ A c, w.cell? ⟨p, 0, none⟩ = some (.slice A bs.length c) ∧ Bys w A bs.length c bs ∧ (0 < bs.length → A = some ⟨g, 0, none⟩) := by
 obtain ⟨A, c, h0, h1, h2, h3⟩ := h.fb
 refine ⟨A, c, h0, ⟨by simp, h1, h2, fun hn => ?_⟩, h3⟩
 refine ⟨g, 0, h3 hn, fun i hi => ?_⟩
 rw [Nat.zero_add]
 exact (h.own hn).cell i hi
theorem bytes_any (p g k : Nat) (bs : List UInt8) (w : World) (h : RowAt w p g bs k) :
  Calls Tryz.prog 199 #[.pointer (some ⟨p, 0, none⟩)] w (MadeBys w bs) := by
 obtain ⟨A, c, h0, h1, h2⟩ := row_bys h
 have hmx := h.mx
 go_enter Tryz.func199, Tryz.ntmps199
 go_wp2_with (go_at_call 84; refine (clone_any A bs.length c bs _ h1 (by omega)).mono ?_; rintro e w1 ⟨A', c', rfl, hc, hm, hpos, hO⟩)
 go_ret
 exact ⟨A', c', rfl, hc, hm, hpos, hO⟩
end Go.Proofs.YtgcfdjcpcclcjaaGreat
namespace Go.Proofs.YtgcfdjcpcclcjaaGreat
open Go Go.RowKit Go.Kn
theorem u8_eq {a b : UInt8} : ((a.toNat : Int) = (b.toNat : Int)) ↔ a = b := by
 rw [Int.ofNat_inj, UInt8.toNat_inj]
set_option maxRecDepth 100000 in
set_option maxHeartbeats 1000000 in
theorem equal_any (A : Option Addr) (n c : Nat) (xs : List UInt8) (B : Option Addr) (m d : Nat) (ys : List UInt8) (w : World) (hx : Bys w A n c xs) (hy : Bys w B m d ys) :
  Calls Tryz.prog 131 #[.slice A n c, .slice B m d] w fun e w' => e = .returned (.bool (decide (xs = ys))) ∧ ∃ k, w' = w.drewN k := by
 have hlx := hx.len
 have hly := hy.len
 rw [bvs_length] at hlx hly
 have hcm := hx.cm
 have hcl := hx.le
 have hdm := hy.cm
 have hdl := hy.le
 unfold maxLen at hcm hdm
 have HX := Lib.hid hx
 have HY := Lib.hid hy
 have HLX := Lib.hid hlx
 have HLY := Lib.hid hly
 clear hx hy hlx hly
 by_cases hnm : n = m
 ·subst hnm
  go_enter Tryz.func131, Tryz.ntmps131
  go_wp2_with fail
  go_loopg [5] n (fun r i wr => ∃ j : Nat, j + r = n ∧ i = .int .i64 j ∧ (∃ k, wr = w.drewN k) ∧ xs.take j = ys.take j)
  case atStart => exact ⟨0, by omega, rfl, ⟨0, rfl⟩, by simp⟩
  obtain ⟨j, hj, rfl, ⟨k, rfl⟩, htk⟩ := hrel
  have HT := Lib.hid htk
  clear htk
  by_cases hlt : j < n
  ·have hjx : j < xs.length := by rw [HLX.out]; exact hlt
   have hjy : j < ys.length := by rw [HLY.out]; exact hlt
   obtain ⟨ga, oa, rfl, hca⟩ := HX.out.at_ (by omega)
   obtain ⟨gb, ob, rfl, hcb⟩ := HY.out.at_ (by omega)
   have h1 := hca j (by simpa using hjx)
   have h2 := hcb j (by simpa using hjy)
   rw [bvs_get] at h1 h2
   clear hca hcb
   have hlt2 : (j : Int) < (n : Int) := by omega
   have hge : 0 ≤ (j : Int) := by omega
   have htn : ((j : Int)).toNat = j := by omega
   by_cases hxy : xs[j] = ys[j]
   ·have HXY := Lib.hid hxy
    rw [← hxy] at h2
    have hne : (((xs[j]).toNat : Int) != ((xs[j]).toNat : Int)) = false := by simp
    clear hxy
    generalize hgx : xs[j] = x at h1 h2 hne
    clear hgx
    go_wp2_with fail
    go_quiet (fail)
    go_wp2
    go_roundg (gk - 1)
    case measure => omega
    case rel =>
     refine ⟨j + 1, by omega, by go_num, ⟨_, rfl⟩, ?_⟩
     rw [List.take_succ_eq_append_getElem hjx, List.take_succ_eq_append_getElem hjy, HT.out]
     have := HXY.out
     rw [this]
   ·have hne : (((xs[j]).toNat : Int) != ((ys[j]).toNat : Int)) = true := by rw [bne_iff_ne]; exact fun h => hxy (u8_eq.1 h)
    have hd : xs ≠ ys := fun h => hxy (by subst h; rfl)
    have HD := Lib.hid hd
    clear hxy hd
    generalize hgx : xs[j] = x at h1 hne
    generalize hgy : ys[j] = y at h2 hne
    clear hgx hgy
    go_wp2_with fail
    go_quiet (fail)
    go_wp2
    go_ret
    exact ⟨by simp [HD.out], k + nq, by rw [World.drewN_drewN]⟩
  ·obtain rfl : j = n := by omega
   go_wp2
   go_ret
   have : xs = ys := by
    have := HT.out
    rwa [List.take_of_length_le (by rw [HLX.out]; omega), List.take_of_length_le (by rw [HLY.out]; omega)] at this
   exact ⟨by simp [this], k, rfl⟩
 ·have hd : xs ≠ ys := fun h => hnm (by subst h; have := HLX.out; have := HLY.out; omega)
  have hne : ((n : Int) != (m : Int)) = true := by rw [bne_iff_ne]; omega
  go_enter Tryz.func131, Tryz.ntmps131
  go_wp2
  go_ret
  exact ⟨by simp [hd], 0, rfl⟩
theorem alike_bytes_any (A : Option Addr) (n c : Nat) (xs : List UInt8) (B : Option Addr) (m d : Nat) (ys : List UInt8) (w : World) (hx : Bys w A n c xs) (hy : Bys w B m d ys) :
  Calls Tryz.prog 48 #[.slice A n c, .slice B m d] w fun e w' => e = .returned (.bool (decide (xs = ys))) ∧ ∃ k, w' = w.drewN k := by
 go_enter Tryz.func48, Tryz.ntmps48
 go_wp2_with fail
 refine (equal_any A n c xs B m d ys _ hx hy).mono ?_
 rintro e w' ⟨rfl, k, rfl⟩
 go_wp2
 go_ret
 exact ⟨rfl, _, rfl⟩
set_option maxRecDepth 100000 in
set_option maxHeartbeats 1000000 in
/-- bytes from l to h, in new memory -/
theorem part_any (A : Option Addr) (n c : Nat) (bs : List UInt8) (l m : Nat) (hi : Int) (w : World) (h : Bys w A n c bs) (hlm : l + m ≤ n) (hn : n ≤ 1000000) (ehi : hi = (l : Int) + (m : Int)) :
  Calls Tryz.prog 102 #[.slice A n c, .int .i64 l, .int .i64 hi] w fun e w' => e = .returned (.slice (some ⟨w.heap.size, 0, none⟩) m m) ∧ Kn.Own w' w.heap.size (bvs ((bs.drop l).take m)) ∧ Only [] w w' := by
 subst ehi
 have hlen := h.len
 rw [bvs_length] at hlen
 have hcm := h.cm
 have hcl := h.le
 unfold maxLen at hcm
 have hmk := make_bys m (by omega)
 have hsl := fun w => run_slice1 (P := Tryz.prog) w 47 5 Tryz.underlying47 (by kernel_rfl) A n c (l : Int) ((l : Int) + (m : Int)) l (l + m) m .i64 .i64 rfl (by omega) (by omega) (by omega) (by omega)
 have hsub : (l : Int) + (m : Int) - (l : Int) = (m : Int) := by omega
 have hcut := (h.alloc (.cells (bvs (List.replicate m 0)).toArray 5)).cut (l := l) (m := m) hlm
 rw [bvs_cut] at hcut
 have HC := Lib.hid hcut
 have hown := Own.new w (bvs (List.replicate m 0)).toArray 5
 rw [List.toList_toArray] at hown
 have HR := Lib.hid (show 0 + m ≤ (bvs (List.replicate m 0)).length by simp)
 have HO := Lib.hid hown
 have HL := Lib.hid hlen
 clear h hcut hown hlen
 go_enter Tryz.func102, Tryz.ntmps102
 go_wp2_with (first
  | (with_reducible refine wpList_copy_bys rfl (.tmp 12) (.tmp 16) 47 47 rfl 5 Tryz.underlying47 (by kernel_rfl) (some ⟨w.heap.size, 0, none⟩) (cutA A c l) m m m (c - l) rfl rfl w.heap.size 0 (bvs (List.replicate m 0)) (bvs ((bs.drop l).take m)) HC.out (bvs_one _) (Nat.le_refl _) HR.out (fun _ => rfl) (fun _ => HO.out) ?_; intro w2 hown2 hO2 hsame))
 go_ret
 have e : (bvs (List.replicate m 0)).take 0 ++ (bvs ((bs.drop l).take m) ++ (bvs (List.replicate m 0)).drop (0 + (bvs ((bs.drop l).take m)).length)) = bvs ((bs.drop l).take m) := by
  have h2 : (bvs (List.replicate m 0)).drop (0 + (bvs ((bs.drop l).take m)).length) = [] := List.drop_eq_nil_of_le (by simp; have := HL.out; omega)
  rw [List.take_zero, List.nil_append, h2, List.append_nil]
 refine ⟨rfl, ?_, ((Only.refl _ _).alloc _).trans hO2 (by simp)⟩
 rcases Nat.eq_zero_or_pos m with h0 | h0
 ·have e2 : bvs ((bs.drop l).take m) = [] := by subst h0; simp [bvs]
  rw [e2, hsame h0]
  subst h0
  exact HO.out
 ·rw [← e]
  exact hown2 (by simpa using h0)
end Go.Proofs.YtgcfdjcpcclcjaaGreat
namespace Go.Proofs.YtgcfdjcpcclcjaaGreat
open Go Go.RowKit Go.Kn
/-- what takes bytes out of a row -/
def TookBys (w : World) (p g : Nat) (bs : List UInt8) (k n : Nat) (e : Ending) (w' : World) : Prop :=
 ∃ A c, e = .returned (.tuple #[.slice A n c, .bool true]) ∧ n ≤ c ∧ c ≤ maxLen ∧ (0 < n → ∃ b, A = some ⟨b, 0, none⟩ ∧ w.heap.size ≤ b ∧ Kn.Own w' b (bvs ((bs.drop k).take n))) ∧ RowAt w' p g bs (k + n) ∧ Only [p] w w'
set_option maxRecDepth 100000 in
theorem take_any (p g k : Nat) (bs : List UInt8) (n : Nat) (w : World) (h : RowAt w p g bs k) (hn : n ≤ bs.length - k) :
  Calls Tryz.prog 203 #[.pointer (some ⟨p, 0, none⟩), .int .i64 n] w (TookBys w p g bs k n) := by
 obtain ⟨A, c, h0, h1, h2⟩ := row_bys h
 have hk := h.fk
 have hle := h.le
 have hmx := h.mx
 have hc := h1.le
 have hcm := h1.cm
 unfold maxLen at hcm
 have hz := h.pz 1
 have H := Lib.hid h
 have H1 := Lib.hid h1
 have H2 := Lib.hid h2
 clear h h1 h2
 go_enter Tryz.func203, Tryz.ntmps203
 go_wp2_with (first | (go_at_call 214; refine (left_any p g k bs _ H.out).mono ?_; rintro e w1 ⟨rfl, nq, rfl⟩))
 have hw1 := IntWalk.i64_in ((k : Int) + (n : Int)) (by omega)
 have hsl := fun w => run_slice1 (P := Tryz.prog) w 47 5 Tryz.underlying47 (by kernel_rfl) A bs.length c (k : Int) ((k : Int) + (n : Int)) k (k + n) n .i64 .i64 rfl (by omega) (by omega) (by omega) (by omega)
 refine still_tail 15 (by kernel_rfl) (by kernel_rfl) ?_
 simp only [List.take_succ_cons, List.take_zero, List.drop_succ_cons, List.drop_zero]
 repeat still_step
 refine wpStill_nil ?_
 generalize hw2 : (w.drewN nq).drew = w2
 have hO2 : Only [] w w2 := by rw [← hw2]; exact ((Only.refl _ _).drewN _).drew
 clear hw2
 have hcl : Bys w2 (cutA A c k) n (c - k) ((bs.drop k).take n) := by
  have := (H1.out.keep0 hO2).cut (l := k) (m := n) (by omega)
  rwa [bvs_cut] at this
 have HC := Lib.hid hcl
 clear hcl
 go_wp2_with fail
 refine (clone_any _ _ _ _ _ HC.out (by omega)).mono ?_
 rintro e w1 ⟨A', c', rfl, hc', hm', hpos, hO⟩
 have hlt : ((bs.drop k).take n).length = n := by simp; omega
 rw [hlt] at hc' hpos ⊢
 have hR := Lib.hid ((H.out.keep0 hO2).keep0 hO)
 have hk1 := hR.out.fk
 have hz1 := hR.out.pz 1
 clear hk hz h0
 go_wp2
 go_ret2
 have e : (k : Int) + (n : Int) = ((k + n : Nat) : Int) := by omega
 rw [e]
 have hOO := hO2.trans' hO
 refine ⟨A', c', rfl, hc', hm', fun hn => ?_, hR.out.place _ (by omega), (hOO.mono (by simp)).set (by simp) _⟩
 obtain ⟨b, h1, h2, h3⟩ := hpos hn
 have := H.out.lp
 have := hO2.size
 exact ⟨b, h1, by omega, h3.far (by show p ≠ b; omega) _⟩
theorem take_nil (n : Int) (w : World) : Calls Tryz.prog 203 #[.pointer none, .int .i64 n] w fun e w' => e = .returned (.tuple #[.slice none 0 0, .bool false]) ∧ w = w' := by
 go_enter Tryz.func203, Tryz.ntmps203
 go_wp2
 go_ret2
 exact ⟨rfl, rfl⟩
end Go.Proofs.YtgcfdjcpcclcjaaGreat
namespace Go.Proofs.YtgcfdjcpcclcjaaGreat
open Go Go.RowKit Go.Kn
set_option maxRecDepth 100000 in
set_option maxHeartbeats 1000000 in
theorem put_anyP (p g k : Nat) (bs : List UInt8) (n : Nat) (A : Option Addr) (m c : Nat) (zs : List Int) (w : World) (h : RowAt w p g bs k) (hi : Ins w A m c zs) (hA : 0 < m → ∀ a, A = some a → a.block ≠ p ∧ a.block ≠ g)
  (hw : n = 1 ∨ n = 2 ∨ n = 4) (hn : n * m ≤ bs.length - k) (hf : Fit n zs) :
  Calls Tryz.prog 197 #[.pointer (some ⟨p, 0, none⟩), .int .i64 n, .slice A m c] w fun e w' => e = .returned (.bool true) ∧ RowAt w' p g (lay bs k (les n zs)) (k + n * m) ∧ Only [p, g] w w' := by
 have hlen := hi.len
 rw [ivs_length] at hlen
 have hle := h.le
 have hmx := h.mx
 have hn4 : n ≤ 4 := by omega
 have hn1 : 1 ≤ n := by omega
 have hm : m ≤ bs.length - k := Nat.le_trans (Nat.le_mul_of_pos_left m hn1) hn
 have hq : (bs.length - k : Nat) / n ≥ m := (Nat.le_div_iff_mul_le hn1).2 (by rw [Nat.mul_comm]; exact hn)
 have hwb : decide ((n : Int) = 1 ∨ (n : Int) = 2 ∨ (n : Int) = 4) = true := by simp; omega
 have hcells : ∀ j (hj : j < zs.length), ∃ a o, A = some ⟨a, o, none⟩ ∧ a ≠ p ∧ a ≠ g ∧ w.cell? ⟨a, o + j, none⟩ = some (.int .i64 zs[j]) := fun j hj => by
  obtain ⟨a, o, e, hc⟩ := hi.at_ (by omega)
  have h1 := hc j (by simpa using hj)
  rw [ivs_get] at h1
  exact ⟨a, o, e, (hA (by omega) _ e).1, (hA (by omega) _ e).2, h1⟩
 obtain ⟨q, hqe⟩ : ∃ q, q = (bs.length - k) / n := ⟨_, rfl⟩
 have hq2 : q ≤ 65536 := by rw [hqe]; exact Nat.le_trans (Nat.div_le_self _ _) (by omega)
 have hdiv : wrap64 (((bs.length - k : Nat) : Int) / (n : Int)) = (q : Int) := by
  have e : (((bs.length - k : Nat) : Int) / (n : Int)) = (q : Int) := by rw [hqe]; simp
  rw [e]
  unfold wrap64
  omega
 rw [← hqe] at hq
 have hdq : decide (q < m) = false := by simp; omega
 have hn0 : ((n : Int) == 0) = false := by simp; omega
 have hs1 : 0 ≤ 8 * (n : Int) := by omega
 have hs2 : 8 * (n : Int) ≤ 64 := by omega
 have hs3 : (8 * (n : Int)).toNat = 8 * n := by omega
 have H := Lib.hid h
 have HC := Lib.hid hcells
 have HF := Lib.hid hf
 have HL := Lib.hid hlen
 have HN : Hid (k + n * m ≤ bs.length) := Lib.hid (by omega)
 clear h hi hA hw hn hf hcells hlen hqe
 go_enter Tryz.func197, Tryz.ntmps197
 go_wp2_with (first | (go_at_call 213; refine (wide_any _ _).mono ?_; rintro e w' ⟨rfl, rfl⟩) | (go_at_call 214; refine (left_any p g k bs _ H.out).mono ?_; rintro e w1 ⟨rfl, nq, rfl⟩))
 simp only [hdiv]
 clear hdiv
 go_loopg [30] m (fun r i wr => ∃ j : Nat, j + r = m ∧ i = .int .i64 j ∧ wr = w.drewN nq)
 case atStart => exact ⟨0, by omega, rfl, rfl⟩
 case round =>
  obtain ⟨j, hj, rfl, rfl⟩ := hrel
  by_cases hlt : j < m
  ·have hjz : j < zs.length := by rw [HL.out]; exact hlt
   obtain ⟨a, o, rfl, hap, hag, hcell⟩ := HC.out j hjz
   obtain ⟨hz0, hz1⟩ := HF.out zs[j] (List.getElem_mem _)
   have hsh := shr_zero zs[j] n hz0
   rw [decide_eq_true hz1] at hsh
   have hsh2 : (zs[j] / 2 ^ (8 * n) != 0) = false := by rw [bne, hsh]; rfl
   generalize zs[j] = z at *
   clear hz1
   go_wp2
   go_roundg (gk - 1)
   case measure => omega
   case rel => exact ⟨j + 1, by omega, by go_num, rfl⟩
  ·obtain rfl : j = m := by omega
   clear hlt hj
   go_wp2
   go_loopg [46] j (fun r i wr => ∃ l : Nat, l + r = j ∧ i = .int .i64 l ∧ RowAt wr p g (lay bs k (les n (zs.take l))) (k + n * l) ∧ Only [p, g] w wr)
   case atStart => exact ⟨0, by omega, rfl, by simpa [lay_nil] using H.out.drewN _, (Only.refl _ _).drewN _⟩
   case round =>
    obtain ⟨l, hl, rfl, HR, hO⟩ := hrel
    by_cases hlt : l < j
    ·have hjz : l < zs.length := by rw [HL.out]; exact hlt
     obtain ⟨a, o, rfl, hap, hag, hcell⟩ := HC.out l hjz
     obtain ⟨hz0, hz1⟩ := HF.out zs[l] (List.getElem_mem _)
     have hcell1 := hO.cell hcell (by simp [hap, hag])
     have hR := Lib.hid HR
     have HO := Lib.hid hO
     clear HR hO hcell
     go_wp2
     go_loopg [51] n (fun r i wr => ∃ t : Nat, t + r = n ∧ i = .int .i64 t ∧ RowAt wr p g (mid bs k n zs l t) (k + n * l) ∧ Only [p, g] w wr)
     case atStart => exact ⟨0, by omega, rfl, by simpa [mid] using hR.out, HO.out⟩
     case round =>
      obtain ⟨t, ht, rfl, HR, hO⟩ := hrel
      have hroom := mid_room HN.out (show l < j by omega)
      have hpl := HL.out
      by_cases hlt2 : t < n
      ·have hlen := mid_length (n := n) (zs := zs) (l := l) (t := t) (bs := bs) (k := k) (by rw [hpl]; exact HN.out) hjz (by omega)
       have hset := mid_set (bs := bs) (k := k) (n := n) (zs := zs) (l := l) (t := t) (by rw [hpl]; exact HN.out) hjz hlt2
       have hb := HR.byte (k + n * l + t) (UInt8.ofNat ((zs.getD l 0).toNat / 256 ^ t)) (by rw [hlen]; omega)
       rw [hset] at hb
       have hb2 := Lib.hid hb
       have hO2 := Lib.hid hO
       obtain ⟨old, c1, hf0, hf1, hfk, hcl, hgz⟩ := HR.facts hlen (show k + n * l + t < bs.length by omega)
       have ez : zs.getD l 0 = zs[l] := by simp [hjz]
       rw [ez] at hb2
       clear hb hset hO HR hlen hpl ez
       have hbyte : IntKind.u8.wrap (bits .and .i64 (zs[l] / 2 ^ (8 * t)) 255) = ((UInt8.ofNat (zs[l].toNat / 256 ^ t)).toNat : Int) := by
        have := byte_of zs[l].toNat t (by have := pow_256_le hn4; omega)
        rwa [Int.toNat_of_nonneg hz0] at this
       have hi1 : (k : Int) + (n : Int) * (l : Int) + (t : Int) = ((k + n * l + t : Nat) : Int) := by simp
       generalize (UInt8.ofNat (zs[l].toNat / 256 ^ t)) = cc at *
       generalize zs[l] = z at *
       generalize hK : k + n * l = K at *
       clear hK
       have hw1 := IntWalk.i64_in ((K : Int) + (t : Int)) (by omega)
       have hw2 := IntWalk.i64_in (8 * (t : Int)) (by omega)
       have hx1 : 0 ≤ (K : Int) + (t : Int) := by omega
       have hx2 : (K : Int) + (t : Int) < (bs.length : Int) := by omega
       have hx3 : ((K : Int) + (t : Int)).toNat = K + t := by omega
       have hx4 : 0 ≤ 8 * (t : Int) := by omega
       have hx5 : 8 * (t : Int) ≤ 64 := by omega
       have hx6 : (8 * (t : Int)).toNat = 8 * t := by omega
       go_wp2
       go_region
       go_wp2
       go_roundg (gk - 1)
       case measure => omega
       case rel => exact ⟨t + 1, by omega, by go_num, hb2.out.drew, ((hO2.out.set (by simp) _).drew)⟩
      ·obtain rfl : t = n := by omega
       have hR2 := Lib.hid HR
       have hO2 := Lib.hid hO
       have hfk := HR.fk
       have hpz := HR.pz 1
       have hl2 := mid_length (n := t) (zs := zs) (l := l) (t := t) (bs := bs) (k := k) (by rw [hpl]; exact HN.out) hjz (by omega)
       have hpl' := HR.place (k + t * l + t) (by rw [hl2]; exact hroom)
       rw [mid_next hjz] at hpl'
       have hP := Lib.hid hpl'
       have hk1 : ((k + t * l : Nat) : Int) + (t : Int) = ((k + t * l + t : Nat) : Int) := by simp
       have HK := Lib.hid hk1
       clear HR hO hpl hl2 hpl' hk1
       generalize hK : k + t * l = K at *
       have HKK := Lib.hid hK
       clear hK
       go_wp2
       go_roundg (j - (l + 1))
       case measure => omega
       case rel =>
        refine ⟨l + 1, by omega, by go_num, ?_, hO2.out.set (by simp) _⟩
        rw [HK.out, Nat.mul_succ, ← Nat.add_assoc, HKK.out]
        exact hP.out
    ·obtain rfl : l = j := by omega
     have hR := Lib.hid HR
     have HO := Lib.hid hO
     clear HR hO
     go_wp2
     go_ret
     have := hR.out
     rw [List.take_of_length_le (by rw [HL.out]; omega)] at this
     exact ⟨rfl, this, HO.out⟩
theorem put_any (p g k : Nat) (bs : List UInt8) (n : Nat) (A : Option Addr) (m c : Nat) (zs : List Int) (w : World) (h : RowAt w p g bs k) (hi : Ins w A m c zs) (hA : ∀ a, A = some a → a.block ≠ p ∧ a.block ≠ g)
  (hw : n = 1 ∨ n = 2 ∨ n = 4) (hn : n * m ≤ bs.length - k) (hf : Fit n zs) :
  Calls Tryz.prog 197 #[.pointer (some ⟨p, 0, none⟩), .int .i64 n, .slice A m c] w fun e w' => e = .returned (.bool true) ∧ RowAt w' p g (lay bs k (les n zs)) (k + n * m) ∧ Only [p, g] w w' :=
 put_anyP p g k bs n A m c zs w h hi (fun _ => hA) hw hn hf
set_option maxRecDepth 100000 in
set_option maxHeartbeats 1000000 in
theorem lay_any (p g k : Nat) (bs : List UInt8) (A : Option Addr) (n c : Nat) (xs : List UInt8) (w : World) (h : RowAt w p g bs k) (hi : Bys w A n c xs) (hn : n ≤ bs.length - k) :
    Calls Tryz.prog 202 #[.pointer (some ⟨p, 0, none⟩), .slice A n c] w fun e w' => e = .returned (.bool true) ∧ RowAt w' p g (lay bs k xs) (k + n) ∧ Only [p, g] w w' := by
  obtain ⟨A0, c0, h0, h1, h2⟩ := row_bys h
  have hlen := hi.len
  rw [bvs_length] at hlen
  have hk := h.fk
  have hle := h.le
  have hmx := h.mx
  have hc := h1.le
  have hcm := h1.cm
  unfold maxLen at hcm
  have hz := h.pz 1
  have hsl := fun w => run_slice1_lo (P := Tryz.prog) w 47 5 Tryz.underlying47 (by kernel_rfl) A0 bs.length c0 (k : Int) k (bs.length - k) .i64 rfl hle rfl
  have hw1 := IntWalk.i64_in ((k : Int) + (n : Int)) (by omega)
  have HI := Lib.hid hi
  have H := Lib.hid h
  have H2 := Lib.hid h2
  have HL := Lib.hid hlen
  clear h h1 h2 hi hlen
  go_enter Tryz.func202, Tryz.ntmps202
  go_wp2_with (first | (go_at_call 214; refine (left_any p g k bs _ H.out).mono ?_; rintro e w1 ⟨rfl, nq, rfl⟩))
  have hcut : 0 < n → cutA A0 c0 k = some ⟨g, k, none⟩ := fun h0 => by rw [H2.out (by omega)]; exact cutA_at (show k < bs.length by omega) hc
  have HCU := Lib.hid hcut
  clear hcut
  go_region_law (first
    | (refine step_copy_bys rfl (.tmp 26) (.tmp 27) 47 47 rfl 5 Tryz.underlying47 (by kernel_rfl) (cutA A0 c0 k) A (bs.length - k) (c0 - k) n c (by simp [Act.eval, Act.put]) (by simp [Act.eval, Act.put]) g k (bvs bs) (bvs xs) (HI.out.keep0 ((Only.refl _ _).drewN _).drew) (bvs_one _) hn (by simp; omega) HCU.out (fun h0 => H.out.own (by simpa using h0)) ?_
       intro w2 hown2 hO2 hsame
       obtain ⟨hk2, hz2⟩ : w2.cell? ⟨p, 1, none⟩ = some (.int .i64 (k : Int)) ∧ w2.frozen? ⟨p, 1, none⟩ = false := by
         rcases Nat.eq_zero_or_pos bs.length with h0 | h0
         · rw [hsame (by omega)]; exact ⟨hk, hz⟩
         · have hne := H.out.ne h0
           exact ⟨hO2.cell hk (by simpa using hne), (hO2.frozen (p := ⟨p, 1, none⟩) H.out.lp (by simpa using hne)).trans hz⟩
       have HO2 := Lib.hid hO2
       have HOW2 := Lib.hid hown2
       have HS2 := Lib.hid hsame
       clear hO2 hown2 hsame))
  all_goals
    go_wp2
    go_ret
    have e : (k : Int) + (n : Int) = ((k + n : Nat) : Int) := by omega
    rw [e]
    have hO1 : Only [p, g] w (w.drewN nq).drew := ((Only.refl _ _).drewN _).drew
    have hl : (lay bs k xs).length = bs.length := lay_length _ _ _ (by have := HL.out; omega)
    refine ⟨rfl, ?_, ((hO1.trans HO2.out (by simp)).set (by simp) _)⟩
    refine RowAt.place (k := k) ?_ _ (by rw [hl]; omega)
    rcases Nat.eq_zero_or_pos bs.length with h0 | h0
    · rw [HS2.out (by omega)]
      obtain rfl : xs = [] := List.eq_nil_of_length_eq_zero (by have := HL.out; omega)
      rw [lay_nil]
      exact (H.out.drewN _).drew
    · exact ((H.out.drewN _).drew).copied h0 HO2.out (fun _ => HOW2.out (by simpa using h0)) (bvs_lay bs k xs) hl
end Go.Proofs.YtgcfdjcpcclcjaaGreat
namespace Go.Proofs.YtgcfdjcpcclcjaaGreat
open Go Go.RowKit Go.Kn
set_option maxRecDepth 100000 in
theorem ref_new_any (n : Int) (w : World) (hn : 0 ≤ n) (hm : n ≤ 65536) :
  Calls Tryz.prog 148 #[.int .i64 n] w (MadeRow w (List.replicate n.toNat 0)) := by
 obtain ⟨m, rfl⟩ := Int.eq_ofNat_of_zero_le hn
 have hmk := make_bys m (by omega)
 have hd : decide (0 ≤ (m : Int) ∧ (m : Int) ≤ 65536) = true := by simp; omega
 go_enter Tryz.func148, Tryz.ntmps148
 go_wp2_with (first | (go_at_call 99; refine (within_any _ _ _ _).mono ?_; rintro e w' ⟨rfl, rfl⟩))
 go_ret
 rw [Int.toNat_natCast]
 have ho := Own.new w (bvs (List.replicate m 0)).toArray 5
 rw [List.toList_toArray] at ho
 have hsz : (w.alloc (.cells (bvs (List.replicate m 0)).toArray 5)).heap.size = w.heap.size + 1 := by simp
 by_cases h0 : m = 0
 ·subst h0
  refine ⟨w.heap.size + 1, w.heap.size + 1, by simp, by omega, by omega, ?_, ((Only.refl _ _).alloc _).alloc _⟩
  rw [← hsz]
  exact ⟨by simp, ⟨some ⟨w.heap.size, 0, none⟩, 0, by simp, by simp, by simp [maxLen], by simp⟩, by simp, fun i => by simp, by simp, by simp, by simp, by simp⟩
 ·refine ⟨w.heap.size + 1, w.heap.size, by simp, by omega, Nat.le_refl _, ?_, ((Only.refl _ _).alloc _).alloc _⟩
  have h1 := new_row_at (w.alloc (.cells (bvs (List.replicate m 0)).toArray 5)) _ (List.replicate m 0) w.heap.size 166 ho rfl (by simp; omega) (by simp; omega)
  rw [hsz] at h1
  simpa using h1
set_option maxRecDepth 100000 in
set_option maxHeartbeats 1000000 in
theorem ref_lay_any (p g k : Nat) (bs : List UInt8) (A : Option Addr) (n c : Nat) (xs : List UInt8) (w : World) (h : RowAt w p g bs k) (hi : Bys w A n c xs) (hn : n ≤ bs.length - k) :
    Calls Tryz.prog 90 #[.pointer (some ⟨p, 0, none⟩), .slice A n c] w fun e w' => e = .returned (.bool true) ∧ RowAt w' p g (lay bs k xs) (k + n) ∧ Only [p, g] w w' := by
  obtain ⟨A0, c0, h0, h1, h2⟩ := row_bys h
  have hlen := hi.len
  rw [bvs_length] at hlen
  have hk := h.fk
  have hle := h.le
  have hmx := h.mx
  have hc := h1.le
  have hcm := h1.cm
  unfold maxLen at hcm
  have hz := h.pz 1
  have hd2 : (n : Int) ≤ (bs.length : Int) - (k : Int) := by omega
  have hd : decide ((bs.length : Int) - (k : Int) < (n : Int)) = false := by simp; omega
  have hsl := fun w => run_slice1_lo (P := Tryz.prog) w 47 5 Tryz.underlying47 (by kernel_rfl) A0 bs.length c0 (k : Int) k (bs.length - k) .i64 rfl hle rfl
  have hw1 := IntWalk.i64_in ((k : Int) + (n : Int)) (by omega)
  have hcut : 0 < n → cutA A0 c0 k = some ⟨g, k, none⟩ := fun h0' => by rw [h2 (by omega)]; exact cutA_at (show k < bs.length by omega) hc
  have HCU := Lib.hid hcut
  have HI := Lib.hid hi
  have H := Lib.hid h
  have HL := Lib.hid hlen
  clear h h1 h2 hi hlen hcut
  go_enter Tryz.func90, Tryz.ntmps90
  go_wp2_with fail
  go_quiet (fail)
  go_wp2_with fail
  go_region_law (first
    | (refine step_copy_bys rfl (.tmp 26) (.tmp 27) 47 47 rfl 5 Tryz.underlying47 (by kernel_rfl) (cutA A0 c0 k) A (bs.length - k) (c0 - k) n c (by simp [Act.eval, Act.put]) (by simp [Act.eval, Act.put]) g k (bvs bs) (bvs xs) (HI.out.keep0 ((Only.refl _ _).drewN _).drew) (bvs_one _) hn (by simp; omega) HCU.out (fun h0 => H.out.own (by simpa using h0)) ?_
       intro w2 hown2 hO2 hsame
       obtain ⟨hk2, hz2⟩ : w2.cell? ⟨p, 1, none⟩ = some (.int .i64 (k : Int)) ∧ w2.frozen? ⟨p, 1, none⟩ = false := by
         rcases Nat.eq_zero_or_pos bs.length with h0 | h0
         · rw [hsame (by omega)]; exact ⟨hk, hz⟩
         · have hne := H.out.ne h0
           exact ⟨hO2.cell hk (by simpa using hne), (hO2.frozen (p := ⟨p, 1, none⟩) H.out.lp (by simpa using hne)).trans hz⟩
       have HO2 := Lib.hid hO2
       have HOW2 := Lib.hid hown2
       have HS2 := Lib.hid hsame
       clear hO2 hown2 hsame))
  all_goals
    go_wp2
    go_ret
    have e : (k : Int) + (n : Int) = ((k + n : Nat) : Int) := by omega
    rw [e]
    have hO1 : Only [p, g] w (w.drewN nq).drew := ((Only.refl _ _).drewN _).drew
    have hl : (lay bs k xs).length = bs.length := lay_length _ _ _ (by have := HL.out; omega)
    refine ⟨rfl, ?_, ((hO1.trans HO2.out (by simp)).set (by simp) _)⟩
    refine RowAt.place (k := k) ?_ _ (by rw [hl]; omega)
    rcases Nat.eq_zero_or_pos bs.length with h0 | h0
    · rw [HS2.out (by omega)]
      obtain rfl : xs = [] := List.eq_nil_of_length_eq_zero (by have := HL.out; omega)
      rw [lay_nil]
      exact (H.out.drewN _).drew
    · exact ((H.out.drewN _).drew).copied h0 HO2.out (fun _ => HOW2.out (by simpa using h0)) (bvs_lay bs k xs) hl
theorem most_fit {n : Nat} (hw : n = 1 ∨ n = 2 ∨ n = 4) : mostF (n : Int) = 256 ^ n - 1 := by
 rcases hw with rfl | rfl | rfl <;> decide
end Go.Proofs.YtgcfdjcpcclcjaaGreat
namespace Go.Proofs.YtgcfdjcpcclcjaaGreat
open Go Go.RowKit Go.Kn
theorem fit_dec {n : Nat} (hw : n = 1 ∨ n = 2 ∨ n = 4) (z : Int) : decide (0 ≤ z ∧ z ≤ mostF (n : Int)) = decide (0 ≤ z ∧ z < 256 ^ n) := by
 rw [most_fit hw, decide_eq_decide]
 omega
/-- what the reference keeps of a number behind t bytes -/
theorem shr_step (z t : Nat) : ((z / 256 ^ t : Nat) : Int) / 256 = ((z / 256 ^ (t + 1) : Nat) : Int) := by
 rw [Nat.pow_succ, ← Nat.div_div_eq_div_mul]
 simp
theorem and_byte (x : Nat) (h : x < 9223372036854775808) : IntKind.u8.wrap (bits .and .i64 (x : Int) 255) = ((UInt8.ofNat x).toNat : Int) := by
 rw [show (255 : Int) = ((255 : Nat) : Int) from rfl, bits_and_i64_nat _ _ h (by omega), show 255 = 2 ^ 8 - 1 from rfl, Nat.and_two_pow_sub_one_eq_mod, UInt8.toNat_ofNat', IntKind.wrap_u8]
 omega
set_option maxRecDepth 100000 in
set_option maxHeartbeats 2000000 in
theorem ref_put_anyP (p g k : Nat) (bs : List UInt8) (n : Nat) (A : Option Addr) (m c : Nat) (zs : List Int) (w : World) (h : RowAt w p g bs k) (hi : Ins w A m c zs) (hA : 0 < m → ∀ a, A = some a → a.block ≠ p ∧ a.block ≠ g)
  (hw : n = 1 ∨ n = 2 ∨ n = 4) (hn : n * m ≤ bs.length - k) (hf : Fit n zs) :
  Calls Tryz.prog 88 #[.pointer (some ⟨p, 0, none⟩), .int .i64 n, .slice A m c] w fun e w' => e = .returned (.bool true) ∧ RowAt w' p g (lay bs k (les n zs)) (k + n * m) ∧ Only [p, g] w w' := by
 obtain ⟨A0, c0, h0, h1, h2, h3⟩ := h.fb
 have hk := h.fk
 have hlen := hi.len
 rw [ivs_length] at hlen
 have hle := h.le
 have hmx := h.mx
 unfold maxLen at h2
 have hn4 : n ≤ 4 := by omega
 have hn1 : 1 ≤ n := by omega
 have hm : m ≤ bs.length - k := Nat.le_trans (Nat.le_mul_of_pos_left m hn1) hn
 have hmf : mostF n = 256 ^ n - 1 := most_fit hw
 have hpw : (256 : Int) ^ n - 1 ≥ 0 := by rcases hw with rfl | rfl | rfl <;> decide
 have hm1 : decide (mostF (n : Int) < 0) = false := by rw [hmf]; simp; omega
 have hcells : ∀ j (hj : j < zs.length), ∃ a o, A = some ⟨a, o, none⟩ ∧ a ≠ p ∧ a ≠ g ∧ w.cell? ⟨a, o + j, none⟩ = some (.int .i64 zs[j]) := fun j hj => by
  obtain ⟨a, o, e, hc⟩ := hi.at_ (by omega)
  have h1 := hc j (by simpa using hj)
  rw [ivs_get] at h1
  exact ⟨a, o, e, (hA (by omega) _ e).1, (hA (by omega) _ e).2, h1⟩
 have hd : decide ((bs.length : Int) < (m : Int)) = false := by simp; omega
 have hd' : decide (bs.length < m) = false := by simp; omega
 have hmn : m * n ≤ 262144 := Nat.le_trans (Nat.mul_le_mul (show m ≤ 65536 by omega) (show n ≤ 4 by omega)) (by decide)
 have hmn2 : (m : Int) * (n : Int) = ((m * n : Nat) : Int) := by simp
 have hw2 := IntWalk.i64_in ((m : Int) * (n : Int)) (by rw [hmn2]; omega)
 clear hmn2
 have hw3 := IntWalk.i64_in ((bs.length : Int) - (k : Int)) (by omega)
 have hd2 : (m : Int) * (n : Int) ≤ (bs.length : Int) - (k : Int) := by
  have e : (m : Int) * (n : Int) = ((n * m : Nat) : Int) := by simp [Int.mul_comm]
  omega
 have hd3 : decide ((bs.length : Int) - (k : Int) < (m : Int) * (n : Int)) = false := by simp; omega
 have H := Lib.hid h
 have HC := Lib.hid hcells
 have HF := Lib.hid hf
 have HL := Lib.hid hlen
 have HN : Hid (k + n * m ≤ bs.length) := Lib.hid (by omega)
 have HW := Lib.hid hw
 clear h h3 hi hA hw hn hf hcells hlen hmf hpw hmn
 go_enter Tryz.func88, Tryz.ntmps88
 go_wp2_with (first | (go_at_call 149; refine (most_any _ _).mono ?_; rintro e w' ⟨rfl, rfl⟩))
 go_quiet (fail)
 have H1 := Lib.hid (H.out.drewN nq)
 clear hw2 hw3 hd2 h0 hk
 go_wp2_with fail
 go_loopg [8] m (fun r i wr => ∃ j : Nat, j + r = m ∧ i = .int .i64 j ∧ wr = w.drewN nq)
 case atStart => exact ⟨0, by omega, rfl, rfl⟩
 obtain ⟨j, hj, rfl, rfl⟩ := hrel
 by_cases hlt : j < m
 ·have hjz : j < zs.length := by rw [HL.out]; exact hlt
  obtain ⟨a, o, rfl, hap, hag, hcell⟩ := HC.out j hjz
  have hfd : decide (0 ≤ zs[j] ∧ zs[j] ≤ mostF (n : Int)) = true := by
   rw [fit_dec HW.out]; exact decide_eq_true (HF.out zs[j] (List.getElem_mem _))
  generalize zs[j] = z at *
  go_wp2_with (first | (go_at_call 99; refine (within_any _ _ _ _).mono ?_; rintro e w' ⟨rfl, rfl⟩))
  go_roundg (gk - 1)
  case measure => omega
  case rel => exact ⟨j + 1, by omega, by go_num, rfl⟩
 ·obtain rfl : j = m := by omega
  clear hlt hj
  go_wp2_with fail
  go_loopg [9] j (fun r i wr => ∃ l : Nat, l + r = j ∧ i = .int .i64 l ∧ RowAt wr p g (lay bs k (les n (zs.take l))) (k + n * l) ∧ Only [p, g] w wr)
  case atStart => exact ⟨0, by omega, rfl, by simpa [lay_nil] using H.out.drewN _, (Only.refl _ _).drewN _⟩
  obtain ⟨l, hl, rfl, HR, hO⟩ := hrel
  by_cases hlt : l < j
  ·have hjz : l < zs.length := by rw [HL.out]; exact hlt
   obtain ⟨a, o, rfl, hap, hag, hcell⟩ := HC.out l hjz
   obtain ⟨hz0, hz1⟩ := HF.out zs[l] (List.getElem_mem _)
   have hcell1 := hO.cell hcell (by simp [hap, hag])
   have hR := Lib.hid HR
   have HO := Lib.hid hO
   have hzb := pow_256_le hn4
   obtain ⟨z, hz⟩ := Int.eq_ofNat_of_zero_le hz0
   have hz2 : z < 4294967296 := by omega
   have HZ := Lib.hid hz
   rw [hz] at hcell1
   clear HR hO hcell hz0 hz1 hzb hz
   go_wp2_with fail
   go_loopg [10, 11] n (fun r v i wr => ∃ t : Nat, t + r = n ∧ i = .int .i64 t ∧ v = .int .i64 ((z / 256 ^ t : Nat) : Int) ∧ RowAt wr p g (mid bs k n zs l t) (k + n * l + t) ∧ Only [p, g] w wr)
   case atStart => exact ⟨0, by omega, rfl, by simp, by simpa [mid] using hR.out, HO.out⟩
   obtain ⟨t, ht, rfl, rfl, HR, hO⟩ := hrel
   have hroom := mid_room HN.out (show l < j by omega)
   have hpl := HL.out
   by_cases hlt2 : t < n
   ·have hlen := mid_length (n := n) (zs := zs) (l := l) (t := t) (bs := bs) (k := k) (by rw [hpl]; exact HN.out) hjz (by omega)
    have hset := mid_set (bs := bs) (k := k) (n := n) (zs := zs) (l := l) (t := t) (by rw [hpl]; exact HN.out) hjz hlt2
    have hb := HR.byte (k + n * l + t) (UInt8.ofNat ((zs.getD l 0).toNat / 256 ^ t)) (by rw [hlen]; omega)
    rw [hset] at hb
    have ez : (zs.getD l 0).toNat = z := by simp [hjz, HZ.out]
    rw [ez] at hb
    have hb3 := hb.place (k + n * l + t + 1) (by rw [mid_length (by rw [hpl]; exact HN.out) hjz (by omega)]; omega)
    have hO2 := Lib.hid hO
    obtain ⟨old, c1, hf0, hf1, hfk, hcl, hgz⟩ := HR.facts hlen (show k + n * l + t < bs.length by omega)
    have hpz := HR.pz 1
    have hpg := HR.ne (by rw [hlen]; omega)
    have hzt : z / 256 ^ t ≤ z := Nat.div_le_self _ _
    have hbyte := and_byte (z / 256 ^ t) (by omega)
    have hstep := shr_step z t
    have hb4 := Lib.hid hb3
    have hK1 : ((k + n * l + t : Nat) : Int) + 1 = ((k + n * l + t + 1 : Nat) : Int) := by simp
    have HK1 := Lib.hid hK1
    clear hb hset hO HR hlen hpl ez hb3 hK1
    generalize (UInt8.ofNat (z / 256 ^ t)) = cc at *
    generalize hZ1 : z / 256 ^ (t + 1) = z1 at *
    have HZ1 := Lib.hid hZ1
    clear hZ1
    generalize z / 256 ^ t = zt at *
    generalize hK : k + n * l + t = K at *
    have HKK := Lib.hid hK
    clear hK
    have hx1 : 0 ≤ (K : Int) := by omega
    have hx2 : (K : Int) < (bs.length : Int) := by have := HKK.out; omega
    have hcell2 : ∀ v, (wr.setCell ⟨g, K, none⟩ v).cell? ⟨p, 1, none⟩ = some (.int .i64 (K : Int)) := fun v => cell_set_ne (by simp) hfk v
    go_wp2_with fail
    go_region
    go_wp2
    go_roundg (gk - 1)
    case measure => omega
    case rel =>
     have hb5 := hb4.out.drew
     refine ⟨t + 1, by omega, by go_num, by rw [HZ1.out], ?_, ((hO2.out.set (by simp) _).set (by simp) _).drew⟩
     have e1 : k + n * l + (t + 1) = K + 1 := by have := HKK.out; omega
     rw [e1, HK1.out]
     exact hb5
   ·obtain rfl : t = n := by omega
    have hR2 := Lib.hid HR
    have hO2 := Lib.hid hO
    have hl2 := mid_next (bs := bs) (k := k) (n := t) (zs := zs) (l := l) hjz
    clear HR hO
    go_wp2
    go_roundg (j - (l + 1))
    case measure => omega
    case rel =>
     refine ⟨l + 1, by omega, by go_num, ?_, hO2.out⟩
     rw [Nat.mul_succ, ← Nat.add_assoc, ← hl2]
     exact hR2.out
  ·obtain rfl : l = j := by omega
   have hR := Lib.hid HR
   have HO := Lib.hid hO
   clear HR hO
   go_wp2
   go_ret
   have := hR.out
   rw [List.take_of_length_le (by rw [HL.out]; omega)] at this
   exact ⟨rfl, this, HO.out⟩
theorem ref_put_any (p g k : Nat) (bs : List UInt8) (n : Nat) (A : Option Addr) (m c : Nat) (zs : List Int) (w : World) (h : RowAt w p g bs k) (hi : Ins w A m c zs) (hA : ∀ a, A = some a → a.block ≠ p ∧ a.block ≠ g)
  (hw : n = 1 ∨ n = 2 ∨ n = 4) (hn : n * m ≤ bs.length - k) (hf : Fit n zs) :
  Calls Tryz.prog 88 #[.pointer (some ⟨p, 0, none⟩), .int .i64 n, .slice A m c] w fun e w' => e = .returned (.bool true) ∧ RowAt w' p g (lay bs k (les n zs)) (k + n * m) ∧ Only [p, g] w w' :=
 ref_put_anyP p g k bs n A m c zs w h hi (fun _ => hA) hw hn hf
/-- one number that fits -/
theorem ref_one_any (p g k : Nat) (bs : List UInt8) (n : Nat) (z : Int) (w : World) (h : RowAt w p g bs k) (hw : n = 1 ∨ n = 2 ∨ n = 4) (hn : n ≤ bs.length - k) (hz : 0 ≤ z ∧ z < 256 ^ n) :
  Calls Tryz.prog 93 #[.pointer (some ⟨p, 0, none⟩), .int .i64 n, .int .i64 z] w fun e w' => e = .returned (.tuple #[]) ∧ RowAt w' p g (lay bs k (le n z.toNat)) (k + n) ∧ Only [p, g] w w' := by
 have hl := h.lp
 have hg := h.lg
 have HZ := Lib.hid (fit_one hz)
 have HW := Lib.hid hw
 have H := Lib.hid h
 clear h hw hz
 go_enter Tryz.func93, Tryz.ntmps93
 go_wp2_with fail
 refine (ref_put_any p g k bs n _ 1 1 [z] _ (by exact H.out.alloc _) (by exact Row1.of_Own (by simpa [ivs] using Own.new w #[Value.int .i64 z] 3) (by simp) (Nat.le_refl _) (by simp [maxLen])) ?_ HW.out (by omega) HZ.out).mono ?_
 ·intro a ha
  injection ha with ha
  subst ha
  exact ⟨by simp; omega, by simp; omega⟩
 rintro e w1 ⟨rfl, hr, hO⟩
 rw [les_one, Nat.mul_one] at hr
 go_wp2
 go_end0
 exact ⟨rfl, hr, ((Only.refl _ _).alloc _).trans' hO⟩
end Go.Proofs.YtgcfdjcpcclcjaaGreat
namespace Go.Kn
open Go Go.RowKit
theorem bits_xor_u32_nat (a b : Nat) (ha : a < 4294967296) (hb : b < 4294967296) : bits .xor .u32 (a : Int) (b : Int) = ((a ^^^ b : Nat) : Int) := by
 have hx : a ^^^ b < 2 ^ 32 := Nat.xor_lt_two_pow (by omega) (by omega)
 have h1 : (BitVec.ofInt 32 (a : Int)).toNat = a := by
  rw [BitVec.ofInt_natCast, BitVec.toNat_ofNat]; exact Nat.mod_eq_of_lt (by omega)
 have h2 : (BitVec.ofInt 32 (b : Int)).toNat = b := by
  rw [BitVec.ofInt_natCast, BitVec.toNat_ofNat]; exact Nat.mod_eq_of_lt (by omega)
 show IntKind.u32.wrap ((BitVec.ofInt 32 (a : Int) ^^^ BitVec.ofInt 32 (b : Int)).toNat : Int) = _
 rw [BitVec.toNat_xor, h1, h2]
 simp [IntKind.wrap, IntKind.signed, IntKind.bits]
 omega
theorem bits_and_u32_nat (a b : Nat) (ha : a < 4294967296) (hb : b < 4294967296) : bits .and .u32 (a : Int) (b : Int) = ((a &&& b : Nat) : Int) := by
 have hx : a &&& b < 2 ^ 32 := Nat.and_lt_two_pow _ (by omega)
 have h1 : (BitVec.ofInt 32 (a : Int)).toNat = a := by
  rw [BitVec.ofInt_natCast, BitVec.toNat_ofNat]; exact Nat.mod_eq_of_lt (by omega)
 have h2 : (BitVec.ofInt 32 (b : Int)).toNat = b := by
  rw [BitVec.ofInt_natCast, BitVec.toNat_ofNat]; exact Nat.mod_eq_of_lt (by omega)
 show IntKind.u32.wrap ((BitVec.ofInt 32 (a : Int) &&& BitVec.ofInt 32 (b : Int)).toNat : Int) = _
 rw [BitVec.toNat_and, h1, h2]
 simp [IntKind.wrap, IntKind.signed, IntKind.bits]
 omega
theorem crc_cond (z d : Nat) (hz : z < 4294967296) (hd : d < 256) : (bits .and .u32 (bits .xor .u32 (z : Int) (d : Int)) 1 == 1) = decide ((z ^^^ d) % 2 = 1) := by
 have hx : z ^^^ d < 2 ^ 32 := Nat.xor_lt_two_pow (by omega) (by omega)
 rw [bits_xor_u32_nat z d hz (by omega)]
 have := bits_and_u32_nat (z ^^^ d) 1 (by omega) (by omega)
 rw [show ((1 : Nat) : Int) = 1 from rfl] at this
 rw [this, Nat.and_one_is_mod, Bool.eq_iff_iff]
 simp only [beq_iff_eq, decide_eq_true_eq]
 omega
/-- one step of the register, at an input bit (the lowest of d) -/
def cstep (x d : Nat) : Nat := if (x ^^^ d) % 2 = 1 then (x / 2) ^^^ 2197175160 else x / 2
/-- i bits of a byte -/
def cbits (c : Nat) : Nat → Nat → Nat
 | x, 0 => x
 | x, i + 1 => cstep (cbits c x i) (c / 2 ^ i)
def cbyte (x : Nat) (c : UInt8) : Nat := cbits c.toNat x 8
def cadd (x : Nat) (bs : List UInt8) : Nat := bs.foldl cbyte x
theorem cstep_lt {x : Nat} (h : x < 4294967296) (d : Nat) : cstep x d < 4294967296 := by
 unfold cstep
 split
 ·exact Nat.xor_lt_two_pow (n := 32) (by omega) (by decide)
 ·omega
theorem cbits_lt {x : Nat} (h : x < 4294967296) (c : Nat) : ∀ i, cbits c x i < 4294967296
 | 0 => h
 | i + 1 => cstep_lt (cbits_lt h c i) _
theorem cadd_lt {x : Nat} (h : x < 4294967296) : ∀ bs : List UInt8, cadd x bs < 4294967296
 | [] => h
 | b :: bs => cadd_lt (cbits_lt h b.toNat 8) bs
theorem cadd_append (x : Nat) (a b : List UInt8) : cadd x (a ++ b) = cadd (cadd x a) b := List.foldl_append
theorem cadd_snoc (x : Nat) (a : List UInt8) (c : UInt8) : cadd x (a ++ [c]) = cbyte (cadd x a) c := by simp [cadd]
end Go.Kn
namespace Go.Proofs.YtgcfdjcpcclcjaaGreat
open Go Go.RowKit Go.Kn
set_option maxRecDepth 100000 in
set_option maxHeartbeats 4000000 in
theorem crc_add_any (x : Nat) (A : Option Addr) (n c : Nat) (bs : List UInt8) (w : World) (hx : x < 4294967296) (hi : Bys w A n c bs) :
  Calls Tryz.prog 218 #[.int .u32 x, .slice A n c] w fun e w' => e = .returned (.int .u32 (cadd x bs : Nat)) ∧ Only [] w w' := by
 have hlen := hi.len
 rw [bvs_length] at hlen
 have hle := hi.le
 have hcm := hi.cm
 unfold maxLen at hcm
 have HI := Lib.hid hi
 have HL := Lib.hid hlen
 clear hi hlen
 go_enter Tryz.func218, Tryz.ntmps218
 go_wp2_with fail
 go_loopg [0, 11] n (fun r v i wr => ∃ j : Nat, j + r = n ∧ i = .int .i64 j ∧ v = .int .u32 (cadd x (bs.take j) : Nat) ∧ Only [] w wr)
 case atStart => exact ⟨0, by omega, rfl, by simp [cadd], Only.refl _ _⟩
 obtain ⟨j, hj, rfl, rfl, hO⟩ := hrel
 have HO := Lib.hid hO
 have hlx := cadd_lt hx (bs.take j)
 clear hO
 by_cases hlt : j < n
 ·have hjz : j < bs.length := by rw [HL.out]; exact hlt
  obtain ⟨a, o, rfl, hc⟩ := HI.out.at_ (by omega)
  have q0 := hc j (by simpa using hjz)
  rw [bvs_get] at q0
  have c0 := HO.out.cell q0 (by simp)
  have hsn : cadd x (bs.take (j + 1)) = cbyte (cadd x (bs.take j)) bs[j] := by rw [List.take_succ_eq_append_getElem hjz, cadd_snoc]
  have HSN := Lib.hid hsn
  clear hc q0 hsn
  generalize bs[j] = cc at *
  generalize cadd x (bs.take j) = y at *
  have hlt2 : (j : Int) < (n : Int) := by omega
  have hge : 0 ≤ (j : Int) := by omega
  have htn : ((j : Int)).toNat = j := by omega
  go_wp2_with fail
  rename World => w2
  obtain ⟨gk0, hgk0⟩ : ∃ g0, g0 = gk := ⟨gk, rfl⟩
  go_loopg [0, 15] 8 (fun r v i ws => ∃ t : Nat, t + r = 8 ∧ i = .int .i64 t ∧ v = .int .u32 (cbits cc.toNat y t : Nat) ∧ ws = w2)
  case atStart => exact ⟨0, by omega, rfl, rfl, rfl⟩
  obtain ⟨t, ht, rfl, rfl, rfl⟩ := hrel
  have hlz := cbits_lt hlx cc.toNat t
  have hzz : cbits cc.toNat y (t + 1) = cstep (cbits cc.toNat y t) (cc.toNat / 2 ^ t) := rfl
  have HZ := Lib.hid hzz
  clear hzz
  have hcc : cc.toNat < 256 := cc.toNat_lt
  by_cases ht8 : t < 8
  ·have ht2 : (t : Int) < 8 := by omega
   have htg : 0 ≤ (t : Int) := by omega
   have htt : ((t : Int)).toNat = t := by omega
   have hkt : ((cc.toNat : Nat) : Int) / 2 ^ t = ((cc.toNat / 2 ^ t : Nat) : Int) := by simp
   have hdt : cc.toNat / 2 ^ t < 256 := Nat.lt_of_le_of_lt (Nat.div_le_self _ _) hcc
   have hcond := crc_cond (cbits cc.toNat y t) (cc.toNat / 2 ^ t) hlz hdt
   rw [← hkt] at hcond
   have hxp := bits_xor_u32_nat (cbits cc.toNat y t / 2) 2197175160 (by omega) (by decide)
   rw [show ((cbits cc.toNat y t / 2 : Nat) : Int) = ((cbits cc.toNat y t : Nat) : Int) / 2 from by simp, show ((2197175160 : Nat) : Int) = 2197175160 from rfl] at hxp
   have hz2 : ((cbits cc.toNat y t / 2 : Nat) : Int) = ((cbits cc.toNat y t : Nat) : Int) / 2 := by simp
   have HXP := Lib.hid hxp
   have HZ2 := Lib.hid hz2
   clear hxp hz2 hkt hdt
   generalize hdd : cc.toNat / 2 ^ t = d at *
   clear hdd
   generalize cbits cc.toNat y t = z at *
   generalize cc.toNat = k at *
   by_cases hb : (z ^^^ d) % 2 = 1
   ·rw [decide_eq_true hb] at hcond
    have HC := Lib.hid hb
    clear hb
    go_wp2_with fail
    go_roundg (gk - 1)
    case measure => omega
    case rel =>
     refine ⟨t + 1, by omega, by go_num, ?_, rfl⟩
     rw [HXP.out, HZ.out]
     unfold cstep
     rw [if_pos HC.out]
   ·rw [decide_eq_false hb] at hcond
    have HC := Lib.hid hb
    clear hb
    go_wp2_with fail
    go_roundg (gk - 1)
    case measure => omega
    case rel =>
     refine ⟨t + 1, by omega, by go_num, ?_, rfl⟩
     rw [HZ.out]
     unfold cstep
     rw [if_neg HC.out, HZ2.out]
  ·obtain rfl : t = 8 := by omega
   have HSB : Hid (cadd x (bs.take (j + 1)) = cbits cc.toNat y 8) := Lib.hid HSN.out
   generalize cbits cc.toNat y 8 = z at *
   go_wp2_with fail
   go_roundg (gk0 - 1)
   case measure => omega
   case rel => exact ⟨j + 1, by omega, by go_num, by rw [HSB.out], HO.out⟩
 ·obtain rfl : j = n := by omega
  have htk : bs.take j = bs := List.take_of_length_le (by rw [HL.out]; omega)
  rw [htk]
  go_wp2
  go_ret
  exact ⟨rfl, HO.out⟩
end Go.Proofs.YtgcfdjcpcclcjaaGreat
namespace Go.Kn
open Go Go.RowKit
/-- the sum of bytes -/
def csum (bs : List UInt8) : Nat := 4294967295 - cadd 4294967295 bs
theorem csum_lt (bs : List UInt8) : csum bs < 4294967296 := by unfold csum; omega
theorem bits_not_u32 (y : Nat) (hy : y < 4294967296) : bits .xor .u32 IntKind.u32.max (y : Int) = ((4294967295 - y : Nat) : Int) := by
 have h1 : IntKind.u32.max = ((4294967295 : Nat) : Int) := by decide
 rw [h1, bits_xor_u32_nat _ _ (by decide) hy]
 have h2 : (BitVec.allOnes 32 ^^^ BitVec.ofNat 32 y).toNat = (~~~ BitVec.ofNat 32 y).toNat := by rw [BitVec.not_def]
 rw [BitVec.toNat_xor, BitVec.toNat_not, BitVec.toNat_allOnes, BitVec.toNat_ofNat, Nat.mod_eq_of_lt (by omega)] at h2
 have h3 : (2 : Nat) ^ 32 - 1 = 4294967295 := by decide
 rw [h3] at h2
 rw [h2]
end Go.Kn
namespace Go.Proofs.YtgcfdjcpcclcjaaGreat
open Go Go.RowKit Go.Kn
set_option maxRecDepth 100000 in
set_option maxHeartbeats 4000000 in
theorem crc_sum_one (g : Nat) (A : Option Addr) (n c : Nat) (bs : List UInt8) (w : World) (hc : w.cell? ⟨g, 0, none⟩ = some (.slice A n c)) (hi : Bys w A n c bs) :
  Calls Tryz.prog 204 #[.slice (some ⟨g, 0, none⟩) 1 1] w fun e w' => e = .returned (.int .i64 (csum bs : Nat)) ∧ Only [] w w' := by
 have HI := Lib.hid hi
 clear hi
 go_enter Tryz.func204, Tryz.ntmps204
 go_wp2_with fail
 go_loopg [3, 8] 1 (fun r v i wr => (r = 1 ∧ i = .int .i64 0 ∧ v = .int .u32 4294967295 ∧ wr = w) ∨ (r = 0 ∧ i = .int .i64 1 ∧ v = .int .u32 (cadd 4294967295 bs : Nat) ∧ Only [] w wr))
 case atStart => exact .inl ⟨rfl, rfl, rfl, rfl⟩
 rcases hrel with ⟨rfl, rfl, rfl, rfl⟩ | ⟨rfl, rfl, rfl, hO⟩
 ·go_wp2_with fail
  refine (crc_add_any 4294967295 A n c bs _ (by decide) (by exact HI.out)).mono ?_
  rintro e w3 ⟨rfl, hO⟩
  have HO := Lib.hid hO
  clear hO
  generalize cadd 4294967295 bs = y at *
  go_wp2_with fail
  go_roundg 0
  case measure => omega
  case rel => exact .inr ⟨rfl, by go_num, rfl, HO.out⟩
 ·have HO := Lib.hid hO
  have hlt := cadd_lt (x := 4294967295) (by decide) bs
  have hy : csum bs = 4294967295 - cadd 4294967295 bs := rfl
  have hn := bits_not_u32 (cadd 4294967295 bs) hlt
  rw [← hy] at hn
  have hs := csum_lt bs
  clear hO hy hc
  generalize cadd 4294967295 bs = y at *
  generalize hcs : csum bs = s at *
  have HCS := Lib.hid hcs
  clear hcs
  go_wp2
  go_ret
  refine ⟨?_, HO.out⟩
  have hw : wrap64 (s : Int) = s := by unfold wrap64; omega
  rw [HCS.out, ← hw]
  simp [hw]
set_option maxRecDepth 100000 in
set_option maxHeartbeats 4000000 in
/-- the sum of all but the last four bytes is laid there -/
theorem crc_seal_any (g : Nat) (c : Nat) (bs : List UInt8) (m : Nat) (w : World) (hl : bs.length = m + 4) (hc : m + 4 ≤ c) (hm : c ≤ maxLen) (ho : Kn.Own w g (bvs bs)) :
  Calls Tryz.prog 198 #[.slice (some ⟨g, 0, none⟩) (m + 4) c] w fun e w' => e = .returned (.slice (some ⟨g, 0, none⟩) (m + 4) c) ∧ Kn.Own w' g (bvs (lay bs m (le 4 (csum (bs.take m))))) ∧ Only [g] w w' := by
 have hm' := hm
 unfold maxLen at hm'
 have hb : Bys w (some ⟨g, 0, none⟩) m c (bs.take m) := by
  have h1 := ho.take m
  rw [show (bvs bs).take m = bvs (bs.take m) from by simp [bvs, List.map_take]] at h1
  exact Row1.of_Own h1 (by simp; omega) (by omega) hm
 have HB := Lib.hid hb
 have HOW := Lib.hid ho
 have HLEN := Lib.hid hl
 clear hb ho hl hm
 have hmc : m ≤ c := by omega
 go_enter Tryz.func198, Tryz.ntmps198
 go_wp2_with fail
 refine (crc_sum_one w.heap.size (some ⟨g, 0, none⟩) m c (bs.take m) _ (by simp) (by exact HB.out.alloc _)).mono ?_
 rintro e w1 ⟨rfl, hO1⟩
 have HO1 := Lib.hid (((Only.refl [] w).alloc (.cells #[.slice (some ⟨g, 0, none⟩) m c] 47)).trans' hO1)
 have hs := csum_lt (bs.take m)
 generalize hcs : csum (bs.take m) = s at *
 have HCS := Lib.hid hcs
 have HOW1 := Lib.hid (HOW.out.keep0 HO1.out)
 clear hO1 HB hcs
 go_wp2_with fail
 go_loopg [14] 4 (fun r i wr => ∃ t, t + r = 4 ∧ i = .int .i64 t ∧ Kn.Own wr g (bvs (lay bs m ((le 4 s).take t))) ∧ Only [g] w wr)
 case atStart => exact ⟨0, by omega, rfl, by simpa [lay_nil] using HOW1.out, HO1.out.mono (by simp)⟩
 obtain ⟨t, ht, rfl, hown, hO⟩ := hrel
 have HO := Lib.hid hO
 have HOWN := Lib.hid hown
 clear hO hown
 by_cases ht4 : t < 4
 ·have hll : (lay bs m ((le 4 s).take t)).length = m + 4 := by rw [lay_length _ _ _ (by simp; have := HLEN.out; omega)]; exact HLEN.out
  have hmt : m + t < (bvs (lay bs m ((le 4 s).take t))).length := by rw [bvs_length, hll]; omega
  have q0 := HOWN.out.cell (m + t) hmt
  have f0 := HOWN.out.frozen (m + t)
  have hbo := byte_of s t (by omega)
  have hst := HOWN.out.set (m + t) (.int .u8 ((UInt8.ofNat (s / 256 ^ t)).toNat : Int))
  have hsl : (bvs (lay bs m ((le 4 s).take t))).set (m + t) (.int .u8 ((UInt8.ofNat (s / 256 ^ t)).toNat : Int)) = bvs (lay bs m ((le 4 s).take (t + 1))) := by
   have h1 := lay_set bs m ((le 4 s).take t) (UInt8.ofNat (s / 256 ^ t)) (by simp; have := HLEN.out; omega)
   have h2 : m + ((le 4 s).take t).length = m + t := by simp; omega
   have h3 : (le 4 s).take (t + 1) = (le 4 s).take t ++ [UInt8.ofNat (s / 256 ^ t)] := by
    rw [List.take_succ_eq_append_getElem (by simpa using ht4), le_get]
   rw [h2] at h1
   rw [h3, ← h1, bvs, bvs, List.map_set]
  rw [hsl] at hst
  have HST := Lib.hid hst
  generalize (bvs (lay bs m ((le 4 s).take t)))[m + t] = old at *
  have hx4 : (t : Int) < 4 := by omega
  have htg : 0 ≤ (t : Int) := by omega
  have htt : ((t : Int)).toNat = t := by omega
  have hit : ((m : Int) + (t : Int)).toNat = m + t := by omega
  have hig : 0 ≤ (m : Int) + (t : Int) := by omega
  have hil : (m : Int) + (t : Int) < (m : Int) + 4 := by omega
  have h8t : ((8 : Int) * (t : Int)).toNat = 8 * t := by omega
  have h8g : 0 ≤ (8 : Int) * (t : Int) := by omega
  generalize UInt8.ofNat (s / 256 ^ t) = ch at *
  clear hsl hst hll hmt HOW HOW1
  go_wp2_with fail
  go_roundg (gk - 1)
  case measure => omega
  case rel => exact ⟨t + 1, by omega, by go_num, HST.out, HO.out.set (by simp) _⟩
 ·obtain rfl : t = 4 := by omega
  have htk : (le 4 s).take 4 = le 4 s := List.take_of_length_le (by simp)
  have hown := HOWN.out
  rw [htk] at hown
  have HOWN' := Lib.hid hown
  go_wp2
  go_ret
  exact ⟨rfl, by rw [HCS.out]; exact HOWN'.out, HO.out⟩
end Go.Proofs.YtgcfdjcpcclcjaaGreat
namespace Go.Kn
open Go Go.RowKit
/-- bit j turned -/
def flipAt (bs : List UInt8) (j : Nat) : List UInt8 := bs.set (j / 8) (UInt8.ofNat ((bs.getD (j / 8) 0).toNat ^^^ 2 ^ (j % 8)))
@[simp] theorem flipAt_length (bs : List UInt8) (j : Nat) : (flipAt bs j).length = bs.length := by simp [flipAt]
/-- bytes in which the bits of a pattern are turned, k of them looked at; was any turned? -/
def turnB (bs : List UInt8) (first lim pat : Nat) : Nat → List UInt8
 | 0 => bs
 | k + 1 => if pat.testBit k = true ∧ first + k < lim then flipAt (turnB bs first lim pat k) (first + k) else turnB bs first lim pat k
@[simp] theorem turnB_length (bs : List UInt8) (first lim pat : Nat) : ∀ k, (turnB bs first lim pat k).length = bs.length
 | 0 => rfl
 | k + 1 => by
  simp only [turnB]
  split
  ·rw [flipAt_length, turnB_length]
  ·exact turnB_length bs first lim pat k
end Go.Kn
namespace Go.Kn
open Go Go.RowKit
/-- bytes with their sum laid in the last four of 64 -/
def sealed (bs : List UInt8) : List UInt8 := lay bs 60 (le 4 (csum (bs.take 60)))
theorem sealed_length (bs : List UInt8) (h : bs.length = 64) : (sealed bs).length = 64 := by unfold sealed; rw [lay_length _ _ _ (by simp; omega)]; exact h
def zeros64 : List UInt8 := List.replicate 64 0
/-- bytes whose last four, from B on, are the sum of those ahead -/
def Closed (bs : List UInt8) (B : Nat) : Prop := bs.drop B = le 4 (csum (bs.take B))
theorem sealed_eq (bs : List UInt8) (h : bs.length = 64) : sealed bs = bs.take 60 ++ le 4 (csum (bs.take 60)) := by
 unfold sealed lay
 rw [List.drop_eq_nil_of_le (by simp; omega), List.append_nil]
theorem sealed_take (bs : List UInt8) (h : bs.length = 64) : (sealed bs).take 60 = bs.take 60 := by
 rw [sealed_eq bs h, List.take_append_of_le_length (by simp; omega), List.take_of_length_le (by simp; omega)]
theorem sealed_closed (bs : List UInt8) (h : bs.length = 64) : Closed (sealed bs) 60 := by
 unfold Closed
 rw [sealed_take bs h, sealed_eq bs h, List.drop_append, List.drop_eq_nil_of_le (by simp; omega), List.length_take, Nat.min_eq_left (by omega)]
 simp
theorem sealed_part (bs : List UInt8) (h : bs.length = 64) (k n : Nat) (hk : k + n ≤ 60) : ((sealed bs).drop k).take n = (bs.drop k).take n := by
 have e1 : (((sealed bs).take 60).drop k).take n = ((sealed bs).drop k).take n := by
  rw [List.drop_take, List.take_take, Nat.min_eq_left (by omega)]
 have e2 : ((bs.take 60).drop k).take n = (bs.drop k).take n := by
  rw [List.drop_take, List.take_take, Nat.min_eq_left (by omega)]
 rw [← e1, ← e2, sealed_take bs h]
theorem lay_zero (bs xs : List UInt8) : lay bs 0 xs = xs ++ bs.drop xs.length := by simp [lay]
end Go.Kn
namespace Go.Kn
open Go Go.RowKit
/-- may the numbers be put -/
def putOk (bs : List UInt8) (k : Nat) (n : Int) (zs : List Int) : Bool := decide ((n = 1 ∨ n = 2 ∨ n = 4) ∧ n.toNat * zs.length ≤ bs.length - k ∧ Fit n.toNat zs)
def putB (bs : List UInt8) (k : Nat) (n : Int) (zs : List Int) : List UInt8 := if putOk bs k n zs then lay bs k (les n.toNat zs) else bs
def putK (bs : List UInt8) (k : Nat) (n : Int) (zs : List Int) : Nat := if putOk bs k n zs then k + n.toNat * zs.length else k
/-- what a row is behind a call of Put, and what the call answers -/
def PutSays (w : World) (p g k : Nat) (bs : List UInt8) (n : Int) (zs : List Int) (e : Ending) (w' : World) : Prop :=
 e = .returned (.bool (putOk bs k n zs)) ∧ RowAt w' p g (putB bs k n zs) (putK bs k n zs) ∧ Only [p, g] w w'
theorem PutSays.no {w w' : World} {p g k : Nat} {bs : List UInt8} {n : Int} {zs : List Int} (hr : RowAt w p g bs k) (h : putOk bs k n zs = false) (hw : ∃ m, w' = w.drewN m) : PutSays w p g k bs n zs (.returned (.bool false)) w' := by
 obtain ⟨m, rfl⟩ := hw
 refine ⟨by rw [h], ?_, (Only.refl _ _).drewN _⟩
 simp only [putB, putK, h]
 exact hr.drewN m
theorem PutSays.yes {w w' : World} {p g k n : Nat} {bs : List UInt8} {zs : List Int} (h : putOk bs k n zs = true) (hr : RowAt w' p g (lay bs k (les n zs)) (k + n * zs.length)) (hO : Only [p, g] w w') : PutSays w p g k bs n zs (.returned (.bool true)) w' := by
 refine ⟨by rw [h], ?_, hO⟩
 simp only [putB, putK, h, if_true, Int.toNat_natCast]
 exact hr
def getOk (bs : List UInt8) (k : Nat) (n : Int) : Bool := decide ((n = 1 ∨ n = 2 ∨ n = 4) ∧ n ≤ ((bs.length - k : Nat) : Int))
def getN (bs : List UInt8) (k : Nat) (n : Int) : Nat := if getOk bs k n then num ((bs.drop k).take n.toNat) else 0
def getK (bs : List UInt8) (k : Nat) (n : Int) : Nat := if getOk bs k n then k + n.toNat else k
def GetSays (w : World) (p g k : Nat) (bs : List UInt8) (n : Int) (e : Ending) (w' : World) : Prop :=
 e = .returned (.tuple #[.int .i64 (getN bs k n), .bool (getOk bs k n)]) ∧ RowAt w' p g bs (getK bs k n) ∧ Only [p] w w'
theorem GetSays.no {w w' : World} {p g k : Nat} {bs : List UInt8} {n : Int} (hr : RowAt w p g bs k) (h : getOk bs k n = false) (hw : ∃ m, w' = w.drewN m) : GetSays w p g k bs n (.returned (.tuple #[.int .i64 0, .bool false])) w' := by
 obtain ⟨m, rfl⟩ := hw
 refine ⟨by simp [getN, h], ?_, (Only.refl _ _).drewN _⟩
 simp only [getK, h]
 exact hr.drewN m
theorem GetSays.yes {w w' : World} {p g k n : Nat} {bs : List UInt8} (h : getOk bs k n = true) (hr : RowAt w' p g bs (k + n)) (hO : Only [p] w w') : GetSays w p g k bs n (.returned (.tuple #[.int .i64 (num ((bs.drop k).take n)), .bool true])) w' := by
 refine ⟨by simp [getN, h], ?_, hO⟩
 simp only [getK, h, if_true, Int.toNat_natCast]
 exact hr
def layOk (bs : List UInt8) (k : Nat) (xs : List UInt8) : Bool := decide (xs.length ≤ bs.length - k)
def layB (bs : List UInt8) (k : Nat) (xs : List UInt8) : List UInt8 := if layOk bs k xs then lay bs k xs else bs
def layK (bs : List UInt8) (k : Nat) (xs : List UInt8) : Nat := if layOk bs k xs then k + xs.length else k
def LaySays (w : World) (p g k : Nat) (bs : List UInt8) (xs : List UInt8) (e : Ending) (w' : World) : Prop :=
 e = .returned (.bool (layOk bs k xs)) ∧ RowAt w' p g (layB bs k xs) (layK bs k xs) ∧ Only [p, g] w w'
theorem LaySays.no {w w' : World} {p g k : Nat} {bs : List UInt8} {xs : List UInt8} (hr : RowAt w p g bs k) (h : layOk bs k xs = false) (hw : ∃ m, w' = w.drewN m) : LaySays w p g k bs xs (.returned (.bool false)) w' := by
 obtain ⟨m, rfl⟩ := hw
 refine ⟨by rw [h], ?_, (Only.refl _ _).drewN _⟩
 simp only [layB, layK, h]
 exact hr.drewN m
theorem LaySays.yes {w w' : World} {p g k : Nat} {bs : List UInt8} {xs : List UInt8} (h : layOk bs k xs = true) (hr : RowAt w' p g (lay bs k xs) (k + xs.length)) (hO : Only [p, g] w w') : LaySays w p g k bs xs (.returned (.bool true)) w' := by
 refine ⟨by rw [h], ?_, hO⟩
 simp only [layB, layK, h, if_true]
 exact hr
def takeOk (bs : List UInt8) (k : Nat) (n : Int) : Bool := decide (0 ≤ n ∧ n ≤ ((bs.length - k : Nat) : Int))
def takeB (bs : List UInt8) (k : Nat) (n : Int) : List UInt8 := if takeOk bs k n then (bs.drop k).take n.toNat else []
def takeK (bs : List UInt8) (k : Nat) (n : Int) : Nat := if takeOk bs k n then k + n.toNat else k
def TakeSays (w : World) (p g k : Nat) (bs : List UInt8) (n : Int) (e : Ending) (w' : World) : Prop :=
 ∃ A c, e = .returned (.tuple #[.slice A (takeB bs k n).length c, .bool (takeOk bs k n)]) ∧ Bys w' A (takeB bs k n).length c (takeB bs k n) ∧ (0 < (takeB bs k n).length → ∀ a, A = some a → w.heap.size ≤ a.block) ∧ RowAt w' p g bs (takeK bs k n) ∧ Only [p] w w'
theorem TakeSays.no {w w' : World} {p g k : Nat} {bs : List UInt8} {n : Int} (hr : RowAt w p g bs k) (h : takeOk bs k n = false) (hw : ∃ m, w' = w.drewN m) : TakeSays w p g k bs n (.returned (.tuple #[.slice none 0 0, .bool false])) w' := by
 obtain ⟨m, rfl⟩ := hw
 have e : takeB bs k n = [] := by simp [takeB, h]
 refine ⟨none, 0, by rw [e, h]; rfl, by rw [e]; exact Row1.nil _, by simp, ?_, (Only.refl _ _).drewN _⟩
 simp only [takeK, h]
 exact hr.drewN m
end Go.Kn
namespace Go.Proofs.YtgcfdjcpcclcjaaGreat
open Go Go.RowKit Go.Kn
theorem TakeSays.yes {w w' : World} {p g k n : Nat} {bs : List UInt8} {e : Ending} (h : takeOk bs k n = true) (hl : n ≤ bs.length - k) (ht : TookBys w p g bs k n e w') : TakeSays w p g k bs n e w' := by
 obtain ⟨A, c, rfl, hc, hm, hpos, hr, hO⟩ := ht
 have eb : takeB bs k n = (bs.drop k).take n := by simp [takeB, h]
 have el : (takeB bs k n).length = n := by rw [eb]; simp; omega
 refine ⟨A, c, by rw [el, h], ?_, ?_, ?_, hO⟩
 ·rw [el, eb]
  rcases Nat.eq_zero_or_pos n with h0 | h0
  ·subst h0; exact ⟨by simp, hc, hm, fun h => absurd h (by omega)⟩
  ·obtain ⟨b, rfl, _, ho⟩ := hpos h0
   exact Row1.of_Own ho (by simp; omega) hc hm
 ·intro h0 a ha
  rw [el] at h0
  obtain ⟨b, rfl, hb, _⟩ := hpos h0
  injection ha with ha
  subst ha
  exact hb
 ·simp only [takeK, h, if_true, Int.toNat_natCast]
  exact hr
end Go.Proofs.YtgcfdjcpcclcjaaGreat
