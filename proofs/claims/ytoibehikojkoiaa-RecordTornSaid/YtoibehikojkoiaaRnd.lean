/- What a round of a range over a function is walked with: worlds of which cells alone are spoken; regions in a round; slices.Chunk of bytes. -/
import Derived.RangeFuncNested
import Derived.RangeFuncBound
import Derived.RangeFuncCalls
import Derived.RangeFuncLeaves
import Derived.Shelf.Abstract
import Derived.Shelf.RegionOpen
import Derived.WalkKit
import Derived.OwnWalkIn
import Derived.TacticsInMore
import Derived.LoopNIn
import Derived.LoopIn
import Derived.Deep.RegionHeld3
import Derived.Test.YtoibehikojkoiaaRecB
set_option linter.unusedVariables false
set_option linter.unusedSimpArgs false
namespace Go.Kn
open Go Go.RowKit
/-- the cells lie as they lay -/
def Cs (w w' : World) : Prop := ∀ (k : Nat) (o : Obj), w.heap[k]? = some o → o.isCells = true → w'.heap[k]? = some o
theorem Cs.refl (w : World) : Cs w w := fun _ _ h _ => h
theorem Cs.trans {a b c : World} (h : Cs a b) (k : Cs b c) : Cs a c := fun i o hi ho => k i o (h i o hi ho) ho
theorem Cs.of_grown {w w' : World} {row : Option Nat} (hg : w.grownBy w' row) (hr : ∀ r, row = some r → ∃ o : Obj, w.heap[r]? = some o ∧ o.isCells = false) : Cs w w' := fun k o hk ho => by
  rw [grownBy_keeps_cells hg hr hk ho]; exact hk
theorem Cs.of_only0 {w w' : World} (h : Only [] w w') : Cs w w' := fun k o hk _ => by
  rw [h.block k (Array.getElem?_eq_some_iff.1 hk).1 (by simp)]; exact hk
section
variable {w w' : World} {A : Option Addr} {n c g p k : Nat} {xs : List Value} {bs : List UInt8}
theorem Cs.cell (h : Cs w w') {a : Addr} {v : Value} (hc : w.cell? a = some v) : w'.cell? a = some v := by
  obtain ⟨o, ho, hcc⟩ := cells_of_cell hc
  exact (World.cell?_of_block (by rw [h _ _ ho hcc, ho])).trans hc
theorem Cs.frozen (h : Cs w w') {a : Addr} {v : Value} (hc : w.cell? a = some v) : w'.frozen? a = w.frozen? a := by
  obtain ⟨o, ho, hcc⟩ := cells_of_cell hc
  exact World.frozen?_of_block (by rw [h _ _ ho hcc, ho])
theorem Row1.cs (h : Row1 w A n c xs) (hC : Cs w w') : Row1 w' A n c xs :=
  ⟨h.len, h.le, h.cm, fun hn => by obtain ⟨g, o, e, hc⟩ := h.at_ hn; exact ⟨g, o, e, fun i hi => hC.cell (hc i hi)⟩⟩
theorem Own.cs (h : Own w g xs) (hC : Cs w w') : Own w' g xs := by
  obtain ⟨cur, t, h1, h2⟩ := h
  exact ⟨cur, t, hC _ _ h1 rfl, h2⟩
theorem ownsRow_cs {base e sz : Nat} {v : Value} (h : w.ownsRow base e sz v n xs) (hC : Cs w w') : w'.ownsRow base e sz v n xs := by
  obtain ⟨h1, h2⟩ := h
  refine ⟨h1, ?_⟩
  rcases h2 with h2 | ⟨g, cap, cur, hv, hb, hh, rest⟩
  · exact .inl h2
  · exact .inr ⟨g, cap, cur, hv, hb, hC _ _ hh rfl, rest⟩
theorem Its.cs {l : List It} (h : Its w A n c l) (hC : Cs w w') : Its w' A n c l :=
  ⟨h.len, h.le, h.cm, fun hn => by
    obtain ⟨g, o, e, hc⟩ := h.at_ hn
    exact ⟨g, o, e, fun i hi => ⟨hC.cell (hc i hi).1, hC.cell (hc i hi).2.1, hC.cell (hc i hi).2.2.1, hC.cell (hc i hi).2.2.2⟩⟩⟩
theorem Bls.cs {sl : List (Option Addr × Nat × Nat)} {bl : List (List UInt8)} (h : Bls w sl bl) (hC : Cs w w') : Bls w' sl bl := ⟨h.1, fun i h1 h2 => Row1.cs (h.2 i h1 h2) hC⟩
theorem Blks.cs {bl : List (List UInt8)} (h : Blks w A n c bl) (hC : Cs w w') : Blks w' A n c bl := by
  obtain ⟨sl, h1, h2⟩ := h
  exact ⟨sl, h1.cs hC, h2.cs hC⟩
end
/-- only blocks of cells were written into -/
theorem keeps_of_only {S : List Nat} {w w' : World} (h : Only S w w') (hS : ∀ k ∈ S, ∀ o, w.heap[k]? = some o → o.isCells = true) : KeepsOthers w w' :=
  ⟨h.size, fun k o hk ho => by
    by_cases hm : k ∈ S
    · rw [hS k hm o hk] at ho; cases ho
    · rw [h.block k (Array.getElem?_eq_some_iff.1 hk).1 hm]; exact hk⟩
theorem Own.isCells {w : World} {g : Nat} {xs : List Value} (h : Own w g xs) : ∀ o, w.heap[g]? = some o → o.isCells = true := by
  obtain ⟨cur, t, h1, h2⟩ := h
  intro o ho
  rw [h1] at ho
  injection ho with ho
  subst ho
  rfl
theorem ownsRow_isCells {w : World} {base e sz n : Nat} {v : Value} {xs : List Value} (h : w.ownsRow base e sz v n xs) : ∀ k, v.ownBlock = some k → ∀ o, w.heap[k]? = some o → o.isCells = true := by
  intro k hk o ho
  rcases h.2 with ⟨rfl, _⟩ | ⟨g, cap, cur, rfl, _, hh, _⟩
  · simp [Value.ownBlock] at hk
  · simp [Value.ownBlock] at hk
    subst hk
    rw [hh] at ho
    injection ho with ho
    subst ho
    rfl
/-- what speaks of cells alone, and of what lay below B -/
theorem ownFrom_cs {β : Type} {B : Nat} {I : β → World → Prop} (h : ∀ s W W', I s W → Cs W W' → (∀ k, k < B → W'.heap[k]? = W.heap[k]?) → W.heap.size ≤ W'.heap.size → (W'.os = W.os ∧ W'.tape = W.tape ∧ W'.output = W.output) → (∀ k, k < B → k < W.heap.size) → I s W') (hB : ∀ s W, I s W → B ≤ W.heap.size) : OwnFrom B I :=
  fun s W W' row hs hg hr => h s W W' hs (Cs.of_grown hg fun r e => (hr r e).2) (fun k hk => hg.block k (Nat.lt_of_lt_of_le hk (hB s W hs)) (fun e => by have := (hr k e.symm).1; omega)) hg.size ⟨hg.os, hg.tape, hg.output⟩ (fun k hk => Nat.lt_of_lt_of_le hk (hB s W hs))
theorem Only.turn {w0 W W' : World} (h : Only [] w0 W) (hb : ∀ k, k < w0.heap.size → W'.heap[k]? = W.heap[k]?) (hs : W.heap.size ≤ W'.heap.size) (ho : W'.os = W.os ∧ W'.tape = W.tape ∧ W'.output = W.output) : Only [] w0 W' :=
  ⟨ho.1.trans h.os, ho.2.1.trans h.tape, ho.2.2.trans h.output, Nat.le_trans h.size hs, fun k hk hn => (hb k hk).trans (h.block k hk hn)⟩

/-- the blocks of S lie as they lay -/
def KpAt (S : List Nat) (w w' : World) : Prop := ∀ k ∈ S, w'.heap[k]? = w.heap[k]?
theorem KpAt.refl (S : List Nat) (w : World) : KpAt S w w := fun _ _ => rfl
theorem KpAt.trans {S : List Nat} {a b c : World} (h : KpAt S a b) (k : KpAt S b c) : KpAt S a c := fun i hi => (k i hi).trans (h i hi)
theorem KpAt.drawn {S : List Nat} {m : Nat} {w w' : World} (h : KpAt S (w.drewN m) w') : KpAt S w w' := h
theorem KpAt.cell {S : List Nat} {w w' : World} (h : KpAt S w w') {p : Addr} (hp : p.block ∈ S) : w'.cell? p = w.cell? p := World.cell?_of_block (h _ hp)
theorem KpAt.of_only {S T : List Nat} {w w' : World} (h : Only T w w') (hT : ∀ k ∈ S, k ∉ T ∧ k < w.heap.size) : KpAt S w w' := fun k hk => h.block k (hT k hk).2 (hT k hk).1
theorem kpAt_b {S : List Nat} {w : World} (hS : ∀ k ∈ S, k < w.heap.size) (W : World) (l : Nat) (o o' : Obj) (hl : w.heap.size ≤ l) (_ : W.heap[l]? = some o) (_ : o.isCells = false) (_ : o.isWalk = false) : KpAt S W (W.putObj l o') :=
  fun k hk => World.putObj_heap_other (by have := hS k hk; omega)
/-! regions in a round -/
section
variable {P : Program} {ops : Array Oper} {Q : Exit → Act → World → Prop} {l n : Nat}
theorem oper_inRound {o : Oper} {a : Act} {w : World} {K : Act → World → Prop} (hd : ∀ c, o.op ≠ .defer c) (h : o.wp P a w K Q) : o.wpIn (Fence.wide.inRound l) n P a w K Q := by
  refine ⟨fun _ _ => trivial, ?_⟩
  show o.uponIn _ _ _ _ _ _ ((o.semAt (some l) a.eval).run P w)
  rw [Oper.semAt_some l a.eval o hd]
  unfold Oper.wp at h
  generalize (execOp a.eval o).run P w = r at *
  cases r with
  | ok x w' =>
    cases x with
    | value v => exact h
    | skip => exact h
    | defer d => exact h
    | enter f args => exact ⟨(fun hx => by cases hx), (callsIn_wide (n := n - 1)).2 h⟩
    | row r args => exact ⟨(fun hx => by cases hx), fun c cs _ => let ⟨v, w'', hr, hs⟩ := h c cs; ⟨v, w'', hr, stepsIn_wide.2 hs⟩⟩
    | round => exact h.elim
    | _ => exact h.elim
  | halt x w' => cases x <;> first | exact h | exact h.elim
theorem wpOp_in {i : Nat} {K : Act → World → Prop} {a : Act} {w : World} (hQ : ¬ LetsOut Q) (hd : ∀ o ∈ ops, ∀ c, o.op ≠ .defer c) (h : wpOp P ops Q i K a w) : wpOpIn (Fence.wide.inRound l) n P ops Q i K a w := by
  unfold wpOp at h
  unfold wpOpIn
  split
  · rename_i hn; simpa [hn] using h
  · rename_i o ho
    simp only [ho] at h
    split
    · rename_i hw
      rw [if_pos hw] at h
      rcases h with h | ⟨_, h⟩
      · exact oper_inRound (hd o (Array.mem_of_getElem? ho)) h
      · exact absurd h hQ
    · rename_i hw
      rw [if_neg hw] at h
      exact ⟨fun _ _ => trivial, h⟩
theorem wpAny_in {md : Region.Mode} (hQ : ¬ LetsOut Q) (hd : ∀ o ∈ ops, ∀ c, o.op ≠ .defer c) : ∀ (fuel : Nat) (listed : Array Bool) (a : Act) (w : World), wpAny P md ops Q fuel listed a w → wpAnyIn (Fence.wide.inRound l) n P md ops Q fuel listed a w
  | 0, _, _, _, h => h
  | fuel + 1, listed, a, w, h => ⟨h.1, fun i hi => wpOpIn_mono (fun a w h' => wpAny_in hQ hd fuel _ a w h') (wpOp_in hQ hd (h.2 i hi))⟩
theorem wpIn_region_held_drew {id : Nat} {a : Act} {w : World} {S : World → Prop} (hQ : ¬ LetsOut Q) (hd : ∀ o ∈ ops, ∀ c, o.op ≠ .defer c) (hm : P.follows .mixedOrders = true) (hS : S w.drew)
    (h : S w.drew → wpAnyH P .any ops Q S ops.size (Array.replicate ops.size false) a w.drew) : (Code.region id ops true).wpIn (Fence.wide.inRound l) n P Q a w :=
  wpIn_region_any hm (wpAny_in hQ hd _ _ _ _ (wpAny_of_held _ _ _ _ (h hS)))
end
theorem not_letsOut_ownPostG {α : Type} {B : Nat} {Kp : World → World → Prop} {I : List α → World → Prop} {Ix : Code → List α → World → Prop} {xs : List α} {W : World} {id : Nat} : ¬ LetsOut (Exit.inBlock id (ownPostG B Kp I Ix xs W)) := by
  rintro ⟨a, w, h⟩
  exact h

def plainOps (ops : Array Oper) : Bool := ops.all fun o => match o.op with | .defer _ => false | _ => true
theorem plainOps_spec {ops : Array Oper} (h : plainOps ops = true) : ∀ o ∈ ops, ∀ c, o.op ≠ .defer c := fun o ho c e => by
  have := Array.all_eq_true'.1 h o ho
  rw [e] at this
  cases this
/-- a function that holds a range over a function returns: ahead of it -/
theorem marks_ret {F : Fence} {n : Nat} {P : Program} {fn : Func} {R : Ending → World → Prop} {a : Act} {w : World} {v : Value} (hr : (results fn a.tmps).run P w = .ok v w) (hd : a.defers = []) (hR : R (.returned v) w) : bodyPostM F n P fn R .ret a w := by
  show LeavesInM F n P fn a.tmps R a.defers .returning w
  rw [hd]
  exact ⟨v, hr, hR⟩
/-- .. behind it -/
theorem marks_ret1 {F : Fence} {n : Nat} {P : Program} {fn : Func} {R : Ending → World → Prop} {a : Act} {w : World} {v : Value} {D : Nat} (hK : w.heap[D]? = some (.deferred (some []))) (hr : (results fn a.tmps).run P (w.putObj D (.deferred none)) = .ok v (w.putObj D (.deferred none))) (hd : a.defers = [{ target := .collected D, args := #[] }]) (hR : R (.returned v) (w.putObj D (.deferred none))) : bodyPostM F n P fn R .ret a w := by
  show LeavesInM F n P fn a.tmps R a.defers .returning w
  rw [hd]
  exact ⟨by simp, .inl ⟨D, _, rfl, run_takeDeferred hK, v, hr, hR⟩⟩
/-- 's[l:h:m]' of one-cell elements -/
theorem run_slice1_three {P : Program} (w : World) (t e : TypeId) (ht : P.underlying t = some (.slice e)) (hs : (P.info? e).map (·.size) = some 1) (A : Option Addr) (len cap : Nat) (li hi mi : Int) (l h m q : Nat) (kl kh km : IntKind)
    (e1 : li = l) (e2 : hi = h) (e3 : mi = m) (hl : l ≤ h) (hh : h ≤ m) (hm : m ≤ cap) (hq : h - l = q) :
    (Instr.slice t (.slice A len cap) (some (.int kl li)) (some (.int kh hi)) (some (.int km mi))).run P w = .ok (.slice (cutA A m l) q (m - l)) w := by
  subst e1 e2 e3 hq
  cases hq : P.info? e with
  | none => simp [hq] at hs
  | some i =>
    simp [hq] at hs
    simp [Instr.slice, Instr.sliceBounds, Instr.sliceBound, run_underlying ht, sizeOf, typeInfo, hq, asIntOf, hl, hh, hm, hs, cutA]
end Go.Kn
namespace Go.Proofs.Ytoibehikojkoiaa
open Go Go.RowKit Go.Kn Go.Shelf
attribute [local go_sem] Oper.semAt_some

/-- slices.Chunk(s, 64): the two are boxed -/
theorem chunk_any (A : Option Addr) (n c : Nat) (w : World) :
    Calls Try.prog 89 #[.slice A n c, .int .i64 64] w fun e w' => e = .returned (.func (.func 141) #[] #[.pointer (some ⟨w.heap.size, 0, none⟩), .pointer (some ⟨w.heap.size + 1, 0, none⟩)]) ∧ w' = (w.alloc (.cells #[.slice A n c] 35)).alloc (.cells #[.int .i64 64] 3) := by
  go_enter Try.func89, Try.ntmps89
  go_wp2
  go_ret
  exact ⟨rfl, rfl⟩

set_option maxRecDepth 100000 in
set_option maxHeartbeats 4000000 in
theorem chunk1_in (n : Nat) (hn : 1 ≤ n) (l b1 b2 g o c k : Nat) (A : Option Addr) (hA : 0 < k → A = some ⟨g, o, none⟩) (J Jx : List Nat → World → Prop) (hD : ∀ pre W m, J pre W → J pre (W.drewN m))
    (hY : ∀ pre x W, x < k → J pre W → pre.length < k → YieldAt Fence.wide (n - 1) Try.prog l #[.slice (some ⟨g, o + 64 * x, none⟩) 64 64] W fun e W' =>
      (e = .returned (.bool true) ∧ J (pre ++ [x]) W' ∧ KpAt [b1, b2] W W') ∨ (e = .returned (.bool false) ∧ Jx (pre ++ [x]) W'))
    (W : World) (h1 : W.cell? ⟨b1, 0, none⟩ = some (.slice A (64 * k) c)) (h2 : W.cell? ⟨b2, 0, none⟩ = some (.int .i64 64)) (hk : k ≤ 1000) (hc : 64 * k ≤ c) (hcm : c ≤ maxLen) (h0 : J [] W) :
    CallsIn Fence.wide n Try.prog 141 #[.func (.yield l) #[] #[], .pointer (some ⟨b1, 0, none⟩), .pointer (some ⟨b2, 0, none⟩)] W fun e W' => (∃ v, e = .returned v) ∧
      ((∃ ys, ys = List.range k ∧ J ys W') ∨ (∃ pre, (∃ j, j ≤ k ∧ pre = List.range j) ∧ Jx pre W')) := by
  unfold maxLen at hcm
  refine callsIn_of_wp Try.func141 rfl trivial ?_ rfl
  simp only [Try.ntmps141, List.size_toArray, List.length_cons, List.length_nil, Nat.reduceAdd, Nat.reduceSub, Array.replicate_succ, Array.replicate_zero, List.push_toArray, List.append_toArray, List.nil_append, List.cons_append]
  gi_wp2
  gi_loopw [4] (fun i wr => ∃ j : Nat, j ≤ k ∧ i = .int .i64 ((64 * j : Nat) : Int) ∧ J (List.range j) wr ∧ KpAt [b1, b2] W wr)
    (fun i _ => 64 * k - (intOf i).toNat)
  case atStart => exact ⟨0, Nat.zero_le _, rfl, h0, KpAt.refl _ _⟩
  case round =>
    obtain ⟨j, hj, rfl, hJs, hnx⟩ := hrel
    have c1 := (hnx.cell (p := ⟨b1, 0, none⟩) (by simp)).trans h1
    have c2 := (hnx.cell (p := ⟨b2, 0, none⟩) (by simp)).trans h2
    by_cases hlt : j < k
    · have hA' := hA (by omega)
      subst hA'
      clear hA
      obtain ⟨i, hi⟩ : ∃ i, i = 64 * j := ⟨_, rfl⟩
      obtain ⟨L, hL⟩ : ∃ L, L = 64 * k := ⟨_, rfl⟩
      rw [← hL] at c1
      rw [← hi]
      have hil : i + 64 ≤ L := by omega
      have e1 : cutA (some (⟨g, o, none⟩ : Addr)) c i = some ⟨g, o + 64 * j, none⟩ := by
        rw [cutA, if_neg (by omega), hi]
        simp only [Option.map_some, Addr.add]
        split <;> simp_all
      have e2 : cutA (some (⟨g, o, none⟩ : Addr)) (i + 64) i = some ⟨g, o + 64 * j, none⟩ := by
        rw [cutA, if_neg (by omega), hi]
        simp only [Option.map_some, Addr.add]
        split <;> simp_all
      have hs1 : ∀ w, (Instr.slice 35 (.slice (some ⟨g, o, none⟩) L c) (some (.int .i64 (i : Int))) none none).run Try.prog w = .ok (.slice (some ⟨g, o + 64 * j, none⟩) (L - i) (c - i)) w := fun w => by
        have := run_slice1_lo (P := Try.prog) w 35 5 Try.underlying35 (by kernel_rfl) (some ⟨g, o, none⟩) L c (i : Int) i (L - i) .i64 rfl (by omega) rfl
        rwa [e1] at this
      have hs3 : ∀ w, (Instr.slice 35 (.slice (some ⟨g, o, none⟩) L c) (some (.int .i64 (i : Int))) (some (.int .i64 ((i : Int) + 64))) (some (.int .i64 ((i : Int) + 64)))).run Try.prog w = .ok (.slice (some ⟨g, o + 64 * j, none⟩) 64 64) w := fun w => by
        have := run_slice1_three (P := Try.prog) w 35 5 Try.underlying35 (by kernel_rfl) (some ⟨g, o, none⟩) L c (i : Int) ((i : Int) + 64) ((i : Int) + 64) i (i + 64) (i + 64) 64 .i64 .i64 .i64 rfl (by omega) (by omega) (by omega) (by omega) (by omega) (by omega)
        rw [e2] at this
        rw [this, show i + 64 - i = 64 from by omega]
      have hlt2 : (i : Int) < (L : Int) := by omega
      have hmin : (64 : Int) ≤ ((L - i : Nat) : Int) := by omega
      have hw64 : IntKind.i64.wrap ((i : Int) + 64) = (i : Int) + 64 := IntWalk.i64_in _ (by omega)
      have HJ := Lib.hid hJs
      have HI := Lib.hid hi
      have HL := Lib.hid hL
      clear hi hL hJs e1 e2
      gi_wp2
      refine wpIn_wide.2 ?_
      go_quiet (fail)
      obtain ⟨fn, tmps, assign, body, hy, hR⟩ := hY (List.range j) j (wr.drewN nq) hlt (hD _ _ _ HJ.out) (by rw [List.length_range]; exact hlt)
      clear hY h0
      gi_wp2
      refine hR.mono ?_
      rintro e W3 (⟨rfl, hJ3, hk3⟩ | ⟨rfl, hJx3⟩)
      · have HJ3 := Lib.hid hJ3
        have HK3 := Lib.hid hk3
        clear hJ3 hk3 c1 c2 hy hR
        have d2 := (HK3.out.cell (p := ⟨b2, 0, none⟩) (by simp)).trans ((hnx.cell (p := ⟨b2, 0, none⟩) (by simp)).trans h2)
        gi_wp2
        go_roundw
        case rel => exact ⟨j + 1, by omega, by rw [show 64 * (j + 1) = i + 64 from by have := HI.out; omega]; go_num, by rw [List.range_succ]; exact HJ3.out, hnx.trans HK3.out.drawn⟩
        case measure =>
          have := HI.out
          simp [intOf]
          omega
      · gi_wp2
        refine bodyPost_ret (results_none rfl _ _ _) rfl ?_
        exact ⟨⟨_, rfl⟩, .inr ⟨_, ⟨j + 1, by omega, (List.range_succ).symm⟩, hJx3⟩⟩
    · obtain rfl : j = k := by omega
      gi_wp2
      go_end0
      exact ⟨⟨_, rfl⟩, .inl ⟨_, rfl, hJs⟩⟩

/-- slices.Chunk of k times 64 bytes: each, from the first on -/
theorem chunk_stops (n : Nat) (hn : 1 ≤ n) (b1 b2 g o c k : Nat) (A : Option Addr) (hA : 0 < k → A = some ⟨g, o, none⟩) (w : World)
    (h1 : w.cell? ⟨b1, 0, none⟩ = some (.slice A (64 * k) c)) (h2 : w.cell? ⟨b2, 0, none⟩ = some (.int .i64 64)) (hk : k ≤ 1000) (hc : 64 * k ≤ c) (hcm : c ≤ maxLen) :
    SeqStopsK Fence.wide n Try.prog 141 #[.pointer (some ⟨b1, 0, none⟩), .pointer (some ⟨b2, 0, none⟩)] (fun x : Fin k => #[.slice (some ⟨g, o + 64 * x.val, none⟩) 64 64]) (KpAt [b1, b2]) (fun xs => xs.map (·.val) = List.range k) (fun pre => ∃ j, j ≤ k ∧ pre.map (·.val) = List.range j) k w := fun l J Jx W hW hJ _ hY h0 => by
  refine (chunk1_in n hn l b1 b2 g o c k A hA (fun pre W => ∃ q : List (Fin k), q.map (·.val) = pre ∧ J q W) (fun pre W => ∃ q : List (Fin k), q.map (·.val) = pre ∧ Jx q W) ?_ ?_ W ((hW.cell (p := ⟨b1, 0, none⟩) (lt_of_cell h1)).trans h1) ((hW.cell (p := ⟨b2, 0, none⟩) (lt_of_cell h2)).trans h2) hk hc hcm ⟨[], rfl, h0⟩).mono ?_
  · rintro pre W' m ⟨q, hq, h⟩
    exact ⟨q, hq, hJ q W' _ none h ⟨rfl, rfl, rfl, Nat.le_refl _, fun _ _ _ => rfl⟩ (by simp)⟩
  · rintro pre x W' hx ⟨q, rfl, h⟩ hl
    refine (hY q ⟨x, hx⟩ W' h (by simpa using hl)).mono ?_
    rintro e w' (⟨rfl, h1, h2⟩ | ⟨rfl, h1⟩)
    · exact .inl ⟨rfl, ⟨_, by simp, h1⟩, h2⟩
    · exact .inr ⟨rfl, ⟨_, by simp, h1⟩⟩
  · rintro e w' ⟨hv, ⟨ys, rfl, q, hq, h⟩ | ⟨pre, ⟨j, hj, rfl⟩, q, hq, h⟩⟩
    · exact ⟨hv, .inl ⟨q, hq, h⟩⟩
    · exact ⟨hv, .inr ⟨q, ⟨j, hj, hq⟩, h⟩⟩
end Go.Proofs.Ytoibehikojkoiaa
