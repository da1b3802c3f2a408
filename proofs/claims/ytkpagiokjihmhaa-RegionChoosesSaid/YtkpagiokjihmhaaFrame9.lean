
/- Joined by merge.py: Enter, FrameU, FrameG. -/
import Derived.Test.YtkpagiokjihmhaaRows
import Derived.KernelRfl
import Derived.JoinedOf
import Derived.Test.YtkpagiokjihmhaaFrame
import Derived.Laws.IdiomArrays
import Derived.Test.YtkpagiokjihmhaaFrameI
import Derived.Test.YtkpagiokjihmhaaRegP
/- What the row's frame asks of the program's head: it may be entered, nothing is lifted, and how it was made. -/
set_option linter.unusedVariables false
namespace Go.Kn
open Go
theorem words_app : ∀ (a r : List Char), (∀ c ∈ a, c ≠ Char.ofNat 32) → wordsSigns (a ++ Char.ofNat 32 :: r) = a :: wordsSigns r
  | [], r, _ => rfl
  | c :: a, r, h => by
    have ih := words_app a r fun x hx => h x (List.mem_cons_of_mem _ hx)
    have hc : c ≠ Char.ofNat 32 := h c (List.mem_cons_self ..)
    rw [List.cons_append, wordsSigns, ih]
    exact hc
theorem head_words {L S R : List Char} (hs : L = "harness".toList ++ Char.ofNat 32 :: (S ++ Char.ofNat 32 :: ("cut".toList ++ Char.ofNat 32 :: R))) (hS : isSumSigns S = true) (hn : S.all (fun c => c != Char.ofNat 32) = true) :
    behindMainWord (wordsSigns L) = "cut".toList :: wordsSigns R := by
  have h1 : ∀ c ∈ "harness".toList, c ≠ Char.ofNat 32 := by decide
  have h2 : ∀ c ∈ S, c ≠ Char.ofNat 32 := fun c hc => by simpa using List.all_eq_true.1 hn c hc
  have h3 : ∀ c ∈ "cut".toList, c ≠ Char.ofNat 32 := by decide
  rw [hs, words_app _ _ h1, words_app _ _ h2, words_app _ _ h3, behindMainWord]
  rw [hS]
  rfl
theorem head_words' (L : List Char) (hs : L = "harness".toList ++ Char.ofNat 32 :: ((L.drop 8).take 64 ++ Char.ofNat 32 :: ("cut".toList ++ Char.ofNat 32 :: L.drop 77))) (hS : isSumSigns ((L.drop 8).take 64) = true) (hn : ((L.drop 8).take 64).all (fun c => c != Char.ofNat 32) = true) :
    ∃ rest, behindMainWord (wordsSigns L) = "cut".toList :: rest := ⟨_, head_words hs hS hn⟩
section
variable {P : Program} {rest : List (List Char)}
theorem make_of (h : behindMainWord (wordsSigns P.initOrder.toList) = "cut".toList :: rest) : P.make = some .cut := by
  unfold Program.make
  rw [h]
  rfl
theorem lifts_of (h : behindMainWord (wordsSigns P.initOrder.toList) = "cut".toList :: rest) : P.liftsFinal = false := by
  unfold Program.liftsFinal Program.headLifts
  rw [h]
  rfl
theorem may_of (h : behindMainWord (wordsSigns P.initOrder.toList) = "cut".toList :: rest) (h1 : P.laysLater = false) (h2 : P.bearsReflect = false) (h3 : P.doorFits [] = true) : P.mayEnter = true := by
  unfold Program.mayEnter
  rw [h]
  have e : stripLifts liftWords ("cut".toList :: rest) = ([], "cut".toList :: rest) := rfl
  simp only [e, h1, h2, h3]
  rfl
end
end Go.Kn
namespace Go.Proofs.Ytkpagiokjihmhaa
open Go Go.Kn
set_option maxRecDepth 100000 in
theorem enter_words : ∃ rest, behindMainWord (wordsSigns Try.prog.initOrder.toList) = "cut".toList :: rest := by
  rw [show Try.prog.initOrder.toList = (_ : List Char) from (congrArg String.toList (rfl : Try.prog.initOrder = String.ofList _)).trans String.toList_ofList]
  exact head_words' _ (by kernel_rfl) (by kernel_rfl) (by kernel_rfl)
theorem enter_make : Try.prog.make = some .cut := by
  obtain ⟨rest, h⟩ := enter_words
  exact make_of h
theorem enter_lifts : Try.prog.liftsFinal = false := by
  obtain ⟨rest, h⟩ := enter_words
  exact lifts_of h
theorem enter_lays : Try.prog.laysLater = false := by kernel_rfl
theorem enter_bears : Try.prog.bearsReflect = false := by kernel_rfl
theorem enter_door : Try.prog.doorFits [] = true := by kernel_rfl
theorem enter_may : Try.prog.mayEnter = true := by
  obtain ⟨rest, h⟩ := enter_words
  exact may_of h enter_lays enter_bears enter_door
end Go.Proofs.Ytkpagiokjihmhaa

/- Arguments by value: structs and arrays of ints. Printed by mkopen.py. -/
set_option linter.unusedVariables false
set_option linter.unusedSimpArgs false
namespace Go.Proofs.Ytkpagiokjihmhaa
open Go.ChangeShapes Go.WideShapes Go.ChangeAt Go.RowKit Go.Kn Go.Deep
variable {H : Type} {enc : TypeId × Value → H}

theorem okWide_array {P : Program} {w : World} {r : Reach} {b0 : Nat} {t e : TypeId} {n : Nat} {v : Value} (ht : P.underlying t = some (.array n e)) (h : Value.okWide P w r b0 t v) : ∃ cs, v = .agg cs ∧ cs.size = P.cellsOf t := by
  simp only [Value.okWide, ht] at h
  obtain ⟨cs, h1, h2, _⟩ := h
  exact ⟨cs, h1, h2⟩

theorem open_arr3 {w : World} {base : Nat} {spare : Nat → Bool} {held : Bool} {v : Value} {d : DataW H} {p : List MemPlace} (hok : ∃ cs, v = .agg cs ∧ cs.size = Try.prog.cellsOf 42)
    (h : DataW.Trod enc Try.prog w base spare held 42 v d p) : ∃ z0 z1 z2 : Int, v = .agg #[.int .i64 z0, .int .i64 z1, .int .i64 z2] ∧ (Lit.int .i64 z0).wf = true ∧ (Lit.int .i64 z1).wf = true ∧ (Lit.int .i64 z2).wf = true := by
  obtain ⟨cs, rfl, hs⟩ := hok
  have hC : Try.prog.cellsOf 42 = 3 := by kernel_rfl
  rw [hC] at hs
  obtain ⟨c0, c1, c2, rfl⟩ : ∃ c0 c1 c2, cs = #[c0, c1, c2] := by
    match cs, hs with
    | ⟨[c0, c1, c2]⟩, _ => exact ⟨c0, c1, c2, rfl⟩
  obtain ⟨fuel, hf⟩ := h
  have hf' : DataW.trod enc Try.prog w base spare held fuel 42 [c0, c1, c2] = some (d, p) := hf
  obtain ⟨y0, y1, y2, n', _, t0, t1, t2⟩ := trod_array3 Try.underlying42 (by kernel_rfl) hf'
  obtain ⟨z_c0, rfl, w_c0⟩ := open_int1 (k := .i64) Try.underlying3 t0
  obtain ⟨z_c1, rfl, w_c1⟩ := open_int1 (k := .i64) Try.underlying3 t1
  obtain ⟨z_c2, rfl, w_c2⟩ := open_int1 (k := .i64) Try.underlying3 t2
  exact ⟨z_c0, z_c1, z_c2, rfl, w_c0, w_c1, w_c2⟩
end Go.Proofs.Ytkpagiokjihmhaa

/- Arguments by value: structs and arrays of ints. Printed by mkopen.py. -/
set_option linter.unusedVariables false
set_option linter.unusedSimpArgs false
namespace Go.Proofs.Ytkpagiokjihmhaa
open Go.ChangeShapes Go.WideShapes Go.ChangeAt Go.RowKit Go.Kn Go.Deep
variable {H : Type} {enc : TypeId × Value → H}

theorem open_uses {w : World} {base : Nat} {spare : Nat → Bool} {held : Bool} {fuel : Nat} {v : Value} {x : DataW H × List MemPlace}
    (h : DataW.trod enc Try.prog w base spare held fuel 50 [v] = some x) : ∃ a len cap l, v = .slice a len cap ∧ Uss w a len cap l := by
  rcases open_slice_fields Try.underlying50 Try.underlying120 (by kernel_rfl) (by kernel_rfl) h with ⟨hcs, _⟩ | ⟨b, l, c, m, hcs, hl, hm, hmm, hf⟩
  · simp at hcs
    subst hcs
    exact ⟨_, _, _, [], rfl, Uss.nil _⟩
  · simp at hcs
    subst hcs
    have hx : ∀ i, i < l → ∃ u : Int × Int, w.cell? (b.add (i * 2)) = some (.int .i64 u.1) ∧ w.cell? (b.add (i * 2 + 1)) = some (.int .i64 u.2) := by
      intro i hi
      obtain ⟨ys, n, hy, hj⟩ := hf i (by omega)
      obtain ⟨v0, y0, h0, t0⟩ := hj 0 _ rfl
      obtain ⟨v1, y1, h1, t1⟩ := hj 1 _ rfl
      obtain ⟨z0, rfl, _⟩ := open_int1 (k := .i64) (by kernel_rfl) t0
      obtain ⟨z1, rfl, _⟩ := open_int1 (k := .i64) (by kernel_rfl) t1
      exact ⟨⟨z0, z1⟩, h0, h1⟩
    obtain ⟨L, hL, hp⟩ := list_of hx
    refine ⟨_, _, _, L, rfl, ⟨hL, hl, hm, fun hn => ?_⟩⟩
    have h00 := (hp 0 (by omega)).1
    have hz : ∃ u, w.cell? (b.add 0) = some u := ⟨_, by simpa using h00⟩
    have hb := add_none (i := 0) (by simpa using h00) hz
    have hb' : b = ⟨b.block, b.off, none⟩ := by
      have := hb
      unfold Addr.add at this
      simpa using this
    refine ⟨b.block, b.off, by rw [← hb'], fun i hi => ?_⟩
    obtain ⟨p0, p1⟩ := hp i hi
    rw [add_none p0 hz] at p0
    rw [add_none p1 hz] at p1
    exact ⟨p0, p1⟩
theorem open_region {w : World} {base : Nat} {held : Bool} {v : Value} {d : DataW H} {p : List MemPlace} (hok : ∃ cs, v = .agg cs ∧ cs.size = Try.prog.cellsOf 52)
    (h : DataW.Trod enc Try.prog w base (fun _ => true) held 52 v d p) : ∃ z0 z1 z2 z3 z4 z5 z6 z7 z8 z9 z10 : Int, ∃ (a11 : Option Addr) (len11 cap11 : Nat) (r11 : List Int), ∃ (a12 : Option Addr) (len12 cap12 : Nat) (r12 : List Int), ∃ (a13 : Option Addr) (len13 cap13 : Nat) (r13 : List (Int × Int)), v = .agg #[.int .i64 z0, .int .i64 z1, .int .i64 z2, .int .i64 z3, .int .i64 z4, .int .i64 z5, .int .i64 z6, .int .i64 z7, .int .i64 z8, .int .i64 z9, .int .i64 z10, .slice a11 len11 cap11, .slice a12 len12 cap12, .slice a13 len13 cap13] ∧ (Lit.int .i64 z0).wf = true ∧ (Lit.int .i64 z1).wf = true ∧ (Lit.int .i64 z2).wf = true ∧ (Lit.int .i64 z3).wf = true ∧ (Lit.int .i64 z4).wf = true ∧ (Lit.int .i64 z5).wf = true ∧ (Lit.int .i64 z6).wf = true ∧ (Lit.int .i64 z7).wf = true ∧ (Lit.int .i64 z8).wf = true ∧ (Lit.int .i64 z9).wf = true ∧ (Lit.int .i64 z10).wf = true ∧ IsRow .i64 w a11 len11 cap11 r11 ∧ IsRow .i64 w a12 len12 cap12 r12 ∧ Uss w a13 len13 cap13 r13 := by
  obtain ⟨cs, rfl, hs⟩ := hok
  have hC : Try.prog.cellsOf 52 = 14 := by kernel_rfl
  rw [hC] at hs
  obtain ⟨c0, c1, c2, c3, c4, c5, c6, c7, c8, c9, c10, c11, c12, c13, rfl⟩ : ∃ c0 c1 c2 c3 c4 c5 c6 c7 c8 c9 c10 c11 c12 c13, cs = #[c0, c1, c2, c3, c4, c5, c6, c7, c8, c9, c10, c11, c12, c13] := by
    match cs, hs with
    | ⟨[c0, c1, c2, c3, c4, c5, c6, c7, c8, c9, c10, c11, c12, c13]⟩, _ => exact ⟨c0, c1, c2, c3, c4, c5, c6, c7, c8, c9, c10, c11, c12, c13, rfl⟩
  obtain ⟨fuel, hf⟩ := h
  have hf' : DataW.trod enc Try.prog w base (fun _ => true) held fuel 52 [c0, c1, c2, c3, c4, c5, c6, c7, c8, c9, c10, c11, c12, c13] = some (d, p) := hf
  obtain ⟨xs1, n1, _, _, _, hl1, hfs1⟩ := DataW.trod_struct Try.underlying52 hf'
  have hm1 : xs1.length = 10 := hl1
  obtain ⟨y1_0, y1_1, y1_2, y1_3, y1_4, y1_5, y1_6, y1_7, y1_8, y1_9, rfl⟩ : ∃ y1_0 y1_1 y1_2 y1_3 y1_4 y1_5 y1_6 y1_7 y1_8 y1_9, xs1 = [y1_0, y1_1, y1_2, y1_3, y1_4, y1_5, y1_6, y1_7, y1_8, y1_9] := by
    match xs1, hm1 with
    | [y1_0, y1_1, y1_2, y1_3, y1_4, y1_5, y1_6, y1_7, y1_8, y1_9], _ => exact ⟨y1_0, y1_1, y1_2, y1_3, y1_4, y1_5, y1_6, y1_7, y1_8, y1_9, rfl⟩
  have e1_0 : DataW.trod enc Try.prog w base (fun _ => true) held n1 3 (([c0, c1, c2, c3, c4, c5, c6, c7, c8, c9, c10, c11, c12, c13].drop 0).take (Try.prog.cellsOf 3)) = some y1_0 := hfs1 0 _ rfl
  rw [show Try.prog.cellsOf 3 = 1 from by kernel_rfl] at e1_0
  simp only [List.drop_zero, List.drop_succ_cons, List.take_succ_cons, List.take_zero] at e1_0
  have e1_1 : DataW.trod enc Try.prog w base (fun _ => true) held n1 3 (([c0, c1, c2, c3, c4, c5, c6, c7, c8, c9, c10, c11, c12, c13].drop 1).take (Try.prog.cellsOf 3)) = some y1_1 := hfs1 1 _ rfl
  rw [show Try.prog.cellsOf 3 = 1 from by kernel_rfl] at e1_1
  simp only [List.drop_zero, List.drop_succ_cons, List.take_succ_cons, List.take_zero] at e1_1
  have e1_2 : DataW.trod enc Try.prog w base (fun _ => true) held n1 3 (([c0, c1, c2, c3, c4, c5, c6, c7, c8, c9, c10, c11, c12, c13].drop 2).take (Try.prog.cellsOf 3)) = some y1_2 := hfs1 2 _ rfl
  rw [show Try.prog.cellsOf 3 = 1 from by kernel_rfl] at e1_2
  simp only [List.drop_zero, List.drop_succ_cons, List.take_succ_cons, List.take_zero] at e1_2
  have e1_3 : DataW.trod enc Try.prog w base (fun _ => true) held n1 3 (([c0, c1, c2, c3, c4, c5, c6, c7, c8, c9, c10, c11, c12, c13].drop 3).take (Try.prog.cellsOf 3)) = some y1_3 := hfs1 3 _ rfl
  rw [show Try.prog.cellsOf 3 = 1 from by kernel_rfl] at e1_3
  simp only [List.drop_zero, List.drop_succ_cons, List.take_succ_cons, List.take_zero] at e1_3
  have e1_4 : DataW.trod enc Try.prog w base (fun _ => true) held n1 3 (([c0, c1, c2, c3, c4, c5, c6, c7, c8, c9, c10, c11, c12, c13].drop 4).take (Try.prog.cellsOf 3)) = some y1_4 := hfs1 4 _ rfl
  rw [show Try.prog.cellsOf 3 = 1 from by kernel_rfl] at e1_4
  simp only [List.drop_zero, List.drop_succ_cons, List.take_succ_cons, List.take_zero] at e1_4
  have e1_5 : DataW.trod enc Try.prog w base (fun _ => true) held n1 3 (([c0, c1, c2, c3, c4, c5, c6, c7, c8, c9, c10, c11, c12, c13].drop 5).take (Try.prog.cellsOf 3)) = some y1_5 := hfs1 5 _ rfl
  rw [show Try.prog.cellsOf 3 = 1 from by kernel_rfl] at e1_5
  simp only [List.drop_zero, List.drop_succ_cons, List.take_succ_cons, List.take_zero] at e1_5
  have e1_6 : DataW.trod enc Try.prog w base (fun _ => true) held n1 49 (([c0, c1, c2, c3, c4, c5, c6, c7, c8, c9, c10, c11, c12, c13].drop 6).take (Try.prog.cellsOf 49)) = some y1_6 := hfs1 6 _ rfl
  rw [show Try.prog.cellsOf 49 = 5 from by kernel_rfl] at e1_6
  simp only [List.drop_zero, List.drop_succ_cons, List.take_succ_cons, List.take_zero] at e1_6
  obtain ⟨xs2, n2, _, _, _, hl2, hfs2⟩ := DataW.trod_struct Try.underlying49 e1_6
  have hm2 : xs2.length = 5 := hl2
  obtain ⟨y2_0, y2_1, y2_2, y2_3, y2_4, rfl⟩ : ∃ y2_0 y2_1 y2_2 y2_3 y2_4, xs2 = [y2_0, y2_1, y2_2, y2_3, y2_4] := by
    match xs2, hm2 with
    | [y2_0, y2_1, y2_2, y2_3, y2_4], _ => exact ⟨y2_0, y2_1, y2_2, y2_3, y2_4, rfl⟩
  have e2_0 : DataW.trod enc Try.prog w base (fun _ => true) held n2 3 (([c6, c7, c8, c9, c10].drop 0).take (Try.prog.cellsOf 3)) = some y2_0 := hfs2 0 _ rfl
  rw [show Try.prog.cellsOf 3 = 1 from by kernel_rfl] at e2_0
  simp only [List.drop_zero, List.drop_succ_cons, List.take_succ_cons, List.take_zero] at e2_0
  have e2_1 : DataW.trod enc Try.prog w base (fun _ => true) held n2 3 (([c6, c7, c8, c9, c10].drop 1).take (Try.prog.cellsOf 3)) = some y2_1 := hfs2 1 _ rfl
  rw [show Try.prog.cellsOf 3 = 1 from by kernel_rfl] at e2_1
  simp only [List.drop_zero, List.drop_succ_cons, List.take_succ_cons, List.take_zero] at e2_1
  have e2_2 : DataW.trod enc Try.prog w base (fun _ => true) held n2 3 (([c6, c7, c8, c9, c10].drop 2).take (Try.prog.cellsOf 3)) = some y2_2 := hfs2 2 _ rfl
  rw [show Try.prog.cellsOf 3 = 1 from by kernel_rfl] at e2_2
  simp only [List.drop_zero, List.drop_succ_cons, List.take_succ_cons, List.take_zero] at e2_2
  have e2_3 : DataW.trod enc Try.prog w base (fun _ => true) held n2 3 (([c6, c7, c8, c9, c10].drop 3).take (Try.prog.cellsOf 3)) = some y2_3 := hfs2 3 _ rfl
  rw [show Try.prog.cellsOf 3 = 1 from by kernel_rfl] at e2_3
  simp only [List.drop_zero, List.drop_succ_cons, List.take_succ_cons, List.take_zero] at e2_3
  have e2_4 : DataW.trod enc Try.prog w base (fun _ => true) held n2 3 (([c6, c7, c8, c9, c10].drop 4).take (Try.prog.cellsOf 3)) = some y2_4 := hfs2 4 _ rfl
  rw [show Try.prog.cellsOf 3 = 1 from by kernel_rfl] at e2_4
  simp only [List.drop_zero, List.drop_succ_cons, List.take_succ_cons, List.take_zero] at e2_4
  have e1_7 : DataW.trod enc Try.prog w base (fun _ => true) held n1 36 (([c0, c1, c2, c3, c4, c5, c6, c7, c8, c9, c10, c11, c12, c13].drop 11).take (Try.prog.cellsOf 36)) = some y1_7 := hfs1 7 _ rfl
  rw [show Try.prog.cellsOf 36 = 1 from by kernel_rfl] at e1_7
  simp only [List.drop_zero, List.drop_succ_cons, List.take_succ_cons, List.take_zero] at e1_7
  have e1_8 : DataW.trod enc Try.prog w base (fun _ => true) held n1 36 (([c0, c1, c2, c3, c4, c5, c6, c7, c8, c9, c10, c11, c12, c13].drop 12).take (Try.prog.cellsOf 36)) = some y1_8 := hfs1 8 _ rfl
  rw [show Try.prog.cellsOf 36 = 1 from by kernel_rfl] at e1_8
  simp only [List.drop_zero, List.drop_succ_cons, List.take_succ_cons, List.take_zero] at e1_8
  have e1_9 : DataW.trod enc Try.prog w base (fun _ => true) held n1 50 (([c0, c1, c2, c3, c4, c5, c6, c7, c8, c9, c10, c11, c12, c13].drop 13).take (Try.prog.cellsOf 50)) = some y1_9 := hfs1 9 _ rfl
  rw [show Try.prog.cellsOf 50 = 1 from by kernel_rfl] at e1_9
  simp only [List.drop_zero, List.drop_succ_cons, List.take_succ_cons, List.take_zero] at e1_9
  obtain ⟨z_c0, rfl, w_c0⟩ := open_int1 (k := .i64) Try.underlying3 e1_0
  obtain ⟨z_c1, rfl, w_c1⟩ := open_int1 (k := .i64) Try.underlying3 e1_1
  obtain ⟨z_c2, rfl, w_c2⟩ := open_int1 (k := .i64) Try.underlying3 e1_2
  obtain ⟨z_c3, rfl, w_c3⟩ := open_int1 (k := .i64) Try.underlying3 e1_3
  obtain ⟨z_c4, rfl, w_c4⟩ := open_int1 (k := .i64) Try.underlying3 e1_4
  obtain ⟨z_c5, rfl, w_c5⟩ := open_int1 (k := .i64) Try.underlying3 e1_5
  obtain ⟨z_c6, rfl, w_c6⟩ := open_int1 (k := .i64) Try.underlying3 e2_0
  obtain ⟨z_c7, rfl, w_c7⟩ := open_int1 (k := .i64) Try.underlying3 e2_1
  obtain ⟨z_c8, rfl, w_c8⟩ := open_int1 (k := .i64) Try.underlying3 e2_2
  obtain ⟨z_c9, rfl, w_c9⟩ := open_int1 (k := .i64) Try.underlying3 e2_3
  obtain ⟨z_c10, rfl, w_c10⟩ := open_int1 (k := .i64) Try.underlying3 e2_4
  obtain ⟨a_c11, l_c11, k_c11, z_c11, rfl, w_c11⟩ := open_row Try.underlying36 Try.underlying3 (by kernel_rfl) e1_7
  obtain ⟨a_c12, l_c12, k_c12, z_c12, rfl, w_c12⟩ := open_row Try.underlying36 Try.underlying3 (by kernel_rfl) e1_8
  obtain ⟨a_c13, l_c13, k_c13, z_c13, rfl, w_c13⟩ := open_uses e1_9
  exact ⟨z_c0, z_c1, z_c2, z_c3, z_c4, z_c5, z_c6, z_c7, z_c8, z_c9, z_c10, a_c11, l_c11, k_c11, z_c11, a_c12, l_c12, k_c12, z_c12, a_c13, l_c13, k_c13, z_c13, rfl, w_c0, w_c1, w_c2, w_c3, w_c4, w_c5, w_c6, w_c7, w_c8, w_c9, w_c10, w_c11, w_c12, w_c13⟩
end Go.Proofs.Ytkpagiokjihmhaa

