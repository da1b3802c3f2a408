/- What the row's frame asks of the program's head: it may be entered, nothing is lifted, and how it was made. -/
import Derived.Test.YtoibehikojkoiaaRows
import Derived.KernelRfl
import Derived.JoinedOf
set_option linter.unusedVariables false
namespace Go.Kn
open Go
theorem words_app : ∀ (a r : List Char), (∀ c ∈ a, c ≠ Char.ofNat 32) → wordsSigns (a ++ Char.ofNat 32 :: r) = a :: wordsSigns r
  | [], r, _ => rfl
  | c :: a, r, h => by
    have ih := words_app a r fun x hx => h x (List.mem_cons_of_mem _ hx)
    have hc : c ≠ Char.ofNat 32 := h c (List.mem_cons_self ..)
    rw [List.cons_append, wordsSigns, ih]
    exact hc
theorem head_words {L S R : List Char} (hs : L = "harness".toList ++ Char.ofNat 32 :: (S ++ Char.ofNat 32 :: ("cut".toList ++ Char.ofNat 32 :: R))) (hS : isSumSigns S = true) (hn : S.all (fun c => c != Char.ofNat 32) = true) :
    behindMainWord (wordsSigns L) = "cut".toList :: wordsSigns R := by
  have h1 : ∀ c ∈ "harness".toList, c ≠ Char.ofNat 32 := by decide
  have h2 : ∀ c ∈ S, c ≠ Char.ofNat 32 := fun c hc => by simpa using List.all_eq_true.1 hn c hc
  have h3 : ∀ c ∈ "cut".toList, c ≠ Char.ofNat 32 := by decide
  rw [hs, words_app _ _ h1, words_app _ _ h2, words_app _ _ h3, behindMainWord]
  rw [hS]
  rfl
theorem head_words' (L : List Char) (hs : L = "harness".toList ++ Char.ofNat 32 :: ((L.drop 8).take 64 ++ Char.ofNat 32 :: ("cut".toList ++ Char.ofNat 32 :: L.drop 77))) (hS : isSumSigns ((L.drop 8).take 64) = true) (hn : ((L.drop 8).take 64).all (fun c => c != Char.ofNat 32) = true) :
    ∃ rest, behindMainWord (wordsSigns L) = "cut".toList :: rest := ⟨_, head_words hs hS hn⟩
section
variable {P : Program} {rest : List (List Char)}
theorem make_of (h : behindMainWord (wordsSigns P.initOrder.toList) = "cut".toList :: rest) : P.make = some .cut := by
  unfold Program.make
  rw [h]
  rfl
theorem lifts_of (h : behindMainWord (wordsSigns P.initOrder.toList) = "cut".toList :: rest) : P.liftsFinal = false := by
  unfold Program.liftsFinal Program.headLifts
  rw [h]
  rfl
theorem may_of (h : behindMainWord (wordsSigns P.initOrder.toList) = "cut".toList :: rest) (h1 : P.laysLater = false) (h2 : P.bearsReflect = false) (h3 : P.doorFits [] = true) : P.mayEnter = true := by
  unfold Program.mayEnter
  rw [h]
  have e : stripLifts liftWords ("cut".toList :: rest) = ([], "cut".toList :: rest) := rfl
  simp only [e, h1, h2, h3]
  rfl
end
end Go.Kn
namespace Go.Proofs.Ytoibehikojkoiaa
open Go Go.Kn
set_option maxRecDepth 100000 in
theorem enter_words : ∃ rest, behindMainWord (wordsSigns Try.prog.initOrder.toList) = "cut".toList :: rest := by
  rw [show Try.prog.initOrder.toList = (_ : List Char) from (congrArg String.toList (rfl : Try.prog.initOrder = String.ofList _)).trans String.toList_ofList]
  exact head_words' _ (by kernel_rfl) (by kernel_rfl) (by kernel_rfl)
theorem enter_make : Try.prog.make = some .cut := by
  obtain ⟨rest, h⟩ := enter_words
  exact make_of h
theorem enter_lifts : Try.prog.liftsFinal = false := by
  obtain ⟨rest, h⟩ := enter_words
  exact lifts_of h
theorem enter_lays : Try.prog.laysLater = false := by kernel_rfl
theorem enter_bears : Try.prog.bearsReflect = false := by kernel_rfl
theorem enter_door : Try.prog.doorFits [] = true := by kernel_rfl
theorem enter_may : Try.prog.mayEnter = true := by
  obtain ⟨rest, h⟩ := enter_words
  exact may_of h enter_lays enter_bears enter_door
end Go.Proofs.Ytoibehikojkoiaa
