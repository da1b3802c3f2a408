
/- Contracts of script.May and the reference's EventMay. -/
import Derived.Test.YtkpagiokjihmhaaScrM
import Derived.Test.YtkpagiokjihmhaaRefD
import Derived.Shelf.Abstract
import Derived.Deep.Cut
set_option linter.unusedVariables false
set_option linter.unusedSimpArgs false
namespace Go.Kn
open Go Go.RowKit
def inPick (z : Int) : Bool := decide (0 ≤ z ∧ z ≤ 191)
theorem all_take_pick {zs : List Int} {j : Nat} (hj : j < zs.length) (h : (zs.take j).all inPick = true) (hm : inPick zs[j] = true) : (zs.take (j + 1)).all inPick = true := by
  rw [List.take_succ_eq_append_getElem hj, List.all_append, h]
  simp [hm]
theorem all_pick_no {zs : List Int} {j : Nat} (hj : j < zs.length) (hm : inPick zs[j] = false) : zs.all inPick = false := by
  cases h : zs.all inPick with
  | false => rfl
  | true =>
    have := List.all_eq_true.1 h zs[j] (List.getElem_mem _)
    rw [hm] at this
    cases this
/-- the numbers of an event ahead of its picks -/
def Ev.head (e : Ev) : Bool := decide (1 ≤ e.k ∧ e.k ≤ 19) && (decide (0 ≤ e.a ∧ e.a ≤ 2147483647) && (decide (0 ≤ e.b ∧ e.b ≤ 2147483647) && (decide (0 ≤ e.y ∧ e.y ≤ 65535) && decide (e.ps.length ≤ 100))))
theorem Ev.may_eq (e : Ev) : e.may = (e.ps.all inPick && e.head) := rfl
end Go.Kn
namespace Go.Proofs.Ytkpagiokjihmhaa
open Go Go.RowKit Go.Kn

theorem script_within_any (n lo hi : Int) (w : World) : Calls Try.prog 59 #[.int .i64 n, .int .i64 lo, .int .i64 hi] w fun e w' => e = .returned (.bool (decide (lo ≤ n ∧ n ≤ hi))) ∧ w = w' := by
  go_enter Try.func59, Try.ntmps59
  by_cases h1 : lo ≤ n <;> by_cases h2 : n ≤ hi <;>
  (go_wp2
   go_ret
   exact ⟨by simp [*], rfl⟩)
theorem script_pick_any (n : Int) (w : World) : Calls Try.prog 58 #[.int .i64 n] w fun e w' => e = .returned (.bool (!inPick n)) ∧ w = w' := by
  have e1 : decide (0 ≤ n ∧ n ≤ 191) = inPick n := rfl
  generalize inPick n = b at *
  have HE := Lib.hid e1
  clear e1
  go_enter Try.func58, Try.ntmps58
  go_wp2_with fail
  refine (script_within_any _ _ _ _).mono ?_
  rintro e w' ⟨rfl, rfl⟩
  rw [HE.out]
  go_wp2
  go_ret
  exact ⟨rfl, rfl⟩

set_option maxRecDepth 100000 in
set_option maxHeartbeats 2000000 in
theorem script_index_any (A : Option Addr) (n c : Nat) (zs : List Int) (w : World) (hi : Ins w A n c zs) :
    Calls Try.prog 104 #[.slice A n c, .func (.func 58) #[] #[]] w fun e w' => ∃ r : Int, e = .returned (.int .i64 r) ∧ decide (0 ≤ r) = !(zs.all inPick) ∧ w = w' := by
  have hlen := hi.len
  rw [ivs_length] at hlen
  have hcm := hi.cm
  have hcl := hi.le
  unfold maxLen at hcm
  have HI := Lib.hid hi
  have HL := Lib.hid hlen
  clear hi hlen
  have eg : ∀ args w, (callFunc 58 args).run Try.prog w = .ok (.enter 58 args) w := enters_of Try.func58 (by kernel_rfl) rfl
  go_enter Try.func104, Try.ntmps104
  go_wp2_with fail
  go_loopg [5, 8] n (fun r _ i wr => ∃ j : Nat, j + r = n ∧ i = .int .i64 j ∧ w = wr ∧ (zs.take j).all inPick = true)
  case atStart => exact ⟨0, by omega, rfl, rfl, by simp⟩
  obtain ⟨j, hj, rfl, rfl, hal⟩ := hrel
  have HAL := Lib.hid hal
  clear hal
  by_cases hlt : j < n
  · have hjz : j < zs.length := by rw [HL.out]; exact hlt
    obtain ⟨a, o, rfl, hc⟩ := HI.out.at_ (by omega)
    have c0 := hc j (by rw [ivs_length]; exact hjz)
    simp only [ivs, List.getElem_map] at c0
    clear hc
    cases hm : inPick zs[j]
    · have HM := Lib.hid hm
      clear hm
      generalize hz : zs[j] = z at *
      have HZ := Lib.hid hz
      clear hz
      go_wp2_with fail
      refine (script_pick_any z _).mono ?_
      rintro e w2 ⟨rfl, rfl⟩
      rw [HM.out]
      go_wp2
      go_ret
      exact ⟨_, rfl, by rw [all_pick_no hjz (by rw [HZ.out]; exact HM.out)]; simp, rfl⟩
    · have HM := Lib.hid hm
      clear hm
      generalize hz : zs[j] = z at *
      have HZ := Lib.hid hz
      clear hz
      go_wp2_with fail
      refine (script_pick_any z _).mono ?_
      rintro e w2 ⟨rfl, rfl⟩
      rw [HM.out]
      go_wp2
      go_roundg (gk - 1)
      case measure => omega
      case rel => exact ⟨j + 1, by omega, by go_num, rfl, all_take_pick hjz HAL.out (by rw [HZ.out]; exact HM.out)⟩
  · obtain rfl : j = n := by omega
    have hfull : zs.take j = zs := List.take_of_length_le (by rw [HL.out]; omega)
    have hal := HAL.out
    rw [hfull] at hal
    have HAL' := Lib.hid hal
    clear hal hfull
    go_wp2
    go_ret
    exact ⟨_, rfl, by rw [HAL'.out]; simp, rfl⟩

set_option maxRecDepth 100000 in
theorem script_contains_any (A : Option Addr) (n c : Nat) (zs : List Int) (w : World) (hi : Ins w A n c zs) :
    Calls Try.prog 57 #[.slice A n c, .func (.func 58) #[] #[]] w fun e w' => e = .returned (.bool (!(zs.all inPick))) ∧ w = w' := by
  have HI := Lib.hid hi
  clear hi
  obtain ⟨b, hb⟩ : ∃ b, zs.all inPick = b := ⟨_, rfl⟩
  have HB := Lib.hid hb
  rw [hb]
  clear hb
  go_enter Try.func57, Try.ntmps57
  go_wp2_with fail
  refine (script_index_any A n c zs _ HI.out).mono ?_
  rintro e w' ⟨r, rfl, hr, rfl⟩
  rw [HB.out] at hr
  have HR := Lib.hid hr
  clear hr
  go_wp2
  go_ret
  exact ⟨by simp [HR.out], rfl⟩

set_option maxRecDepth 100000 in
set_option maxHeartbeats 4000000 in
theorem script_may_any (k a b y : Int) (A : Option Addr) (n c : Nat) (ps : List Int) (w : World) (hi : Ins w A n c ps) :
    Calls Try.prog 13 #[.agg #[.int .i64 k, .int .i64 a, .int .i64 b, .int .i64 y, .slice A n c]] w fun e w' => e = .returned (.bool (Ev.may ⟨k, a, b, y, ps⟩)) ∧ Only [] w w' := by
  have hlen := hi.len
  rw [ivs_length] at hlen
  have HI := Lib.hid hi
  rw [Ev.may_eq]
  have hE : Ev.head ⟨k, a, b, y, ps⟩ = (decide (1 ≤ k ∧ k ≤ 19) && (decide (0 ≤ a ∧ a ≤ 2147483647) && (decide (0 ≤ b ∧ b ≤ 2147483647) && (decide (0 ≤ y ∧ y ≤ 65535) && decide ((n : Int) ≤ 100))))) := by
    unfold Ev.head
    rw [hlen]
    have : decide (n ≤ 100) = decide ((n : Int) ≤ 100) := by simp <;> omega
    rw [this]
  obtain ⟨h, hh⟩ : ∃ h, Ev.head ⟨k, a, b, y, ps⟩ = h := ⟨_, rfl⟩
  rw [hh]
  rw [hh] at hE
  have HE := Lib.hid hE
  clear hE hi hlen hh
  obtain ⟨bb, hbb⟩ : ∃ bb, ps.all inPick = bb := ⟨_, rfl⟩
  have HBB := Lib.hid hbb
  rw [hbb]
  clear hbb
  go_enter Try.func13, Try.ntmps13
  go_wp2_with (first
    | (go_at_call 57; refine (script_contains_any A n c ps _ (by exact HI.out.alloc _)).mono ?_; rintro e w' ⟨rfl, rfl⟩; rw [HBB.out])
    | (go_at_call 59; refine (script_within_any _ _ _ _).mono ?_; rintro e w' ⟨rfl, rfl⟩))
  all_goals (go_ret; exact ⟨by rw [HE.out]; simp [*], (Only.refl _ _).alloc _⟩)

set_option maxRecDepth 100000 in
set_option maxHeartbeats 4000000 in
theorem ref_event_may_any (k a b y : Int) (A : Option Addr) (n c : Nat) (ps : List Int) (w : World) (hi : Ins w A n c ps) :
    Calls Try.prog 14 #[.agg #[.int .i64 k, .int .i64 a, .int .i64 b, .int .i64 y, .slice A n c]] w fun e w' => e = .returned (.bool (Ev.may ⟨k, a, b, y, ps⟩)) ∧ Only [] w w' := by
  have hlen := hi.len
  rw [ivs_length] at hlen
  have hcm := hi.cm
  have hcl := hi.le
  unfold maxLen at hcm
  have HI := Lib.hid hi
  have HL := Lib.hid hlen
  rw [Ev.may_eq]
  have hE : Ev.head ⟨k, a, b, y, ps⟩ = (decide (1 ≤ k ∧ k ≤ 19) && (decide (0 ≤ a ∧ a ≤ 2147483647) && (decide (0 ≤ b ∧ b ≤ 2147483647) && (decide (0 ≤ y ∧ y ≤ 65535) && decide ((n : Int) ≤ 100))))) := by
    unfold Ev.head
    rw [hlen]
    have : decide (n ≤ 100) = decide ((n : Int) ≤ 100) := by simp <;> omega
    rw [this]
  obtain ⟨h, hh⟩ : ∃ h, Ev.head ⟨k, a, b, y, ps⟩ = h := ⟨_, rfl⟩
  rw [hh]
  rw [hh] at hE
  clear hi hlen hh
  cases h
  · have HE := Lib.hid hE
    rw [Bool.and_false]
    clear hE
    by_cases h1 : decide (1 ≤ k ∧ k ≤ 19) = true
    · by_cases h2 : decide (0 ≤ a ∧ a ≤ 2147483647) = true
      · by_cases h3 : decide (0 ≤ b ∧ b ≤ 2147483647) = true
        · by_cases h4 : decide (0 ≤ y ∧ y ≤ 65535) = true
          · have h5 : decide ((100 : Int) < (n : Int)) = true := by
              have := HE.out
              rw [h1, h2, h3, h4] at this
              simp at this ⊢
              omega
            clear HE
            have HX := Lib.hid (And.intro h1 (And.intro h2 (And.intro h3 h4)))
            clear h1 h2 h3 h4
            go_enter Try.func14, Try.ntmps14
            go_wp2_with (first | (go_at_call 60; refine (within_any _ _ _ _).mono ?_; rintro e w' ⟨rfl, rfl⟩; first | rw [HX.out.1] | rw [HX.out.2.1] | rw [HX.out.2.2.1] | rw [HX.out.2.2.2]))
            go_ret
            exact ⟨rfl, (Only.refl _ _).alloc _⟩
          · have h4 : decide (0 ≤ y ∧ y ≤ 65535) = false := by simpa using h4
            have HX := Lib.hid (And.intro h1 (And.intro h2 (And.intro h3 h4)))
            clear h1 h2 h3 h4
            go_enter Try.func14, Try.ntmps14
            go_wp2_with (first | (go_at_call 60; refine (within_any _ _ _ _).mono ?_; rintro e w' ⟨rfl, rfl⟩; first | rw [HX.out.1] | rw [HX.out.2.1] | rw [HX.out.2.2.1] | rw [HX.out.2.2.2]))
            go_ret
            exact ⟨rfl, (Only.refl _ _).alloc _⟩
        · have h3 : decide (0 ≤ b ∧ b ≤ 2147483647) = false := by simpa using h3
          have HX := Lib.hid (And.intro h1 (And.intro h2 h3))
          clear h1 h2 h3
          go_enter Try.func14, Try.ntmps14
          go_wp2_with (first | (go_at_call 60; refine (within_any _ _ _ _).mono ?_; rintro e w' ⟨rfl, rfl⟩; first | rw [HX.out.1] | rw [HX.out.2.1] | rw [HX.out.2.2]))
          go_ret
          exact ⟨rfl, (Only.refl _ _).alloc _⟩
      · have h2 : decide (0 ≤ a ∧ a ≤ 2147483647) = false := by simpa using h2
        have HX := Lib.hid (And.intro h1 h2)
        clear h1 h2
        go_enter Try.func14, Try.ntmps14
        go_wp2_with (first | (go_at_call 60; refine (within_any _ _ _ _).mono ?_; rintro e w' ⟨rfl, rfl⟩; first | rw [HX.out.1] | rw [HX.out.2]))
        go_ret
        exact ⟨rfl, (Only.refl _ _).alloc _⟩
    · have h1 : decide (1 ≤ k ∧ k ≤ 19) = false := by simpa using h1
      have HX := Lib.hid h1
      clear h1
      go_enter Try.func14, Try.ntmps14
      go_wp2_with (first | (go_at_call 60; refine (within_any _ _ _ _).mono ?_; rintro e w' ⟨rfl, rfl⟩; rw [HX.out]))
      go_ret
      exact ⟨rfl, (Only.refl _ _).alloc _⟩
  · simp only [Bool.true_eq, Bool.and_eq_true] at hE
    obtain ⟨h1, h2, h3, h4, h5⟩ := hE
    have h6 : decide ((100 : Int) < (n : Int)) = false := by
      simp at h5 ⊢
      omega
    have HX := Lib.hid (And.intro h1 (And.intro h2 (And.intro h3 h4)))
    clear h1 h2 h3 h4 h5
    rw [Bool.and_true]
    go_enter Try.func14, Try.ntmps14
    go_upto_region 3 with (first | (go_at_call 60; refine (within_any _ _ _ _).mono ?_; rintro e w' ⟨rfl, rfl⟩; first | rw [HX.out.1] | rw [HX.out.2.1] | rw [HX.out.2.2.1] | rw [HX.out.2.2.2]))
    have hO0 := (Only.refl [] w).alloc (.cells #[.int .i64 k, .int .i64 a, .int .i64 b, .int .i64 y, .slice A n c] 38)
    have x4 := (Own.new w #[.int .i64 k, .int .i64 a, .int .i64 b, .int .i64 y, .slice A n c] 38).cell 4 (by simp)
    simp only [List.getElem_cons_zero, List.getElem_cons_succ] at x4
    generalize w.alloc (.cells #[.int .i64 k, .int .i64 a, .int .i64 b, .int .i64 y, .slice A n c] 38) = w1 at *
    have HO := Lib.hid hO0
    clear hO0
    go_wp2_with fail
    go_loopg [3] n (fun r i wr => ∃ j : Nat, j + r = n ∧ i = .int .i64 j ∧ w1 = wr ∧ (ps.take j).all inPick = true)
    case atStart => exact ⟨0, by omega, rfl, rfl, by simp⟩
    obtain ⟨j, hj, rfl, rfl, hal⟩ := hrel
    have HAL := Lib.hid hal
    clear hal
    by_cases hlt : j < n
    · have hjz : j < ps.length := by rw [HL.out]; exact hlt
      obtain ⟨a, o, rfl, hc⟩ := HI.out.at_ (by omega)
      have c0 := HO.out.cell (hc j (by rw [ivs_length]; exact hjz)) (by simp)
      simp only [ivs, List.getElem_map] at c0
      clear hc
      have e1 : decide (0 ≤ ps[j] ∧ ps[j] ≤ 191) = inPick ps[j] := rfl
      cases hm : inPick ps[j]
      · rw [hm] at e1
        have HM := Lib.hid hm
        have HE := Lib.hid e1
        clear hm e1
        generalize hz : ps[j] = z at *
        have HZ := Lib.hid hz
        clear hz
        go_wp2_with (go_at_call 60; refine (within_any _ _ _ _).mono ?_; rintro e w' ⟨rfl, rfl⟩; rw [HE.out])
        go_ret
        exact ⟨by rw [all_pick_no hjz (by rw [HZ.out]; exact HM.out)]; rfl, HO.out⟩
      · rw [hm] at e1
        have HM := Lib.hid hm
        have HE := Lib.hid e1
        clear hm e1
        generalize hz : ps[j] = z at *
        have HZ := Lib.hid hz
        clear hz
        go_wp2_with (go_at_call 60; refine (within_any _ _ _ _).mono ?_; rintro e w' ⟨rfl, rfl⟩; rw [HE.out])
        go_roundg (gk - 1)
        case measure => omega
        case rel => exact ⟨j + 1, by omega, by go_num, rfl, all_take_pick hjz HAL.out (by rw [HZ.out]; exact HM.out)⟩
    · obtain rfl : j = n := by omega
      have hfull : ps.take j = ps := List.take_of_length_le (by rw [HL.out]; omega)
      have hal := HAL.out
      rw [hfull] at hal
      have HAL' := Lib.hid hal
      clear hal hfull
      go_wp2
      go_ret
      exact ⟨by rw [HAL'.out]; rfl, HO.out⟩
end Go.Proofs.Ytkpagiokjihmhaa
