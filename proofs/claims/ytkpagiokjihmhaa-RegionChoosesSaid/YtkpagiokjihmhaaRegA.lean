
/- Contracts of region.numbers, slots; the reference's slots. -/
import Derived.Test.YtkpagiokjihmhaaRegP
import Derived.Shelf.Abstract
set_option linter.unusedVariables false
set_option linter.unusedSimpArgs false
namespace Go.Proofs.Ytkpagiokjihmhaa
open Go Go.RowKit Go.Kn

theorem region_slot_any (n : Int) (w : World) : Calls Try.prog 132 #[.int .i64 n] w fun e w' => e = .returned (.bool (!inSlot n)) ∧ w = w' := by
  by_cases h0 : n = 0
  · subst h0
    go_enter Try.func132, Try.ntmps132
    go_wp2
    go_ret
    exact ⟨rfl, rfl⟩
  · by_cases h1 : n = 1
    · subst h1
      go_enter Try.func132, Try.ntmps132
      go_wp2
      go_ret
      exact ⟨rfl, rfl⟩
    · have e : (!inSlot n) = true := by unfold inSlot; simp; omega
      have HE := Lib.hid e
      have b0 : (n != 0) = true := by rw [bne_iff_ne]; exact h0
      have b1 : (n != 1) = true := by rw [bne_iff_ne]; exact h1
      clear e
      go_enter Try.func132, Try.ntmps132
      go_wp2
      go_ret
      exact ⟨by rw [HE.out]; rfl, rfl⟩

set_option maxRecDepth 100000 in
set_option maxHeartbeats 2000000 in
theorem region_index_any (A : Option Addr) (n c : Nat) (zs : List Int) (w : World) (hi : Ins w A n c zs) :
    Calls Try.prog 104 #[.slice A n c, .func (.func 132) #[] #[]] w fun e w' => ∃ r : Int, e = .returned (.int .i64 r) ∧ decide (0 ≤ r) = !(zs.all inSlot) ∧ w = w' := by
  have hlen := hi.len
  rw [ivs_length] at hlen
  have hcm := hi.cm
  have hcl := hi.le
  unfold maxLen at hcm
  have HI := Lib.hid hi
  have HL := Lib.hid hlen
  clear hi hlen
  have eg : ∀ args w, (callFunc 132 args).run Try.prog w = .ok (.enter 132 args) w := enters_of Try.func132 (by kernel_rfl) rfl
  go_enter Try.func104, Try.ntmps104
  go_wp2_with fail
  go_loopg [5, 8] n (fun r _ i wr => ∃ j : Nat, j + r = n ∧ i = .int .i64 j ∧ w = wr ∧ (zs.take j).all inSlot = true)
  case atStart => exact ⟨0, by omega, rfl, rfl, by simp⟩
  obtain ⟨j, hj, rfl, rfl, hal⟩ := hrel
  have HAL := Lib.hid hal
  clear hal
  by_cases hlt : j < n
  · have hjz : j < zs.length := by rw [HL.out]; exact hlt
    obtain ⟨a, o, rfl, hc⟩ := HI.out.at_ (by omega)
    have c0 := hc j (by rw [ivs_length]; exact hjz)
    simp only [ivs, List.getElem_map] at c0
    clear hc
    cases hm : inSlot zs[j]
    · have HM := Lib.hid hm
      clear hm
      generalize hz : zs[j] = z at *
      have HZ := Lib.hid hz
      clear hz
      go_wp2_with fail
      refine (region_slot_any z _).mono ?_
      rintro e w2 ⟨rfl, rfl⟩
      rw [HM.out]
      go_wp2
      go_ret
      exact ⟨_, rfl, by rw [all_slot_no hjz (by rw [HZ.out]; exact HM.out)]; simp, rfl⟩
    · have HM := Lib.hid hm
      clear hm
      generalize hz : zs[j] = z at *
      have HZ := Lib.hid hz
      clear hz
      go_wp2_with fail
      refine (region_slot_any z _).mono ?_
      rintro e w2 ⟨rfl, rfl⟩
      rw [HM.out]
      go_wp2
      go_roundg (gk - 1)
      case measure => omega
      case rel => exact ⟨j + 1, by omega, by go_num, rfl, all_take_slot hjz HAL.out (by rw [HZ.out]; exact HM.out)⟩
  · obtain rfl : j = n := by omega
    have hfull : zs.take j = zs := List.take_of_length_le (by rw [HL.out]; omega)
    have hal := HAL.out
    rw [hfull] at hal
    have HAL' := Lib.hid hal
    clear hal hfull
    go_wp2
    go_ret
    exact ⟨_, rfl, by rw [HAL'.out]; simp, rfl⟩

set_option maxRecDepth 100000 in
theorem region_contains_any (A : Option Addr) (n c : Nat) (zs : List Int) (w : World) (hi : Ins w A n c zs) :
    Calls Try.prog 57 #[.slice A n c, .func (.func 132) #[] #[]] w fun e w' => e = .returned (.bool (!(zs.all inSlot))) ∧ w = w' := by
  have HI := Lib.hid hi
  clear hi
  obtain ⟨b, hb⟩ : ∃ b, zs.all inSlot = b := ⟨_, rfl⟩
  have HB := Lib.hid hb
  rw [hb]
  clear hb
  go_enter Try.func57, Try.ntmps57
  go_wp2_with fail
  refine (region_index_any A n c zs _ HI.out).mono ?_
  rintro e w' ⟨r, rfl, hr, rfl⟩
  rw [HB.out] at hr
  have HR := Lib.hid hr
  clear hr
  go_wp2
  go_ret
  exact ⟨by simp [HR.out], rfl⟩

set_option maxRecDepth 100000 in
set_option maxHeartbeats 2000000 in
theorem region_slots_any (A : Option Addr) (n c : Nat) (zs : List Int) (P : Int) (w : World) (hi : Ins w A n c zs) :
    Calls Try.prog 108 #[.slice A n c, .int .i64 P] w fun e w' => e = .returned (.bool (slotsOk P zs)) ∧ w = w' := by
  have hlen := hi.len
  rw [ivs_length] at hlen
  have HI := Lib.hid hi
  have hE : slotsOk P zs = (decide ((n : Int) = P) && zs.all inSlot) := by unfold slotsOk; rw [hlen]
  obtain ⟨bb, hbb⟩ : ∃ bb, zs.all inSlot = bb := ⟨_, rfl⟩
  rw [hbb] at hE
  have HE := Lib.hid hE
  have HBB := Lib.hid hbb
  clear hi hlen hE hbb
  by_cases hP : (n : Int) = P
  · have hd : ((n : Int) == P) = true := by simp [hP]
    have hd2 : decide ((n : Int) = P) = true := by simp [hP]
    have HD := Lib.hid hd2
    clear hP hd2
    go_enter Try.func108, Try.ntmps108
    go_wp2_with fail
    refine (region_contains_any A n c zs _ HI.out).mono ?_
    rintro e w' ⟨rfl, rfl⟩
    rw [HBB.out]
    go_wp2
    go_ret
    exact ⟨by rw [HE.out, HD.out]; simp, rfl⟩
  · have hd : ((n : Int) == P) = false := by simp [hP]
    have hd2 : decide ((n : Int) = P) = false := by simp [hP]
    have HD := Lib.hid hd2
    clear hP hd2
    go_enter Try.func108, Try.ntmps108
    go_wp2
    go_ret
    exact ⟨by rw [HE.out, HD.out]; rfl, rfl⟩

set_option maxRecDepth 100000 in
set_option maxHeartbeats 4000000 in
theorem region_numbers_any (r : Rg) (B O S : Sl) (w : World) :
    Calls Try.prog 106 #[.agg #[.int .i64 r.g, .int .i64 r.v, .int .i64 r.m, .int .i64 r.e, .int .i64 r.s, .int .i64 r.d, .int .i64 r.ps, .int .i64 r.po, .int .i64 r.pl, .int .i64 r.pp, .int .i64 r.pm, .slice B.1 B.2.1 B.2.2, .slice O.1 O.2.1 O.2.2, .slice S.1 S.2.1 S.2.2]] w fun e w' => e = .returned (.bool (numOk r)) ∧ Only [] w w' := by
  obtain ⟨g, v, m, e, s, d, ps, po, pl, pp, pm, base, over, segs⟩ := r
  have hE : numOk ⟨g, v, m, e, s, d, ps, po, pl, pp, pm, base, over, segs⟩ = (decide (1 ≤ g ∧ g ≤ 2147483647) && (decide (1 ≤ v ∧ v ≤ 2147483647) && (decide (1 ≤ m ∧ m ≤ 2) && (decide (0 ≤ e ∧ e ≤ 2147483647) && (decide (0 ≤ s ∧ s ≤ 2147483647) && decide (0 ≤ d ∧ d ≤ s)))))) := rfl
  have HE := Lib.hid hE
  clear hE
  have hmm : m = 1 ∨ m = 2 ∨ (¬ (m = 1) ∧ ¬ (m = 2)) := by omega
  dsimp only
  rcases hmm with rfl | rfl | ⟨h1, h2⟩
  · go_enter Try.func106, Try.ntmps106
    go_wp2_with (first | (go_at_call 111; refine (region_within_any _ _ _ _).mono ?_; rintro e w' ⟨rfl, rfl⟩))
    all_goals (go_ret; exact ⟨by rw [HE.out]; simp [*], (Only.refl _ _).alloc _⟩)
  · go_enter Try.func106, Try.ntmps106
    go_wp2_with (first | (go_at_call 111; refine (region_within_any _ _ _ _).mono ?_; rintro e w' ⟨rfl, rfl⟩))
    all_goals (go_ret; exact ⟨by rw [HE.out]; simp [*], (Only.refl _ _).alloc _⟩)
  · have b1 : (m == 1) = false := by simp [h1]
    have b2 : (m == 2) = false := by simp [h2]
    have b3 : decide (1 ≤ m ∧ m ≤ 2) = false := decide_eq_false (by omega)
    have HB3 := Lib.hid b3
    clear h1 h2 b3
    go_enter Try.func106, Try.ntmps106
    go_wp2_with (first | (go_at_call 111; refine (region_within_any _ _ _ _).mono ?_; rintro e w' ⟨rfl, rfl⟩))
    all_goals (go_ret; exact ⟨by rw [HE.out, HB3.out]; simp [*], (Only.refl _ _).alloc _⟩)

end Go.Proofs.Ytkpagiokjihmhaa
