
/- Contracts of package row: Take, Get. -/
import Derived.Test.YtkpagiokjihmhaaRowA
import Derived.Test.YtkpagiokjihmhaaPlain
import Derived.Deep.RegionWith
import Derived.StillTailTactics
namespace Go.Proofs.Ytkpagiokjihmhaa
open Go Go.RowKit Go.Kn

set_option maxRecDepth 100000 in
theorem get_any (p g k : Nat) (bs : List UInt8) (n : Nat) (w : World) (h : RowAt w p g bs k) (hw : n = 1 ∨ n = 2 ∨ n = 4) (hn : n ≤ bs.length - k) :
    Calls Try.prog 51 #[.pointer (some ⟨p, 0, none⟩), .int .i64 n] w fun e w' => e = .returned (.tuple #[.int .i64 (num ((bs.drop k).take n)), .bool true]) ∧ RowAt w' p g bs (k + n) ∧ Only [p] w w' := by
  obtain ⟨A, c, h0, h1, h2, h3⟩ := h.fb
  have hk := h.fk
  have hle := h.le
  have hmx := h.mx
  unfold maxLen at h2
  have hn4 : n ≤ 4 := by omega
  have hwb : decide ((n : Int) = 1 ∨ (n : Int) = 2 ∨ (n : Int) = 4) = true := by simp; omega
  have hz := h.pz 1
  have hd : decide (bs.length - k < n) = false := by simp; omega
  have H := Lib.hid h
  have H3 := Lib.hid h3
  clear h h3 hw
  go_enter Try.func51, Try.ntmps51
  go_wp2_with (first | (go_at_call 97; refine (wide_any _ _).mono ?_; rintro e w' ⟨rfl, rfl⟩) | (go_at_call 98; refine (left_any p g k bs _ H.out).mono ?_; rintro e w1 ⟨rfl, nq, rfl⟩))
  go_loopw [4, 21] (fun acc i wr => ∃ j m : Nat, j ≤ n ∧ i = .int .i64 j ∧ acc = .int .i64 (num ((bs.drop k).take j)) ∧ wr = w.drewN m) (fun _ i _ => n - (intOf i).toNat)
  case atStart => exact ⟨0, nq, Nat.zero_le _, rfl, rfl, rfl⟩
  case round =>
    obtain ⟨j, m, hj, rfl, rfl, rfl⟩ := hrel
    by_cases hlt : j < n
    · have hA := H3.out (by omega)
      subst hA
      have hc := H.out.cl (k + j) (by omega)
      have hidx : ((k : Int) + (j : Int)).toNat = k + j := by omega
      have hlt2 : (k : Int) + (j : Int) < (bs.length : Int) := by omega
      have hge2 : 0 ≤ (k : Int) + (j : Int) := by omega
      have hw1 := IntWalk.i64_in ((k : Int) + (j : Int)) (by omega)
      have hw2 := IntWalk.i64_in (8 * (j : Int)) (by omega)
      have hs1 : 0 ≤ 8 * (j : Int) := by omega
      have hs2 : 8 * (j : Int) ≤ 64 := by omega
      have hs3 : (8 * (j : Int)).toNat = 8 * j := by omega
      have hs4 := num_step_wrap bs k j (by omega) (by omega)
      have hs5 := num_step bs k j (by omega) (by omega)
      have hb1 : ((bs[k + j]'(by omega)).toNat : Int) ≤ 255 := by have := (bs[k + j]'(by omega)).toNat_lt; omega
      go_wp2
      go_quiet (fail)
      go_wp2
      go_roundw
      case rel => exact ⟨j + 1, _, by omega, by go_num, rfl, rfl⟩
      case measure => simp [intOf]; omega
    · obtain rfl : j = n := by omega
      go_wp2
      go_ret2
      have e : (k : Int) + (j : Int) = ((k + j : Nat) : Int) := by omega
      rw [e]
      exact ⟨rfl, (H.out.drewN _).place _ (by omega), ((Only.refl _ _).drewN _).set (by simp) _⟩

theorem get_nil (n : Int) (w : World) : Calls Try.prog 51 #[.pointer none, .int .i64 n] w fun e w' => e = .returned (.tuple #[.int .i64 0, .bool false]) ∧ w = w' := by
  go_enter Try.func51, Try.ntmps51
  go_wp2
  go_ret2
  exact ⟨rfl, rfl⟩

set_option maxRecDepth 100000 in
/-- no such width, or too few bytes -/
theorem get_none (p g k : Nat) (bs : List UInt8) (n : Int) (w : World) (h : RowAt w p g bs k) (hn : ¬ ((n = 1 ∨ n = 2 ∨ n = 4) ∧ n ≤ ((bs.length - k : Nat) : Int))) :
    Calls Try.prog 51 #[.pointer (some ⟨p, 0, none⟩), .int .i64 n] w fun e w' => e = .returned (.tuple #[.int .i64 0, .bool false]) ∧ ∃ m, w' = w.drewN m := by
  have H := Lib.hid h
  clear h
  by_cases hw : n = 1 ∨ n = 2 ∨ n = 4
  · have hwb : decide (n = 1 ∨ n = 2 ∨ n = 4) = true := by simp [hw]
    have hlt : ((bs.length - k : Nat) : Int) < n := by omega
    clear hn hw
    go_enter Try.func51, Try.ntmps51
    go_wp2_with (first | (go_at_call 97; refine (wide_any _ _).mono ?_; rintro e w' ⟨rfl, rfl⟩) | (go_at_call 98; refine (left_any p g k bs _ H.out).mono ?_; rintro e w1 ⟨rfl, nq, rfl⟩))
    go_ret2
    exact ⟨rfl, _, rfl⟩
  · have hwb : decide (n = 1 ∨ n = 2 ∨ n = 4) = false := by simp [hw]
    clear hn hw
    go_enter Try.func51, Try.ntmps51
    go_wp2_with (first | (go_at_call 97; refine (wide_any _ _).mono ?_; rintro e w' ⟨rfl, rfl⟩) | (go_at_call 98; refine (left_any p g k bs _ H.out).mono ?_; rintro e w1 ⟨rfl, nq, rfl⟩))
    go_ret2
    exact ⟨rfl, 0, rfl⟩

/-- what takes bytes out of a row -/
def TookBys (w : World) (p g : Nat) (bs : List UInt8) (k n : Nat) (e : Ending) (w' : World) : Prop :=
  ∃ A c, e = .returned (.tuple #[.slice A n c, .bool true]) ∧ n ≤ c ∧ c ≤ maxLen ∧ (0 < n → ∃ b, A = some ⟨b, 0, none⟩ ∧ w.heap.size ≤ b ∧ Own w' b (bvs ((bs.drop k).take n))) ∧ RowAt w' p g bs (k + n) ∧ Only [p] w w'

set_option maxRecDepth 100000 in
theorem take_any (p g k : Nat) (bs : List UInt8) (n : Nat) (w : World) (h : RowAt w p g bs k) (hn : n ≤ bs.length - k) :
    Calls Try.prog 50 #[.pointer (some ⟨p, 0, none⟩), .int .i64 n] w (TookBys w p g bs k n) := by
  obtain ⟨A, c, h0, h1, h2⟩ := row_bys h
  have hk := h.fk
  have hle := h.le
  have hmx := h.mx
  have hc := h1.le
  have hcm := h1.cm
  unfold maxLen at hcm
  have hz := h.pz 1
  have H := Lib.hid h
  have H1 := Lib.hid h1
  have H2 := Lib.hid h2
  clear h h1 h2
  go_enter Try.func50, Try.ntmps50
  go_wp2_with (first | (go_at_call 98; refine (left_any p g k bs _ H.out).mono ?_; rintro e w1 ⟨rfl, nq, rfl⟩))
  have hw1 := IntWalk.i64_in ((k : Int) + (n : Int)) (by omega)
  have hsl := fun w => run_slice1 (P := Try.prog) w 23 5 Try.underlying23 (by kernel_rfl) A bs.length c (k : Int) ((k : Int) + (n : Int)) k (k + n) n .i64 .i64 rfl (by omega) (by omega) (by omega) (by omega)
  refine still_tail 15 (by kernel_rfl) (by kernel_rfl) ?_
  simp only [List.take_succ_cons, List.take_zero, List.drop_succ_cons, List.drop_zero]
  repeat still_step
  refine wpStill_nil ?_
  generalize hw2 : (w.drewN nq).drew = w2
  have hO2 : Only [] w w2 := by rw [← hw2]; exact ((Only.refl _ _).drewN _).drew
  clear hw2
  have hcl : Bys w2 (cutA A c k) n (c - k) ((bs.drop k).take n) := by
    have := (H1.out.keep0 hO2).cut (l := k) (m := n) (by omega)
    rwa [bvs_cut] at this
  have HC := Lib.hid hcl
  clear hcl
  go_wp2_with fail
  refine (clone_any _ _ _ _ _ HC.out (by omega)).mono ?_
  rintro e w1 ⟨A', c', rfl, hc', hm', hpos, hO⟩
  have hlt : ((bs.drop k).take n).length = n := by simp; omega
  rw [hlt] at hc' hpos ⊢
  have hR := Lib.hid ((H.out.keep0 hO2).keep0 hO)
  have hk1 := hR.out.fk
  have hz1 := hR.out.pz 1
  clear hk hz h0
  go_wp2
  go_ret2
  have e : (k : Int) + (n : Int) = ((k + n : Nat) : Int) := by omega
  rw [e]
  have hOO := hO2.trans' hO
  refine ⟨A', c', rfl, hc', hm', fun hn => ?_, hR.out.place _ (by omega), (hOO.mono (by simp)).set (by simp) _⟩
  obtain ⟨b, h1, h2, h3⟩ := hpos hn
  have := H.out.lp
  have := hO2.size
  exact ⟨b, h1, by omega, h3.far (by show p ≠ b; omega) _⟩

theorem take_nil (n : Int) (w : World) : Calls Try.prog 50 #[.pointer none, .int .i64 n] w fun e w' => e = .returned (.tuple #[.slice none 0 0, .bool false]) ∧ w = w' := by
  go_enter Try.func50, Try.ntmps50
  go_wp2
  go_ret2
  exact ⟨rfl, rfl⟩

set_option maxRecDepth 100000 in
theorem take_none (p g k : Nat) (bs : List UInt8) (n : Int) (w : World) (h : RowAt w p g bs k) (hn : n < 0 ∨ ((bs.length - k : Nat) : Int) < n) :
    Calls Try.prog 50 #[.pointer (some ⟨p, 0, none⟩), .int .i64 n] w fun e w' => e = .returned (.tuple #[.slice none 0 0, .bool false]) ∧ ∃ m, w' = w.drewN m := by
  have H := Lib.hid h
  clear h
  by_cases hw : n < 0
  · go_enter Try.func50, Try.ntmps50
    go_wp2
    go_ret2
    exact ⟨rfl, 0, rfl⟩
  · have h0 : 0 ≤ n := by omega
    have h1 : ((bs.length - k : Nat) : Int) < n := by omega
    clear hn hw
    go_enter Try.func50, Try.ntmps50
    go_wp2_with (first | (go_at_call 98; refine (left_any p g k bs _ H.out).mono ?_; rintro e w1 ⟨rfl, nq, rfl⟩))
    go_ret2
    exact ⟨rfl, _, rfl⟩
end Go.Proofs.Ytkpagiokjihmhaa
