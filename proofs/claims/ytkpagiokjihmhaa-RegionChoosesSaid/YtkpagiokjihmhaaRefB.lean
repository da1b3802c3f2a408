
/- Contracts of the reference's rows: NewRow, FromRow, Get, Take, Lay, Put, One, Num. -/
import Derived.Test.YtkpagiokjihmhaaRefA
import Derived.Test.YtkpagiokjihmhaaRowC
set_option linter.unusedVariables false
namespace Go.Proofs.Ytkpagiokjihmhaa
open Go Go.RowKit Go.Kn

set_option maxRecDepth 100000 in
theorem ref_new_any (n : Int) (w : World) (hn : 0 ≤ n) (hm : n ≤ 65536) :
    Calls Try.prog 44 #[.int .i64 n] w (MadeRow w (List.replicate n.toNat 0)) := by
  obtain ⟨m, rfl⟩ := Int.eq_ofNat_of_zero_le hn
  have hmk := make_bys m (by omega)
  have hd : decide (0 ≤ (m : Int) ∧ (m : Int) ≤ 65536) = true := by simp; omega
  go_enter Try.func44, Try.ntmps44
  go_wp2_with (first | (go_at_call 60; refine (within_any _ _ _ _).mono ?_; rintro e w' ⟨rfl, rfl⟩))
  go_ret
  rw [Int.toNat_natCast]
  have ho := Own.new w (bvs (List.replicate m 0)).toArray 5
  rw [List.toList_toArray] at ho
  have hsz : (w.alloc (.cells (bvs (List.replicate m 0)).toArray 5)).heap.size = w.heap.size + 1 := by simp
  by_cases h0 : m = 0
  · subst h0
    refine ⟨w.heap.size + 1, w.heap.size + 1, by simp, by omega, by omega, ?_, ((Only.refl _ _).alloc _).alloc _⟩
    rw [← hsz]
    exact ⟨by simp, ⟨some ⟨w.heap.size, 0, none⟩, 0, by simp, by simp, by simp [maxLen], by simp⟩, by simp, fun i => by simp, by simp, by simp, by simp, by simp⟩
  · refine ⟨w.heap.size + 1, w.heap.size, by simp, by omega, Nat.le_refl _, ?_, ((Only.refl _ _).alloc _).alloc _⟩
    have h1 := new_row_at (w.alloc (.cells (bvs (List.replicate m 0)).toArray 5)) _ (List.replicate m 0) w.heap.size 101 ho rfl (by simp; omega) (by simp; omega)
    rw [hsz] at h1
    simpa using h1

theorem ref_new_none (n : Int) (w : World) (hn : n < 0 ∨ 65536 < n) :
    Calls Try.prog 44 #[.int .i64 n] w fun e w' => e = .returned (.pointer none) ∧ w = w' := by
  have hd : decide (0 ≤ n ∧ n ≤ 65536) = false := by simp; omega
  go_enter Try.func44, Try.ntmps44
  go_wp2_with (first | (go_at_call 60; refine (within_any _ _ _ _).mono ?_; rintro e w' ⟨rfl, rfl⟩))
  go_ret
  exact ⟨rfl, rfl⟩

set_option maxRecDepth 100000 in
theorem ref_from_any (A : Option Addr) (n c : Nat) (bs : List UInt8) (w : World) (h : Bys w A n c bs) (hb : n ≤ 65536) :
    Calls Try.prog 53 #[.slice A n c] w (MadeRow w bs) := by
  have hlen := h.len
  rw [bvs_length] at hlen
  subst hlen
  go_enter Try.func53, Try.ntmps53
  go_wp2_with fail
  refine (part_any A bs.length c bs 0 bs.length (bs.length : Int) _ h (by omega) (by omega) (by omega)).mono ?_
  rintro e w1 ⟨rfl, ho, hO⟩
  rw [List.drop_zero, List.take_length] at ho
  go_wp2
  go_ret
  exact row_of_bys (Nat.le_refl _) (by unfold maxLen; omega) (fun _ => ⟨_, rfl, Nat.le_refl _, ho⟩) hO hb

set_option maxRecDepth 100000 in
theorem ref_from_none (A : Option Addr) (n c : Nat) (w : World) (hb : 65536 < n) :
    Calls Try.prog 53 #[.slice A n c] w fun e w' => e = .returned (.pointer none) ∧ w = w' := by
  go_enter Try.func53, Try.ntmps53
  go_wp2
  go_ret
  exact ⟨rfl, rfl⟩

/-- the number that the first t bytes behind place k, from the greatest on, are: as the reference reads -/
theorem num_from (bs : List UInt8) (k n t : Nat) (h : k + n ≤ bs.length) (ht : t < n) (hn : n ≤ 4) :
    bits .or .i64 ((num (((bs.drop k).take n).drop (t + 1)) : Int) * 256) ((bs[k + t]'(by omega)).toNat : Int) = (num (((bs.drop k).take n).drop t) : Int) := by
  have hl : t < ((bs.drop k).take n).length := by simp; omega
  have e1 : ((bs.drop k).take n).drop t = bs[k + t]'(by omega) :: ((bs.drop k).take n).drop (t + 1) := by
    rw [List.drop_eq_getElem_cons hl]
    congr 1
    simp
  have h1 := num_lt (((bs.drop k).take n).drop (t + 1))
  have h2 : (((bs.drop k).take n).drop (t + 1)).length ≤ 3 := by simp; omega
  have h3 : (256 : Nat) ^ (((bs.drop k).take n).drop (t + 1)).length ≤ 256 ^ 3 := Nat.pow_le_pow_right (by omega) h2
  have h4 := (bs[k + t]'(by omega)).toNat_lt
  rw [e1]
  generalize ((bs.drop k).take n).drop (t + 1) = r at *
  generalize bs[k + t]'(by omega) = c at *
  have e2 : ((num r : Int) * 256) = ((num r * 2 ^ 8 : Nat) : Int) := by simp
  have h5 := or_shift c.toNat (num r) 8 (by omega)
  rw [e2, bits_or_i64_nat _ _ (by omega) (by omega), Nat.or_comm, h5]
  simp only [num]
  omega

set_option maxRecDepth 100000 in
set_option maxHeartbeats 1000000 in
theorem ref_get_any (p g k : Nat) (bs : List UInt8) (n : Nat) (w : World) (h : RowAt w p g bs k) (hw : n = 1 ∨ n = 2 ∨ n = 4) (hn : n ≤ bs.length - k) :
    Calls Try.prog 103 #[.pointer (some ⟨p, 0, none⟩), .int .i64 n] w fun e w' => e = .returned (.tuple #[.int .i64 (num ((bs.drop k).take n)), .bool true]) ∧ RowAt w' p g bs (k + n) ∧ Only [p] w w' := by
  obtain ⟨A, c, h0, h1, h2, h3⟩ := h.fb
  have hk := h.fk
  have hle := h.le
  have hmx := h.mx
  unfold maxLen at h2
  have hn4 : n ≤ 4 := by omega
  have hmf : 0 ≤ mostF n := by rcases hw with rfl | rfl | rfl <;> decide
  have hm1 : decide (mostF n < 0) = false := by simp; omega
  have hz := h.pz 1
  have hd2 : (n : Int) ≤ (bs.length : Int) - (k : Int) := by omega
  have hd : decide ((bs.length : Int) - (k : Int) < (n : Int)) = false := by simp; omega
  have hA := h3 (by omega)
  have H := Lib.hid h
  subst hA
  have HW := Lib.hid hw
  have hn1 : 1 ≤ n := by omega
  clear h h3 hw
  go_enter Try.func103, Try.ntmps103
  go_wp2_with fail
  go_quiet ((go_at_call 100; exact Calls.quiet_of_same ((most_any _ _).mono fun e w' hh => ⟨hh.1, hh.2.symm⟩)))
  go_wp2_with fail
  go_loopg [6, 7] n (fun r acc i wr => r ≤ n ∧ ((∃ t : Nat, r = t + 1 ∧ i = .int .i64 t) ∨ (r = 0 ∧ i = .int .i64 (-1))) ∧ acc = .int .i64 (num (((bs.drop k).take n).drop r)) ∧ ∃ m, wr = w.drewN m)
  case atStart =>
    refine ⟨Nat.le_refl _, .inl ⟨n - 1, by omega, ?_⟩, ?_, _, rfl⟩
    · congr 1; omega
    · rw [List.drop_eq_nil_of_le (by simp; omega)]; rfl
  obtain ⟨hr, hi, rfl, m, rfl⟩ := hrel
  rcases hi with ⟨t, rfl, rfl⟩ | ⟨rfl, rfl⟩
  · have hc := H.out.cl (k + t) (by omega)
    have hst := num_from bs k n t (by omega) (by omega) hn4
    have hb1 : ((bs[k + t]'(by omega)).toNat : Int) ≤ 255 := by have := (bs[k + t]'(by omega)).toNat_lt; omega
    have hnl := num_lt (((bs.drop k).take n).drop (t + 1))
    have hnl2 : (256 : Nat) ^ (((bs.drop k).take n).drop (t + 1)).length ≤ 256 ^ 3 := Nat.pow_le_pow_right (by omega) (by simp; omega)
    have hnb : (num (((bs.drop k).take n).drop (t + 1)) : Int) ≤ 16777216 := by omega
    have hx1 : 0 ≤ (k : Int) + (t : Int) := by omega
    have hx2 : (k : Int) + (t : Int) < (bs.length : Int) := by omega
    have hx3 : ((k : Int) + (t : Int)).toNat = k + t := by omega
    have hw1 := IntWalk.i64_in ((k : Int) + (t : Int)) (by omega)
    clear hnl hnl2
    generalize num (((bs.drop k).take n).drop (t + 1)) = acc at *
    generalize hacc : num (((bs.drop k).take n).drop t) = acc' at *
    have HACC := Lib.hid hacc
    clear hacc
    generalize bs[k + t]'_ = cc at *
    have hw2 := IntWalk.i64_in (acc * 256) (by omega)
    have ht0 : 0 ≤ (t : Int) := by omega
    go_wp2_with fail
    go_quiet (fail)
    go_wp2
    go_roundg t
    case measure => omega
    case rel =>
      refine ⟨by omega, ?_, by rw [HACC.out], _, rfl⟩
      rcases Nat.eq_zero_or_pos t with h0 | h0
      · exact .inr ⟨h0, by subst h0; rfl⟩
      · exact .inl ⟨t - 1, by omega, by congr 1; omega⟩
  · have e : (k : Int) + (n : Int) = ((k + n : Nat) : Int) := by omega
    have HE := Lib.hid e
    clear e
    go_wp2
    go_ret2
    rw [HE.out]
    exact ⟨rfl, (H.out.drewN _).place _ (by omega), ((Only.refl _ _).drewN _).set (by simp) _⟩

set_option maxRecDepth 100000 in
set_option maxHeartbeats 1000000 in
theorem ref_get_none (p g k : Nat) (bs : List UInt8) (n : Int) (w : World) (h : RowAt w p g bs k) (hn : ¬ ((n = 1 ∨ n = 2 ∨ n = 4) ∧ n ≤ ((bs.length - k : Nat) : Int))) :
    Calls Try.prog 103 #[.pointer (some ⟨p, 0, none⟩), .int .i64 n] w fun e w' => e = .returned (.tuple #[.int .i64 0, .bool false]) ∧ ∃ m, w' = w.drewN m := by
  obtain ⟨A, c, h0, h1, h2, h3⟩ := h.fb
  have hk := h.fk
  have hle := h.le
  have hmx := h.mx
  unfold maxLen at h2
  by_cases hw : n = 1 ∨ n = 2 ∨ n = 4
  · have hmf : 0 ≤ mostF n := by rcases hw with rfl | rfl | rfl <;> decide
    have hm1 : decide (mostF n < 0) = false := by simp; omega
    have hd2 : (bs.length : Int) - (k : Int) < n := by omega
    clear h h3 hw hn
    go_enter Try.func103, Try.ntmps103
    go_wp2_with fail
    go_quiet ((go_at_call 100; exact Calls.quiet_of_same ((most_any _ _).mono fun e w' hh => ⟨hh.1, hh.2.symm⟩)))
    go_wp2
    go_ret2
    exact ⟨rfl, _, rfl⟩
  · have hmf : mostF n < 0 := by unfold mostF; rw [if_neg (by omega), if_neg (by omega), if_neg (by omega)]; decide
    have hm1 : decide (mostF n < 0) = true := by simp; omega
    clear h h3 hw hn
    go_enter Try.func103, Try.ntmps103
    go_wp2_with fail
    go_quiet ((go_at_call 100; exact Calls.quiet_of_same ((most_any _ _).mono fun e w' hh => ⟨hh.1, hh.2.symm⟩)))
    go_wp2
    go_ret2
    exact ⟨rfl, _, rfl⟩

set_option maxRecDepth 100000 in
set_option maxHeartbeats 1000000 in
theorem ref_take_none (p g k : Nat) (bs : List UInt8) (n : Int) (w : World) (h : RowAt w p g bs k) (hn : n < 0 ∨ ((bs.length - k : Nat) : Int) < n) :
    Calls Try.prog 55 #[.pointer (some ⟨p, 0, none⟩), .int .i64 n] w fun e w' => e = .returned (.tuple #[.slice none 0 0, .bool false]) ∧ ∃ m, w' = w.drewN m := by
  obtain ⟨A, c, h0, h1, h2, h3⟩ := h.fb
  have hk := h.fk
  have hle := h.le
  have hmx := h.mx
  unfold maxLen at h2
  by_cases hw : n < 0
  · have hm1 : decide (n < 0) = true := by simp; omega
    clear h h3 hn
    go_enter Try.func55, Try.ntmps55
    go_wp2_with fail
    go_quiet (fail)
    go_wp2
    go_ret2
    exact ⟨rfl, _, rfl⟩
  · have hm1 : decide (n < 0) = false := by simp; omega
    have hd2 : (bs.length : Int) - (k : Int) < n := by omega
    clear h h3 hn
    go_enter Try.func55, Try.ntmps55
    go_wp2_with fail
    go_quiet (fail)
    go_wp2
    go_ret2
    exact ⟨rfl, _, rfl⟩

set_option maxRecDepth 100000 in
set_option maxHeartbeats 1000000 in
theorem ref_take_any (p g k : Nat) (bs : List UInt8) (n : Nat) (w : World) (h : RowAt w p g bs k) (hn : n ≤ bs.length - k) :
    Calls Try.prog 55 #[.pointer (some ⟨p, 0, none⟩), .int .i64 n] w (TookBys w p g bs k n) := by
  obtain ⟨A, c, h0, h1, h2⟩ := row_bys h
  have hk := h.fk
  have hle := h.le
  have hmx := h.mx
  have hc := h1.le
  have hcm := h1.cm
  unfold maxLen at hcm
  have hz := h.pz 1
  have hm1 : decide ((n : Int) < 0) = false := by simp
  have hd2 : (n : Int) ≤ (bs.length : Int) - (k : Int) := by omega
  have hd : decide ((bs.length : Int) - (k : Int) < (n : Int)) = false := by simp; omega
  have hw1 := IntWalk.i64_in ((k : Int) + (n : Int)) (by omega)
  have H := Lib.hid h
  have H1 := Lib.hid h1
  clear h h1 h2
  go_enter Try.func55, Try.ntmps55
  go_wp2_with fail
  go_quiet (fail)
  go_wp2_with fail
  refine still_tail 14 (by kernel_rfl) (by kernel_rfl) ?_
  simp only [List.take_succ_cons, List.take_zero, List.drop_succ_cons, List.drop_zero]
  repeat still_step
  refine wpStill_nil ?_
  generalize hw2 : (w.drewN nq).drew = w2
  have hO2 : Only [] w w2 := by rw [← hw2]; exact ((Only.refl _ _).drewN _).drew
  clear hw2
  go_wp2_with fail
  refine (part_any A bs.length c bs k n _ _ (by exact H1.out.keep0 hO2) (by omega) (by omega) rfl).mono ?_
  rintro e w1 ⟨rfl, ho, hO⟩
  have hR := Lib.hid ((H.out.keep0 hO2).keep0 hO)
  have hk1 := hR.out.fk
  have hz1 := hR.out.pz 1
  clear hk hz h0
  go_wp2
  go_ret2
  have e : (k : Int) + (n : Int) = ((k + n : Nat) : Int) := by omega
  rw [e]
  have hOO := hO2.trans' hO
  have := H.out.lp
  have := hO2.size
  refine ⟨_, n, rfl, Nat.le_refl _, by unfold maxLen; omega, fun hn => ⟨_, rfl, by omega, ho.far (by show p ≠ w2.heap.size; omega) _⟩, hR.out.place _ (by omega), (hOO.mono (by simp)).set (by simp) _⟩

set_option maxRecDepth 100000 in
set_option maxHeartbeats 1000000 in
theorem ref_lay_none (p g k : Nat) (bs : List UInt8) (A : Option Addr) (n c : Nat) (w : World) (h : RowAt w p g bs k) (hn : bs.length - k < n) :
    Calls Try.prog 45 #[.pointer (some ⟨p, 0, none⟩), .slice A n c] w fun e w' => e = .returned (.bool false) ∧ ∃ nq, w' = w.drewN nq := by
  obtain ⟨A0, c0, h0, h1, h2, h3⟩ := h.fb
  have hk := h.fk
  have hle := h.le
  have hmx := h.mx
  unfold maxLen at h2
  have hd2 : (bs.length : Int) - (k : Int) < (n : Int) := by omega
  clear h h3
  go_enter Try.func45, Try.ntmps45
  go_wp2_with fail
  go_quiet (fail)
  go_wp2
  go_ret
  exact ⟨rfl, _, rfl⟩

set_option maxRecDepth 100000 in
set_option maxHeartbeats 1000000 in
theorem ref_lay_any (p g k : Nat) (bs : List UInt8) (A : Option Addr) (n c : Nat) (xs : List UInt8) (w : World) (h : RowAt w p g bs k) (hi : Bys w A n c xs) (hn : n ≤ bs.length - k) :
    Calls Try.prog 45 #[.pointer (some ⟨p, 0, none⟩), .slice A n c] w fun e w' => e = .returned (.bool true) ∧ RowAt w' p g (lay bs k xs) (k + n) ∧ Only [p, g] w w' := by
  obtain ⟨A0, c0, h0, h1, h2⟩ := row_bys h
  have hlen := hi.len
  rw [bvs_length] at hlen
  have hk := h.fk
  have hle := h.le
  have hmx := h.mx
  have hc := h1.le
  have hcm := h1.cm
  unfold maxLen at hcm
  have hz := h.pz 1
  have hd2 : (n : Int) ≤ (bs.length : Int) - (k : Int) := by omega
  have hd : decide ((bs.length : Int) - (k : Int) < (n : Int)) = false := by simp; omega
  have hsl := fun w => run_slice1_lo (P := Try.prog) w 23 5 Try.underlying23 (by kernel_rfl) A0 bs.length c0 (k : Int) k (bs.length - k) .i64 rfl hle rfl
  have hw1 := IntWalk.i64_in ((k : Int) + (n : Int)) (by omega)
  have hcut : 0 < n → cutA A0 c0 k = some ⟨g, k, none⟩ := fun h0' => by rw [h2 (by omega)]; exact cutA_at (show k < bs.length by omega) hc
  have HCU := Lib.hid hcut
  have HI := Lib.hid hi
  have H := Lib.hid h
  have HL := Lib.hid hlen
  clear h h1 h2 hi hlen hcut
  go_enter Try.func45, Try.ntmps45
  go_wp2_with fail
  go_quiet (fail)
  go_wp2_with fail
  go_region_law (first
    | (refine step_copy_bys rfl (.tmp 26) (.tmp 27) 23 23 rfl 5 Try.underlying23 (by kernel_rfl) (cutA A0 c0 k) A (bs.length - k) (c0 - k) n c (by simp [Act.eval, Act.put]) (by simp [Act.eval, Act.put]) g k (bvs bs) (bvs xs) (HI.out.keep0 ((Only.refl _ _).drewN _).drew) (bvs_one _) hn (by simp; omega) HCU.out (fun h0 => H.out.own (by simpa using h0)) ?_
       intro w2 hown2 hO2 hsame
       obtain ⟨hk2, hz2⟩ : w2.cell? ⟨p, 1, none⟩ = some (.int .i64 (k : Int)) ∧ w2.frozen? ⟨p, 1, none⟩ = false := by
         rcases Nat.eq_zero_or_pos bs.length with h0 | h0
         · rw [hsame (by omega)]; exact ⟨hk, hz⟩
         · have hne := H.out.ne h0
           exact ⟨hO2.cell hk (by simpa using hne), (hO2.frozen (p := ⟨p, 1, none⟩) H.out.lp (by simpa using hne)).trans hz⟩
       have HO2 := Lib.hid hO2
       have HOW2 := Lib.hid hown2
       have HS2 := Lib.hid hsame
       clear hO2 hown2 hsame))
  all_goals
    go_wp2
    go_ret
    have e : (k : Int) + (n : Int) = ((k + n : Nat) : Int) := by omega
    rw [e]
    have hO1 : Only [p, g] w (w.drewN nq).drew := ((Only.refl _ _).drewN _).drew
    have hl : (lay bs k xs).length = bs.length := lay_length _ _ _ (by have := HL.out; omega)
    refine ⟨rfl, ?_, ((hO1.trans HO2.out (by simp)).set (by simp) _)⟩
    refine RowAt.place (k := k) ?_ _ (by rw [hl]; omega)
    rcases Nat.eq_zero_or_pos bs.length with h0 | h0
    · rw [HS2.out (by omega)]
      obtain rfl : xs = [] := List.eq_nil_of_length_eq_zero (by have := HL.out; omega)
      rw [lay_nil]
      exact (H.out.drewN _).drew
    · exact ((H.out.drewN _).drew).copied h0 HO2.out (fun _ => HOW2.out (by simpa using h0)) (bvs_lay bs k xs) hl

theorem most_fit {n : Nat} (hw : n = 1 ∨ n = 2 ∨ n = 4) : mostF (n : Int) = 256 ^ n - 1 := by
  rcases hw with rfl | rfl | rfl <;> decide
theorem wide_most {n : Int} (hw : ¬ (n = 1 ∨ n = 2 ∨ n = 4)) : mostF n = -1 := by
  unfold mostF; rw [if_neg (by omega), if_neg (by omega), if_neg (by omega)]

set_option maxRecDepth 100000 in
set_option maxHeartbeats 1000000 in
theorem ref_put_narrow (p g k : Nat) (bs : List UInt8) (n : Int) (A : Option Addr) (m c : Nat) (w : World) (h : RowAt w p g bs k) (hw : ¬ (n = 1 ∨ n = 2 ∨ n = 4)) (hm : m ≤ maxLen) :
    Calls Try.prog 47 #[.pointer (some ⟨p, 0, none⟩), .int .i64 n, .slice A m c] w fun e w' => e = .returned (.bool false) ∧ ∃ k, w' = w.drewN k := by
  obtain ⟨A0, c0, h0, h1, h2, h3⟩ := h.fb
  have hk := h.fk
  have hm1 : mostF n = -1 := wide_most hw
  clear h h3 hw
  go_enter Try.func47, Try.ntmps47
  go_wp2_with (first | (go_at_call 100; refine (most_any _ _).mono ?_; rintro e w' ⟨rfl, rfl⟩))
  go_quiet (fail)
  go_wp2
  go_ret
  exact ⟨rfl, _, rfl⟩

set_option maxRecDepth 100000 in
set_option maxHeartbeats 1000000 in
theorem ref_put_full (p g k : Nat) (bs : List UInt8) (n : Nat) (A : Option Addr) (m c : Nat) (w : World) (h : RowAt w p g bs k) (hw : n = 1 ∨ n = 2 ∨ n = 4) (hn : bs.length - k < n * m) (hm : m ≤ maxLen) :
    Calls Try.prog 47 #[.pointer (some ⟨p, 0, none⟩), .int .i64 n, .slice A m c] w fun e w' => e = .returned (.bool false) ∧ ∃ nq, w' = w.drewN nq := by
  obtain ⟨A0, c0, h0, h1, h2, h3⟩ := h.fb
  have hk := h.fk
  have hmx := h.mx
  have hle := h.le
  unfold maxLen at h2 hm
  have hmf : mostF n = 256 ^ n - 1 := most_fit hw
  have hpw : (256 : Int) ^ n - 1 ≥ 0 := by rcases hw with rfl | rfl | rfl <;> decide
  have hm1 : decide (mostF (n : Int) < 0) = false := by rw [hmf]; simp; omega
  clear hmf hpw
  by_cases hml : bs.length < m
  · have hd : decide ((bs.length : Int) < (m : Int)) = true := by simp; omega
    have hd' : decide (bs.length < m) = true := by simp; omega
    clear h h3 hw hn
    go_enter Try.func47, Try.ntmps47
    go_wp2_with (first | (go_at_call 100; refine (most_any _ _).mono ?_; rintro e w' ⟨rfl, rfl⟩))
    go_quiet (fail)
    go_wp2
    go_ret
    exact ⟨rfl, _, rfl⟩
  · have hd : decide ((bs.length : Int) < (m : Int)) = false := by simp; omega
    have hd' : decide (bs.length < m) = false := by simp; omega
    have hmn : m * n ≤ 262144 := Nat.le_trans (Nat.mul_le_mul (show m ≤ 65536 by omega) (show n ≤ 4 by omega)) (by decide)
    have hmn2 : (m : Int) * (n : Int) = ((m * n : Nat) : Int) := by simp
    have hw2 := IntWalk.i64_in ((m : Int) * (n : Int)) (by rw [hmn2]; omega)
    clear hmn2
    have hw3 := IntWalk.i64_in ((bs.length : Int) - (k : Int)) (by omega)
    have hd2 : (bs.length : Int) - (k : Int) < (m : Int) * (n : Int) := by
      have e : (m : Int) * (n : Int) = ((n * m : Nat) : Int) := by simp [Int.mul_comm]
      omega
    clear h h3 hw hn hmn
    go_enter Try.func47, Try.ntmps47
    go_wp2_with (first | (go_at_call 100; refine (most_any _ _).mono ?_; rintro e w' ⟨rfl, rfl⟩))
    go_quiet (fail)
    go_wp2
    go_ret
    exact ⟨rfl, _, rfl⟩
end Go.Proofs.Ytkpagiokjihmhaa
