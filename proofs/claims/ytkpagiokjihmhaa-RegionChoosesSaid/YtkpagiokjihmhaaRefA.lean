
/- Contracts of the reference's bytes: Equal, Part, Bytes; of bytes.Equal. -/
import Derived.Test.YtkpagiokjihmhaaRowA
import Derived.Test.YtkpagiokjihmhaaPlain
import Derived.Deep.LoopGhost
set_option linter.unusedVariables false
namespace Go.Proofs.Ytkpagiokjihmhaa
open Go Go.RowKit Go.Kn

theorem u8_eq {a b : UInt8} : ((a.toNat : Int) = (b.toNat : Int)) ↔ a = b := by
  rw [Int.ofNat_inj, UInt8.toNat_inj]

set_option maxRecDepth 100000 in
set_option maxHeartbeats 1000000 in
theorem equal_any (A : Option Addr) (n c : Nat) (xs : List UInt8) (B : Option Addr) (m d : Nat) (ys : List UInt8) (w : World) (hx : Bys w A n c xs) (hy : Bys w B m d ys) :
    Calls Try.prog 56 #[.slice A n c, .slice B m d] w fun e w' => e = .returned (.bool (decide (xs = ys))) ∧ ∃ k, w' = w.drewN k := by
  have hlx := hx.len
  have hly := hy.len
  rw [bvs_length] at hlx hly
  have hcm := hx.cm
  have hcl := hx.le
  have hdm := hy.cm
  have hdl := hy.le
  unfold maxLen at hcm hdm
  have HX := Lib.hid hx
  have HY := Lib.hid hy
  have HLX := Lib.hid hlx
  have HLY := Lib.hid hly
  clear hx hy hlx hly
  by_cases hnm : n = m
  · subst hnm
    go_enter Try.func56, Try.ntmps56
    go_wp2_with fail
    go_loopg [5] n (fun r i wr => ∃ j : Nat, j + r = n ∧ i = .int .i64 j ∧ (∃ k, wr = w.drewN k) ∧ xs.take j = ys.take j)
    case atStart => exact ⟨0, by omega, rfl, ⟨0, rfl⟩, by simp⟩
    obtain ⟨j, hj, rfl, ⟨k, rfl⟩, htk⟩ := hrel
    have HT := Lib.hid htk
    clear htk
    by_cases hlt : j < n
    · have hjx : j < xs.length := by rw [HLX.out]; exact hlt
      have hjy : j < ys.length := by rw [HLY.out]; exact hlt
      obtain ⟨ga, oa, rfl, hca⟩ := HX.out.at_ (by omega)
      obtain ⟨gb, ob, rfl, hcb⟩ := HY.out.at_ (by omega)
      have h1 := hca j (by simpa using hjx)
      have h2 := hcb j (by simpa using hjy)
      rw [bvs_get] at h1 h2
      clear hca hcb
      have hlt2 : (j : Int) < (n : Int) := by omega
      have hge : 0 ≤ (j : Int) := by omega
      have htn : ((j : Int)).toNat = j := by omega
      by_cases hxy : xs[j] = ys[j]
      · have HXY := Lib.hid hxy
        rw [← hxy] at h2
        have hne : (((xs[j]).toNat : Int) != ((xs[j]).toNat : Int)) = false := by simp
        clear hxy
        generalize hgx : xs[j] = x at h1 h2 hne
        clear hgx
        go_wp2_with fail
        go_quiet (fail)
        go_wp2
        go_roundg (gk - 1)
        case measure => omega
        case rel =>
          refine ⟨j + 1, by omega, by go_num, ⟨_, rfl⟩, ?_⟩
          rw [List.take_succ_eq_append_getElem hjx, List.take_succ_eq_append_getElem hjy, HT.out]
          have := HXY.out
          rw [this]
      · have hne : (((xs[j]).toNat : Int) != ((ys[j]).toNat : Int)) = true := by rw [bne_iff_ne]; exact fun h => hxy (u8_eq.1 h)
        have hd : xs ≠ ys := fun h => hxy (by subst h; rfl)
        have HD := Lib.hid hd
        clear hxy hd
        generalize hgx : xs[j] = x at h1 hne
        generalize hgy : ys[j] = y at h2 hne
        clear hgx hgy
        go_wp2_with fail
        go_quiet (fail)
        go_wp2
        go_ret
        exact ⟨by simp [HD.out], k + nq, by rw [World.drewN_drewN]⟩
    · obtain rfl : j = n := by omega
      go_wp2
      go_ret
      have : xs = ys := by
        have := HT.out
        rwa [List.take_of_length_le (by rw [HLX.out]; omega), List.take_of_length_le (by rw [HLY.out]; omega)] at this
      exact ⟨by simp [this], k, rfl⟩
  · have hd : xs ≠ ys := fun h => hnm (by subst h; have := HLX.out; have := HLY.out; omega)
    have hne : ((n : Int) != (m : Int)) = true := by rw [bne_iff_ne]; omega
    go_enter Try.func56, Try.ntmps56
    go_wp2
    go_ret
    exact ⟨by simp [hd], 0, rfl⟩

theorem alike_bytes_any (A : Option Addr) (n c : Nat) (xs : List UInt8) (B : Option Addr) (m d : Nat) (ys : List UInt8) (w : World) (hx : Bys w A n c xs) (hy : Bys w B m d ys) :
    Calls Try.prog 15 #[.slice A n c, .slice B m d] w fun e w' => e = .returned (.bool (decide (xs = ys))) ∧ ∃ k, w' = w.drewN k := by
  go_enter Try.func15, Try.ntmps15
  go_wp2_with fail
  refine (equal_any A n c xs B m d ys _ hx hy).mono ?_
  rintro e w' ⟨rfl, k, rfl⟩
  go_wp2
  go_ret
  exact ⟨rfl, _, rfl⟩

set_option maxRecDepth 100000 in
set_option maxHeartbeats 1000000 in
/-- bytes from l to h, in new memory -/
theorem part_any (A : Option Addr) (n c : Nat) (bs : List UInt8) (l m : Nat) (hi : Int) (w : World) (h : Bys w A n c bs) (hlm : l + m ≤ n) (hn : n ≤ 1000000) (ehi : hi = (l : Int) + (m : Int)) :
    Calls Try.prog 102 #[.slice A n c, .int .i64 l, .int .i64 hi] w fun e w' => e = .returned (.slice (some ⟨w.heap.size, 0, none⟩) m m) ∧ Own w' w.heap.size (bvs ((bs.drop l).take m)) ∧ Only [] w w' := by
  subst ehi
  have hlen := h.len
  rw [bvs_length] at hlen
  have hcm := h.cm
  have hcl := h.le
  unfold maxLen at hcm
  have hmk := make_bys m (by omega)
  have hsl := fun w => run_slice1 (P := Try.prog) w 23 5 Try.underlying23 (by kernel_rfl) A n c (l : Int) ((l : Int) + (m : Int)) l (l + m) m .i64 .i64 rfl (by omega) (by omega) (by omega) (by omega)
  have hsub : (l : Int) + (m : Int) - (l : Int) = (m : Int) := by omega
  have hcut := (h.alloc (.cells (bvs (List.replicate m 0)).toArray 5)).cut (l := l) (m := m) hlm
  rw [bvs_cut] at hcut
  have HC := Lib.hid hcut
  have hown := Own.new w (bvs (List.replicate m 0)).toArray 5
  rw [List.toList_toArray] at hown
  have HR := Lib.hid (show 0 + m ≤ (bvs (List.replicate m 0)).length by simp)
  have HO := Lib.hid hown
  have HL := Lib.hid hlen
  clear h hcut hown hlen
  go_enter Try.func102, Try.ntmps102
  go_wp2_with (first
    | (with_reducible refine wpList_copy_bys rfl (.tmp 12) (.tmp 16) 23 23 rfl 5 Try.underlying23 (by kernel_rfl) (some ⟨w.heap.size, 0, none⟩) (cutA A c l) m m m (c - l) rfl rfl w.heap.size 0 (bvs (List.replicate m 0)) (bvs ((bs.drop l).take m)) HC.out (bvs_one _) (Nat.le_refl _) HR.out (fun _ => rfl) (fun _ => HO.out) ?_; intro w2 hown2 hO2 hsame))
  go_ret
  have e : (bvs (List.replicate m 0)).take 0 ++ (bvs ((bs.drop l).take m) ++ (bvs (List.replicate m 0)).drop (0 + (bvs ((bs.drop l).take m)).length)) = bvs ((bs.drop l).take m) := by
    have h2 : (bvs (List.replicate m 0)).drop (0 + (bvs ((bs.drop l).take m)).length) = [] := List.drop_eq_nil_of_le (by simp; have := HL.out; omega)
    rw [List.take_zero, List.nil_append, h2, List.append_nil]
  refine ⟨rfl, ?_, ((Only.refl _ _).alloc _).trans hO2 (by simp)⟩
  rcases Nat.eq_zero_or_pos m with h0 | h0
  · have e2 : bvs ((bs.drop l).take m) = [] := by subst h0; simp [bvs]
    rw [e2, hsame h0]
    subst h0
    exact HO.out
  · rw [← e]
    exact hown2 (by simpa using h0)
end Go.Proofs.Ytkpagiokjihmhaa
