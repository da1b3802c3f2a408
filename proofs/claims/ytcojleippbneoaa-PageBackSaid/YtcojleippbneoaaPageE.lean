/- alike.Ints; closed facts of chapter 10. -/
import Derived.Test.YtcojleippbneoaaPageD
set_option linter.unusedVariables false
namespace Go.Kn
open Go Go.RowKit
def awakeR : List Int := [5, -1, 258]
theorem awake_page : decPage (sealed (lay zeros64 0 (les 4 (awakeR.map w32)))) = some (awakeR ++ List.replicate 12 0) := by decide +kernel
theorem zeros_page : decPage zeros64 = none := by decide +kernel
end Go.Kn
namespace Go.Proofs.Ytcojleippbneoaa
open Go Go.RowKit Go.Kn
set_option maxRecDepth 100000 in
set_option maxHeartbeats 1000000 in
theorem alike_ints_any (A : Option Addr) (n c : Nat) (xs : List Int) (B : Option Addr) (m d : Nat) (ys : List Int) (w : World) (hx : Ins w A n c xs) (hy : Ins w B m d ys) :
    Calls Try.prog 52 #[.slice A n c, .slice B m d] w fun e w' => e = .returned (.bool (decide (xs = ys))) ∧ ∃ k, w' = w.drewN k := by
  have hlx := hx.len
  have hly := hy.len
  rw [ivs_length] at hlx hly
  have hcm := hx.cm
  have hcl := hx.le
  have hdm := hy.cm
  have hdl := hy.le
  unfold maxLen at hcm hdm
  have HX := Lib.hid hx
  have HY := Lib.hid hy
  have HLX := Lib.hid hlx
  have HLY := Lib.hid hly
  clear hx hy hlx hly
  by_cases hnm : n = m
  · subst hnm
    go_enter Try.func52, Try.ntmps52
    go_wp2_with fail
    go_loopg [5] n (fun r i wr => ∃ j : Nat, j + r = n ∧ i = .int .i64 j ∧ (∃ k, wr = w.drewN k) ∧ xs.take j = ys.take j)
    case atStart => exact ⟨0, by omega, rfl, ⟨0, rfl⟩, by simp⟩
    obtain ⟨j, hj, rfl, ⟨k, rfl⟩, htk⟩ := hrel
    have HT := Lib.hid htk
    clear htk
    by_cases hlt : j < n
    · have hjx : j < xs.length := by rw [HLX.out]; exact hlt
      have hjy : j < ys.length := by rw [HLY.out]; exact hlt
      obtain ⟨ga, oa, rfl, hca⟩ := HX.out.at_ (by omega)
      obtain ⟨gb, ob, rfl, hcb⟩ := HY.out.at_ (by omega)
      have h1 := hca j (by simpa using hjx)
      have h2 := hcb j (by simpa using hjy)
      rw [ivs_get] at h1 h2
      clear hca hcb
      have hlt2 : (j : Int) < (n : Int) := by omega
      have hge : 0 ≤ (j : Int) := by omega
      have htn : ((j : Int)).toNat = j := by omega
      by_cases hxy : xs[j] = ys[j]
      · have HXY := Lib.hid hxy
        rw [← hxy] at h2
        have hne : (xs[j] != xs[j]) = false := by simp
        clear hxy
        generalize hgx : xs[j] = x at h1 h2 hne
        clear hgx
        go_wp2_with fail
        go_quiet (fail)
        go_wp2
        go_roundg (gk - 1)
        case measure => omega
        case rel =>
          refine ⟨j + 1, by omega, by go_num, ⟨_, rfl⟩, ?_⟩
          rw [List.take_succ_eq_append_getElem hjx, List.take_succ_eq_append_getElem hjy, HT.out]
          have := HXY.out
          rw [this]
      · have hne : (xs[j] != ys[j]) = true := by rw [bne_iff_ne]; exact hxy
        have hd : xs ≠ ys := fun h => hxy (by subst h; rfl)
        have HD := Lib.hid hd
        clear hxy hd
        generalize hgx : xs[j] = x at h1 hne
        generalize hgy : ys[j] = y at h2 hne
        clear hgx hgy
        go_wp2_with fail
        go_quiet (fail)
        go_wp2
        go_ret
        exact ⟨by simp [HD.out], k + nq, by rw [World.drewN_drewN]⟩
    · obtain rfl : j = n := by omega
      go_wp2
      go_ret
      have : xs = ys := by
        have := HT.out
        rwa [List.take_of_length_le (by rw [HLX.out]; omega), List.take_of_length_le (by rw [HLY.out]; omega)] at this
      exact ⟨by simp [this], k, rfl⟩
  · have hd : xs ≠ ys := fun h => hnm (by subst h; have := HLX.out; have := HLY.out; omega)
    have hne : ((n : Int) != (m : Int)) = true := by rw [bne_iff_ne]; omega
    go_enter Try.func52, Try.ntmps52
    go_wp2
    go_ret
    exact ⟨by simp [hd], 0, rfl⟩
end Go.Proofs.Ytcojleippbneoaa
