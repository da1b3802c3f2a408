
/- alike.Ints and alike.Events. -/
import Derived.Test.YtkpagiokjihmhaaScrO
import Derived.Test.YtkpagiokjihmhaaItemD
import Derived.BigQuiet
set_option linter.unusedVariables false
set_option linter.unusedSimpArgs false
namespace Go.Kn
deriving instance DecidableEq for Ev
end Go.Kn
namespace Go.Proofs.Ytkpagiokjihmhaa
open Go Go.RowKit Go.Kn
set_option maxRecDepth 100000 in
set_option maxHeartbeats 1000000 in
theorem alike_ints_any (A : Option Addr) (n c : Nat) (xs : List Int) (B : Option Addr) (m d : Nat) (ys : List Int) (w : World) (hx : Ins w A n c xs) (hy : Ins w B m d ys) :
    Calls Try.prog 61 #[.slice A n c, .slice B m d] w fun e w' => e = .returned (.bool (decide (xs = ys))) ∧ ∃ k, w' = w.drewN k := by
  have hlx := hx.len
  have hly := hy.len
  rw [ivs_length] at hlx hly
  have hcm := hx.cm
  have hcl := hx.le
  have hdm := hy.cm
  have hdl := hy.le
  unfold maxLen at hcm hdm
  have HX := Lib.hid hx
  have HY := Lib.hid hy
  have HLX := Lib.hid hlx
  have HLY := Lib.hid hly
  clear hx hy hlx hly
  by_cases hnm : n = m
  · subst hnm
    go_enter Try.func61, Try.ntmps61
    go_wp2_with fail
    go_loopg [5] n (fun r i wr => ∃ j : Nat, j + r = n ∧ i = .int .i64 j ∧ (∃ k, wr = w.drewN k) ∧ xs.take j = ys.take j)
    case atStart => exact ⟨0, by omega, rfl, ⟨0, rfl⟩, by simp⟩
    obtain ⟨j, hj, rfl, ⟨k, rfl⟩, htk⟩ := hrel
    have HT := Lib.hid htk
    clear htk
    by_cases hlt : j < n
    · have hjx : j < xs.length := by rw [HLX.out]; exact hlt
      have hjy : j < ys.length := by rw [HLY.out]; exact hlt
      obtain ⟨ga, oa, rfl, hca⟩ := HX.out.at_ (by omega)
      obtain ⟨gb, ob, rfl, hcb⟩ := HY.out.at_ (by omega)
      have h1 := hca j (by simpa using hjx)
      have h2 := hcb j (by simpa using hjy)
      rw [ivs_get] at h1 h2
      clear hca hcb
      have hlt2 : (j : Int) < (n : Int) := by omega
      have hge : 0 ≤ (j : Int) := by omega
      have htn : ((j : Int)).toNat = j := by omega
      by_cases hxy : xs[j] = ys[j]
      · have HXY := Lib.hid hxy
        rw [← hxy] at h2
        have hne : (xs[j] != xs[j]) = false := by simp
        clear hxy
        generalize hgx : xs[j] = x at h1 h2 hne
        clear hgx
        go_wp2_with fail
        go_quiet (fail)
        go_wp2
        go_roundg (gk - 1)
        case measure => omega
        case rel =>
          refine ⟨j + 1, by omega, by go_num, ⟨_, rfl⟩, ?_⟩
          rw [List.take_succ_eq_append_getElem hjx, List.take_succ_eq_append_getElem hjy, HT.out]
          have := HXY.out
          rw [this]
      · have hne : (xs[j] != ys[j]) = true := by rw [bne_iff_ne]; exact hxy
        have hd : xs ≠ ys := fun h => hxy (by subst h; rfl)
        have HD := Lib.hid hd
        clear hxy hd
        generalize hgx : xs[j] = x at h1 hne
        generalize hgy : ys[j] = y at h2 hne
        clear hgx hgy
        go_wp2_with fail
        go_quiet (fail)
        go_wp2
        go_ret
        exact ⟨by simp [HD.out], k + nq, by rw [World.drewN_drewN]⟩
    · obtain rfl : j = n := by omega
      go_wp2
      go_ret
      have : xs = ys := by
        have := HT.out
        rwa [List.take_of_length_le (by rw [HLX.out]; omega), List.take_of_length_le (by rw [HLY.out]; omega)] at this
      exact ⟨by simp [this], k, rfl⟩
  · have hd : xs ≠ ys := fun h => hnm (by subst h; have := HLX.out; have := HLY.out; omega)
    have hne : ((n : Int) != (m : Int)) = true := by rw [bne_iff_ne]; omega
    go_enter Try.func61, Try.ntmps61
    go_wp2
    go_ret
    exact ⟨by simp [hd], 0, rfl⟩

set_option maxRecDepth 100000 in
set_option maxHeartbeats 40000000 in
theorem alike_events_any (A : Option Addr) (n c : Nat) (xs : List Ev) (B : Option Addr) (m d : Nat) (ys : List Ev) (w : World) (hx : Evs w A n c xs) (hy : Evs w B m d ys) :
    Calls Try.prog 16 #[.slice A n c, .slice B m d] w fun e w' => e = .returned (.bool (decide (xs = ys))) ∧ ∃ k, w' = w.drewN k := by
  have hlx := hx.len
  have hly := hy.len
  have hcm := hx.cm
  have hcl := hx.le
  have hdm := hy.cm
  have hdl := hy.le
  unfold maxLen at hcm hdm
  have HX := Lib.hid hx
  have HY := Lib.hid hy
  have HLX := Lib.hid hlx
  have HLY := Lib.hid hly
  clear hx hy hlx hly
  by_cases hnm : n = m
  · subst hnm
    go_enter Try.func16, Try.ntmps16
    go_wp2_with fail
    go_loopg [5] n (fun r i wr => ∃ j : Nat, j + r = n ∧ i = .int .i64 j ∧ (∃ k, wr = w.drewN k) ∧ xs.take j = ys.take j)
    case atStart => exact ⟨0, by omega, rfl, ⟨0, rfl⟩, by simp⟩
    obtain ⟨j, hj, rfl, ⟨k, rfl⟩, htk⟩ := hrel
    have HT := Lib.hid htk
    clear htk
    by_cases hlt : j < n
    · have hjx : j < xs.length := by rw [HLX.out]; exact hlt
      have hjy : j < ys.length := by rw [HLY.out]; exact hlt
      obtain ⟨ga, oa, rfl, hca⟩ := HX.out.at_ (by omega)
      obtain ⟨gb, ob, rfl, hcb⟩ := HY.out.at_ (by omega)
      obtain ⟨p0, p1, p2, p3, PB, pm, pd, p4, hp4⟩ := hca j hjx
      obtain ⟨q0, q1, q2, q3, QB, qm, qd, q4, hq4⟩ := hcb j hjy
      have HP4 := Lib.hid hp4
      have HQ4 := Lib.hid hq4
      clear hca hcb hp4 hq4
      have hlt2 : (j : Int) < (n : Int) := by omega
      have hge : 0 ≤ (j : Int) := by omega
      have htn : ((j : Int)).toNat = j := by omega
      have hxy : xs[j] = ys[j] ↔ (xs[j].k = ys[j].k ∧ xs[j].a = ys[j].a ∧ xs[j].b = ys[j].b ∧ xs[j].y = ys[j].y) ∧ xs[j].ps = ys[j].ps := by
        rcases hh : xs[j] with ⟨a1, a2, a3, a4, a5⟩
        rcases hh2 : ys[j] with ⟨b1, b2, b3, b4, b5⟩
        simp [and_assoc]
      have HXY := Lib.hid hxy
      clear hxy
      generalize hg0 : xs[j].k = x0 at *
      generalize hg1 : xs[j].a = x1 at *
      generalize hg2 : xs[j].b = x2 at *
      generalize hg3 : xs[j].y = x3 at *
      generalize hg8 : xs[j].ps = x4 at *
      generalize hg4 : ys[j].k = y0 at *
      generalize hg5 : ys[j].a = y1 at *
      generalize hg6 : ys[j].b = y2 at *
      generalize hg7 : ys[j].y = y3 at *
      generalize hg9 : ys[j].ps = y4 at *
      clear hg0 hg1 hg2 hg3 hg4 hg5 hg6 hg7 hg8 hg9
      by_cases hb : x0 = y0 ∧ x1 = y1 ∧ x2 = y2 ∧ x3 = y3
      · obtain ⟨rfl, rfl, rfl, rfl⟩ := hb
        obtain ⟨bb, hbb⟩ : ∃ bb, decide (x4 = y4) = bb := ⟨_, rfl⟩
        have HBB := Lib.hid hbb
        clear hbb
        go_wp2_with fail
        go_region_held3 (fun w' => w'.cell? ⟨ga, oa + j * 5, none⟩ = some (.int .i64 x0) ∧ w'.cell? ⟨ga, oa + j * 5 + 1, none⟩ = some (.int .i64 x1) ∧ w'.cell? ⟨ga, oa + j * 5 + 2, none⟩ = some (.int .i64 x2) ∧ w'.cell? ⟨ga, oa + j * 5 + 3, none⟩ = some (.int .i64 x3) ∧ w'.cell? ⟨ga, oa + j * 5 + 4, none⟩ = some (.slice PB pm pd) ∧
            w'.cell? ⟨gb, ob + j * 5, none⟩ = some (.int .i64 x0) ∧ w'.cell? ⟨gb, ob + j * 5 + 1, none⟩ = some (.int .i64 x1) ∧ w'.cell? ⟨gb, ob + j * 5 + 2, none⟩ = some (.int .i64 x2) ∧ w'.cell? ⟨gb, ob + j * 5 + 3, none⟩ = some (.int .i64 x3) ∧ w'.cell? ⟨gb, ob + j * 5 + 4, none⟩ = some (.slice QB qm qd))
          (first | exact ⟨p0, p1, p2, p3, p4, q0, q1, q2, q3, q4⟩ | go_keep)
          (first
          | (go_at_call 61; refine (alike_ints_any PB pm pd x4 QB qm qd y4 _ (by exact (HP4.out.drewN k).drew) (by exact (HQ4.out.drewN k).drew)).mono ?_
             rintro e w3 ⟨rfl, kq, rfl⟩
             rw [HBB.out]))
        all_goals
          cases bb
          · have hd : xs ≠ ys := by
              intro h
              subst h
              have h1 := (HXY.out.1 rfl).2
              have h2 := HBB.out
              simp [h1] at h2
            have HD := Lib.hid hd
            clear hd
            go_wp2
            go_ret
            exact ⟨by simp [HD.out], _, rfl⟩
          · go_wp2
            go_roundg (gk - 1)
            case measure => omega
            case rel =>
              refine ⟨j + 1, by omega, by go_num, ⟨_, rfl⟩, ?_⟩
              have h1 := HXY.out.2 ⟨⟨trivial, trivial, trivial, trivial⟩, by simpa using HBB.out⟩
              rw [List.take_succ_eq_append_getElem hjx, List.take_succ_eq_append_getElem hjy, HT.out, h1]
      · have hd : xs ≠ ys := by
          intro h
          subst h
          have := HXY.out.1 rfl
          exact hb this.1
        have HD := Lib.hid hd
        clear hd
        have hc : x0 ≠ y0 ∨ (x0 = y0 ∧ x1 ≠ y1) ∨ (x0 = y0 ∧ x1 = y1 ∧ x2 ≠ y2) ∨ (x0 = y0 ∧ x1 = y1 ∧ x2 = y2 ∧ x3 ≠ y3) := by omega
        clear hb HXY
        rcases hc with h0 | ⟨rfl, h0⟩ | ⟨rfl, rfl, h0⟩ | ⟨rfl, rfl, rfl, h0⟩
        · have hb0 : (x0 != y0) = true := by rw [bne_iff_ne]; exact h0
          go_wp2_with fail
          go_big_quiet (fail)
          go_wp2
          go_ret
          exact ⟨by simp [HD.out], k + nq, by rw [World.drewN_drewN]⟩
        · have hb0 : (x0 != x0) = false := by simp
          have hb1 : (x1 != y1) = true := by rw [bne_iff_ne]; exact h0
          go_wp2_with fail
          go_big_quiet (fail)
          go_wp2
          go_ret
          exact ⟨by simp [HD.out], k + nq, by rw [World.drewN_drewN]⟩
        · have hb0 : (x0 != x0) = false := by simp
          have hb1 : (x1 != x1) = false := by simp
          have hb2 : (x2 != y2) = true := by rw [bne_iff_ne]; exact h0
          go_wp2_with fail
          go_big_quiet (fail)
          go_wp2
          go_ret
          exact ⟨by simp [HD.out], k + nq, by rw [World.drewN_drewN]⟩
        · have hb0 : (x0 != x0) = false := by simp
          have hb1 : (x1 != x1) = false := by simp
          have hb2 : (x2 != x2) = false := by simp
          have hb3 : (x3 != y3) = true := by rw [bne_iff_ne]; exact h0
          go_wp2_with fail
          go_big_quiet (fail)
          go_wp2
          go_ret
          exact ⟨by simp [HD.out], k + nq, by rw [World.drewN_drewN]⟩
    · obtain rfl : j = n := by omega
      go_wp2
      go_ret
      have : xs = ys := by
        have := HT.out
        rwa [List.take_of_length_le (by rw [HLX.out]; omega), List.take_of_length_le (by rw [HLY.out]; omega)] at this
      exact ⟨by simp [this], k, rfl⟩
  · have hd : xs ≠ ys := fun h => hnm (by subst h; have := HLX.out; have := HLY.out; omega)
    have hne : ((n : Int) != (m : Int)) = true := by rw [bne_iff_ne]; omega
    go_enter Try.func16, Try.ntmps16
    go_wp2
    go_ret
    exact ⟨by simp [hd], 0, rfl⟩
end Go.Proofs.Ytkpagiokjihmhaa
