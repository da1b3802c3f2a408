/- item.Decode of any bytes; the likeness of items. -/
import Derived.Test.YtoibehikojkoiaaItemC
set_option linter.unusedVariables false
namespace Go.Kn
open Go Go.RowKit
instance : DecidableEq It := fun a b => by
  obtain ⟨a1, a2, a3, a4⟩ := a
  obtain ⟨b1, b2, b3, b4⟩ := b
  exact decidable_of_iff (a1 = b1 ∧ a2 = b2 ∧ a3 = b3 ∧ a4 = b4) (by simp)
end Go.Kn
namespace Go.Proofs.Ytoibehikojkoiaa
open Go Go.RowKit Go.Kn

set_option maxRecDepth 100000 in
set_option maxHeartbeats 4000000 in
theorem item_dec_far (A : Option Addr) (n c : Nat) (bs : List UInt8) (w : World) (hi : Bys w A n c bs) (hn : 65536 < n) :
    Calls Try.prog 87 #[.slice A n c] w (DecSays w (decItems bs) 2) := by
  have hlen := hi.len
  rw [bvs_length] at hlen
  have HI := Lib.hid hi
  have hdn : decItems bs = none := by
    unfold decItems
    rw [if_neg (by omega)]
  have HDN := Lib.hid hdn
  have hne : ¬ ([] : List UInt8) = bs := by
    intro h
    subst h
    simp at hlen
    omega
  have hne' : bs ≠ [] := fun h => hne h.symm
  have hd : decide (bs = ([] : List UInt8)) = false := by simp [hne']
  clear hi hlen hdn hne hne'
  go_enter Try.func87, Try.ntmps87
  go_wp2_with fail
  refine (from_none A n c _ hn).mono ?_
  rintro e w1 ⟨rfl, rfl⟩
  go_wp2_with fail
  go_loopg [2] 0 (fun r v wr => v = .slice none 0 0 ∧ Only [] w wr)
  case atStart => exact ⟨rfl, Only.refl _ _⟩
  obtain ⟨rfl, hO⟩ := hrel
  have HO := Lib.hid hO
  clear hO
  go_wp2_with fail
  refine (left_nil _).mono ?_
  rintro e w2 ⟨rfl, rfl⟩
  go_wp2_with fail
  refine (item_enc_any none 0 0 [] _ (by exact Its.nil _)).mono ?_
  rintro e w3 ⟨A3, c3, rfl, hb3, hn3, hO3⟩
  have hen : encItems [] = some [] := by decide
  rw [hen] at hb3
  simp only [Option.getD_some, List.length_nil] at hb3
  have HB := Lib.hid (HI.out.keep0 (HO.out.trans' hO3))
  have HO3 := Lib.hid (HO.out.trans' hO3)
  have HB3 := Lib.hid hb3
  clear hn3 hO3 hb3
  rw [hen]
  simp only [Option.getD_some, Option.isSome_some, if_true, List.length_nil]
  go_wp2_with fail
  refine (bytes_equal_any A3 0 c3 [] A n c bs _ (by exact HB3.out) (by exact HB.out)).mono ?_
  rintro e w4 ⟨rfl, rfl⟩
  go_wp2
  go_ret2
  exact DecSays.no HDN.out HO3.out

theorem item_dec_all (A : Option Addr) (n c : Nat) (bs : List UInt8) (w : World) (hi : Bys w A n c bs) :
    Calls Try.prog 87 #[.slice A n c] w (DecSays w (decItems bs) 2) := by
  by_cases hn : n ≤ 65536
  · exact item_dec_any A n c bs w hi hn
  · exact item_dec_far A n c bs w hi (by omega)

@[go_sem] theorem eq_item (a b c d e f g h : Int) (w : World) : (Op.equalIn 10000 87 (.agg #[.int .i64 a, .int .i64 b, .int .i64 c, .int .i64 d]) (.agg #[.int .i64 e, .int .i64 f, .int .i64 g, .int .i64 h])).run Try.prog w = .ok (a == e && b == f && c == g && d == h) w := by
  have u3 := Try.underlying3
  have a3 := Try.isAgg3
  have z3 := Try.sizeOf3
  have hS : Try.prog.underlying 87 = some (.struct (Try.prog.fieldsOf 87)) := by kernel_rfl
  rw [show (10000 : Nat) = 9999 + 1 from rfl, run_equalIn_agg w 9999 87 _ _ hS Try.stoodInHeld87]
  simp only [Program.fieldsOf, Try.underlying87]
  go_simp
  by_cases h1 : a = e <;> by_cases h2 : b = f <;> by_cases h3 : c = g <;> by_cases h4 : d = h <;> simp [h1, h2, h3, h4]

set_option maxRecDepth 100000 in
set_option maxHeartbeats 4000000 in
theorem alike_items_any (A : Option Addr) (n c : Nat) (xs : List It) (B : Option Addr) (m d : Nat) (ys : List It) (w : World) (hx : Its w A n c xs) (hy : Its w B m d ys) :
    Calls Try.prog 97 #[.slice A n c, .slice B m d] w fun e w' => e = .returned (.bool (decide (xs = ys))) ∧ ∃ k, w' = w.drewN k := by
  have hlx := hx.len
  have hly := hy.len
  have hcm := hx.cm
  have hcl := hx.le
  have hdm := hy.cm
  have hdl := hy.le
  unfold maxLen at hcm hdm
  have HX := Lib.hid hx
  have HY := Lib.hid hy
  have HLX := Lib.hid hlx
  have HLY := Lib.hid hly
  clear hx hy hlx hly
  by_cases hnm : n = m
  · subst hnm
    go_enter Try.func97, Try.ntmps97
    go_wp2_with fail
    go_loopg [5] n (fun r i wr => ∃ j : Nat, j + r = n ∧ i = .int .i64 j ∧ (∃ k, wr = w.drewN k) ∧ xs.take j = ys.take j)
    case atStart => exact ⟨0, by omega, rfl, ⟨0, rfl⟩, by simp⟩
    obtain ⟨j, hj, rfl, ⟨k, rfl⟩, htk⟩ := hrel
    have HT := Lib.hid htk
    clear htk
    by_cases hlt : j < n
    · have hjx : j < xs.length := by rw [HLX.out]; exact hlt
      have hjy : j < ys.length := by rw [HLY.out]; exact hlt
      obtain ⟨ga, oa, rfl, hca⟩ := HX.out.at_ (by omega)
      obtain ⟨gb, ob, rfl, hcb⟩ := HY.out.at_ (by omega)
      obtain ⟨p0, p1, p2, p3⟩ := hca j hjx
      obtain ⟨q0, q1, q2, q3⟩ := hcb j hjy
      clear hca hcb
      have hlt2 : (j : Int) < (n : Int) := by omega
      have hge : 0 ≤ (j : Int) := by omega
      have htn : ((j : Int)).toNat = j := by omega
      have hxy : decide (xs[j] = ys[j]) = (xs[j].k == ys[j].k && xs[j].b == ys[j].b && xs[j].c == ys[j].c && xs[j].v == ys[j].v) := by
        rcases hh : xs[j] with ⟨a1, a2, a3, a4⟩
        rcases hh2 : ys[j] with ⟨b1, b2, b3, b4⟩
        rw [Bool.eq_iff_iff]; simp [and_assoc]
      have HXY := Lib.hid hxy
      clear hxy
      generalize hg0 : xs[j].k = x0 at *
      generalize hg1 : xs[j].b = x1 at *
      generalize hg2 : xs[j].c = x2 at *
      generalize hg3 : xs[j].v = x3 at *
      generalize hg4 : ys[j].k = y0 at *
      generalize hg5 : ys[j].b = y1 at *
      generalize hg6 : ys[j].c = y2 at *
      generalize hg7 : ys[j].v = y3 at *
      clear hg0 hg1 hg2 hg3 hg4 hg5 hg6 hg7
      have hgd := Try.eqGuardType87
      by_cases hb : x0 = y0 ∧ x1 = y1 ∧ x2 = y2 ∧ x3 = y3
      · obtain ⟨rfl, rfl, rfl, rfl⟩ := hb
        go_wp2_with fail
        go_quiet (fail)
        go_wp2
        go_roundg (gk - 1)
        case measure => omega
        case rel =>
          refine ⟨j + 1, by omega, by go_num, ⟨_, rfl⟩, ?_⟩
          have h1 := HXY.out
          simp at h1
          rw [List.take_succ_eq_append_getElem hjx, List.take_succ_eq_append_getElem hjy, HT.out, h1]
      · have hd : xs ≠ ys := by
          intro h
          subst h
          have := HXY.out
          simp at this
          exact hb (by simp [this])
        have HD := Lib.hid hd
        clear hd
        have hc : x0 ≠ y0 ∨ (x0 = y0 ∧ x1 ≠ y1) ∨ (x0 = y0 ∧ x1 = y1 ∧ x2 ≠ y2) ∨ (x0 = y0 ∧ x1 = y1 ∧ x2 = y2 ∧ x3 ≠ y3) := by omega
        clear hb HXY
        rcases hc with h0 | ⟨rfl, h0⟩ | ⟨rfl, rfl, h0⟩ | ⟨rfl, rfl, rfl, h0⟩
        all_goals
          go_wp2_with fail
          go_quiet (fail)
          go_wp2
          go_ret
          exact ⟨by simp [HD.out], k + nq, by rw [World.drewN_drewN]⟩
    · obtain rfl : j = n := by omega
      go_wp2
      go_ret
      have : xs = ys := by
        have := HT.out
        rwa [List.take_of_length_le (by rw [HLX.out]; omega), List.take_of_length_le (by rw [HLY.out]; omega)] at this
      exact ⟨by simp [this], k, rfl⟩
  · have hd : xs ≠ ys := fun h => hnm (by subst h; have := HLX.out; have := HLY.out; omega)
    have hne : ((n : Int) != (m : Int)) = true := by rw [bne_iff_ne]; omega
    go_enter Try.func97, Try.ntmps97
    go_wp2
    go_ret
    exact ⟨by simp [hd], 0, rfl⟩
end Go.Proofs.Ytoibehikojkoiaa
