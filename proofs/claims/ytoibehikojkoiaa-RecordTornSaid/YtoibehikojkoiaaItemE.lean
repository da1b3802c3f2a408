/- Contract of the reference's ItemOf. -/
import Derived.Test.YtoibehikojkoiaaItemD
set_option linter.unusedVariables false
namespace Go.Proofs.Ytoibehikojkoiaa
open Go Go.RowKit Go.Kn

theorem dec_long {bs : List UInt8} (h : 42 < bs.length ∨ bs.length % 7 ≠ 0) : decItems bs = none := by
  unfold decItems
  rw [if_neg (by omega)]
theorem dec_badat {bs : List UInt8} {j m : Nat} (h1 : bs.length = 7 * m) (hj : j < m) (hm : (itAt bs j).may = false) : decItems bs = none := by
  unfold decItems
  rw [if_neg]
  rintro ⟨_, _, ha⟩
  have h2 : bs.length / 7 = m := by omega
  rw [h2] at ha
  have := List.all_eq_true.1 ha (itAt bs j) (by simp only [parse, List.mem_map, List.mem_range]; exact ⟨j, hj, rfl⟩)
  rw [hm] at this
  cases this
theorem dec_good {bs : List UInt8} {m : Nat} (h1 : bs.length = 7 * m) (h6 : bs.length ≤ 42) (hm : (parse bs m).all It.may = true) : decItems bs = some (parse bs m) := by
  unfold decItems
  have h2 : bs.length / 7 = m := by omega
  rw [h2, if_pos ⟨h6, by omega, hm⟩]

set_option maxRecDepth 100000 in
set_option maxHeartbeats 4000000 in
theorem ref_item_of_any (A : Option Addr) (n c : Nat) (bs : List UInt8) (w : World) (hi : Bys w A n c bs) :
    Calls Try.prog 95 #[.slice A n c] w (DecSays w (decItems bs) 2) := by
  obtain ⟨i0, hi0, hz0, hz1, hz2⟩ := info_parts Try.infoItem
  have hlen := hi.len
  rw [bvs_length] at hlen
  have hcl := hi.le
  have hcm := hi.cm
  unfold maxLen at hcm
  have HI := Lib.hid hi
  have HL := Lib.hid hlen
  clear hi hlen
  by_cases h42 : 42 < n
  · have hd : decide (42 < (n : Int)) = true := by simp; omega
    go_enter Try.func95, Try.ntmps95
    go_wp2
    go_ret2
    exact DecSays.no (dec_long (by have := HL.out; omega)) (Only.refl _ _)
  · have hd : decide (42 < (n : Int)) = false := by simp; omega
    by_cases h7 : n % 7 = 0
    · obtain ⟨m, rfl⟩ : ∃ m, n = 7 * m := ⟨n / 7, by omega⟩
      have ht : ((7 * m : Nat) : Int).tmod 7 = 0 := by rw [Int.tmod_eq_emod_of_nonneg (by omega)]; omega
      go_enter Try.func95, Try.ntmps95
      go_wp2_with fail
      refine (ref_from_any A (7 * m) c bs _ HI.out (by omega)).mono ?_
      rintro e w1 ⟨p, g, rfl, hp, hg, hr1, hO1⟩
      have HR1 := Lib.hid hr1
      have HO1 := Lib.hid hO1
      clear hr1 hO1
      go_wp2_with fail
      go_loopg [5] m (fun r v wr => ∃ (j : Nat), j + r = m ∧ GathN wr w.heap.size 87 4 v j (itsV (parse bs j)) ∧ RowAt wr p g bs (7 * j) ∧ Only [] w wr ∧ (∀ q, v.ownBlock = some q → q ≠ p ∧ q ≠ g) ∧ (parse bs j).all It.may = true)
      case atStart => exact ⟨0, by omega, GathN.nil _ _ _ _ HO1.out.size, HR1.out, HO1.out, by simp [Value.ownBlock], by simp [parse]⟩
      obtain ⟨j, hj, hG, hr, hO, hne, hal⟩ := hrel
      have HG := Lib.hid hG
      have HR := Lib.hid hr
      have HO := Lib.hid hO
      have HNE := Lib.hid hne
      have HAL := Lib.hid hal
      obtain ⟨Al, cl, rfl, hits, hown⟩ := hG.its (parse_length bs j)
      have HITS := Lib.hid hits
      have HOWN := Lib.hid hown
      have hlp := hr.lp
      have hlg := hr.lg
      have hfk := hr.fk
      clear hG hr hO hne hal hits hown
      by_cases hgo : j < m
      · have hx : ((7 * j : Nat) : Int) < ((7 * m : Nat) : Int) := by omega
        have hf0 : w.heap.size ≤ wr.heap.size := HO.out.size
        go_wp2_with fail
        generalize hf : wr.heap.size = f at *
        have hb0 : Own (wr.alloc (.cells #[.int .i64 0, .int .i64 0, .int .i64 0, .int .i64 0] 87)) f [.int .i64 0, .int .i64 0, .int .i64 0, .int .i64 0] := by rw [← hf]; exact Own.new _ _ _
        have hm0 : Mid w (wr.alloc (.cells #[.int .i64 0, .int .i64 0, .int .i64 0, .int .i64 0] 87)) p g (7 * j) f 87 bs (.slice Al j cl) j (itsV (parse bs j)) [.int .i64 0, .int .i64 0, .int .i64 0, .int .i64 0] :=
          ⟨HR.out.alloc _, hb0, HO.out.alloc _, HG.out.keep0 ((Only.refl _ _).alloc _), fun q hq => ⟨(HNE.out q hq).1, (HNE.out q hq).2, by have := (HOWN.out q hq).2; omega⟩, by omega, by omega, hf0, hp⟩
        generalize wr.alloc (.cells #[.int .i64 0, .int .i64 0, .int .i64 0, .int .i64 0] 87) = wb at *
        clear hb0 HR HO HG hfk
        refine (ref_num_any p g (7 * j) bs 1 _ (by exact hm0.row) (by decide) (by have := HL.out; omega)).mono ?_
        rintro e w3 ⟨rfl, hr3, hO3⟩
        have hn0 := hm0.got hr3 hO3
        generalize hx0 : ((num ((bs.drop (7 * j)).take 1) : Nat) : Int) = x0 at *
        have HX0 := Lib.hid hx0
        have q0 := hn0.box.cell 0 (by simp)
        have z0 := hn0.box.frozen 0
        simp only [List.getElem_cons_zero] at q0
        have hm1 := hn0.put 0 (.int .i64 x0)
        simp only [List.set_cons_zero] at hm1
        have HM1 := Lib.hid hm1
        clear hr3 hO3 hx0 hn0 hm0 hm1
        go_wp2_with fail
        refine (ref_num_any p g (7 * j + 1) bs 1 _ (by exact HM1.out.row) (by decide) (by have := HL.out; omega)).mono ?_
        rintro e w4 ⟨rfl, hr3, hO3⟩
        have hn1 := HM1.out.got hr3 hO3
        generalize hx1 : ((num ((bs.drop (7 * j + 1)).take 1) : Nat) : Int) = x1 at *
        have HX1 := Lib.hid hx1
        have q0 := hn1.box.cell 1 (by simp)
        have z0 := hn1.box.frozen 1
        simp only [List.getElem_cons_zero, List.getElem_cons_succ] at q0
        have hm2 := hn1.put 1 (.int .i64 x1)
        simp only [List.set_cons_zero, List.set_cons_succ] at hm2
        have HM2 := Lib.hid hm2
        clear hr3 hO3 hx1 hn1 HM1 hm2
        go_wp2_with fail
        refine (ref_num_any p g (7 * j + 1 + 1) bs 1 _ (by exact HM2.out.row) (by decide) (by have := HL.out; omega)).mono ?_
        rintro e w5 ⟨rfl, hr3, hO3⟩
        have hn2 := HM2.out.got hr3 hO3
        generalize hx2 : ((num ((bs.drop (7 * j + 1 + 1)).take 1) : Nat) : Int) = x2 at *
        have HX2 := Lib.hid hx2
        have q0 := hn2.box.cell 2 (by simp)
        have z0 := hn2.box.frozen 2
        simp only [List.getElem_cons_zero, List.getElem_cons_succ] at q0
        have hm3 := hn2.put 2 (.int .i64 x2)
        simp only [List.set_cons_zero, List.set_cons_succ] at hm3
        have HM3 := Lib.hid hm3
        clear hr3 hO3 hx2 hn2 HM2 hm3
        go_wp2_with fail
        refine (ref_num_any p g (7 * j + 1 + 1 + 1) bs 4 _ (by exact HM3.out.row) (by decide) (by have := HL.out; omega)).mono ?_
        rintro e w6 ⟨rfl, hr3, hO3⟩
        have hn3 := HM3.out.got hr3 hO3
        generalize hx3 : ((num ((bs.drop (7 * j + 1 + 1 + 1)).take 4) : Nat) : Int) = x3 at *
        have HX3 := Lib.hid hx3
        have q0 := hn3.box.cell 3 (by simp)
        have z0 := hn3.box.frozen 3
        simp only [List.getElem_cons_zero, List.getElem_cons_succ] at q0
        have hm4 := hn3.put 3 (.int .i64 x3)
        simp only [List.set_cons_zero, List.set_cons_succ] at hm4
        have HM4 := Lib.hid hm4
        clear hr3 hO3 hx3 hn3 HM3 hm4
        generalize hw7 : w6.setCell ⟨f, 3, none⟩ (.int .i64 x3) = w7 at *
        have y0 := HM4.out.box.cell 0 (by simp)
        have y1 := HM4.out.box.cell 1 (by simp)
        have y2 := HM4.out.box.cell 2 (by simp)
        have y3 := HM4.out.box.cell 3 (by simp)
        simp only [List.getElem_cons_zero, List.getElem_cons_succ] at y0 y1 y2 y3
        have HIT : Hid ((⟨x0, x1, x2, x3⟩ : It) = itAt bs j) := Lib.hid (by rw [← HX0.out, ← HX1.out, ← HX2.out, ← HX3.out]; rfl)
        go_wp2_with fail
        refine (ref_item_may_any x0 x1 x2 x3 _).mono ?_
        rintro e w8 ⟨rfl, hO8⟩
        replace y0 := hO8.cell y0 (by simp)
        replace y1 := hO8.cell y1 (by simp)
        replace y2 := hO8.cell y2 (by simp)
        replace y3 := hO8.cell y3 (by simp)
        have hR8 := HM4.out.row.keep0 hO8
        have hG8 := HM4.out.gath.keep0 hO8
        have hO80 := HM4.out.only.trans' hO8
        have HR8 := Lib.hid hR8
        have HG8 := Lib.hid hG8
        have HO8 := Lib.hid hO80
        have hmne := HM4.out.ne
        have HME := Lib.hid hmne
        clear hO8 hR8 hG8 hO80 hmne HM4
        cases hmm : It.may ⟨x0, x1, x2, x3⟩
        · have hbad := dec_badat (m := m) HL.out hgo (by rw [← HIT.out]; exact hmm)
          go_wp2
          go_ret2
          exact DecSays.no hbad HO8.out
        · have HMM := Lib.hid hmm
          clear hmm
          have hnw := news_new w8 #[.int .i64 x0, .int .i64 x1, .int .i64 x2, .int .i64 x3] 87 (by simp [maxLen])
          have hone := itsV_one [⟨x0, x1, x2, x3⟩]
          have hbase := HO8.out.size
          have hm6 : m ≤ 6 := by omega
          go_wp2_with (first
            | (at_builtin; refine wpList_append_own_at _ rfl (.tmp 40) (.tmp 42) 44 rfl w.heap.size 87 i0 _ 4 32 Try.underlying44 hi0 hz0 hz1 hz2 rfl (by decide) (.slice Al j cl) j (itsV (parse bs j)) rfl ((HG8.out.keep0 ((Only.refl _ _).alloc _)).1) ⟨w8.heap.size, 0, none⟩ 1 1 (itsV [⟨x0, x1, x2, x3⟩]) rfl rfl hnw hone (by unfold maxLen; omega) (by omega) (by simp; omega) ?_; intro v' w9 hown hgrow _ hat)
            | fail)
          go_roundg (gk - 1)
          case measure => omega
          case rel =>
            have hO7 : Only [] w (w8.alloc (.cells #[.int .i64 x0, .int .i64 x1, .int .i64 x2, .int .i64 x3] 87)) := HO8.out.alloc _
            have hG7 := HG8.out.keep0 ((Only.refl _ w8).alloc (.cells #[.int .i64 x0, .int .i64 x1, .int .i64 x2, .int .i64 x3] 87))
            obtain ⟨hG9, hO9⟩ := hG7.grown hO7 rfl hown hgrow
            have hR7 := HR8.out.alloc (.cells #[.int .i64 x0, .int .i64 x1, .int .i64 x2, .int .i64 x3] 87)
            have hS : Only ((Value.slice Al j cl).ownBlock.toList) (w8.alloc (.cells #[.int .i64 x0, .int .i64 x1, .int .i64 x2, .int .i64 x3] 87)) w9 := (Only.refl _ _).grown hgrow fun q hq => .inl (by rw [hq]; simp)
            have hR9 := hR7.keep hS (fun hq => (HME.out p (by simpa using hq)).1 rfl) (fun hq => (HME.out g (by simpa using hq)).2.1 rfl)
            have hlp8 := HR8.out.lp
            have hlg8 := HR8.out.lg
            rw [← itsV_append, HIT.out, ← parse_succ] at hG9
            refine ⟨j + 1, by omega, hG9, hR9, hO9, ?_, ?_⟩
            · intro q hq
              rcases hat with hat | hat
              · exact HNE.out q (by rw [← hat]; exact hq)
              · rw [hat] at hq
                injection hq with hq
                simp at hq
                omega
            · rw [parse_succ, List.all_append, HAL.out]
              simp [← HIT.out, HMM.out]
      · obtain rfl : j = m := by omega
        go_wp2
        go_ret2
        have hg := dec_good HL.out (by have := HL.out; omega) HAL.out
        refine ⟨Al, cl, by simp [hg], by simpa [hg] using HITS.out, ?_, HO.out⟩
        intro _ a ha
        subst ha
        exact (HOWN.out a.block rfl).1
    · have ht : ¬ (n : Int).tmod 7 = 0 := by rw [Int.tmod_eq_emod_of_nonneg (by omega)]; omega
      have ht2 : ((n : Int).tmod 7 != 0) = true := by simpa using ht
      go_enter Try.func95, Try.ntmps95
      go_wp2
      go_ret2
      exact DecSays.no (dec_long (by have := HL.out; omega)) (Only.refl _ _)
end Go.Proofs.Ytoibehikojkoiaa
