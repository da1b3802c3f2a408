
/- Contract of the reference's ScriptOf. Printed by mkscro.py. -/
import Derived.Test.YtkpagiokjihmhaaScrD
import Derived.Test.YtkpagiokjihmhaaScrR
import Derived.Deep.RegionLaw
set_option linter.unusedVariables false
set_option linter.unusedSimpArgs false
namespace Go.Proofs.Ytkpagiokjihmhaa
open Go Go.RowKit Go.Kn

theorem ref_num_all (p g k : Nat) (bs : List UInt8) (n : Int) (w : World) (h : RowAt w p g bs k) :
    Calls Try.prog 54 #[.pointer (some ⟨p, 0, none⟩), .int .i64 n] w fun e w' => e = .returned (.int .i64 (getN bs k n : Nat)) ∧ RowAt w' p g bs (getK bs k n) ∧ Only [p] w w' := by
  go_enter Try.func54, Try.ntmps54
  go_wp2_with fail
  refine (ref_get_all p g k bs n _ h).mono ?_
  rintro e w1 ⟨rfl, hr, hO⟩
  go_wp2
  go_ret
  exact ⟨rfl, hr, hO⟩

set_option maxRecDepth 100000 in
set_option maxHeartbeats 4000000 in
theorem ref_script_dec_any (A : Option Addr) (n c : Nat) (bs : List UInt8) (w : World) (hi : Bys w A n c bs) :
    Calls Try.prog 12 #[.slice A n c] w (EvSays w (decEvs bs) 2) := by
  obtain ⟨i0, hi0, hz0, hz1, hz2⟩ := info_parts Try.infoEvent
  obtain ⟨i1, hi1, hy0, hy1, hy2⟩ := info_parts Try.infoInt
  have hlen := hi.len
  rw [bvs_length] at hlen
  have hcm := hi.cm
  have hcl := hi.le
  unfold maxLen at hcm
  have HI := Lib.hid hi
  have HL := Lib.hid hlen
  clear hi
  by_cases hsh : 8 ≤ n ∧ n ≤ 65536
  case neg =>
    have hd := evs_len (bs := bs) (by omega)
    have HD := Lib.hid hd
    clear hd hlen
    by_cases h8 : n < 8
    · go_enter Try.func12, Try.ntmps12
      go_wp2
      go_ret2
      exact EvSays.no HD.out (Only.refl _ _)
    · have h65 : 65536 < n := by omega
      go_enter Try.func12, Try.ntmps12
      go_wp2
      go_ret2
      exact EvSays.no HD.out (Only.refl _ _)
  obtain ⟨h8, hn⟩ := hsh
  have ht2 : takeK bs 0 2 = 2 := by simp [takeK, takeOk]; omega
  have HT2 := Lib.hid ht2
  clear hlen ht2
  go_enter Try.func12, Try.ntmps12
  go_wp2_with fail
  refine (ref_from_any A n c bs _ HI.out hn).mono ?_
  rintro e w1 ⟨p, g, rfl, hp, hg, hr1, hO1⟩
  have hpz := hr1.pz 1
  have hpk := hr1.fk
  have hcz := hr1.lp
  have HR1 := Lib.hid (hr1.place 2 (by rw [HL.out]; omega))
  have HO1 := Lib.hid (hO1.set (.inr hp) (.int .i64 ((2 : Nat) : Int)) (p := ⟨p, 1, none⟩))
  have e2 : ((2 : Nat) : Int) = 2 := rfl
  rw [e2] at HR1 HO1
  clear hr1 hO1 e2
  go_wp2_with fail
  generalize w1.setCell ⟨p, 1, none⟩ (.int .i64 2) = w2 at *
  clear hpz hpk hcz
  refine (ref_num_all p g 2 bs 2 _ (by exact HR1.out)).mono ?_
  rintro e w3 ⟨rfl, hr3, hO3⟩
  have HR3 : Hid (RowAt w3 p g bs (scrK bs)) := Lib.hid (by unfold scrK; rw [HT2.out]; exact hr3)
  have HO3 := Lib.hid (HO1.out.trans hO3 (by simpa using hp) : Only [] w w3)
  have hN : min (getN bs 2 2) 400 = scrN bs := by unfold scrN; rw [HT2.out]
  have HN := Lib.hid hN
  obtain ⟨N, hSN⟩ : ∃ N, scrN bs = N := ⟨_, rfl⟩
  rw [hSN] at HN
  have HSN := Lib.hid hSN
  clear hSN hr3 hO3 HR1 HO1 hN
  generalize getN bs 2 2 = nn at *
  go_wp2_with fail
  go_loopg [6, 7] N (fun r v i wr => ∃ (j k : Nat) (l : List Ev) (xs : List (Ev × Sl)), j + r = N ∧ i = .int .i64 j ∧ l.length = j ∧ GathE wr w.heap.size 38 v l xs ∧ RowAt wr p g bs k ∧ Only [] w wr ∧ (∀ q, v.ownBlock = some q → q ≠ p ∧ q ≠ g) ∧
    (∀ x ∈ xs, 0 < x.2.2.1 → ∀ a, x.2.1 = some a → a.block ≠ p) ∧ l = readEvs bs (scrK bs) j ∧ k = posOf bs (scrK bs) j)
  case atStart => exact ⟨0, _, [], [], by omega, rfl, rfl, GathE.nil _ _ _ HO3.out.size, HR3.out, HO3.out, by simp [Value.ownBlock], by simp, rfl, rfl⟩
  obtain ⟨j, k, l, xs, hj, rfl, hl, hG, hr, hO, hne, hpk, hle, hke⟩ := hrel
  have HG := Lib.hid hG
  have HR := Lib.hid hr
  have HO := Lib.hid hO
  have HNE := Lib.hid hne
  have HPK := Lib.hid hpk
  have HLE := Lib.hid hle
  have HKE := Lib.hid hke
  have HLL := Lib.hid hl
  obtain ⟨Al, cl, rfl, hevs, hown⟩ := hG.formN hl
  have HEVS := Lib.hid hevs
  have HOWN := Lib.hid hown
  clear hG hr hO hne hpk hle hke hl hevs hown
  have hN4 : (N : Int) ≤ 400 ∧ (N : Int) ≤ (nn : Int) ∧ ((N : Int) = 400 ∨ (N : Int) = (nn : Int)) := by have := HN.out; omega
  by_cases hlt : j < N
  · have hltz : (j : Int) < (nn : Int) := by omega
    have hltw : (j : Int) < 400 := by omega
    have hf0 : w.heap.size ≤ wr.heap.size := HO.out.size
    have hm0 := MidE.start (T := 38) (zs := #[.int .i64 0, .int .i64 0, .int .i64 0, .int .i64 0, .slice none 0 0]) HR.out HO.out HG.out HNE.out HPK.out hp
    go_wp2_with fail
    generalize hf : wr.heap.size = f at *
    generalize wr.alloc (.cells #[.int .i64 0, .int .i64 0, .int .i64 0, .int .i64 0, .slice none 0 0] 38) = wb at *
    clear HR HO HG hf
    refine (ref_num_all p g k bs 1 _ (by exact hm0.row)).mono ?_
    rintro e v0 ⟨rfl, hr3, hO3⟩
    have hn0 := hm0.got hr3 hO3
    generalize hx0 : ((getN bs k 1 : Nat) : Int) = x0 at *
    have HX0 := Lib.hid hx0
    generalize hk0 : getK bs k 1 = k0 at *
    have HK0 := Lib.hid hk0
    have q0 := hn0.box.cell 0 (by simp)
    have z0 := hn0.box.frozen 0
    simp only [List.getElem_cons_zero, List.getElem_cons_succ] at q0
    have hm1 := hn0.put 0 (.int .i64 x0)
    simp only [List.set_cons_zero, List.set_cons_succ] at hm1
    have HM1 := Lib.hid hm1
    clear hr3 hO3 hx0 hk0 hn0 hm0 hm1
    go_wp2_with fail
    refine (ref_num_all p g k0 bs 4 _ (by exact HM1.out.row)).mono ?_
    rintro e v1 ⟨rfl, hr3, hO3⟩
    have hn1 := HM1.out.got hr3 hO3
    generalize hx1 : ((getN bs k0 4 : Nat) : Int) = x1 at *
    have HX1 := Lib.hid hx1
    generalize hk1 : getK bs k0 4 = k1 at *
    have HK1 := Lib.hid hk1
    have q0 := hn1.box.cell 1 (by simp)
    have z0 := hn1.box.frozen 1
    simp only [List.getElem_cons_zero, List.getElem_cons_succ] at q0
    have hm2 := hn1.put 1 (.int .i64 x1)
    simp only [List.set_cons_zero, List.set_cons_succ] at hm2
    have HM2 := Lib.hid hm2
    clear hr3 hO3 hx1 hk1 hn1 HM1 hm2
    go_wp2_with fail
    refine (ref_num_all p g k1 bs 4 _ (by exact HM2.out.row)).mono ?_
    rintro e v2 ⟨rfl, hr3, hO3⟩
    have hn2 := HM2.out.got hr3 hO3
    generalize hx2 : ((getN bs k1 4 : Nat) : Int) = x2 at *
    have HX2 := Lib.hid hx2
    generalize hk2 : getK bs k1 4 = k2 at *
    have HK2 := Lib.hid hk2
    have q0 := hn2.box.cell 2 (by simp)
    have z0 := hn2.box.frozen 2
    simp only [List.getElem_cons_zero, List.getElem_cons_succ] at q0
    have hm3 := hn2.put 2 (.int .i64 x2)
    simp only [List.set_cons_zero, List.set_cons_succ] at hm3
    have HM3 := Lib.hid hm3
    clear hr3 hO3 hx2 hk2 hn2 HM2 hm3
    go_wp2_with fail
    refine (ref_num_all p g k2 bs 2 _ (by exact HM3.out.row)).mono ?_
    rintro e v3 ⟨rfl, hr3, hO3⟩
    have hn3 := HM3.out.got hr3 hO3
    generalize hx3 : ((getN bs k2 2 : Nat) : Int) = x3 at *
    have HX3 := Lib.hid hx3
    generalize hk3 : getK bs k2 2 = k3 at *
    have HK3 := Lib.hid hk3
    have q0 := hn3.box.cell 3 (by simp)
    have z0 := hn3.box.frozen 3
    simp only [List.getElem_cons_zero, List.getElem_cons_succ] at q0
    have hm4 := hn3.put 3 (.int .i64 x3)
    simp only [List.set_cons_zero, List.set_cons_succ] at hm4
    have HM4 := Lib.hid hm4
    clear hr3 hO3 hx3 hk3 hn3 HM3 hm4
    go_wp2_with fail
    refine (ref_num_all p g k3 bs 1 _ (by exact HM4.out.row)).mono ?_
    rintro e v4 ⟨rfl, hr3, hO3⟩
    have hm5 := HM4.out.got hr3 hO3
    generalize hn4 : getN bs k3 1 = n4 at *
    have HN4 := Lib.hid hn4
    generalize hk4 : getK bs k3 1 = k4 at *
    have HK4 := Lib.hid hk4
    have HM5 := Lib.hid hm5
    clear hr3 hO3 hn4 hk4 HM4 hm5
    go_wp2_with fail
    refine (ref_take_all p g k4 bs (n4 : Int) _ (by exact HM5.out.row)).mono ?_
    rintro e v5 ⟨Ap, cp, rfl, hbp, hfr, hr3, hO3⟩
    have hm6 := HM5.out.got hr3 hO3
    obtain ⟨P, hP⟩ : ∃ P, takeB bs k4 (n4 : Int) = P := ⟨_, rfl⟩
    have hPl : P.length ≤ 65536 := by
      have h1 := HL.out
      rw [← hP]
      unfold takeB
      split
      · rw [List.length_take, List.length_drop]
        omega
      · simp
    rw [hP] at hbp hfr ⊢
    have HP := Lib.hid hP
    generalize takeOk bs k4 (n4 : Int) = o5 at *
    generalize hPn : P.length = pn at *
    have HPN := Lib.hid hPn
    have HBP := Lib.hid hbp
    have HFR := Lib.hid hfr
    have HF4 := Lib.hid HM5.out.box.lt
    have HM6 := Lib.hid hm6
    clear hr3 hO3 hP HM5 hm6 hbp hPn hfr
    have hbc := HBP.out.le
    have hbm := HBP.out.cm
    unfold maxLen at hbm
    go_wp2_with fail
    go_loopg [12] pn (fun r i wr => ∃ (t : Nat) (A4 : Option Addr) (c4 : Nat), t + r = pn ∧ i = .int .i64 t ∧ MidE w wr p g (takeK bs k4 (n4 : Int)) f 38 bs (.slice Al j cl) l xs [.int .i64 x0, .int .i64 x1, .int .i64 x2, .int .i64 x3, .slice A4 t c4] ∧
      Gath wr v5.heap.size 3 (.slice A4 t c4) (ivs (izs (P.take t))) ∧ Bys wr Ap pn cp P)
    case atStart => exact ⟨0, none, 0, by omega, rfl, HM6.out, by simpa [izs, ivs] using Gath.nil _ _ _ (Nat.le_refl _), HBP.out⟩
    obtain ⟨t, A4, c4, ht, rfl, hm, hG4, hBq⟩ := hrel
    have HMT := Lib.hid hm
    have HG4 := Lib.hid hG4
    have HBQ := Lib.hid hBq
    have hsz5 := HM6.out.only.size
    clear hm hG4 hBq
    by_cases hlt2 : t < pn
    · have htP : t < P.length := by rw [HPN.out]; exact hlt2
      obtain ⟨ap, op, rfl, hcc⟩ := HBQ.out.at_ (by omega)
      have cb := hcc t (by rw [bvs_length]; exact htP)
      simp only [bvs, List.getElem_map] at cb
      have hits := izs_take_succ P t htP
      have HITS := Lib.hid hits
      have hz9 := P[t].toNat_lt
      obtain ⟨zb, hzb⟩ : ∃ z : Int, ((P[t].toNat : Nat) : Int) = z := ⟨_, rfl⟩
      have hb0 : 0 ≤ zb := by omega
      have hb1 : zb < 256 := by omega
      rw [hzb] at cb HITS
      have hbw : IntKind.i64.wrap zb = zb := by rw [IntKind.wrap_i64]; omega
      clear hcc hits hzb hz9
      have x4 := HMT.out.box.cell 4 (by simp)
      simp only [List.getElem_cons_zero, List.getElem_cons_succ] at x4
      have z4 := HMT.out.box.frozen 4
      have hfq := HMT.out.box.lt
      have HLZ := Lib.hid (show (ivs (izs (P.take t))).length = t by rw [ivs_length, izs_length, List.length_take]; omega)
      have hx1 : 0 ≤ (t : Int) := by omega
      have hx2 : (t : Int) < (pn : Int) := by omega
      go_wp2_with fail
      go_region_law (first
        | (refine step_append_row1 rfl (.tmp 66) (.tmp 72) 36 rfl v5.heap.size 3 i1 _ 8 Try.underlying36 hi1 hy0 hy1 hy2 rfl (.slice A4 t c4) t (ivs (izs (P.take t))) rfl (HG4.out.own ((Only.refl _ _).alloc _).drew HLZ.out) _ 1 1 (ivs [zb]) rfl ((ins_built _ [zb] _ 1 rfl (by omega)).drew) (ivs_one _) (by unfold maxLen; omega) (by omega) (HG4.out.base_le ((Only.refl _ _).alloc _).drew) ?_
           intro u1 wa hown1 hgr1 hat1
           have hS : Only ((Value.slice A4 t c4).ownBlock.toList) (wr.alloc (.cells #[.int .i64 zb] 3)).drew wa := (Only.refl _ _).grown hgr1 fun q hq => .inl (by rw [hq]; simp)
           have hSb : ∀ q ∈ (Value.slice A4 t c4).ownBlock.toList, v5.heap.size ≤ q := fun q hq => (HG4.out.1.lt q (by simpa using hq)).1
           have hM7 := (HMT.out.keep0 ((Only.refl _ _).alloc (.cells #[.int .i64 zb] 3)).drew).high HM6.out hS hSb
           have hl5 : (ivs (izs (P.take (t + 1)))).length = t + 1 := by rw [ivs_length, izs_length, List.length_take]; omega
           have hG5 : Gath wa v5.heap.size 3 u1 (ivs (izs (P.take (t + 1)))) := by
             refine ⟨?_, Nat.le_trans (HG4.out.base_le ((Only.refl _ _).alloc (.cells #[.int .i64 zb] 3)).drew) hS.size⟩
             rw [hl5, HITS.out]
             simpa [ivs] using hown1
           have hB7 : Bys wa (some ⟨ap, op, none⟩) pn cp P := (HBQ.out.keep0 ((Only.refl _ _).alloc (.cells #[.int .i64 zb] 3)).drew).keepP hS (fun hn a ha hin => by
             have h1 := HBP.out.block_lt hn a ha
             have h2 := hSb _ hin
             omega)
           obtain ⟨A5, c5, rfl, _, _⟩ := hG5.formN hl5
           have x4b := hM7.box.cell 4 (by simp)
           simp only [List.getElem_cons_zero, List.getElem_cons_succ] at x4b
           have z4b := hM7.box.frozen 4
           have HM7 := Lib.hid hM7
           have HG5 := Lib.hid hG5
           have HB7 := Lib.hid hB7
           clear hS hSb hM7 hl5 hG5 hB7 hown1 hgr1 hat1 x4 z4 cb))
      all_goals
        go_wp2
        go_roundg (gk - 1)
        case measure => omega
        case rel =>
          have hM8 := HM7.out.put 4 (.slice A5 (t + 1) c5)
          simp only [List.set_cons_zero, List.set_cons_succ] at hM8
          have hf5 := HM6.out.box.lt
          have hO8 : Only [f] wa (wa.setCell ⟨f, 4, none⟩ (.slice A5 (t + 1) c5)) := (Only.refl _ _).set (by simp) _
          refine ⟨t + 1, A5, c5, by omega, by go_num, hM8, HG5.out.keep hO8 (fun q hq => ?_), HB7.out.keepP hO8 (fun hn a ha => ?_)⟩
          · have := (HG5.out.1.lt q hq).1
            simp
            omega
          · have := HFR.out hn a ha
            have := HF4.out
            simp
            omega
    · obtain rfl : t = pn := by omega
      have hfull : P.take t = P := List.take_of_length_le (by rw [HPN.out]; omega)
      have hg4 := HG4.out
      rw [hfull] at hg4
      have hiz : (ivs (izs P)).length = t := by rw [ivs_length, izs_length]; exact HPN.out
      obtain ⟨_, _, hsl, hins, hA4⟩ := hg4.formN hiz
      injection hsl with e1 e2 e3
      subst e1 e3
      have HINS := Lib.hid hins
      have HA4 := Lib.hid hA4
      have hgn := HMT.out.gath.2.1
      rw [HLL.out] at hgn
      have HGN := Lib.hid hgn
      have y0 := HMT.out.box.cell 0 (by simp)
      have y1 := HMT.out.box.cell 1 (by simp)
      have y2 := HMT.out.box.cell 2 (by simp)
      have y3 := HMT.out.box.cell 3 (by simp)
      have y4 := HMT.out.box.cell 4 (by simp)
      simp only [List.getElem_cons_zero, List.getElem_cons_succ] at y0 y1 y2 y3 y4
      have hnw := news_new wr #[.int .i64 x0, .int .i64 x1, .int .i64 x2, .int .i64 x3, .slice A4 t c4] 38 (by simp [maxLen])
      have hone := evsV_one [(⟨x0, x1, x2, x3, izs P⟩, (A4, t, c4))]
      have hbase := HMT.out.only.size
      clear hfull hg4 hiz hins hA4 hgn
      go_wp2_with (first
        | (at_builtin; refine wpList_append_own_at _ rfl (.tmp 75) (.tmp 77) 22 rfl w.heap.size 38 i0 _ 5 56 Try.underlying22 hi0 hz0 hz1 hz2 rfl (by decide) (.slice Al j cl) j (evsV xs) rfl ((HGN.out.keep0 ((Only.refl _ _).alloc _)).1) ⟨wr.heap.size, 0, none⟩ 1 1 (evsV [(⟨x0, x1, x2, x3, izs P⟩, (A4, t, c4))]) rfl rfl hnw hone (by unfold maxLen; omega) (by omega) (by simp; omega) ?_; intro v' w8 hown hgrow _ hat)
        | fail)
      go_roundg (N - (j + 1))
      case measure => omega
      case rel =>
        have hm7 := HMT.out.keep0 ((Only.refl _ _).alloc (.cells #[.int .i64 x0, .int .i64 x1, .int .i64 x2, .int .i64 x3, .slice A4 t c4] 38))
        obtain ⟨g1, g2, g3, g4, g5⟩ := hm7.append (ev := ⟨x0, x1, x2, x3, izs P⟩) (HINS.out.keep0 ((Only.refl _ _).alloc _)) (fun hm a ha => by
          have h1 := (HA4.out a ha).1
          have h2 := HM6.out.row.lp
          obtain ⟨_, _, _, _, h3⟩ := HM6.out.gath.form
          exact ⟨by omega, fun hq => by have := (h3 _ hq).2; omega⟩) (by rw [HLL.out]) hown hgrow hat
        obtain ⟨ea, ek⟩ := evAt_of HX0.out HK0.out HX1.out HK1.out HX2.out HK2.out HX3.out HK3.out HN4.out HK4.out HP.out
        refine ⟨j + 1, _, _, _, by omega, by go_num, ?_, g1, g2, g3, g4, g5, ?_, ?_⟩
        · simp [HLL.out]
        · show _ = readEvs bs (scrK bs) j ++ [evAt bs (posOf bs (scrK bs) j)]
          rw [← HKE.out, ea, ← HLE.out]
        · show _ = evK bs (posOf bs (scrK bs) j)
          rw [← HKE.out, ek]
  · obtain rfl : j = N := by omega
    have hls : l = scrOf bs := by rw [HLE.out]; unfold scrOf; rw [HSN.out]
    have hds : (if encEvs l = some bs then some l else none) = decEvs bs := by rw [hls]; rfl
    have HDS := Lib.hid hds
    clear hls hds
    by_cases hjn : (j : Int) < (nn : Int)
    · have hj4 : ¬ (j : Int) < 400 := by omega
      go_wp2_with fail
      refine (ref_script_enc_any Al j cl l _ (by exact HEVS.out)).mono ?_
      rintro e w4 ⟨A3, c3, rfl, hb3, hn3, hO3⟩
      have hevs := HEVS.out.keep0 hO3
      have HB := Lib.hid (HI.out.keep0 (HO.out.trans' hO3))
      have HO4 := Lib.hid (HO.out.trans' hO3)
      have HEVS3 := Lib.hid hevs
      clear hn3 hO3 hevs
      cases hen : encEvs l with
      | none =>
        rw [hen] at hb3
        clear hb3
        go_wp2
        go_ret2
        refine EvSays.no ?_ HO4.out
        rw [← HDS.out, hen]
        rfl
      | some ys =>
        rw [hen] at hb3
        simp only [Option.getD_some] at hb3
        have HB3 := Lib.hid hb3
        clear hb3
        simp only [Option.getD_some, Option.isSome_some, if_true]
        go_wp2_with fail
        refine (equal_any A3 ys.length c3 ys A n c bs _ (by exact HB3.out) (by exact HB.out)).mono ?_
        rintro e w5 ⟨rfl, kq, rfl⟩
        have HEVS4 := Lib.hid (HEVS3.out.keep0 ((Only.refl _ _).drewN kq))
        have HO5 := Lib.hid (HO4.out.drewN kq)
        by_cases hyb : ys = bs
        · have hd : decide (ys = bs) = true := by simp [hyb]
          go_wp2
          go_ret2
          exact EvSays.yes (by rw [← HDS.out, hen, hyb, if_pos rfl]) HLL.out HEVS4.out HO5.out
        · have hd : decide (ys = bs) = false := by simp [hyb]
          go_wp2
          go_ret2
          refine EvSays.no ?_ HO5.out
          rw [← HDS.out, hen, if_neg (by intro h; injection h with h; exact hyb h)]
    · go_wp2_with fail
      refine (ref_script_enc_any Al j cl l _ (by exact HEVS.out)).mono ?_
      rintro e w4 ⟨A3, c3, rfl, hb3, hn3, hO3⟩
      have hevs := HEVS.out.keep0 hO3
      have HB := Lib.hid (HI.out.keep0 (HO.out.trans' hO3))
      have HO4 := Lib.hid (HO.out.trans' hO3)
      have HEVS3 := Lib.hid hevs
      clear hn3 hO3 hevs
      cases hen : encEvs l with
      | none =>
        rw [hen] at hb3
        clear hb3
        go_wp2
        go_ret2
        refine EvSays.no ?_ HO4.out
        rw [← HDS.out, hen]
        rfl
      | some ys =>
        rw [hen] at hb3
        simp only [Option.getD_some] at hb3
        have HB3 := Lib.hid hb3
        clear hb3
        simp only [Option.getD_some, Option.isSome_some, if_true]
        go_wp2_with fail
        refine (equal_any A3 ys.length c3 ys A n c bs _ (by exact HB3.out) (by exact HB.out)).mono ?_
        rintro e w5 ⟨rfl, kq, rfl⟩
        have HEVS4 := Lib.hid (HEVS3.out.keep0 ((Only.refl _ _).drewN kq))
        have HO5 := Lib.hid (HO4.out.drewN kq)
        by_cases hyb : ys = bs
        · have hd : decide (ys = bs) = true := by simp [hyb]
          go_wp2
          go_ret2
          exact EvSays.yes (by rw [← HDS.out, hen, hyb, if_pos rfl]) HLL.out HEVS4.out HO5.out
        · have hd : decide (ys = bs) = false := by simp [hyb]
          go_wp2
          go_ret2
          refine EvSays.no ?_ HO5.out
          rw [← HDS.out, hen, if_neg (by intro h; injection h with h; exact hyb h)]
end Go.Proofs.Ytkpagiokjihmhaa
