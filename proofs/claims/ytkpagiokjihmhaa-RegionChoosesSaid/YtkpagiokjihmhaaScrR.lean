
/- Contract of the reference's ScriptBytes. -/
import Derived.Test.YtkpagiokjihmhaaScrE
import Derived.Deep.RegionWith
set_option linter.unusedVariables false
set_option linter.unusedSimpArgs false
namespace Go.Proofs.Ytkpagiokjihmhaa
open Go Go.RowKit Go.Kn

set_option maxRecDepth 100000 in
set_option maxHeartbeats 8000000 in
theorem ref_script_enc_own (A : Option Addr) (n c : Nat) (l : List Ev) (w : World) (hi : Evs w A n c l) :
    Calls Try.prog 10 #[.slice A n c] w (EncOwn w (encEvs l)) := by
  have hlen := hi.len
  have hcm := hi.cm
  have hcl := hi.le
  unfold maxLen at hcm
  by_cases h4 : n ≤ 400
  · have hd4 : decide (400 < (n : Int)) = false := by simp; omega
    have HI := Lib.hid hi
    have HL := Lib.hid hlen
    clear hi hlen
    go_enter Try.func10, Try.ntmps10
    go_wp2_with fail
    go_loopg [4, 5] n (fun r s i wr => ∃ j E : Nat, j + r = n ∧ i = .int .i64 j ∧ s = .int .i64 (8 + (E : Int)) ∧ E = evsW (l.take j) ∧ Only [] w wr ∧ (l.take j).all Ev.may = true)
    case atStart => exact ⟨0, 0, by omega, rfl, rfl, by simp [evsW], Only.refl _ _, by simp⟩
    obtain ⟨j, E, hj, rfl, rfl, hE, hO, hal⟩ := hrel
    have hE2 := evsW_le hal
    rw [← hE, List.length_take, HL.out] at hE2
    have HEE := Lib.hid hE
    have HO := Lib.hid hO
    have HAL := Lib.hid hal
    clear hO hal hE
    by_cases hlt : j < n
    · have hjz : j < l.length := by rw [HL.out]; exact hlt
      have hE3 : E ≤ 112 * 400 := by omega
      clear hE2
      obtain ⟨a, o, rfl, hc⟩ := HI.out.at_ (by omega)
      obtain ⟨q0, q1, q2, q3, B, m, d, q4, hps⟩ := hc j hjz
      have c0 := HO.out.cell q0 (by simp)
      have c1 := HO.out.cell q1 (by simp)
      have c2 := HO.out.cell q2 (by simp)
      have c3 := HO.out.cell q3 (by simp)
      have c4 := HO.out.cell q4 (by simp)
      have HPS := Lib.hid (hps.keep0 HO.out)
      have hpl := hps.len
      rw [ivs_length] at hpl
      have HPL := Lib.hid hpl
      clear hc q0 q1 q2 q3 q4 hps hpl
      have HIT : Hid (l[j] = ⟨l[j].k, l[j].a, l[j].b, l[j].y, l[j].ps⟩) := Lib.hid rfl
      cases hm : l[j].may
      · have HM := Lib.hid hm
        clear hm
        generalize hik : l[j].k = ik at *
        generalize hia : l[j].a = ia at *
        generalize hib : l[j].b = ib at *
        generalize hiy : l[j].y = iy at *
        generalize hip : l[j].ps = ip at *
        have HME : Hid (Ev.may ⟨ik, ia, ib, iy, ip⟩ = false) := Lib.hid (by rw [← HIT.out]; exact HM.out)
        clear hik hia hib hiy hip
        go_wp2_with fail
        refine (ref_event_may_any ik ia ib iy B m d ip _ (by exact HPS.out)).mono ?_
        rintro e w2 ⟨rfl, hO2⟩
        rw [HME.out]
        go_wp2
        go_ret2
        exact EncOwn.no (encEvs_bad hjz HM.out) (HO.out.trans' hO2)
      · have hm100 := (Ev.may_bounds hm).2.2.2.2.2
        rw [HPL.out] at hm100
        have hES : E + (12 + m) = evsW (l.take (j + 1)) := by rw [evsW_take_succ _ _ hjz, ← HEE.out, HPL.out]
        have HES := Lib.hid hES
        have HM := Lib.hid hm
        clear hm hES
        generalize hik : l[j].k = ik at *
        generalize hia : l[j].a = ia at *
        generalize hib : l[j].b = ib at *
        generalize hiy : l[j].y = iy at *
        generalize hip : l[j].ps = ip at *
        have HME : Hid (Ev.may ⟨ik, ia, ib, iy, ip⟩ = true) := Lib.hid (by rw [← HIT.out]; exact HM.out)
        clear hik hia hib hiy hip
        go_wp2_with fail
        refine (ref_event_may_any ik ia ib iy B m d ip _ (by exact HPS.out)).mono ?_
        rintro e w2 ⟨rfl, hO2⟩
        rw [HME.out]
        have x4 := hO2.cell c4 (by simp)
        have HO2 := Lib.hid (HO.out.trans' hO2)
        clear hO2 HO c0 c1 c2 c3 c4
        go_wp2
        go_roundg (gk - 1)
        case measure => omega
        case rel => exact ⟨j + 1, E + (12 + m), by omega, by go_num, by go_num, HES.out, HO2.out, all_take_ev hjz HAL.out HM.out⟩
    · obtain rfl : j = n := by omega
      have hfull : l.take j = l := List.take_of_length_le (by rw [HL.out]; omega)
      have hal := HAL.out
      rw [hfull] at hal
      have hE3 : E ≤ 112 * 400 := by omega
      have hEl := HEE.out
      rw [hfull] at hEl
      have HAL' := Lib.hid hal
      have HEL := Lib.hid hEl
      clear hal hfull HAL hlt hj hE2 HEE hEl
      go_wp2_with fail
      refine (ref_new_any (8 + (E : Int)) _ (by omega) (by omega)).mono ?_
      rintro e w1 ⟨p, g, rfl, hp, hg, hr1, hO1⟩
      have hzr : List.replicate (8 + (E : Int)).toNat (0 : UInt8) = List.replicate (4 + E + 4) 0 := by congr 1; omega
      rw [hzr] at hr1
      have hsz := HO.out.size
      have HD0 : Hid (Laid w w1 p g (4 + E + 4) []) := Lib.hid (Laid.start (by omega) (by omega) hr1 (HO.out.trans' hO1))
      clear hO1 hr1 hzr hsz HO
      go_wp2_with fail
      have hb3 : Bys (w1.alloc (.cells #[.int .u8 75, .int .u8 69] 5)) (some ⟨w1.heap.size, 0, none⟩) 2 2 [75, 69] :=
        Row1.of_Own (Own.new w1 #[.int .u8 75, .int .u8 69] 5) (by simp) (Nat.le_refl _) (by simp [maxLen])
      have HB3 := Lib.hid hb3
      clear hb3
      refine (ref_lay_any p g 0 _ _ 2 2 [75, 69] _ (by exact HD0.out.row.alloc _) (by exact HB3.out) (by rw [HD0.out.len]; omega)).mono ?_
      rintro e w2 ⟨rfl, hr, hO⟩
      have e75 : ([75, 69] : List UInt8) = les 1 [75, 69] := rfl
      rw [e75] at hr
      have HD1 := Lib.hid ((HD0.out.alloc _).put (n := 1) (m := 2) (zs := [75, 69]) hr hO rfl (by simp [wid] <;> omega))
      clear hr hO HD0 HB3
      go_wp2_with fail
      refine (ref_one_any p g 2 _ 2 (j : Int) _ (by exact HD1.out.row) (by decide) (by rw [HD1.out.len]; omega) ⟨by omega, by have e : (256 : Int) ^ 2 = 65536 := rfl; omega⟩).mono ?_
      rintro e w3 ⟨rfl, hr, hO⟩
      have HD2 : Hid (Laid w w3 p g (4 + E + 4) (scrNums j [])) := Lib.hid (HD1.out.one hr hO (by simp [wid] <;> omega))
      clear hr hO HD1
      go_wp2_with fail
      go_loopg [7] j (fun r i wr => ∃ t : Nat, t + r = j ∧ i = .int .i64 t ∧ Laid w wr p g (4 + E + 4) (scrNums j (l.take t)))
      case atStart => exact ⟨0, by omega, rfl, by simpa using HD2.out⟩
      obtain ⟨t, ht, rfl, hd⟩ := hrel
      have HD := Lib.hid hd
      clear hd
      by_cases hlt : t < j
      · have hjz : t < l.length := by rw [HL.out]; exact hlt
        obtain ⟨a, o, rfl, hc⟩ := HI.out.at_ (by omega)
        obtain ⟨q0, q1, q2, q3, B, m, d, q4, hps⟩ := hc t hjz
        have HPS := Lib.hid hps
        have hpl := hps.len
        rw [ivs_length] at hpl
        have HPL := Lib.hid hpl
        have hal : a < w.heap.size := lt_of_cell q0
        clear hc hps hpl
        have hm : l[t].may = true := List.all_eq_true.1 HAL'.out l[t] (List.getElem_mem _)
        obtain ⟨b0, b1, b2, b3, b4, b5⟩ := Ev.may_bounds hm
        rw [HPL.out] at b5
        have e1 : (256 : Int) ^ 1 = 256 := rfl
        have e2 : (256 : Int) ^ 2 = 65536 := rfl
        have HF1 : Hid (0 ≤ l[t].k ∧ l[t].k < 256 ^ 1) := Lib.hid (by omega)
        have HF2 : Hid (Fit 4 [l[t].a, l[t].b]) := Lib.hid (by simp only [fit_cons, fit_nil, Int.reducePow, and_true]; omega)
        have HF3 : Hid (0 ≤ l[t].y ∧ l[t].y < 256 ^ 2) := Lib.hid (by omega)
        have HF4 : Hid (0 ≤ (m : Int) ∧ (m : Int) < 256 ^ 1) := Lib.hid (by omega)
        have HF5 : Hid (Fit 1 l[t].ps) := Lib.hid (fun z hz => by have := b0 z hz; have e : (256 : Int) ^ 1 = 256 := rfl; omega)
        have hw := scr_wid_le j l t hjz
        rw [← HEL.out, HPL.out] at hw
        have HW := Lib.hid hw
        have hsp := scr_put j l t hjz
        rw [HPL.out] at hsp
        have HSP := Lib.hid hsp
        clear hm b0 b1 b2 b3 b4 hw hsp e1 e2
        generalize hik : l[t].k = ik at *
        generalize hia : l[t].a = ia at *
        generalize hib : l[t].b = ib at *
        generalize hiy : l[t].y = iy at *
        generalize hip : l[t].ps = ip at *
        clear hik hia hib hiy hip
        have HQ := Lib.hid (And.intro q0 (And.intro q1 (And.intro q2 (And.intro q3 q4))))
        clear q0 q1 q2 q3 q4
        generalize scrNums j (l.take t) = SN at *
        generalize hSM : scrNums j (l.take (t + 1)) = SM at *
        have HSM := Lib.hid hSM
        clear hSM
        have hx2 : (t : Int) < (j : Int) := by omega
        have hx1 : 0 ≤ (t : Int) := by omega
        have hap : ¬ (a = p) := by have := HD.out.hp; omega
        have hag : ¬ (a = g) := by have := HD.out.hg; omega
        have x0 := HD.out.only.cell HQ.out.1 (by simp)
        go_wp2_with fail
        refine (ref_one_any p g _ _ 1 ik _ (by exact HD.out.row) (by decide) (by rw [HD.out.len]; have := HW.out; omega) HF1.out).mono ?_
        rintro e w4 ⟨rfl, hr, hO⟩
        have HD3 := Lib.hid (HD.out.one hr hO (by have := HW.out; omega))
        clear hr hO HD x0
        have hlp := HD3.out.row.lp
        have hlg := HD3.out.row.lg
        have c1 := HD3.out.only.cell HQ.out.2.1 (by simp)
        have c2 := HD3.out.only.cell HQ.out.2.2.1 (by simp)
        go_wp2_with fail
        go_region_held3 (fun w' => w'.cell? ⟨a, o + t * 5 + 1, none⟩ = some (.int .i64 ia) ∧ w'.cell? ⟨a, o + t * 5 + 2, none⟩ = some (.int .i64 ib)) (first | exact ⟨c1, c2⟩ | exact ⟨c1b, c2b⟩ | go_keep)
          (first
          | (go_at_call 47; refine (ref_put_any p g _ _ 4 _ 2 2 [ia, ib] _ (by exact (HD3.out.row.alloc _).drew) (by exact (ins_built _ [ia, ib] _ 2 rfl (by omega)).drew) (by exact ne_built HD3.out.row) (by decide) (by rw [HD3.out.len, wid_append]; have := HW.out; simp only [wid, List.map_cons, List.map_nil, List.sum_cons, List.sum_nil] at *; omega) HF2.out).mono ?_
             rintro e w5 ⟨rfl, hr5, hO5⟩
             have hO5' := (((Only.refl [p, g] w4).alloc (.cells #[.int .i64 ia, .int .i64 ib] 3)).drew).trans' hO5
             have c1b := hO5'.cell c1 (by simp [hap, hag])
             have c2b := hO5'.cell c2 (by simp [hap, hag])))
        have HD4 := Lib.hid (((HD3.out.alloc _).drew).put hr5 hO5 rfl (by rw [wid_append]; have := HW.out; simp only [wid, List.map_cons, List.map_nil, List.sum_cons, List.sum_nil, List.length_cons, List.length_nil] at *; omega))
        clear hr5 hO5 hO5' c1 c2 c1b c2b HD3 hlp hlg
        have x3 := HD4.out.only.cell HQ.out.2.2.2.1 (by simp)
        go_wp2_with fail
        refine (ref_one_any p g _ _ 2 iy _ (by exact HD4.out.row) (by decide) (by rw [HD4.out.len, wid1, wid_append]; have := HW.out; simp only [wid, List.map_cons, List.map_nil, List.sum_cons, List.sum_nil, List.length_cons, List.length_nil] at *; omega) HF3.out).mono ?_
        rintro e w6 ⟨rfl, hr, hO⟩
        have HD5 := Lib.hid (HD4.out.one hr hO (by rw [wid1, wid_append]; have := HW.out; simp only [wid, List.map_cons, List.map_nil, List.sum_cons, List.sum_nil, List.length_cons, List.length_nil] at *; omega))
        clear hr hO HD4 x3
        have x4 := HD5.out.only.cell HQ.out.2.2.2.2 (by simp)
        go_wp2_with fail
        refine (ref_one_any p g _ _ 1 (m : Int) _ (by exact HD5.out.row) (by decide) (by rw [HD5.out.len, wid_append, wid1, wid_append]; have := HW.out; simp only [wid, List.map_cons, List.map_nil, List.sum_cons, List.sum_nil, List.length_cons, List.length_nil] at *; omega) HF4.out).mono ?_
        rintro e w7 ⟨rfl, hr, hO⟩
        have HD6 := Lib.hid (HD5.out.one hr hO (by rw [wid_append, wid1, wid_append]; have := HW.out; simp only [wid, List.map_cons, List.map_nil, List.sum_cons, List.sum_nil, List.length_cons, List.length_nil] at *; omega))
        clear hr hO HD5 x4
        have x4 := HD6.out.only.cell HQ.out.2.2.2.2 (by simp)
        have HNE : Hid (0 < m → ∀ a, B = some a → a.block ≠ p ∧ a.block ≠ g) := Lib.hid (fun hm a ha => by
          have h1 := HPS.out.block_lt hm a ha
          have h2 := HD6.out.hp
          have h3 := HD6.out.hg
          exact ⟨by omega, by omega⟩)
        go_wp2_with fail
        refine (ref_put_anyP p g _ _ 1 B m d ip _ (by exact HD6.out.row) (by exact HPS.out.keep0 HD6.out.only) HNE.out (by decide) (by rw [HD6.out.len, wid_append, wid_append, wid1, wid_append]; have := HW.out; simp only [wid, List.map_cons, List.map_nil, List.sum_cons, List.sum_nil, List.length_cons, List.length_nil] at *; omega) HF5.out).mono ?_
        rintro e w8 ⟨rfl, hr, hO⟩
        have hd7 := HD6.out.put hr hO HPL.out (by rw [wid_append, wid_append, wid1, wid_append]; have := HW.out; simp only [wid, List.map_cons, List.map_nil, List.sum_cons, List.sum_nil, List.length_cons, List.length_nil] at *; omega)
        have hsp := HSP.out
        simp only [List.map_cons, List.map_nil] at hsp hd7
        rw [hsp] at hd7
        have HD7 := Lib.hid hd7
        clear hr hO hd7 HD6 x4 hsp
        go_wp2
        go_roundg (gk - 1)
        case measure => omega
        case rel => exact ⟨t + 1, by omega, by go_num, by rw [HSM.out]; exact HD7.out⟩
      · obtain rfl : t = j := by omega
        have hfull : l.take t = l := List.take_of_length_le (by rw [HL.out]; omega)
        have hd := HD.out
        rw [hfull] at hd
        have hw : wid (scrNums t l) = 4 + E := by rw [evsW_wid, HEL.out]
        have henc : encEvs l = some (scrBytes l) := encEvs_good (by rw [HL.out]; exact h4) HAL'.out
        have hse := laid_end (scrNums t l)
        have hsb : cat (scrNums t l) ++ le 4 (csum (cat (scrNums t l))) = scrBytes l := by unfold scrBytes scrHead; rw [HL.out]
        rw [hsb, hw] at hse
        have HLR := Lib.hid hd.len
        have hrow := hd.row
        rw [hw] at hrow
        have HRW := Lib.hid hrow
        have HON := Lib.hid hd.only
        have HSE := Lib.hid hse
        have HE := Lib.hid henc
        have HBL : Hid ((scrBytes l).length = 4 + E + 4) := Lib.hid (by rw [scrBytes_length, HEL.out]; omega)
        generalize lay (List.replicate (4 + E + 4) (0 : UInt8)) 0 (cat (scrNums t l)) = X at *
        generalize scrBytes l = Y at *
        obtain ⟨Ab, cb, hf0, hfb, hfA⟩ := row_bys hrow
        have hA := hfA (by rw [HLR.out]; omega)
        subst hA
        have hfk := hrow.fk
        have hcb := hfb.cm
        have hcl := hfb.le
        rw [HLR.out] at hf0 hfb hcl
        have hpw := hd.hp
        have hgw := hd.hg
        have HFB : Hid (Bys wr (some ⟨g, 0, none⟩) (4 + E) cb (X.take (4 + E))) := Lib.hid (by
          have h1 := (hrow.own (by rw [HLR.out]; omega)).take (4 + E)
          rw [show (bvs X).take (4 + E) = bvs (X.take (4 + E)) from by simp [bvs, List.map_take]] at h1
          exact Row1.of_Own h1 (by simp [HLR.out] <;> omega) (by omega) hcb)
        have hcs := csum_lt (X.take (4 + E))
        obtain ⟨cs, hcse⟩ : ∃ x, csum (X.take (4 + E)) = x := ⟨_, rfl⟩
        rw [hcse] at hcs
        have HCS := Lib.hid hcse
        have hk1 : ((4 + E : Nat) : Int) = 4 + (E : Int) := by omega
        rw [hk1] at hfk
        unfold maxLen at hcb
        have hs0 : 0 ≤ 4 + (E : Int) := by omega
        have hs1 : 4 + (E : Int) ≤ (cb : Int) := by omega
        have hs2 : (4 + (E : Int)).toNat = 4 + E := by omega
        have hs3 : 4 + E ≤ cb := by omega
        clear hfb hfA hcse hk1
        clear hd hrow hse henc hsb hw hfull HD
        go_wp2_with fail
        go_region_with (first
          | (go_at_call 48; refine (ref_sum_any (some ⟨g, 0, none⟩) (4 + E) cb (X.take (4 + E)) _ (by exact HFB.out.drew)).mono ?_
             rintro en w8 ⟨rfl, hO8⟩
             rw [HCS.out]
             have hO8' := ((Only.refl [] wr).drew).trans' hO8
             have g0 := hO8'.cell hf0 (by simp)
             have g1 := hO8'.cell hfk (by simp)
             have HS8 := Lib.hid (HRW.out.keep0 hO8')
             have HN8 := Lib.hid (HON.out.trans' hO8')
             clear hO8 hO8')
          | (go_at_call 46; refine (ref_one_any p g (4 + E) X 4 (cs : Int) _ (by exact HS8.out) (by decide) (by rw [HLR.out]; omega) ⟨by omega, by have e : (256 : Int) ^ 4 = 4294967296 := rfl; omega⟩).mono ?_
             rintro en w9 ⟨rfl, hr, hO⟩
             have HN9 : Hid (Only [] w w9) := Lib.hid (HN8.out.trans hO (by simp [hpw, hgw]))
             have HS9 := Lib.hid hr
             obtain ⟨A9, c9, hf9, hb9, hA9⟩ := row_bys hr
             have g2 := hf9
             clear hr hO hf9))
        all_goals
          have e3 : ((cs : Nat) : Int).toNat = cs := by omega
          rw [e3, ← HCS.out, HSE.out] at HS9 g2 hb9 hA9
          rw [HBL.out] at g2 hb9 hA9
          have hA := hA9 (by omega)
          subst hA
          have HROW := Lib.hid (And.intro (HS9.out.own (by rw [HBL.out]; omega)) (And.intro hb9.le hb9.cm))
          clear hb9 hA9
          go_wp2
          go_ret2
          obtain ⟨r3, r4, r5⟩ := HROW.out
          exact EncOwn.yes HE.out HBL.out r4 r5 hgw r3 HN9.out
  · have hd4 : decide (400 < (n : Int)) = true := by simp; omega
    have henc : encEvs l = none := encEvs_many (by omega)
    go_enter Try.func10, Try.ntmps10
    go_wp2
    go_ret2
    exact EncOwn.no henc (Only.refl _ _)
theorem ref_script_enc_any (A : Option Addr) (n c : Nat) (l : List Ev) (w : World) (hi : Evs w A n c l) :
    Calls Try.prog 10 #[.slice A n c] w (EncSays w (encEvs l)) := (ref_script_enc_own A n c l w hi).mono fun _ _ h => h.says
end Go.Proofs.Ytkpagiokjihmhaa
