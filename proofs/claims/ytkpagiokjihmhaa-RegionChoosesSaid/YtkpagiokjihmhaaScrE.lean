
/- Contracts of script.Encode and the reference's ScriptBytes. -/
import Derived.Test.YtkpagiokjihmhaaScrA
import Derived.Test.YtkpagiokjihmhaaCrcC
import Derived.Test.YtkpagiokjihmhaaItemB
import Derived.Deep.RegionHeld3
set_option linter.unusedVariables false
set_option linter.unusedSimpArgs false
namespace Go.Kn
open Go Go.RowKit
/-- a row of L bytes in which numbers were laid from its beginning on -/
structure Laid (w0 w : World) (p g L : Nat) (a : List (Nat × Int)) : Prop where
  row : RowAt w p g (lay (List.replicate L 0) 0 (cat a)) (wid a)
  only : Only [] w0 w
  hp : w0.heap.size ≤ p
  hg : w0.heap.size ≤ g
  room : wid a ≤ L
section
variable {w0 w w' : World} {p g L : Nat} {a : List (Nat × Int)}
theorem Laid.len (h : Laid w0 w p g L a) : (lay (List.replicate L (0 : UInt8)) 0 (cat a)).length = L := by
  have := h.room
  rw [lay_length _ _ _ (by rw [cat_length, List.length_replicate]; omega), List.length_replicate]
theorem Laid.keep (h : Laid w0 w p g L a) (hO : Only [] w w') : Laid w0 w' p g L a := ⟨h.row.keep0 hO, h.only.trans' hO, h.hp, h.hg, h.room⟩
theorem Laid.alloc (h : Laid w0 w p g L a) (o : Obj) : Laid w0 (w.alloc o) p g L a := h.keep ((Only.refl _ _).alloc o)
theorem Laid.drew (h : Laid w0 w p g L a) : Laid w0 w.drew p g L a := h.keep ((Only.refl _ _).drew)
theorem Laid.put {n m : Nat} {zs : List Int} (h : Laid w0 w p g L a) (hr : RowAt w' p g (lay (lay (List.replicate L 0) 0 (cat a)) (wid a) (les n zs)) (wid a + n * m)) (hO : Only [p, g] w w') (hm : zs.length = m) (hL : wid a + n * m ≤ L) :
    Laid w0 w' p g L (a ++ zs.map fun z => (n, z)) := by
  subst hm
  rw [lay_cat _ a (wid a) n zs rfl (by rw [List.length_replicate]; omega)] at hr
  have e : wid (a ++ zs.map fun z => (n, z)) = wid a + n * zs.length := by rw [wid_append, wid_put]
  refine ⟨by rw [e]; exact hr, h.only.trans hO (by simp [h.hp, h.hg]), h.hp, h.hg, by rw [e]; exact hL⟩
theorem Laid.one {n : Nat} {z : Int} (h : Laid w0 w p g L a) (hr : RowAt w' p g (lay (lay (List.replicate L 0) 0 (cat a)) (wid a) (le n z.toNat)) (wid a + n)) (hO : Only [p, g] w w') (hL : wid a + n ≤ L) : Laid w0 w' p g L (a ++ [(n, z)]) := by
  rw [← les_one] at hr
  exact h.put (m := 1) (zs := [z]) (by rw [Nat.mul_one]; exact hr) hO rfl (by omega)
theorem Laid.start (hp : w0.heap.size ≤ p) (hg : w0.heap.size ≤ g) (hr : RowAt w p g (List.replicate L 0) 0) (hO : Only [] w0 w) : Laid w0 w p g L [] :=
  ⟨by simpa [lay_nil, wid] using hr, hO, hp, hg, by simp [wid]⟩
theorem laid_end (a : List (Nat × Int)) : lay (lay (List.replicate (wid a + 4) 0) 0 (cat a)) (wid a) (le 4 (csum ((lay (List.replicate (wid a + 4) 0) 0 (cat a)).take (wid a)))) = cat a ++ le 4 (csum (cat a)) := by
  have h1 : (lay (List.replicate (wid a + 4) (0 : UInt8)) 0 (cat a)).take (wid a) = cat a := by
    rw [lay_zero, List.take_left' (cat_length a)]
  rw [h1]
  have hl : (lay (List.replicate (wid a + 4) (0 : UInt8)) 0 (cat a)).length = wid a + 4 := by
    rw [lay_length _ _ _ (by rw [cat_length, List.length_replicate]; omega), List.length_replicate]
  rw [lay, h1, List.drop_eq_nil_of_le (by rw [hl, le_length]; omega), List.append_nil]
end
theorem all_take_ev {l : List Ev} {j : Nat} (hj : j < l.length) (h : (l.take j).all Ev.may = true) (hm : l[j].may = true) : (l.take (j + 1)).all Ev.may = true := by
  rw [List.take_succ_eq_append_getElem hj, List.all_append, h]
  simp [hm]
theorem scr_put (n : Nat) (l : List Ev) (j : Nat) (h : j < l.length) : ((((scrNums n (l.take j) ++ [l[j].k].map fun z => (1, z)) ++ [l[j].a, l[j].b].map fun z => (4, z)) ++ [l[j].y].map fun z => (2, z)) ++ [(l[j].ps.length : Int)].map fun z => (1, z)) ++ (l[j].ps.map fun z => (1, z)) = scrNums n (l.take (j + 1)) := by
  rw [List.take_succ_eq_append_getElem h, scrNums_snoc]
  simp [Ev.nums, List.append_assoc]
theorem scr_wid_le (n : Nat) (l : List Ev) (j : Nat) (h : j < l.length) : wid (scrNums n (l.take j)) + (12 + l[j].ps.length) ≤ 4 + evsW l := by
  have h1 := evsW_take_succ l j h
  have h2 := evsW_take_le l (j + 1)
  rw [evsW_wid]
  omega
theorem wid1 (a : List (Nat × Int)) (n : Nat) (zs : List Int) : wid (a ++ zs.map fun z => (n, z)) = wid a + n * zs.length := by rw [wid_append, wid_put]
end Go.Kn
namespace Go.Proofs.Ytkpagiokjihmhaa
open Go Go.RowKit Go.Kn

set_option maxRecDepth 100000 in
set_option maxHeartbeats 4000000 in
theorem script_enc_own (A : Option Addr) (n c : Nat) (l : List Ev) (w : World) (hi : Evs w A n c l) :
    Calls Try.prog 9 #[.slice A n c] w (EncOwn w (encEvs l)) := by
  have hlen := hi.len
  have hcm := hi.cm
  have hcl := hi.le
  unfold maxLen at hcm
  by_cases h4 : n ≤ 400
  · have hd4 : decide (400 < (n : Int)) = false := by simp; omega
    have HI := Lib.hid hi
    have HL := Lib.hid hlen
    clear hi hlen
    go_enter Try.func9, Try.ntmps9
    go_wp2_with fail
    go_loopg [4, 15] n (fun r s i wr => ∃ j E : Nat, j + r = n ∧ i = .int .i64 j ∧ s = .int .i64 (8 + (E : Int)) ∧ E = evsW (l.take j) ∧ Only [] w wr ∧ (l.take j).all Ev.may = true)
    case atStart => exact ⟨0, 0, by omega, rfl, rfl, by simp [evsW], Only.refl _ _, by simp⟩
    obtain ⟨j, E, hj, rfl, rfl, hE, hO, hal⟩ := hrel
    have hE2 := evsW_le hal
    rw [← hE, List.length_take, HL.out] at hE2
    have HEE := Lib.hid hE
    have HO := Lib.hid hO
    have HAL := Lib.hid hal
    clear hO hal hE
    by_cases hlt : j < n
    · have hjz : j < l.length := by rw [HL.out]; exact hlt
      have hE3 : E ≤ 112 * 400 := by omega
      clear hE2
      obtain ⟨a, o, rfl, hc⟩ := HI.out.at_ (by omega)
      obtain ⟨q0, q1, q2, q3, B, m, d, q4, hps⟩ := hc j hjz
      have c0 := HO.out.cell q0 (by simp)
      have c1 := HO.out.cell q1 (by simp)
      have c2 := HO.out.cell q2 (by simp)
      have c3 := HO.out.cell q3 (by simp)
      have c4 := HO.out.cell q4 (by simp)
      have HPS := Lib.hid (hps.keep0 HO.out)
      have hpl := hps.len
      rw [ivs_length] at hpl
      have HPL := Lib.hid hpl
      clear hc q0 q1 q2 q3 q4 hps hpl
      have HIT : Hid (l[j] = ⟨l[j].k, l[j].a, l[j].b, l[j].y, l[j].ps⟩) := Lib.hid rfl
      cases hm : l[j].may
      · have HM := Lib.hid hm
        clear hm
        generalize hik : l[j].k = ik at *
        generalize hia : l[j].a = ia at *
        generalize hib : l[j].b = ib at *
        generalize hiy : l[j].y = iy at *
        generalize hip : l[j].ps = ip at *
        have HME : Hid (Ev.may ⟨ik, ia, ib, iy, ip⟩ = false) := Lib.hid (by rw [← HIT.out]; exact HM.out)
        clear hik hia hib hiy hip
        go_wp2_with fail
        refine (script_may_any ik ia ib iy B m d ip _ (by exact HPS.out.alloc _)).mono ?_
        rintro e w2 ⟨rfl, hO2⟩
        rw [HME.out]
        go_wp2
        go_ret2
        exact EncOwn.no (encEvs_bad hjz HM.out) ((HO.out.alloc _).trans' hO2)
      · have hm100 := (Ev.may_bounds hm).2.2.2.2.2
        rw [HPL.out] at hm100
        have hES : E + (12 + m) = evsW (l.take (j + 1)) := by rw [evsW_take_succ _ _ hjz, ← HEE.out, HPL.out]
        have HES := Lib.hid hES
        have HM := Lib.hid hm
        clear hm hES
        generalize hik : l[j].k = ik at *
        generalize hia : l[j].a = ia at *
        generalize hib : l[j].b = ib at *
        generalize hiy : l[j].y = iy at *
        generalize hip : l[j].ps = ip at *
        have HME : Hid (Ev.may ⟨ik, ia, ib, iy, ip⟩ = true) := Lib.hid (by rw [← HIT.out]; exact HM.out)
        clear hik hia hib hiy hip
        go_wp2_with fail
        refine (script_may_any ik ia ib iy B m d ip _ (by exact HPS.out.alloc _)).mono ?_
        rintro e w2 ⟨rfl, hO2⟩
        rw [HME.out]
        have x4 := hO2.cell (p := ⟨wr.heap.size, 4, none⟩) (v := .slice B m d) (by simp) (by simp)
        have HO2 := Lib.hid ((HO.out.alloc (.cells #[.int .i64 ik, .int .i64 ia, .int .i64 ib, .int .i64 iy, .slice B m d] 38)).trans' hO2)
        clear hO2 HO c0 c1 c2 c3 c4
        go_wp2
        go_roundg (gk - 1)
        case measure => omega
        case rel => exact ⟨j + 1, E + (12 + m), by omega, by go_num, by go_num, HES.out, HO2.out, all_take_ev hjz HAL.out HM.out⟩
    · obtain rfl : j = n := by omega
      have hfull : l.take j = l := List.take_of_length_le (by rw [HL.out]; omega)
      have hal := HAL.out
      rw [hfull] at hal
      have hE3 : E ≤ 112 * 400 := by omega
      have hEl := HEE.out
      rw [hfull] at hEl
      have HAL' := Lib.hid hal
      have HEL := Lib.hid hEl
      clear hal hfull HAL hlt hj hE2 HEE hEl
      go_wp2_with fail
      refine (new_any (8 + (E : Int)) _ (by omega) (by omega)).mono ?_
      rintro e w1 ⟨p, g, rfl, hp, hg, hr1, hO1⟩
      have hzr : List.replicate (8 + (E : Int)).toNat (0 : UInt8) = List.replicate (4 + E + 4) 0 := by congr 1; omega
      rw [hzr] at hr1
      have hsz := HO.out.size
      have HD0 : Hid (Laid w w1 p g (4 + E + 4) []) := Lib.hid (Laid.start (by omega) (by omega) hr1 (HO.out.trans' hO1))
      clear hO1 hr1 hzr hsz HO
      go_wp2_with fail
      refine (put_any p g 0 _ 1 _ 2 2 [75, 69] _ (by exact HD0.out.row.alloc _) (by exact ins_built _ [75, 69] _ 2 rfl (by omega)) (by exact ne_built HD0.out.row) (by decide) (by rw [HD0.out.len]; omega) (by decide)).mono ?_
      rintro e w2 ⟨rfl, hr, hO⟩
      have HD1 := Lib.hid ((HD0.out.alloc _).put hr hO rfl (by simp [wid] <;> omega))
      clear hr hO HD0
      have hn16 : (n_ : Nat) → True := fun _ => trivial
      clear hn16
      have HFN : Hid (Fit 2 [(j : Int)]) := Lib.hid (by simp only [fit_cons, fit_nil, Int.reducePow, and_true]; omega)
      go_wp2_with fail
      refine (put_any p g 2 _ 2 _ 1 1 [(j : Int)] _ (by exact HD1.out.row.alloc _) (by exact ins_built _ [(j : Int)] _ 1 rfl (by omega)) (by exact ne_built HD1.out.row) (by decide) (by rw [HD1.out.len]; omega) HFN.out).mono ?_
      rintro e w3 ⟨rfl, hr, hO⟩
      have HD2 : Hid (Laid w w3 p g (4 + E + 4) (scrNums j [])) := Lib.hid ((HD1.out.alloc _).put hr hO rfl (by simp [wid] <;> omega))
      clear hr hO HD1
      go_wp2_with fail
      go_loopg [41] j (fun r i wr => ∃ t : Nat, t + r = j ∧ i = .int .i64 t ∧ Laid w wr p g (4 + E + 4) (scrNums j (l.take t)))
      case atStart => exact ⟨0, by omega, rfl, by simpa using HD2.out⟩
      obtain ⟨t, ht, rfl, hd⟩ := hrel
      have HD := Lib.hid hd
      have hlp := hd.row.lp
      have hlg := hd.row.lg
      clear hd
      by_cases hlt : t < j
      · have hjz : t < l.length := by rw [HL.out]; exact hlt
        obtain ⟨a, o, rfl, hc⟩ := HI.out.at_ (by omega)
        obtain ⟨q0, q1, q2, q3, B, m, d, q4, hps⟩ := hc t hjz
        have c0 := HD.out.only.cell q0 (by simp)
        have c1 := HD.out.only.cell q1 (by simp)
        have c2 := HD.out.only.cell q2 (by simp)
        have c3 := HD.out.only.cell q3 (by simp)
        have c4 := HD.out.only.cell q4 (by simp)
        have HPS := Lib.hid hps
        have hpl := hps.len
        rw [ivs_length] at hpl
        have HPL := Lib.hid hpl
        clear hc q0 q1 q2 q3 q4 hps hpl
        have hm : l[t].may = true := List.all_eq_true.1 HAL'.out l[t] (List.getElem_mem _)
        obtain ⟨b0, b1, b2, b3, b4, b5⟩ := Ev.may_bounds hm
        rw [HPL.out] at b5
        have HF1 : Hid (Fit 1 [l[t].k]) := Lib.hid (by simp only [fit_cons, fit_nil, Int.reducePow, and_true]; omega)
        have HF2 : Hid (Fit 4 [l[t].a, l[t].b]) := Lib.hid (by simp only [fit_cons, fit_nil, Int.reducePow, and_true]; omega)
        have HF3 : Hid (Fit 2 [l[t].y]) := Lib.hid (by simp only [fit_cons, fit_nil, Int.reducePow, and_true]; omega)
        have HF4 : Hid (Fit 1 [(m : Int)]) := Lib.hid (by simp only [fit_cons, fit_nil, Int.reducePow, and_true]; omega)
        have HF5 : Hid (Fit 1 l[t].ps) := Lib.hid (fun z hz => by have := b0 z hz; have e : (256 : Int) ^ 1 = 256 := rfl; omega)
        have hw := scr_wid_le j l t hjz
        rw [← HEL.out, HPL.out] at hw
        have HW := Lib.hid hw
        have hsp := scr_put j l t hjz
        rw [HPL.out] at hsp
        have HSP := Lib.hid hsp
        clear hm b0 b1 b2 b3 b4 hw hsp
        generalize hik : l[t].k = ik at *
        generalize hia : l[t].a = ia at *
        generalize hib : l[t].b = ib at *
        generalize hiy : l[t].y = iy at *
        generalize hip : l[t].ps = ip at *
        clear hik hia hib hiy hip
        generalize scrNums j (l.take t) = SN at *
        generalize hSM : scrNums j (l.take (t + 1)) = SM at *
        have HSM := Lib.hid hSM
        clear hSM
        have hO7 : Only [] wr (wr.alloc (.cells #[.int .i64 ik, .int .i64 ia, .int .i64 ib, .int .i64 iy, .slice B m d] 38)) := (Only.refl _ _).alloc _
        have hb7 := Own.new wr #[.int .i64 ik, .int .i64 ia, .int .i64 ib, .int .i64 iy, .slice B m d] 38
        have HD' := Lib.hid (HD.out.keep hO7)
        go_upto_region 17 with (fail)
        generalize hfe : wr.heap.size = f at *
        generalize hwq : wr.alloc (.cells #[.int .i64 ik, .int .i64 ia, .int .i64 ib, .int .i64 iy, .slice B m d] 38) = wq at *
        have HB := Lib.hid hb7
        have hfp : ¬ (f = p) := by omega
        have hfg : ¬ (f = g) := by omega
        have hwf : w.heap.size ≤ f := by rw [← hfe]; exact HD.out.only.size
        have HFE : Hid (f < wq.heap.size) := Lib.hid hb7.lt
        clear hb7 hO7 HD c0 c1 c2 c3 c4 hfe hwq hlp hlg
        have x0 := HB.out.cell 0 (by simp)
        simp only [List.getElem_cons_zero, List.getElem_cons_succ] at x0
        go_wp2_with fail
        refine (put_any p g _ _ 1 _ 1 1 [ik] _ (by exact HD'.out.row.alloc _) (by exact ins_built _ [ik] _ 1 rfl (by omega)) (by exact ne_built HD'.out.row) (by decide) (by rw [HD'.out.len]; have := HW.out; omega) HF1.out).mono ?_
        rintro e w4 ⟨rfl, hr, hO⟩
        have HD3 := Lib.hid ((HD'.out.alloc _).put hr hO rfl (by have := HW.out; omega))
        have HB3 := Lib.hid ((HB.out.alloc (.cells #[.int .i64 ik] 3)).keep hO (by simp [hfp, hfg]))
        clear hr hO HD' HB x0
        have x1 := HB3.out.cell 1 (by simp)
        have x2 := HB3.out.cell 2 (by simp)
        simp only [List.getElem_cons_zero, List.getElem_cons_succ] at x1 x2
        go_wp2_with fail
        refine (put_any p g _ _ 4 _ 2 2 [ia, ib] _ (by exact HD3.out.row.alloc _) (by exact ins_built _ [ia, ib] _ 2 rfl (by omega)) (by exact ne_built HD3.out.row) (by decide) (by rw [HD3.out.len, wid1]; have := HW.out; simp only [List.length_cons, List.length_nil]; omega) HF2.out).mono ?_
        rintro e w5 ⟨rfl, hr, hO⟩
        have HD4 := Lib.hid ((HD3.out.alloc _).put hr hO rfl (by rw [wid1]; have := HW.out; simp only [List.length_cons, List.length_nil]; omega))
        have HB4 := Lib.hid ((HB3.out.alloc (.cells #[.int .i64 ia, .int .i64 ib] 3)).keep hO (by simp [hfp, hfg]))
        clear hr hO HD3 HB3 x1 x2
        have x3 := HB4.out.cell 3 (by simp)
        simp only [List.getElem_cons_zero, List.getElem_cons_succ] at x3
        go_wp2_with fail
        refine (put_any p g _ _ 2 _ 1 1 [iy] _ (by exact HD4.out.row.alloc _) (by exact ins_built _ [iy] _ 1 rfl (by omega)) (by exact ne_built HD4.out.row) (by decide) (by rw [HD4.out.len, wid1, wid1]; have := HW.out; simp only [List.length_cons, List.length_nil]; omega) HF3.out).mono ?_
        rintro e w6 ⟨rfl, hr, hO⟩
        have HD5 := Lib.hid ((HD4.out.alloc _).put hr hO rfl (by rw [wid1, wid1]; have := HW.out; simp only [List.length_cons, List.length_nil]; omega))
        have HB5 := Lib.hid ((HB4.out.alloc (.cells #[.int .i64 iy] 3)).keep hO (by simp [hfp, hfg]))
        clear hr hO HD4 HB4 x3
        have x4 := HB5.out.cell 4 (by simp)
        simp only [List.getElem_cons_zero, List.getElem_cons_succ] at x4
        go_wp2_with fail
        refine (put_any p g _ _ 1 _ 1 1 [(m : Int)] _ (by exact HD5.out.row.alloc _) (by exact ins_built _ [(m : Int)] _ 1 rfl (by omega)) (by exact ne_built HD5.out.row) (by decide) (by rw [HD5.out.len, wid1, wid1, wid1]; have := HW.out; simp only [List.length_cons, List.length_nil]; omega) HF4.out).mono ?_
        rintro e w7 ⟨rfl, hr, hO⟩
        have HD6 := Lib.hid ((HD5.out.alloc _).put hr hO rfl (by rw [wid1, wid1, wid1]; have := HW.out; simp only [List.length_cons, List.length_nil]; omega))
        have HB6 := Lib.hid ((HB5.out.alloc (.cells #[.int .i64 (m : Int)] 3)).keep hO (by simp [hfp, hfg]))
        clear hr hO HD5 HB5 x4
        have x4 := HB6.out.cell 4 (by simp)
        simp only [List.getElem_cons_zero, List.getElem_cons_succ] at x4
        have HNE : Hid (0 < m → ∀ a, B = some a → a.block ≠ p ∧ a.block ≠ g) := Lib.hid (fun hm a ha => by
          have h1 := HPS.out.block_lt hm a ha
          have h2 := HD6.out.hp
          have h3 := HD6.out.hg
          exact ⟨by omega, by omega⟩)
        go_wp2_with fail
        refine (put_anyP p g _ _ 1 B m d ip _ (by exact HD6.out.row) (by exact HPS.out.keep0 HD6.out.only) HNE.out (by decide) (by rw [HD6.out.len, wid1, wid1, wid1, wid1]; have := HW.out; simp only [List.length_cons, List.length_nil]; omega) HF5.out).mono ?_
        rintro e w8 ⟨rfl, hr, hO⟩
        have hd7 := HD6.out.put hr hO HPL.out (by rw [wid1, wid1, wid1, wid1]; have := HW.out; simp only [List.length_cons, List.length_nil]; omega)
        rw [HSP.out] at hd7
        have HD7 := Lib.hid hd7
        clear hr hO hd7 HD6 HB6 x4
        go_wp2
        go_roundg (gk - 1)
        case measure => omega
        case rel => exact ⟨t + 1, by omega, by go_num, by rw [HSM.out]; exact HD7.out⟩
      · obtain rfl : t = j := by omega
        have hfull : l.take t = l := List.take_of_length_le (by rw [HL.out]; omega)
        have hd := HD.out
        rw [hfull] at hd
        have hw : wid (scrNums t l) = 4 + E := by rw [evsW_wid, HEL.out]
        have henc : encEvs l = some (scrBytes l) := encEvs_good (by rw [HL.out]; exact h4) HAL'.out
        have hse := laid_end (scrNums t l)
        have hsb : cat (scrNums t l) ++ le 4 (csum (cat (scrNums t l))) = scrBytes l := by unfold scrBytes scrHead; rw [HL.out]
        rw [hsb, hw] at hse
        have HLR := Lib.hid hd.len
        have hrow := hd.row
        rw [hw] at hrow
        have HRW := Lib.hid hrow
        have HON := Lib.hid hd.only
        have HSE := Lib.hid hse
        have HE := Lib.hid henc
        have HBL : Hid ((scrBytes l).length = 4 + E + 4) := Lib.hid (by rw [scrBytes_length, HEL.out]; omega)
        generalize lay (List.replicate (4 + E + 4) (0 : UInt8)) 0 (cat (scrNums t l)) = X at *
        generalize scrBytes l = Y at *
        clear hd hrow hse henc hsb hw hfull HD
        go_wp2_with fail
        refine (bytes_any p g (4 + E) X _ (by exact HRW.out)).mono ?_
        rintro en w8 ⟨A4, c4, rfl, hc4, hm4, hpos4, hO4⟩
        obtain ⟨g4, rfl, hg4, ho4⟩ := hpos4 (by rw [HLR.out]; omega)
        rw [HLR.out] at hc4 ⊢
        have HO4 := Lib.hid (HON.out.trans' hO4)
        have HW4 := Lib.hid ho4
        have hgw : w.heap.size ≤ g4 := Nat.le_trans HON.out.size hg4
        clear hpos4 hO4 ho4
        go_wp2_with fail
        refine (crc_seal_any g4 c4 X (4 + E) _ HLR.out hc4 hm4 (by exact HW4.out)).mono ?_
        rintro en w9 ⟨rfl, ho5, hO5⟩
        rw [HSE.out] at ho5
        have HO5 := Lib.hid (HO4.out.trans hO5 (by simpa using hgw) : Only [] w w9)
        have HW5 := Lib.hid ho5
        clear ho5 hO5
        go_wp2
        go_ret2
        exact EncOwn.yes HE.out HBL.out hc4 hm4 hgw HW5.out HO5.out
  · have hd4 : decide (400 < (n : Int)) = true := by simp; omega
    have henc : encEvs l = none := encEvs_many (by omega)
    go_enter Try.func9, Try.ntmps9
    go_wp2
    go_ret2
    exact EncOwn.no henc (Only.refl _ _)
theorem script_enc_any (A : Option Addr) (n c : Nat) (l : List Ev) (w : World) (hi : Evs w A n c l) :
    Calls Try.prog 9 #[.slice A n c] w (EncSays w (encEvs l)) := (script_enc_own A n c l w hi).mono fun _ _ h => h.says
end Go.Proofs.Ytkpagiokjihmhaa
