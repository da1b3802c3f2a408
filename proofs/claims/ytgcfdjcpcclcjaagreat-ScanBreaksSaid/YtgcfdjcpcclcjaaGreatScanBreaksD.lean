/- RecE, DkF, DkG, DkH, KitA, GeoA, HeadP, HeadM, HeadE, HeadB, CrcC, CrcD: joined by pack.py, without what the claim does not use. -/
import Derived.Test.YtgcfdjcpcclcjaaGreatScanBreaksC
set_option linter.unusedVariables false
set_option linter.unusedSimpArgs false
namespace Go.Kn
open Go Go.RowKit
def chunkB (b : List UInt8) (i : Nat) : List UInt8 := (b.drop (64 * (i + 1))).take 64
theorem rcBl_eq (b : List UInt8) (k : Nat) : rcBl b k = (List.range k).map (chunkB b) := rfl
theorem rcFit_eq (b : List UInt8) : rcFit b = (hdOk b && decide (b.length = 64 * (1 + hdB b))) := by
  unfold rcFit
  by_cases h : 16 ≤ b.length
  · obtain ⟨h1, h2, h3, _⟩ := hd_at h
    rw [h2, h3]
  · rw [decide_eq_false (by omega), decide_eq_false (by omega), Bool.and_false, Bool.and_false]
theorem rcFit_iff {b : List UInt8} : rcFit b = true ↔ (b.take 2 = [75, 82] ∧ (1 ≤ rcN b ∧ rcN b ≤ 6) ∧ rcK b ≤ rcN b) ∧ b.length = 64 * (1 + rcK b) := by
  unfold rcFit rcHd
  simp only [Bool.and_eq_true, decide_eq_true_eq]
theorem rc_its_len {b : List UInt8} (h : rcFit b = true) : ((b.drop 16).take (7 * rcN b)).length = 7 * rcN b := by
  obtain ⟨⟨_, ⟨_, _⟩, _⟩, hl⟩ := rcFit_iff.1 h
  rw [List.length_take, List.length_drop]
  omega
theorem rc_items {b : List UInt8} (h : rcFit b = true) : decItems ((b.drop 16).take (7 * rcN b)) = if (rcOf b).its.all It.may = true then some (rcOf b).its else none := by
  have hl := rc_its_len h
  obtain ⟨⟨_, ⟨_, _⟩, _⟩, _⟩ := rcFit_iff.1 h
  have e : (rcOf b).its = parse ((b.drop 16).take (7 * rcN b)) (rcN b) := rfl
  rw [e]
  unfold decItems
  rw [hl, show 7 * rcN b / 7 = rcN b from by omega]
  by_cases hm : (parse ((b.drop 16).take (7 * rcN b)) (rcN b)).all It.may = true
  · rw [if_pos ⟨by omega, by omega, hm⟩, if_pos hm]
  · rw [if_neg (fun hh => hm hh.2.2), if_neg hm]
theorem rc_no_items {b : List UInt8} (h : rcFit b = true) (hd : decItems ((b.drop 16).take (7 * rcN b)) = none) : decRc b = none := by
  cases hr : decRc b with
  | none => rfl
  | some x =>
    obtain ⟨h1, h2, _⟩ := encRc_of_dec hr
    obtain ⟨hm, _⟩ := of_enc h1
    obtain ⟨_, hal, _⟩ := rcMay_iff.1 hm
    rw [h2] at hal
    rw [rc_items h, if_pos hal] at hd
    cases hd
theorem rc_some_items {b : List UInt8} {l : List It} (h : rcFit b = true) (hd : decItems ((b.drop 16).take (7 * rcN b)) = some l) : l = (rcOf b).its := by
  rw [rc_items h] at hd
  split at hd
  · injection hd with hd; exact hd.symm
  · cases hd
theorem rc_not_fit {b : List UInt8} (h : rcFit b = false) : decRc b = none := by
  unfold decRc
  rw [h]
  rfl
theorem rc_dec_of {b : List UInt8} (h : rcFit b = true) : decRc b = (match encRc (rcOf b) with
    | some (y, s) => if y = b then some (rcOf b, s) else none
    | none => none) := by
  unfold decRc
  rw [if_pos h]
  rfl
theorem Wc.mk1 {w0 w : World} {f : Nat} {cs : List Value} (hO : Only [] w0 w) (ho : Kn.Own w f cs) (hf : w0.heap.size ≤ f) : Wc w0 w [(f, cs)] [] [] :=
  ⟨hO, by intro x hx; simp at hx; subst hx; exact ho, by intro x hx; simp at hx; subst hx; exact hf, by simp, by simp, by simp, by simp, by simp⟩
theorem Row1.three {w : World} {g o n c l m : Nat} {xs : List Value} (h : Row1 w (some ⟨g, o, none⟩) n c xs) (hl : l + m ≤ n) : Row1 w (some ⟨g, o + l, none⟩) m m ((xs.drop l).take m) := by
  have h1 := h.len
  have h2 := h.le
  have h3 := h.cm
  refine ⟨by simp; omega, Nat.le_refl _, by omega, fun hm => ⟨g, o + l, rfl, fun i hi => ?_⟩⟩
  obtain ⟨g', o', e, hc⟩ := h.at_ (by omega)
  injection e with e
  injection e with e1 e2
  subst e1 e2
  simp at hi
  rw [List.getElem_take, List.getElem_drop, Nat.add_assoc]
  exact hc (l + i) (by omega)
def rcZ : Rc := ⟨0, 0, 0, [], []⟩
/-- what a reader of records answers -/
def RcSays (w : World) (o : Option (Rc × Nat)) (err : Int) (e : Ending) (w' : World) : Prop :=
  ∃ s t : Option Addr × Nat × Nat, e = .returned (.tuple #[.agg (((o.map (·.1)).getD rcZ).cells s t), .int .i64 ((o.map (·.2)).getD 0 : Nat), .int .i64 (if o.isSome then 0 else err)]) ∧ Fc w' (fun k => k < w.heap.size) (fun W => RcAt W ((o.map (·.1)).getD rcZ) s t) ∧ Only [] w w'
theorem RcSays.no {w w' : World} {o : Option (Rc × Nat)} {err : Int} (h : o = none) (hO : Only [] w w') : RcSays w o err (.returned (.tuple #[.agg #[.int .i64 0, .int .i64 0, .int .i64 0, .slice none 0 0, .slice none 0 0], .int .i64 0, .int .i64 err])) w' := by
  subst h
  exact ⟨(none, 0, 0), (none, 0, 0), rfl, fun W _ => ⟨Its.nil W, Blks.nil W⟩, hO⟩
theorem RcAt.fc {w : World} {M : Nat → Prop} {r : Rc} {s t : Option Addr × Nat × Nat} {sl : List (Option Addr × Nat × Nat)} (h1 : Fc w M (fun W => Its W s.1 s.2.1 s.2.2 r.its)) (h2 : Fc w M (fun W => Row1 W t.1 t.2.1 t.2.2 (sl.map slv))) (h3 : Fc w M (fun W => Bls W sl r.bl)) : Fc w M (fun W => RcAt W r s t) := fun W hW =>
  ⟨h1 W hW, sl, h2 W hW, h3 W hW⟩
theorem setCell_obj {w : World} {D : Nat} {o : Obj} {p : Addr} {v : Value} (h : w.heap[D]? = some o) (ho : o.isCells = false) : (w.setCell p v).heap[D]? = some o := (KeepsOthers.setCell w p v).same D o h ho
theorem Only.putObj {w0 w : World} {D : Nat} {o : Obj} (h : Only [] w0 w) (hD : w0.heap.size ≤ D) : Only [] w0 (w.putObj D o) :=
  h.trans (T := [D]) ⟨rfl, rfl, rfl, by simp, fun k _ hk => World.putObj_heap_other (by simpa using hk)⟩ (by simpa using hD)
theorem Row1.of_owns {w : World} {base e n c : Nat} {A : Option Addr} {xs : List Value} (h : w.ownsRow base e 1 (.slice A n c) n xs) : Row1 w A n c xs ∧ (0 < n → ∀ a, A = some a → base ≤ a.block) := by
  have h1 := h.1
  rw [Nat.mul_one] at h1
  rcases h.2 with ⟨hv, h0⟩ | ⟨g, cap, cur, hv, hb, hh, hn, hm, hs, ht⟩
  · injection hv with e1 e2 e3
    subst e1 e3
    subst h0
    obtain rfl : xs = [] := List.eq_nil_of_length_eq_zero h1
    exact ⟨Row1.nil w, fun h => absurd h (by omega)⟩
  · injection hv with e1 e2 e3
    subst e1 e3
    refine ⟨Row1.of_Own ⟨cur, _, hh, by rw [h1]; simpa using ht⟩ h1 hn hm, fun _ a ha => ?_⟩
    injection ha with ha
    subst ha
    exact hb
theorem Wc.rcFc {w V : World} {L : List (Nat × List Value)} {F : List (World → Prop)} {e N n c3 c5 : Nat} {A3 A5 : Option Addr} {sl : List (Option Addr × Nat × Nat)} {its : List It} {bl : List (List UInt8)} {rm rn rp : Int} (h : Wc w V L [⟨e, 1, .slice A5 n c5, n, sl.map slv⟩] F)
    (hb : (fun W => Bls W sl bl) ∈ F) (hi : (fun W => Its W A3 N c3 its) ∈ F) (hfi : 0 < N → ∀ a, A3 = some a → w.heap.size ≤ a.block) (hfr : ∀ s ∈ sl, ∀ a, s.1 = some a → w.heap.size ≤ a.block) :
    Fc V (fun k => k < w.heap.size) (fun W => RcAt W ⟨rm, rn, rp, its, bl⟩ (A3, N, c3) (A5, n, c5)) := by
  obtain ⟨h1, h2⟩ := Row1.of_owns (h.gi 0 rfl)
  refine RcAt.fc (sl := sl) ((h.fact _ hi).fc (fun h0 a ha hm => ?_)) (h1.fc (fun h0 a ha hm => ?_)) ((h.fact _ hb).fc (fun s hs _ a ha hm => ?_))
  · have := hfi h0 a ha; omega
  · have := h2 h0 a ha; omega
  · have := hfr s hs a ha; omega
theorem Its.keepS {S : List Nat} {w w' : World} {A : Option Addr} {n c : Nat} {l : List It} (h : Its w A n c l) (hO : Only S w w') (hS : 0 < n → ∀ a, A = some a → a.block ∉ S) : Its w' A n c l :=
  ⟨h.len, h.le, h.cm, fun hn => by
    obtain ⟨g, o, e, hc⟩ := h.at_ hn
    have hg : g ∉ S := hS hn _ e
    exact ⟨g, o, e, fun i hi => ⟨hO.cell (hc i hi).1 hg, hO.cell (hc i hi).2.1 hg, hO.cell (hc i hi).2.2.1 hg, hO.cell (hc i hi).2.2.2 hg⟩⟩⟩
end Go.Kn
namespace Go.Proofs.YtgcfdjcpcclcjaaGreat
open Go Go.RowKit Go.Kn Go.Shelf
attribute [local go_sem] Oper.semAt_some
set_option maxRecDepth 100000 in
set_option maxHeartbeats 16000000 in
theorem rec_dec_any (A : Option Addr) (n c : Nat) (bs : List UInt8) (w : World) (hi : Bys w A n c bs) (hn : n ≤ 60000) :
    Calls Tryz.prog 187 #[.slice A n c] w (RcSays w (decRc bs) 2) := by
  have hres : Tryz.f187.results = #[.cell 2 56, .tmp 3, .tmp 4] := by kernel_rfl
  have HRES := Lib.hid hres
  obtain ⟨i0, hi0, hz0, hz1, hz2⟩ := info_parts Tryz.infoBys
  have hlen := hi.len
  have hnc := hi.le
  have hcm := hi.cm
  rw [bvs_length] at hlen
  have HI := Lib.hid hi
  have HL := Lib.hid hlen
  have hfe := rcFit_eq bs
  rw [hlen] at hfe
  have HFE := Lib.hid hfe
  have hB0 := Own.new w #[.int .i64 0, .int .i64 0, .int .i64 0, .slice none 0 0, .slice none 0 0] 56
  have hO0 := (Only.refl [] w).alloc (.cells #[.int .i64 0, .int .i64 0, .int .i64 0, .slice none 0 0, .slice none 0 0] 56)
  have HI0 := Lib.hid (HI.out.alloc (.cells #[.int .i64 0, .int .i64 0, .int .i64 0, .slice none 0 0, .slice none 0 0] 56))
  have hfl := hB0.lt
  have hK := getN_lt bs (hdK3 bs)
  clear hi hlen hfe hres
  refine (callsIn_wide (n := 4)).1 (callsIn_of_wp_marks Tryz.func187 rfl trivial ?_ rfl)
  simp only [Tryz.ntmps187, List.size_toArray, List.length_cons, List.length_nil, Nat.reduceAdd, Nat.reduceSub, Array.replicate_succ, Array.replicate_zero, List.push_toArray, List.append_toArray, List.nil_append, List.cons_append]
  refine wpIn_wide.2 ?_
  go_wp2_with fail
  generalize hfe : w.heap.size = f at *
  have HFE2 := Lib.hid hfe
  have hfw : w.heap.size ≤ f := by omega
  clear hfe
  generalize w.alloc (.cells #[.int .i64 0, .int .i64 0, .int .i64 0, .slice none 0 0, .slice none 0 0] 56) = w0 at *
  refine (from_any A n c bs _ (by exact HI0.out) (by omega)).mono ?_
  rintro en w1 ⟨p, g, rfl, hp, hg, hr1, hO1⟩
  have HS1 : Hid (Decs w w1 p g 0 f bs [.int .i64 0, .int .i64 0, .int .i64 0, .slice none 0 0, .slice none 0 0]) := Lib.hid (Decs.start hB0 hfw hO0 hp hg hr1 hO1)
  clear hr1 hO1 hB0 hO0 HI0 hp hg
  go_wp2_with fail
  refine (rec_heading_any p g bs _ HS1.out.row).mono ?_
  rintro en w2 ⟨rfl, hr2, hO2⟩
  have HS2 := Lib.hid (HS1.out.got hr2 hO2)
  clear hr2 hO2 HS1
  have hK2 : hdB bs ≤ 255 := hK
  obtain ⟨Nv, hN'⟩ : ∃ x, x = hdN bs := ⟨_, rfl⟩
  obtain ⟨kb, hkb⟩ : ∃ x, x = hdB bs := ⟨_, rfl⟩
  rw [← hN', ← hkb]
  rw [← hkb] at hK2
  have HNN := Lib.hid hN'
  have HKB := Lib.hid hkb
  obtain ⟨q, hq⟩ : ∃ q, hdOk bs = q := ⟨_, rfl⟩
  have HQ := Lib.hid hq
  rw [hq]
  clear hq hK hN' hkb
  have hw1 : IntKind.i64.wrap (1 + (kb : Int)) = 1 + (kb : Int) := IntWalk.i64_in _ (by omega)
  have hw2 : IntKind.i64.wrap (64 * (1 + (kb : Int))) = 64 * (1 + (kb : Int)) := IntWalk.i64_in _ (by omega)
  unfold maxLen at hcm
  have hx0 := HS2.out.box.cell 0 (by simp)
  have hx1 := HS2.out.box.cell 1 (by simp)
  have hx2 := HS2.out.box.cell 2 (by simp)
  have hx3 := HS2.out.box.cell 3 (by simp)
  have hx4 := HS2.out.box.cell 4 (by simp)
  simp only [List.getElem_cons_zero, List.getElem_cons_succ] at hx0 hx1 hx2 hx3 hx4
  have hz0' := HS2.out.box.frozen 0
  have hz1' := HS2.out.box.frozen 1
  have hz2' := HS2.out.box.frozen 2
  have hz3' := HS2.out.box.frozen 3
  have hz4' := HS2.out.box.frozen 4
  have hfw2 := HS2.out.box.lt
  by_cases hfit : ¬ (q = true ∧ n = 64 * (1 + kb))
  · have hno : decRc bs = none := rc_not_fit (by
      rw [HFE.out, HQ.out, ← HKB.out]
      cases q with
      | false => rfl
      | true => simpa using hfit)
    have HNO := Lib.hid hno
    clear hno
    cases q
    · clear hfit
      go_wp2
      (try simp only [Exit.inBlock, Exit.then])
      refine marks_ret (v := (.tuple #[.agg #[.int .i64 0, .int .i64 0, .int .i64 0, .slice none 0 0, .slice none 0 0], .int .i64 0, .int .i64 2])) ?_ rfl (RcSays.no HNO.out ?_)
      · simp only [results, HRES.out]
        go_simp
      · (repeat' first | (with_reducible refine Only.set ?_ (.inr hfw) _) | (with_reducible exact HS2.out.only))
    · have hd : ((n : Int) != 64 * (1 + (kb : Int))) = true := by simp at hfit ⊢; omega
      clear hfit
      go_wp2
      (try simp only [Exit.inBlock, Exit.then])
      refine marks_ret (v := (.tuple #[.agg #[.int .i64 0, .int .i64 0, .int .i64 0, .slice none 0 0, .slice none 0 0], .int .i64 0, .int .i64 2])) ?_ rfl (RcSays.no HNO.out ?_)
      · simp only [results, HRES.out]
        go_simp
      · (repeat' first | (with_reducible refine Only.set ?_ (.inr hfw) _) | (with_reducible exact HS2.out.only))
  · have hfit := Classical.not_not.1 hfit
    obtain ⟨rfl, hnk⟩ := hfit
    have hd : ((n : Int) != 64 * (1 + (kb : Int))) = false := by simp; omega
    have hft : rcFit bs = true := by rw [HFE.out, HQ.out, ← HKB.out, decide_eq_true hnk]; rfl
    have HFT := Lib.hid hft
    obtain ⟨⟨-, ⟨h1N, hN6⟩, hKN⟩, -⟩ := rcFit_iff.1 hft
    have hl64 : 64 ≤ bs.length := by rw [HL.out]; omega
    obtain ⟨a1, a2, -, a4⟩ := hd_at (b := bs) (by omega)
    have HNR : Hid (Nv = rcN bs) := Lib.hid (by rw [HNN.out, a1])
    have HKR : Hid (kb = rcK bs) := Lib.hid (by rw [HKB.out, a2])
    rw [← HNR.out] at h1N hN6 hKN
    rw [← HKR.out] at hKN
    have HS3 : Hid (Decs w w2 p g 16 f bs [.int .i64 0, .int .i64 0, .int .i64 0, .slice none 0 0, .slice none 0 0]) := Lib.hid (by rw [← a4]; exact HS2.out)
    have HNK := Lib.hid hnk
    have hnb : 64 ≤ n := by omega
    have hn7 : n ≤ 448 := by omega
    have hw3 : IntKind.i64.wrap (7 * (Nv : Int)) = 7 * (Nv : Int) := IntWalk.i64_in _ (by omega)
    clear hft a1 a2 a4 HS2 hnk hl64 HFE HQ
    go_wp2_with fail
    rw [show (7 : Int) * (Nv : Int) = ((7 * Nv : Nat) : Int) from by omega]
    refine (take_any p g 16 bs (7 * Nv) _ HS3.out.row (by rw [HL.out]; omega)).mono ?_
    rintro en w3 ⟨A3, c3, rfl, hc3, hm3, hpos3, hr3, hO3⟩
    obtain ⟨g3, rfl, hg3, ho3⟩ := hpos3 (by omega)
    have HB3 : Hid (Bys w3 (some ⟨g3, 0, none⟩) (7 * Nv) c3 ((bs.drop 16).take (7 * Nv))) := Lib.hid (Row1.of_Own ho3 (by rw [bvs_length, HNR.out]; exact rc_its_len HFT.out) hc3 hm3)
    have HS4 := Lib.hid (HS3.out.got hr3 hO3)
    clear hw1 hw2 hw3 hd hpos3 hr3 hO3 ho3 HS3 hx0 hx1 hx2 hx3 hx4 hz0' hz1' hz2' hz3' hz4' hfw2
    obtain ⟨L7, hL7⟩ : ∃ x, x = 7 * Nv := ⟨_, rfl⟩
    rw [← hL7] at HB3 hc3 ⊢
    have hL42 : L7 ≤ 42 := by omega
    have HL7 := Lib.hid hL7
    clear hL7
    go_wp2_with fail
    refine (item_dec_any (some ⟨g3, 0, none⟩) L7 c3 _ _ (by exact HB3.out) (by omega)).mono ?_
    rintro en w4 ⟨A4, c4, rfl, hits, hfr, hO4⟩
    have HS5 := Lib.hid (HS4.out.keep hO4)
    have hw3s := HS4.out.only.size
    have hf3 := HS4.out.box.lt
    have hx0 := HS5.out.box.cell 0 (by simp)
    have hx1 := HS5.out.box.cell 1 (by simp)
    have hx2 := HS5.out.box.cell 2 (by simp)
    have hx3 := HS5.out.box.cell 3 (by simp)
    have hx4 := HS5.out.box.cell 4 (by simp)
    simp only [List.getElem_cons_zero, List.getElem_cons_succ] at hx0 hx1 hx2 hx3 hx4
    have hz0' := HS5.out.box.frozen 0
    have hz1' := HS5.out.box.frozen 1
    have hz2' := HS5.out.box.frozen 2
    have hz3' := HS5.out.box.frozen 3
    have hz4' := HS5.out.box.frozen 4
    have hfw2 := HS5.out.box.lt
    clear hO4 HS4 HB3
    rw [HL7.out, HNR.out] at hits hfr ⊢
    cases hdi : decItems ((bs.drop 16).take (7 * rcN bs)) with
    | none =>
      have hno : decRc bs = none := rc_no_items HFT.out hdi
      have HNO := Lib.hid hno
      simp only [Option.getD_none, Option.isSome_none, List.length_nil, Bool.false_eq_true, if_false]
      clear hits hfr hno
      go_wp2
      (try simp only [Exit.inBlock, Exit.then])
      refine marks_ret (v := (.tuple #[.agg #[.int .i64 0, .int .i64 0, .int .i64 0, .slice none 0 0, .slice none 0 0], .int .i64 0, .int .i64 2])) ?_ rfl (RcSays.no HNO.out ?_)
      · simp only [results, HRES.out]
        go_simp
      · (repeat' first | (with_reducible refine Only.set ?_ (.inr hfw) _) | (with_reducible exact HS5.out.only))
    | some its =>
      have hie := rc_some_items HFT.out hdi
      have hil : its.length = Nv := by rw [hie, HNR.out]; exact parse_length _ _
      rw [hdi] at hits hfr
      simp only [Option.getD_some] at hits hfr
      rw [hil] at hits hfr
      simp only [Option.getD_some, Option.isSome_some, if_true]
      rw [hil]
      have HIE := Lib.hid hie
      have HFR : Hid (0 < Nv → ∀ a, A4 = some a → a.block ≠ f ∧ w.heap.size ≤ a.block) := Lib.hid (fun h0 a ha => by have := hfr h0 a ha; omega)
      have HIT5 := Lib.hid (hits.keepS ((Only.refl [f] w4).set (p := ⟨f, 3, none⟩) (by simp) (.slice A4 Nv c4)) (fun h0 a ha => by simpa using (HFR.out h0 a ha).1))
      have hp5 := HS5.out.put 3 (.slice A4 Nv c4)
      simp only [List.set_cons_zero, List.set_cons_succ] at hp5
      have HP5 := Lib.hid hp5
      clear hdi hie hil hits hfr hp5
      go_wp2_with fail
      generalize hw5 : w4.setCell ⟨f, 3, none⟩ (.slice A4 Nv c4) = w5 at *
      clear hw5 HS5
      clear hx0 hx1 hx2 hx3 hx4 hz0' hz1' hz2' hz3' hz4' hfw2
      refine (from_any A n c bs _ (by exact HI.out.keep0 HP5.out.only) (by omega)).mono ?_
      rintro en w6 ⟨p2, g2, rfl, hp, hg, hr, hO⟩
      have HNA : Hid (0 < Nv → ∀ a, A4 = some a → a.block ≠ p2) := Lib.hid (fun h0 a ha => by have := HIT5.out.block_lt h0 a ha; omega)
      have HIT := Lib.hid (HIT5.out.keep0 hO)
      have HS : Hid (Decs w w6 p2 g2 0 f bs [.int .i64 0, .int .i64 0, .int .i64 0, .slice A4 Nv c4, .slice none 0 0]) := Lib.hid (Decs.start HP5.out.box hfw HP5.out.only hp hg hr hO)
      clear hp hg hr hO HP5 HIT5
      have HRM : Hid (((num ((bs.drop 2).take 4) : Nat) : Int) = rd bs 2 4) := Lib.hid rfl
      have HRN : Hid (((num ((bs.drop 6).take 4) : Nat) : Int) = rd bs 6 4) := Lib.hid rfl
      have HRP : Hid (((num ((bs.drop 10).take 4) : Nat) : Int) = rd bs 10 4) := Lib.hid rfl
      have HRO : Hid (rcOf bs = ⟨rd bs 2 4, rd bs 6 4, rd bs 10 4, its, rcBl bs kb⟩) := Lib.hid (by rw [HIE.out, HKR.out]; rfl)
      generalize rd bs 2 4 = rm at *
      generalize rd bs 6 4 = rn at *
      generalize rd bs 10 4 = rp at *
      go_wp2_with fail
      refine (take_any p2 g2 0 bs 2 _ HS.out.row (by rw [HL.out]; omega)).mono ?_
      rintro en w7 ⟨A7, c7, rfl, -, -, -, hr, hO⟩
      have HSn := Lib.hid (HS.out.got hr hO)
      have HITn := Lib.hid (HIT.out.keepS hO (fun h0 a ha => by simpa using HNA.out h0 a ha))
      clear hr hO HS HIT
      have HS := HSn
      have HIT := HITn
      clear HSn HITn
      go_wp2_with fail
      refine (get_any p2 g2 2 bs 4 _ HS.out.row (by decide) (by rw [HL.out]; omega)).mono ?_
      rintro en w8 ⟨rfl, hr, hO⟩
      rw [HRM.out]
      have HSg := Lib.hid (HS.out.got hr hO)
      have HITg := Lib.hid (HIT.out.keepS hO (fun h0 a ha => by simpa using HNA.out h0 a ha))
      clear hr hO HS HIT
      have hq0 := HSg.out.box.cell 0 (by simp)
      simp only [List.getElem_cons_zero, List.getElem_cons_succ] at hq0
      have hq1 := HSg.out.box.frozen 0
      have hq2 := HSg.out.box.lt
      have hp5 := HSg.out.put 0 (.int .i64 rm)
      simp only [List.set_cons_zero, List.set_cons_succ] at hp5
      have HS := Lib.hid hp5
      have HIT := Lib.hid (HITg.out.keepS ((Only.refl [f] w8).set (p := ⟨f, 0, none⟩) (by simp) (.int .i64 rm)) (fun h0 a ha => by simpa using (HFR.out h0 a ha).1))
      clear hp5 HSg HITg
      go_upto_region 12 with fail
      generalize hw5 : World.setCell w8 ⟨f, 0, none⟩ (.int .i64 rm) = w9 at *
      clear hw5 hq0 hq1 hq2
      go_wp2_with fail
      refine (get_any p2 g2 6 bs 4 _ HS.out.row (by decide) (by rw [HL.out]; omega)).mono ?_
      rintro en w10 ⟨rfl, hr, hO⟩
      rw [HRN.out]
      have HSg := Lib.hid (HS.out.got hr hO)
      have HITg := Lib.hid (HIT.out.keepS hO (fun h0 a ha => by simpa using HNA.out h0 a ha))
      clear hr hO HS HIT
      have hq0 := HSg.out.box.cell 1 (by simp)
      simp only [List.getElem_cons_zero, List.getElem_cons_succ] at hq0
      have hq1 := HSg.out.box.frozen 1
      have hq2 := HSg.out.box.lt
      have hp5 := HSg.out.put 1 (.int .i64 rn)
      simp only [List.set_cons_zero, List.set_cons_succ] at hp5
      have HS := Lib.hid hp5
      have HIT := Lib.hid (HITg.out.keepS ((Only.refl [f] w10).set (p := ⟨f, 1, none⟩) (by simp) (.int .i64 rn)) (fun h0 a ha => by simpa using (HFR.out h0 a ha).1))
      clear hp5 HSg HITg
      go_upto_region 13 with fail
      generalize hw5 : World.setCell w10 ⟨f, 1, none⟩ (.int .i64 rn) = w11 at *
      clear hw5 hq0 hq1 hq2
      go_wp2_with fail
      refine (get_any p2 g2 10 bs 4 _ HS.out.row (by decide) (by rw [HL.out]; omega)).mono ?_
      rintro en w12 ⟨rfl, hr, hO⟩
      rw [HRP.out]
      have HSg := Lib.hid (HS.out.got hr hO)
      have HITg := Lib.hid (HIT.out.keepS hO (fun h0 a ha => by simpa using HNA.out h0 a ha))
      clear hr hO HS HIT
      have hq0 := HSg.out.box.cell 2 (by simp)
      simp only [List.getElem_cons_zero, List.getElem_cons_succ] at hq0
      have hq1 := HSg.out.box.frozen 2
      have hq2 := HSg.out.box.lt
      have hp5 := HSg.out.put 2 (.int .i64 rp)
      simp only [List.set_cons_zero, List.set_cons_succ] at hp5
      have HS := Lib.hid hp5
      have HIT := Lib.hid (HITg.out.keepS ((Only.refl [f] w12).set (p := ⟨f, 2, none⟩) (by simp) (.int .i64 rp)) (fun h0 a ha => by simpa using (HFR.out h0 a ha).1))
      clear hp5 HSg HITg
      go_upto_region 14 with fail
      generalize hw5 : World.setCell w12 ⟨f, 2, none⟩ (.int .i64 rp) = w13 at *
      clear hw5 hq0 hq1 hq2
      have hs64 : ∀ w, (Instr.slice 47 (.slice A n c) (some (.int .i64 64)) none none).run Tryz.prog w = .ok (.slice (cutA A c 64) (64 * kb) (c - 64)) w := fun w => run_slice1_lo (P := Tryz.prog) w 47 5 Tryz.underlying47 (by kernel_rfl) A n c 64 64 (64 * kb) .i64 rfl (by omega) (by omega)
      go_wp2_with fail
      refine (chunk_any (cutA A c 64) (64 * kb) (c - 64) _).mono ?_
      rintro en wx ⟨rfl, rfl⟩
      have hw1 := ((Wc.mk1 HS.out.only HS.out.box HS.out.hf).gnew 47 1)
      have hw2 := (hw1.addF (fun W => Its W A4 Nv c4 its) (HIT.out.fc (fun h0 a ha hm => by
        have := HFR.out h0 a ha
        simp [Mut, Value.ownBlock] at hm
        omega))).old (f := fun W => Bys W A n c bs) (Row1.fc HI.out (fun _ _ _ h => h))
      have hw3 := (hw2.newB #[.slice (cutA A c 64) (64 * kb) (c - 64)] 47 rfl).newB #[.int .i64 64] 3 (b := w13.heap.size + 1) (by simp)
      have hbl := HS.out.box.lt
      have hHD : Hid (w.heap.size ≤ w13.heap.size) := Lib.hid HS.out.only.size
      clear hw1 hw2 HS HIT hs64
      generalize hwL : (w13.alloc (.cells #[.slice (cutA A c 64) (64 * kb) (c - 64)] 47)).alloc (.cells #[.int .i64 64] 3) = wL at *
      have hsz : wL.heap.size = w13.heap.size + 2 := by rw [← hwL]; simp
      generalize w13.heap.size + 1 = b2 at *
      generalize w13.heap.size = b1 at *
      have HWL := Lib.hid hw3
      have HSZ := Lib.hid hsz
      clear hw3 hwL hsz
      obtain ⟨ga, oa, rfl, -⟩ := HI.out.at_ (by omega)
      obtain ⟨A1, hA1⟩ : ∃ x, cutA (some (⟨ga, oa, none⟩ : Addr)) c 64 = x := ⟨_, rfl⟩
      have hA2 : 0 < kb → A1 = some ⟨ga, oa + 64, none⟩ := fun h0 => by
        have := HNK.out
        rw [← hA1, cutA, if_neg (by omega)]
        simp only [Option.map_some, Addr.add]
        split <;> simp_all
      rw [hA1] at HWL ⊢
      clear hA1
      have HA2 := Lib.hid hA2
      clear hA2
      go_wp2_with fail
      refine (wpIn_wide (n := 4)).1 ?_
      refine wpIn_rangeFunc_ownG (F := Fence.wide) (n := 4) rfl (by decide) (gf := 206) (lb := #[.pointer (some ⟨b1, 0, none⟩), .pointer (some ⟨b2, 0, none⟩)]) rfl trivial (enters_of Tryz.func206 (by kernel_rfl) rfl)
        (chunk_stops 3 (by decide) b1 b2 ga (oa + 64) (c - 64) kb A1 HA2.out wL ((HWL.out.boxi 1 rfl).cell 0 (by simp)) ((HWL.out.boxi 0 rfl).cell 0 (by simp)) (by omega) (by omega) (by unfold maxLen; omega))
        (fun h k => h.trans k) (kpAt_b (by have := HSZ.out; intro k hk; have h1 := (HWL.out.boxi 1 rfl).lt; have h2 := (HWL.out.boxi 0 rfl).lt; simp at hk; rcases hk with rfl | rfl <;> assumption)) (Below.refl _ _) (fun _ => rfl)
        (fun (pre : List (Fin kb)) W => ∃ (A5 : Option Addr) (c5 : Nat) (sl : List (Option Addr × Nat × Nat)), Wc w W [(b2, [.int .i64 64]), (b1, [.slice A1 (64 * kb) (c - 64)]), (f, [.int .i64 rm, .int .i64 rn, .int .i64 rp, .slice A4 Nv c4, .slice A5 pre.length c5])] [⟨47, 1, .slice A5 pre.length c5, pre.length, sl.map slv⟩] [(fun W => Bls W sl (pre.map fun (x : Fin kb) => chunkB bs x.val)), (fun W => Bys W (some ⟨ga, oa, none⟩) n c bs), (fun W => Its W A4 Nv c4 its)] ∧ (∀ s ∈ sl, ∀ a, s.1 = some a → w.heap.size ≤ a.block))
        (fun _ _ _ => False)
        (fun s W W' row ⟨A5, c5, sl, h, hp⟩ hg hr => ⟨A5, c5, sl, h.grown HWL.out.only.size hg hr, hp⟩)
        (fun _ _ _ _ _ hs _ _ => hs)
        ⟨none, 0, [], HWL.out.addF (fun W => Bls W [] []) (fun W _ => Bls.nil W), by simp⟩
        (a₁ := ?a1) ?assign ?body ?done ?stop
      case assign =>
        intro l x W K hK
        gi_wp2
        exact hK
      case stop =>
        rintro D c pre W _ _ h _
        exact h.elim
      case body =>
        rintro l pre x W ⟨A5, c5, sl, hw, hfr⟩ hlen
        have HCH : Hid (∀ V, Bys V (some ⟨ga, oa, none⟩) n c bs → Bys V (some ⟨ga, oa + 64 + 64 * x.val, none⟩) 64 64 (chunkB bs x.val)) := Lib.hid (fun V h => by
          have hx := x.isLt
          have h3 := Row1.three h (l := 64 + 64 * x.val) (m := 64) (by have := HNK.out; omega)
          rw [bvs_cut, ← Nat.add_assoc] at h3
          unfold chunkB
          rw [show 64 * (x.val + 1) = 64 + 64 * x.val from by omega]
          exact h3)
        have HCL : Hid ((chunkB bs x.val).length = 64) := Lib.hid (by
          have hx := x.isLt
          have := HNK.out
          have := HL.out
          unfold chunkB
          rw [List.length_take, List.length_drop]
          omega)
        have HFRR := Lib.hid hfr
        have HMP : Hid ((pre ++ [x]).map (fun (x : Fin kb) => chunkB bs x.val) = pre.map (fun (x : Fin kb) => chunkB bs x.val) ++ [chunkB bs x.val]) := Lib.hid (by simp)
        have HPL : Hid ((pre ++ [x]).length = pre.length + 1) := Lib.hid (by simp)
        have HWs := Lib.hid hw
        have HIS : Hid (∀ k ∈ f :: (Value.slice A5 pre.length c5).ownBlock.toList, (∀ ob, W.heap[k]? = some ob → ob.isCells = true) ∧ k ≠ b1 ∧ k ≠ b2) := Lib.hid (fun k hk => by
          have hnd := hw.nd
          simp at hnd
          rcases List.mem_cons.1 hk with rfl | hk
          · exact ⟨(hw.boxi 2 rfl).isCells, fun e => hnd.2 e.symm, fun e => hnd.1.2 e.symm⟩
          · have hk2 : (Value.slice A5 pre.length c5).ownBlock = some k := by simpa using hk
            exact ⟨ownsRow_isCells (hw.gi 0 rfl) k hk2, fun e => hw.g3 (b1, [.slice A1 (64 * kb) (c - 64)]) (by simp) _ (List.mem_singleton.2 rfl) (by rw [← e]; exact hk2), fun e => hw.g3 (b2, [.int .i64 64]) (by simp) _ (List.mem_singleton.2 rfl) (by rw [← e]; exact hk2)⟩)
        obtain ⟨S0, hS0⟩ : ∃ S, S = f :: (Value.slice A5 pre.length c5).ownBlock.toList := ⟨_, rfl⟩
        rw [← hS0] at HIS
        have HSf : Hid (f ∈ S0) := Lib.hid (by rw [hS0]; simp)
        have HSo : Hid (∀ k, (Value.slice A5 pre.length c5).ownBlock = some k → k ∈ S0) := Lib.hid (fun k hk => by rw [hS0, hk]; simp)
        have HDs := Lib.hid hw.drew
        have HOs : Hid (Only S0 W W.drew) := Lib.hid (Only.refl _ _).drew
        obtain ⟨jj, hjj⟩ : ∃ j, j = pre.length := ⟨_, rfl⟩
        rw [← hjj] at HDs HSo HPL hlen
        have HJJ := Lib.hid hjj
        clear hw hfr hS0 hjj
        have hjk : jj ≤ 1000 := by omega
        refine wpIn_block ?_
        refine wpIn_region_held_drew (S := fun w' => w'.cell? ⟨f, 0, none⟩ = some (.int .i64 rm)) not_letsOut_ownPostG (plainOps_spec (by kernel_rfl)) (by kernel_rfl) ((HDs.out.boxi 2 rfl).cell 0 (by simp)) (fun hSw0 => ?_)
        generalize W.drew = ws at *
        refine wpAnyH_take (i := 0) (oi := ⟨some 74, _, _, _, _, _⟩) (v := ?_) rfl (by kernel_rfl) (by kernel_rfl) (by kernel_rfl) (fun _ _ _ h => h) (Or.inl ⟨by rfl, ?_⟩) (by assumption) ?_
        rotate_left
        · intro w hSw
          (try dsimp only at hSw)
          go_simp
          all_goals (try with_reducible rfl)
        (try simp only [Act.put, List.setIfInBounds_toArray, List.set_cons_zero, List.set_cons_succ])
        refine wpAnyH_take (i := 2) (oi := ⟨some 76, _, _, _, _, _⟩) (v := ?_) rfl (by kernel_rfl) (by kernel_rfl) (by kernel_rfl) (fun _ _ _ h => h) (Or.inl ⟨by rfl, ?_⟩) (by assumption) ?_
        rotate_left
        · intro w hSw
          (try dsimp only at hSw)
          go_simp
          all_goals (try with_reducible rfl)
        (try simp only [Act.put, List.setIfInBounds_toArray, List.set_cons_zero, List.set_cons_succ])
        refine wpAnyH_ready (rs := [1, 3]) (by kernel_rfl) (by simp) ?_
        refine AllReadyH.cons (o := ⟨some 75, _, _, _, _, _⟩) rfl (fun K hK => ?_) ?_
        · have yq := (HDs.out.boxi 2 rfl).cell 4 (by simp)
          simp only [List.getElem_cons_zero, List.getElem_cons_succ] at yq
          have lq := (HDs.out.boxi 2 rfl).lt
          go_simp
          clear yq lq
          refine hK.out _ _ ((HDs.out.boxi 2 rfl).cell 0 (by simp)) (fun hSn => ?_)
          clear hK K hSw0
          have hSw0 := hSn
          clear hSn
          (try simp only [Act.put, List.setIfInBounds_toArray, List.set_cons_zero, List.set_cons_succ])
          refine wpAnyH_ready (rs := [3]) (by kernel_rfl) (by simp) ?_
          refine AllReadyH.cons (o := ⟨some 77, _, _, _, _, _⟩) rfl (fun K hK => ?_) AllReadyH.nil
          go_simp
          refine (clone_any _ 64 64 (chunkB bs x.val) _ (HCH.out _ (HDs.out.fi 1 rfl)) (by decide)).mono ?_
          rintro en va ⟨A7, c7, rfl, hc7, hm7, hpos7, hO⟩
          rw [HCL.out] at hc7 hpos7 ⊢
          obtain ⟨g7, rfl, hg7, ho7⟩ := hpos7 (by decide)
          have hbw := HDs.out.only.size
          have HDa := Lib.hid (HDs.out.addFc hO (f := fun V => Bys V (some ⟨g7, 0, none⟩) 64 c7 (chunkB bs x.val)) (Row1.fc (Row1.of_Own ho7 (by rw [bvs_length, HCL.out]) hc7 hm7) (fun _ a ha => by injection ha with ha; subst ha; simp; omega)))
          have HOa := Lib.hid (HOs.out.trans' (hO.mono (by simp)))
          have hgw : w.heap.size ≤ g7 := by omega
          clear hpos7 hO ho7 hg7 hbw
          refine hK.out _ _ ((HDa.out.boxi 2 rfl).cell 0 (by simp)) (fun hSn => ?_)
          clear hK K hSw0
          have hSw0 := hSn
          clear hSn
          (try simp only [Act.put, List.setIfInBounds_toArray, List.set_cons_zero, List.set_cons_succ])
          refine wpAnyH_ready (rs := [4]) (by kernel_rfl) (by simp) ?_
          refine AllReadyH.cons (o := ⟨some 78, _, _, _, _, _⟩) rfl (fun K hK => ?_) AllReadyH.nil
          go_simp
          have HDb := Lib.hid (HDa.out.alloc (.cells #[.slice (some ⟨g7, 0, none⟩) 64 c7] 47))
          have HOb := Lib.hid (HOa.out.alloc (.cells #[.slice (some ⟨g7, 0, none⟩) 64 c7] 47))
          have hnr : Row1 (va.alloc (.cells #[.slice (some ⟨g7, 0, none⟩) 64 c7] 47)) (some ⟨va.heap.size, 0, none⟩) 1 1 ([(some ⟨g7, 0, none⟩, 64, c7)].map slv) := Row1.of_Own (Own.new va #[.slice (some ⟨g7, 0, none⟩) 64 c7] 47) rfl (Nat.le_refl _) (by simp [maxLen])
          have HNR2 := Lib.hid hnr
          clear hnr
          have hbw := HDb.out.only.size
          generalize hvz : va.heap.size = vz at *
          generalize hvb : va.alloc (.cells #[.slice (some ⟨g7, 0, none⟩) 64 c7] 47) = vb at *
          clear hvb hvz
          refine hK.out _ _ ((HDb.out.boxi 2 rfl).cell 0 (by simp)) (fun hSn => ?_)
          clear hK K hSw0
          have hSw0 := hSn
          clear hSn
          (try simp only [Act.put, List.setIfInBounds_toArray, List.set_cons_zero, List.set_cons_succ])
          refine wpAnyH_ready (rs := [5]) (by kernel_rfl) (by simp) ?_
          refine AllReadyH.cons (o := ⟨some 79, _, _, _, _, _⟩) rfl (fun K hK => ?_) AllReadyH.nil
          refine step_append_row1 rfl (.tmp 75) (.tmp 78) 54 rfl w.heap.size 47 i0 _ 24 Tryz.underlying54 hi0 hz0 hz1 hz2 rfl (.slice A5 jj c5) jj (sl.map slv) rfl (HDb.out.gi 0 rfl) (some ⟨vz, 0, none⟩) 1 1 ([(some ⟨g7, 0, none⟩, 64, c7)].map slv) rfl HNR2.out (slv_one _) (by unfold maxLen; omega) (by omega) hbw ?_
          intro v' vd hown hgrow hat
          rw [← List.map_append] at hown
          have hdd := HDb.out.gapp 0 rfl hown hgrow hat
          obtain ⟨A6, c6, rfl⟩ := hdd.gform 0 rfl
          have HDd := Lib.hid hdd
          have HOd := Lib.hid (HOb.out.grown hgrow (fun k hk => .inl (HSo.out k hk)))
          clear hdd hown hgrow hat
          refine hK.out _ _ ((HDd.out.boxi 2 rfl).cell 0 (by simp)) (fun hSn => ?_)
          clear hK K hSw0
          have hSw0 := hSn
          clear hSn
          (try simp only [Act.put, List.setIfInBounds_toArray, List.set_cons_zero, List.set_cons_succ])
          refine wpAnyH_take (i := 6) (oi := ⟨some 80, _, _, _, _, _⟩) (v := ?_) rfl (by kernel_rfl) (by kernel_rfl) (by kernel_rfl) (fun _ _ _ h => h) (Or.inl ⟨by rfl, ?_⟩) (by assumption) ?_
          rotate_left
          · intro w hSw
            (try dsimp only at hSw)
            go_simp
            all_goals (try with_reducible rfl)
          (try simp only [Act.put, List.setIfInBounds_toArray, List.set_cons_zero, List.set_cons_succ])
          refine wpAnyH_ready (rs := [7]) (by kernel_rfl) (by simp) ?_
          refine AllReadyH.cons (o := ⟨none, _, _, _, _, _⟩) rfl (fun K hK => ?_) AllReadyH.nil
          have yq := (HDd.out.boxi 2 rfl).cell 4 (by simp)
          simp only [List.getElem_cons_zero, List.getElem_cons_succ] at yq
          have lq := (HDd.out.boxi 2 rfl).lt
          have fq := (HDd.out.boxi 2 rfl).frozen 4
          go_simp
          have HDz := Lib.hid (HDd.out.put 2 rfl 4 (.slice A6 (jj + 1) c6))
          have HOz := Lib.hid (HOd.out.set (p := ⟨f, 4, none⟩) (.inl HSf.out) (.slice A6 (jj + 1) c6))
          clear yq lq fq
          refine hK.out _ _ ((HDz.out.boxi 2 rfl).cell 0 (by simp)) (fun hSn => ?_)
          clear hK K hSw0
          have hSw0 := hSn
          clear hSn
          (try simp only [Act.put, List.setIfInBounds_toArray, List.set_cons_zero, List.set_cons_succ])
          refine wpAnyH_done (by kernel_rfl) ?_ _
          clear hSw0
          have hkf := keeps_of_only HOz.out (fun k hk => (HIS.out k hk).1)
          have hkp : KpAt [b1, b2] W _ := KpAt.of_only HOz.out (fun k hk => ⟨fun hm => by have := (HIS.out k hm).2; simp at hk; rcases hk with rfl | rfl <;> simp_all, by have h1 := (HWs.out.boxi 1 rfl).lt; have h2 := (HWs.out.boxi 0 rfl).lt; simp at hk; rcases hk with rfl | rfl <;> assumption⟩)
          refine ⟨hkf.from _, hkp, A6, c6, sl ++ [(some ⟨g7, 0, none⟩, 64, c7)], ?_, ?_⟩
          · rw [HPL.out, HMP.out]
            refine (HDz.out.fuse (f1 := fun V => Bys V (some ⟨g7, 0, none⟩) 64 c7 (chunkB bs x.val)) (f2 := fun V => Bls V sl (pre.map fun (x : Fin kb) => chunkB bs x.val)) (f := fun V => Bls V (sl ++ [(some ⟨g7, 0, none⟩, 64, c7)]) (pre.map (fun (x : Fin kb) => chunkB bs x.val) ++ [chunkB bs x.val])) (List.mem_cons_self ..) (List.mem_cons_of_mem _ (List.mem_cons_self ..)) (fun V h1 h2 => h2.snoc h1)).sub (List.Sublist.refl _) ?_
            intro f1 hf1
            simp only [List.mem_cons, List.not_mem_nil, or_false] at hf1 ⊢
            rcases hf1 with rfl | rfl | rfl <;> simp
          · intro s hs a ha
            rcases List.mem_append.1 hs with hs | hs
            · exact HFRR.out s hs a ha
            · simp at hs
              subst hs
              injection ha with ha
              subst ha
              exact hgw
        refine AllReadyH.cons (o := ⟨some 77, _, _, _, _, _⟩) rfl (fun K hK => ?_) ?_
        · go_simp
          refine (clone_any _ 64 64 (chunkB bs x.val) _ (HCH.out _ (HDs.out.fi 1 rfl)) (by decide)).mono ?_
          rintro en va ⟨A7, c7, rfl, hc7, hm7, hpos7, hO⟩
          rw [HCL.out] at hc7 hpos7 ⊢
          obtain ⟨g7, rfl, hg7, ho7⟩ := hpos7 (by decide)
          have hbw := HDs.out.only.size
          have HDa := Lib.hid (HDs.out.addFc hO (f := fun V => Bys V (some ⟨g7, 0, none⟩) 64 c7 (chunkB bs x.val)) (Row1.fc (Row1.of_Own ho7 (by rw [bvs_length, HCL.out]) hc7 hm7) (fun _ a ha => by injection ha with ha; subst ha; simp; omega)))
          have HOa := Lib.hid (HOs.out.trans' (hO.mono (by simp)))
          have hgw : w.heap.size ≤ g7 := by omega
          clear hpos7 hO ho7 hg7 hbw
          refine hK.out _ _ ((HDa.out.boxi 2 rfl).cell 0 (by simp)) (fun hSn => ?_)
          clear hK K hSw0
          have hSw0 := hSn
          clear hSn
          (try simp only [Act.put, List.setIfInBounds_toArray, List.set_cons_zero, List.set_cons_succ])
          refine wpAnyH_ready (rs := [1, 4]) (by kernel_rfl) (by simp) ?_
          refine AllReadyH.cons (o := ⟨some 75, _, _, _, _, _⟩) rfl (fun K hK => ?_) ?_
          · have yq := (HDa.out.boxi 2 rfl).cell 4 (by simp)
            simp only [List.getElem_cons_zero, List.getElem_cons_succ] at yq
            have lq := (HDa.out.boxi 2 rfl).lt
            go_simp
            clear yq lq
            refine hK.out _ _ ((HDa.out.boxi 2 rfl).cell 0 (by simp)) (fun hSn => ?_)
            clear hK K hSw0
            have hSw0 := hSn
            clear hSn
            (try simp only [Act.put, List.setIfInBounds_toArray, List.set_cons_zero, List.set_cons_succ])
            refine wpAnyH_ready (rs := [4]) (by kernel_rfl) (by simp) ?_
            refine AllReadyH.cons (o := ⟨some 78, _, _, _, _, _⟩) rfl (fun K hK => ?_) AllReadyH.nil
            go_simp
            have HDb := Lib.hid (HDa.out.alloc (.cells #[.slice (some ⟨g7, 0, none⟩) 64 c7] 47))
            have HOb := Lib.hid (HOa.out.alloc (.cells #[.slice (some ⟨g7, 0, none⟩) 64 c7] 47))
            have hnr : Row1 (va.alloc (.cells #[.slice (some ⟨g7, 0, none⟩) 64 c7] 47)) (some ⟨va.heap.size, 0, none⟩) 1 1 ([(some ⟨g7, 0, none⟩, 64, c7)].map slv) := Row1.of_Own (Own.new va #[.slice (some ⟨g7, 0, none⟩) 64 c7] 47) rfl (Nat.le_refl _) (by simp [maxLen])
            have HNR2 := Lib.hid hnr
            clear hnr
            have hbw := HDb.out.only.size
            generalize hvz : va.heap.size = vz at *
            generalize hvb : va.alloc (.cells #[.slice (some ⟨g7, 0, none⟩) 64 c7] 47) = vb at *
            clear hvb hvz
            refine hK.out _ _ ((HDb.out.boxi 2 rfl).cell 0 (by simp)) (fun hSn => ?_)
            clear hK K hSw0
            have hSw0 := hSn
            clear hSn
            (try simp only [Act.put, List.setIfInBounds_toArray, List.set_cons_zero, List.set_cons_succ])
            refine wpAnyH_ready (rs := [5]) (by kernel_rfl) (by simp) ?_
            refine AllReadyH.cons (o := ⟨some 79, _, _, _, _, _⟩) rfl (fun K hK => ?_) AllReadyH.nil
            refine step_append_row1 rfl (.tmp 75) (.tmp 78) 54 rfl w.heap.size 47 i0 _ 24 Tryz.underlying54 hi0 hz0 hz1 hz2 rfl (.slice A5 jj c5) jj (sl.map slv) rfl (HDb.out.gi 0 rfl) (some ⟨vz, 0, none⟩) 1 1 ([(some ⟨g7, 0, none⟩, 64, c7)].map slv) rfl HNR2.out (slv_one _) (by unfold maxLen; omega) (by omega) hbw ?_
            intro v' vd hown hgrow hat
            rw [← List.map_append] at hown
            have hdd := HDb.out.gapp 0 rfl hown hgrow hat
            obtain ⟨A6, c6, rfl⟩ := hdd.gform 0 rfl
            have HDd := Lib.hid hdd
            have HOd := Lib.hid (HOb.out.grown hgrow (fun k hk => .inl (HSo.out k hk)))
            clear hdd hown hgrow hat
            refine hK.out _ _ ((HDd.out.boxi 2 rfl).cell 0 (by simp)) (fun hSn => ?_)
            clear hK K hSw0
            have hSw0 := hSn
            clear hSn
            (try simp only [Act.put, List.setIfInBounds_toArray, List.set_cons_zero, List.set_cons_succ])
            refine wpAnyH_take (i := 6) (oi := ⟨some 80, _, _, _, _, _⟩) (v := ?_) rfl (by kernel_rfl) (by kernel_rfl) (by kernel_rfl) (fun _ _ _ h => h) (Or.inl ⟨by rfl, ?_⟩) (by assumption) ?_
            rotate_left
            · intro w hSw
              (try dsimp only at hSw)
              go_simp
              all_goals (try with_reducible rfl)
            (try simp only [Act.put, List.setIfInBounds_toArray, List.set_cons_zero, List.set_cons_succ])
            refine wpAnyH_ready (rs := [7]) (by kernel_rfl) (by simp) ?_
            refine AllReadyH.cons (o := ⟨none, _, _, _, _, _⟩) rfl (fun K hK => ?_) AllReadyH.nil
            have yq := (HDd.out.boxi 2 rfl).cell 4 (by simp)
            simp only [List.getElem_cons_zero, List.getElem_cons_succ] at yq
            have lq := (HDd.out.boxi 2 rfl).lt
            have fq := (HDd.out.boxi 2 rfl).frozen 4
            go_simp
            have HDz := Lib.hid (HDd.out.put 2 rfl 4 (.slice A6 (jj + 1) c6))
            have HOz := Lib.hid (HOd.out.set (p := ⟨f, 4, none⟩) (.inl HSf.out) (.slice A6 (jj + 1) c6))
            clear yq lq fq
            refine hK.out _ _ ((HDz.out.boxi 2 rfl).cell 0 (by simp)) (fun hSn => ?_)
            clear hK K hSw0
            have hSw0 := hSn
            clear hSn
            (try simp only [Act.put, List.setIfInBounds_toArray, List.set_cons_zero, List.set_cons_succ])
            refine wpAnyH_done (by kernel_rfl) ?_ _
            clear hSw0
            have hkf := keeps_of_only HOz.out (fun k hk => (HIS.out k hk).1)
            have hkp : KpAt [b1, b2] W _ := KpAt.of_only HOz.out (fun k hk => ⟨fun hm => by have := (HIS.out k hm).2; simp at hk; rcases hk with rfl | rfl <;> simp_all, by have h1 := (HWs.out.boxi 1 rfl).lt; have h2 := (HWs.out.boxi 0 rfl).lt; simp at hk; rcases hk with rfl | rfl <;> assumption⟩)
            refine ⟨hkf.from _, hkp, A6, c6, sl ++ [(some ⟨g7, 0, none⟩, 64, c7)], ?_, ?_⟩
            · rw [HPL.out, HMP.out]
              refine (HDz.out.fuse (f1 := fun V => Bys V (some ⟨g7, 0, none⟩) 64 c7 (chunkB bs x.val)) (f2 := fun V => Bls V sl (pre.map fun (x : Fin kb) => chunkB bs x.val)) (f := fun V => Bls V (sl ++ [(some ⟨g7, 0, none⟩, 64, c7)]) (pre.map (fun (x : Fin kb) => chunkB bs x.val) ++ [chunkB bs x.val])) (List.mem_cons_self ..) (List.mem_cons_of_mem _ (List.mem_cons_self ..)) (fun V h1 h2 => h2.snoc h1)).sub (List.Sublist.refl _) ?_
              intro f1 hf1
              simp only [List.mem_cons, List.not_mem_nil, or_false] at hf1 ⊢
              rcases hf1 with rfl | rfl | rfl <;> simp
            · intro s hs a ha
              rcases List.mem_append.1 hs with hs | hs
              · exact HFRR.out s hs a ha
              · simp at hs
                subst hs
                injection ha with ha
                subst ha
                exact hgw
          refine AllReadyH.cons (o := ⟨some 78, _, _, _, _, _⟩) rfl (fun K hK => ?_) ?_
          · go_simp
            have HDb := Lib.hid (HDa.out.alloc (.cells #[.slice (some ⟨g7, 0, none⟩) 64 c7] 47))
            have HOb := Lib.hid (HOa.out.alloc (.cells #[.slice (some ⟨g7, 0, none⟩) 64 c7] 47))
            have hnr : Row1 (va.alloc (.cells #[.slice (some ⟨g7, 0, none⟩) 64 c7] 47)) (some ⟨va.heap.size, 0, none⟩) 1 1 ([(some ⟨g7, 0, none⟩, 64, c7)].map slv) := Row1.of_Own (Own.new va #[.slice (some ⟨g7, 0, none⟩) 64 c7] 47) rfl (Nat.le_refl _) (by simp [maxLen])
            have HNR2 := Lib.hid hnr
            clear hnr
            have hbw := HDb.out.only.size
            generalize hvz : va.heap.size = vz at *
            generalize hvb : va.alloc (.cells #[.slice (some ⟨g7, 0, none⟩) 64 c7] 47) = vb at *
            clear hvb hvz
            refine hK.out _ _ ((HDb.out.boxi 2 rfl).cell 0 (by simp)) (fun hSn => ?_)
            clear hK K hSw0
            have hSw0 := hSn
            clear hSn
            (try simp only [Act.put, List.setIfInBounds_toArray, List.set_cons_zero, List.set_cons_succ])
            refine wpAnyH_ready (rs := [1]) (by kernel_rfl) (by simp) ?_
            refine AllReadyH.cons (o := ⟨some 75, _, _, _, _, _⟩) rfl (fun K hK => ?_) AllReadyH.nil
            have yq := (HDb.out.boxi 2 rfl).cell 4 (by simp)
            simp only [List.getElem_cons_zero, List.getElem_cons_succ] at yq
            have lq := (HDb.out.boxi 2 rfl).lt
            go_simp
            clear yq lq
            refine hK.out _ _ ((HDb.out.boxi 2 rfl).cell 0 (by simp)) (fun hSn => ?_)
            clear hK K hSw0
            have hSw0 := hSn
            clear hSn
            (try simp only [Act.put, List.setIfInBounds_toArray, List.set_cons_zero, List.set_cons_succ])
            refine wpAnyH_ready (rs := [5]) (by kernel_rfl) (by simp) ?_
            refine AllReadyH.cons (o := ⟨some 79, _, _, _, _, _⟩) rfl (fun K hK => ?_) AllReadyH.nil
            refine step_append_row1 rfl (.tmp 75) (.tmp 78) 54 rfl w.heap.size 47 i0 _ 24 Tryz.underlying54 hi0 hz0 hz1 hz2 rfl (.slice A5 jj c5) jj (sl.map slv) rfl (HDb.out.gi 0 rfl) (some ⟨vz, 0, none⟩) 1 1 ([(some ⟨g7, 0, none⟩, 64, c7)].map slv) rfl HNR2.out (slv_one _) (by unfold maxLen; omega) (by omega) hbw ?_
            intro v' vd hown hgrow hat
            rw [← List.map_append] at hown
            have hdd := HDb.out.gapp 0 rfl hown hgrow hat
            obtain ⟨A6, c6, rfl⟩ := hdd.gform 0 rfl
            have HDd := Lib.hid hdd
            have HOd := Lib.hid (HOb.out.grown hgrow (fun k hk => .inl (HSo.out k hk)))
            clear hdd hown hgrow hat
            refine hK.out _ _ ((HDd.out.boxi 2 rfl).cell 0 (by simp)) (fun hSn => ?_)
            clear hK K hSw0
            have hSw0 := hSn
            clear hSn
            (try simp only [Act.put, List.setIfInBounds_toArray, List.set_cons_zero, List.set_cons_succ])
            refine wpAnyH_take (i := 6) (oi := ⟨some 80, _, _, _, _, _⟩) (v := ?_) rfl (by kernel_rfl) (by kernel_rfl) (by kernel_rfl) (fun _ _ _ h => h) (Or.inl ⟨by rfl, ?_⟩) (by assumption) ?_
            rotate_left
            · intro w hSw
              (try dsimp only at hSw)
              go_simp
              all_goals (try with_reducible rfl)
            (try simp only [Act.put, List.setIfInBounds_toArray, List.set_cons_zero, List.set_cons_succ])
            refine wpAnyH_ready (rs := [7]) (by kernel_rfl) (by simp) ?_
            refine AllReadyH.cons (o := ⟨none, _, _, _, _, _⟩) rfl (fun K hK => ?_) AllReadyH.nil
            have yq := (HDd.out.boxi 2 rfl).cell 4 (by simp)
            simp only [List.getElem_cons_zero, List.getElem_cons_succ] at yq
            have lq := (HDd.out.boxi 2 rfl).lt
            have fq := (HDd.out.boxi 2 rfl).frozen 4
            go_simp
            have HDz := Lib.hid (HDd.out.put 2 rfl 4 (.slice A6 (jj + 1) c6))
            have HOz := Lib.hid (HOd.out.set (p := ⟨f, 4, none⟩) (.inl HSf.out) (.slice A6 (jj + 1) c6))
            clear yq lq fq
            refine hK.out _ _ ((HDz.out.boxi 2 rfl).cell 0 (by simp)) (fun hSn => ?_)
            clear hK K hSw0
            have hSw0 := hSn
            clear hSn
            (try simp only [Act.put, List.setIfInBounds_toArray, List.set_cons_zero, List.set_cons_succ])
            refine wpAnyH_done (by kernel_rfl) ?_ _
            clear hSw0
            have hkf := keeps_of_only HOz.out (fun k hk => (HIS.out k hk).1)
            have hkp : KpAt [b1, b2] W _ := KpAt.of_only HOz.out (fun k hk => ⟨fun hm => by have := (HIS.out k hm).2; simp at hk; rcases hk with rfl | rfl <;> simp_all, by have h1 := (HWs.out.boxi 1 rfl).lt; have h2 := (HWs.out.boxi 0 rfl).lt; simp at hk; rcases hk with rfl | rfl <;> assumption⟩)
            refine ⟨hkf.from _, hkp, A6, c6, sl ++ [(some ⟨g7, 0, none⟩, 64, c7)], ?_, ?_⟩
            · rw [HPL.out, HMP.out]
              refine (HDz.out.fuse (f1 := fun V => Bys V (some ⟨g7, 0, none⟩) 64 c7 (chunkB bs x.val)) (f2 := fun V => Bls V sl (pre.map fun (x : Fin kb) => chunkB bs x.val)) (f := fun V => Bls V (sl ++ [(some ⟨g7, 0, none⟩, 64, c7)]) (pre.map (fun (x : Fin kb) => chunkB bs x.val) ++ [chunkB bs x.val])) (List.mem_cons_self ..) (List.mem_cons_of_mem _ (List.mem_cons_self ..)) (fun V h1 h2 => h2.snoc h1)).sub (List.Sublist.refl _) ?_
              intro f1 hf1
              simp only [List.mem_cons, List.not_mem_nil, or_false] at hf1 ⊢
              rcases hf1 with rfl | rfl | rfl <;> simp
            · intro s hs a ha
              rcases List.mem_append.1 hs with hs | hs
              · exact HFRR.out s hs a ha
              · simp at hs
                subst hs
                injection ha with ha
                subst ha
                exact hgw
          exact AllReadyH.nil
        exact AllReadyH.nil
      case done =>
        rintro D xs W hD hxs ⟨A5, c5, sl, hw, hfr⟩ hK
        have hxl : xs.length = kb := by have := congrArg List.length hxs; simpa using this
        have hbl : xs.map (fun (x : Fin kb) => chunkB bs x.val) = rcBl bs kb := by rw [rcBl_eq, ← hxs, List.map_map]; rfl
        rw [hxl, hbl] at hw
        have hDw : w.heap.size ≤ D := Nat.le_trans HWL.out.only.size hD
        have hDl := lt_of_obj hK
        have hDf : D ≠ f := fun e => by
          have h1 := (hw.boxi 2 rfl).isCells _ (by rw [← e]; exact hK)
          cases h1
        have HKW := Lib.hid hK
        have HWW := Lib.hid hw
        have HFRR := Lib.hid hfr
        have HGB : Hid (Blks W A5 kb c5 (rcBl bs kb)) := Lib.hid ⟨sl, (Row1.of_owns (hw.gi 0 rfl)).1, hw.fi 0 rfl⟩
        have HDO := Lib.hid (rc_dec_of HFT.out)
        clear hxs hxl hbl hK hw hfr
        have x0 := (HWW.out.boxi 2 rfl).cell 0 (by simp)
        have x1 := (HWW.out.boxi 2 rfl).cell 1 (by simp)
        have x2 := (HWW.out.boxi 2 rfl).cell 2 (by simp)
        have x3 := (HWW.out.boxi 2 rfl).cell 3 (by simp)
        have x4 := (HWW.out.boxi 2 rfl).cell 4 (by simp)
        simp only [List.getElem_cons_zero, List.getElem_cons_succ] at x0 x1 x2 x3 x4
        go_wp2_with fail
        refine (rec_enc_any rm rn rp A4 Nv c4 its A5 kb c5 (rcBl bs kb) _ (by exact HWW.out.fi 2 rfl) (by exact HGB.out)).mono ?_
        intro en wy he
        rw [← HRO.out] at he
        have hdo := HDO.out
        have hpc : ∀ (V : World) (i : Nat) (ob : Obj), (World.putObj V D ob).cell? ⟨f, i, none⟩ = V.cell? ⟨f, i, none⟩ := fun V i ob => World.cell?_of_block (World.putObj_heap_other (Ne.symm hDf))
        cases hen : encRc (rcOf bs) with
        | none =>
          rw [hen] at he hdo
          obtain ⟨rfl, hO⟩ := he.of_none
          have HY := Lib.hid (HWW.out.keep0 hO)
          have HKY : Hid (wy.heap[D]? = some (.deferred (some []))) := Lib.hid ((hO.block D hDl (by simp)).trans HKW.out)
          have HNO : Hid (decRc bs = none) := Lib.hid hdo
          clear hen hO he hdo x0 x1 x2 x3 x4
          have hx0 := (HY.out.boxi 2 rfl).cell 0 (by simp)
          have hx1 := (HY.out.boxi 2 rfl).cell 1 (by simp)
          have hx2 := (HY.out.boxi 2 rfl).cell 2 (by simp)
          have hx3 := (HY.out.boxi 2 rfl).cell 3 (by simp)
          have hx4 := (HY.out.boxi 2 rfl).cell 4 (by simp)
          simp only [List.getElem_cons_zero, List.getElem_cons_succ] at hx0 hx1 hx2 hx3 hx4
          have hz0' := (HY.out.boxi 2 rfl).frozen 0
          have hz1' := (HY.out.boxi 2 rfl).frozen 1
          have hz2' := (HY.out.boxi 2 rfl).frozen 2
          have hz3' := (HY.out.boxi 2 rfl).frozen 3
          have hz4' := (HY.out.boxi 2 rfl).frozen 4
          have hfw2 := (HY.out.boxi 2 rfl).lt
          go_wp2
          (try simp only [Exit.inBlock, Exit.then])
          refine marks_ret1 (v := (.tuple #[.agg #[.int .i64 0, .int .i64 0, .int .i64 0, .slice none 0 0, .slice none 0 0], .int .i64 0, .int .i64 2])) (D := D) ?_ ?_ rfl (RcSays.no HNO.out ?_)
          · (repeat' first | (with_reducible refine setCell_obj ?_ rfl) | (with_reducible exact HKY.out))
          · simp only [results, HRES.out]
            go_simp
          · refine Only.putObj ?_ hDw
            (repeat' first | (with_reducible refine Only.set ?_ (.inr hfw) _) | (with_reducible exact HY.out.only))
        | some ys =>
          obtain ⟨y, s⟩ := ys
          rw [hen] at he hdo
          obtain ⟨g9, c9, rfl, hc9, hm9, hg9, ho9, hO⟩ := he.of_some
          have HY := Lib.hid (HWW.out.keep0 hO)
          have HKY : Hid (wy.heap[D]? = some (.deferred (some []))) := Lib.hid ((hO.block D hDl (by simp)).trans HKW.out)
          have HB9 : Hid (Bys wy (some ⟨g9, 0, none⟩) y.length c9 y) := Lib.hid (Row1.of_Own ho9 (bvs_length _) hc9 hm9)
          have HDO2 : Hid (decRc bs = if y = bs then some (rcOf bs, s) else none) := Lib.hid hdo
          clear hen hO he hdo ho9 x0 x1 x2 x3 x4 HDO
          have hx0 := (HY.out.boxi 2 rfl).cell 0 (by simp)
          have hx1 := (HY.out.boxi 2 rfl).cell 1 (by simp)
          have hx2 := (HY.out.boxi 2 rfl).cell 2 (by simp)
          have hx3 := (HY.out.boxi 2 rfl).cell 3 (by simp)
          have hx4 := (HY.out.boxi 2 rfl).cell 4 (by simp)
          simp only [List.getElem_cons_zero, List.getElem_cons_succ] at hx0 hx1 hx2 hx3 hx4
          have hz0' := (HY.out.boxi 2 rfl).frozen 0
          have hz1' := (HY.out.boxi 2 rfl).frozen 1
          have hz2' := (HY.out.boxi 2 rfl).frozen 2
          have hz3' := (HY.out.boxi 2 rfl).frozen 3
          have hz4' := (HY.out.boxi 2 rfl).frozen 4
          have hfw2 := (HY.out.boxi 2 rfl).lt
          go_wp2_with fail
          refine (bytes_equal_any (some ⟨g9, 0, none⟩) y.length c9 y (some ⟨ga, oa, none⟩) n c bs _ (by exact HB9.out) (by exact HY.out.fi 1 rfl)).mono ?_
          rintro en w5 ⟨rfl, rfl⟩
          by_cases hyb : y = bs
          · have hd : decide (y = bs) = true := by simp [hyb]
            have HYES : Hid (decRc bs = some (rcOf bs, s)) := Lib.hid (by rw [HDO2.out, if_pos hyb])
            clear hyb
            go_wp2
            (try simp only [Exit.inBlock, Exit.then])
            have hkd : (World.heap (World.setCell (World.setCell (World.setCell (World.setCell (World.setCell wy ⟨f, 0, none⟩ (.int .i64 rm)) ⟨f, 1, none⟩ (.int .i64 rn)) ⟨f, 2, none⟩ (.int .i64 rp)) ⟨f, 3, none⟩ (.slice A4 Nv c4)) ⟨f, 4, none⟩ (.slice A5 kb c5)))[D]? = some (.deferred (some [])) := by
              (repeat' first | (with_reducible refine setCell_obj ?_ rfl) | (with_reducible exact HKY.out))
            have hfin := (((((HY.out.put 2 rfl 0 (.int .i64 rm)).put 2 rfl 1 (.int .i64 rn)).put 2 rfl 2 (.int .i64 rp)).put 2 rfl 3 (.slice A4 Nv c4)).put 2 rfl 4 (.slice A5 kb c5)).putObj (.deferred none) hkd rfl hDw
            refine marks_ret1 (v := .tuple #[.agg #[.int .i64 rm, .int .i64 rn, .int .i64 rp, .slice A4 Nv c4, .slice A5 kb c5], .int .i64 (s : Nat), .int .i64 0]) (D := D) hkd ?_ rfl ?_
            · simp only [results, HRES.out]
              go_simp
            · rw [HYES.out]
              refine ⟨(A4, Nv, c4), (A5, kb, c5), ?_, ?_, hfin.only⟩
              · simp only [Option.map_some, Option.getD_some, Option.isSome_some, if_true]
                rw [HRO.out]
                rfl
              · simp only [Option.map_some, Option.getD_some]
                rw [HRO.out]
                exact hfin.rcFc (List.mem_cons_self ..) (List.mem_cons_of_mem _ (List.mem_cons_of_mem _ (List.mem_cons_self ..))) (fun h0 a ha => (HFR.out h0 a ha).2) HFRR.out
          · have hd : decide (y = bs) = false := by simp [hyb]
            have HNO : Hid (decRc bs = none) := Lib.hid (by rw [HDO2.out, if_neg hyb])
            clear hyb
            go_wp2
            (try simp only [Exit.inBlock, Exit.then])
            refine marks_ret1 (v := (.tuple #[.agg #[.int .i64 0, .int .i64 0, .int .i64 0, .slice none 0 0, .slice none 0 0], .int .i64 0, .int .i64 2])) (D := D) ?_ ?_ rfl (RcSays.no HNO.out ?_)
            · (repeat' first | (with_reducible refine setCell_obj ?_ rfl) | (with_reducible exact HKY.out))
            · simp only [results, HRES.out]
              go_simp
            · refine Only.putObj ?_ hDw
              (repeat' first | (with_reducible refine Only.set ?_ (.inr hfw) _) | (with_reducible exact HY.out.only))
end Go.Proofs.YtgcfdjcpcclcjaaGreat
namespace Go.Proofs.YtgcfdjcpcclcjaaGreat
open Go Go.RowKit Go.Kn
def NewR (w0 : World) (n : Nat) (c : Fr3) (w : World) (e : Ending) (w' : World) : Prop := ∃ r : RD, e = .returned (.pointer (some ⟨r.M, 0, none⟩)) ∧ r.N = n ∧ Rsk w0 w' r (Dk.new n) c
theorem NewR.mk {w0 w w' : World} {n M f cc : Nat} {A : Option Addr} {c : Fr3} {sl : List (Option Addr × Nat × Nat)} (h1 : 1 ≤ n) (h2 : n ≤ 4096) 
    (h : Wc w0 w' ((M, [.slice A n cc, .slice none 0 0, .slice (some ⟨f, 0, none⟩) n n, .int .i64 (-1), .bool false, .int .i64 0, .slice none 0 0]) :: (f, bls (List.replicate n false)) :: c.L) (⟨47, 1, .slice A n cc, n, sl.map slv⟩ :: c.G) ((fun W => Bls W sl (List.replicate n zero64)) :: c.F)) :
    NewR w0 n c w (.returned (.pointer (some ⟨M, 0, none⟩))) w' := by
  obtain ⟨A', c', hv, hcc, _, hcl, _⟩ := (h.gath (x := ⟨47, 1, .slice A n cc, n, sl.map slv⟩) List.mem_cons_self).form (by show 0 < 1; omega)
  injection hv with e1 e2 e3
  subst e1 e3
  obtain ⟨g, rfl, _⟩ := hcl (by show 0 < n; omega)
  have hb := h.gbox
  refine ⟨⟨M, g, f, n, cc, n⟩, rfl, rfl, Dk.new_ok h1 h2, by simp [Dk.new], hcc, Nat.le_refl _, .slice none 0 0, .slice none 0 0, 0, [], sl, [], rfl, ?_⟩
  have h3 := ((hb.perm (List.Perm.swap _ _ _) (List.Perm.refl _)).gnew 47 1).gnew 175 2
  exact (h3.addF (fun W => Bls W [] []) (fun W _ => Bls.nil W)).fswap
set_option maxRecDepth 100000 in
set_option maxHeartbeats 8000000 in
theorem rk_new_any (w0 w : World) (n : Nat) (c : Fr3) (h : Wc w0 w c.L c.G c.F) (h1 : 1 ≤ n) (h2 : n ≤ 4096) : Calls Tryz.prog 142 #[.int .i64 (n : Int)] w (NewR w0 n c w) := by
  obtain ⟨i1, hi1, hy0, hy1, hy2⟩ := info_parts Tryz.infoBys
  obtain ⟨ZF, hZF⟩ : ∃ z, (bls (List.replicate n false)) = z := ⟨_, rfl⟩
  have hmf := make_bools n h2
  rw [hZF] at hmf
  obtain ⟨zz, hzz⟩ : ∃ x : List UInt8, List.replicate 64 0 = x := ⟨_, rfl⟩
  have hzl := List.length_replicate (n := 64) (a := (0 : UInt8))
  have hmk : ∀ w : World, (Instr.makeSlice 47 (.int .i64 64) (.int .i64 64)).run Tryz.prog w = .ok (.slice (some ⟨w.heap.size, 0, none⟩) 64 64) (w.alloc (.cells (bvs (List.replicate 64 0)).toArray 5)) := make_bys 64 (by decide)
  rw [hzz] at hzl
  simp only [hzz] at hmk
  have HMK := Lib.hid hmk
  have HZZ := Lib.hid hzz
  have HZF := Lib.hid hZF
  have hww : w0.heap.size ≤ w.heap.size := h.only.size
  have HD0 := Lib.hid ((h.newB ZF.toArray 4 rfl).newB #[.slice none 0 0, .slice none 0 0, .slice (some ⟨w.heap.size, 0, none⟩) n n, .int .i64 (-1), .bool false, .int .i64 0, .slice none 0 0] 109 rfl)
  clear hZF hzz hmk h
  have hn1 : 1 ≤ (n : Int) := by omega
  have hn2 : (n : Int) ≤ 4096 := by omega
  go_enter Tryz.func142, Tryz.ntmps142
  go_wp2_with fail
  refine (within_any (n : Int) 1 4096 _).mono ?_
  rintro e w' ⟨rfl, rfl⟩
  rw [decide_eq_true (show (1 : Int) ≤ n ∧ (n : Int) ≤ 4096 from ⟨by omega, by omega⟩)]
  go_wp2_with fail
  clear hmf
  generalize (w.alloc (.cells ZF.toArray 4)).alloc (.cells #[.slice none 0 0, .slice none 0 0, .slice (some ⟨w.heap.size, 0, none⟩) n n, .int .i64 (-1), .bool false, .int .i64 0, .slice none 0 0] 109) = wb at *
  have hbm : (w.alloc (.cells ZF.toArray 4)).heap.size = w.heap.size + 1 := by simp
  rw [hbm] at HD0
  clear hbm
  generalize hbf : w.heap.size = bf at *
  generalize hbm : bf + 1 = bm at *
  have HBF := Lib.hid hbf
  clear hbf hbm
  have hd1 := HD0.out.gnew 47 1
  have HD1 := Lib.hid hd1
  clear HD0 hd1
  go_loopg [4] n (fun r i wr => ∃ (j : Nat) (A4 : Option Addr) (c4 : Nat) (sl : List (Option Addr × Nat × Nat)), j + r = n ∧ i = .int .i64 j ∧
    Wc w0 wr ((bm, [.slice A4 j c4, .slice none 0 0, .slice (some ⟨bf, 0, none⟩) n n, .int .i64 (-1), .bool false, .int .i64 0, .slice none 0 0]) :: (bf, ZF) :: c.L) (⟨47, 1, .slice A4 j c4, j, sl.map slv⟩ :: c.G) ((fun W => Bls W sl (List.replicate j zero64)) :: c.F))
  case atStart => exact ⟨0, none, 0, [], by omega, rfl, HD1.out.addF _ (fun W _ => Bls.nil W)⟩
  obtain ⟨j, A4, c4, sl, hj, rfl, hw⟩ := hrel
  have HD7 := Lib.hid hw.drew
  have HW := Lib.hid hw
  clear HD1 hw
  by_cases hlt : j < n
  · have hlt2 : (j : Int) < (n : Int) := by omega
    clear HW
    go_wp2_with fail
    refine wp_region_held_drew (S := fun w' => w'.cell? ⟨bm, 1, none⟩ = some (.slice none 0 0)) (by kernel_rfl) ((HD7.out.boxi 0 rfl).cell 1 (by simp)) (fun hSw0 => ?_)
    generalize wr.drew = ws at *
    refine wpAnyH_take (i := 0) (oi := ⟨some 17, _, _, _, _, _⟩) (v := ?_) rfl (by kernel_rfl) (by kernel_rfl) (by kernel_rfl) (fun _ _ _ h => h) (Or.inl ⟨by rfl, ?_⟩) (by assumption) ?_
    rotate_left
    · intro w hSw
      (try dsimp only at hSw)
      go_simp
      all_goals (try with_reducible rfl)
    (try simp only [Act.put, List.setIfInBounds_toArray, List.set_cons_zero, List.set_cons_succ])
    refine wpAnyH_take (i := 1) (oi := ⟨some 18, _, _, _, _, _⟩) (v := ?_) rfl (by kernel_rfl) (by kernel_rfl) (by kernel_rfl) (fun _ _ _ h => h) (Or.inl ⟨by rfl, ?_⟩) (by assumption) ?_
    rotate_left
    · intro w hSw
      (try dsimp only at hSw)
      go_simp
      all_goals (try with_reducible rfl)
    (try simp only [Act.put, List.setIfInBounds_toArray, List.set_cons_zero, List.set_cons_succ])
    refine wpAnyH_take (i := 2) (oi := ⟨some 19, _, _, _, _, _⟩) (v := ?_) rfl (by kernel_rfl) (by kernel_rfl) (by kernel_rfl) (fun _ _ _ h => h) (Or.inl ⟨by rfl, ?_⟩) (by assumption) ?_
    rotate_left
    · intro w hSw
      (try dsimp only at hSw)
      go_simp
      all_goals (try with_reducible rfl)
    (try simp only [Act.put, List.setIfInBounds_toArray, List.set_cons_zero, List.set_cons_succ])
    refine wpAnyH_take (i := 3) (oi := ⟨some 20, _, _, _, _, _⟩) (v := ?_) rfl (by kernel_rfl) (by kernel_rfl) (by kernel_rfl) (fun _ _ _ h => h) (Or.inl ⟨by rfl, ?_⟩) (by assumption) ?_
    rotate_left
    · intro w hSw
      (try dsimp only at hSw)
      go_simp
      all_goals (try with_reducible rfl)
    (try simp only [Act.put, List.setIfInBounds_toArray, List.set_cons_zero, List.set_cons_succ])
    refine wpAnyH_ready (rs := [4, 5]) (by kernel_rfl) (by simp) ?_
    refine AllReadyH.cons (o := ⟨some 21, _, _, _, _, _⟩) rfl (fun K hK => ?_) ?_
    · have yq := (HD7.out.boxi 0 rfl).cell 0 (by simp)
      simp only [List.getElem_cons_zero, List.getElem_cons_succ] at yq
      go_simp
      clear yq
      refine hK.out _ _ ((HD7.out.boxi 0 rfl).cell 1 (by simp)) (fun hSn => ?_)
      clear hK K hSw0
      have hSw0 := hSn
      clear hSn
      (try simp only [Act.put, List.setIfInBounds_toArray, List.set_cons_zero, List.set_cons_succ])
      refine wpAnyH_ready (rs := [5]) (by kernel_rfl) (by simp) ?_
      refine AllReadyH.cons (o := ⟨some 22, _, _, _, _, _⟩) rfl (fun K hK => ?_) AllReadyH.nil
      have hmk := HMK.out
      go_simp
      clear hmk
      have hbw := HD7.out.only.size
      have ho7 := Own.new ws (bvs zz).toArray 5
      have HDa := Lib.hid (HD7.out.addFc ((Only.refl [] ws).alloc (.cells (bvs zz).toArray 5)) (f := fun V => Bys V (some ⟨ws.heap.size, 0, none⟩) 64 64 zz) (Row1.fc (Row1.of_Own ho7 (by simp [hzl]) (Nat.le_refl _) (by simp [maxLen])) (fun _ a ha => by injection ha with ha; subst ha; simp)))
      obtain ⟨g7, hg7⟩ : ∃ g, ws.heap.size = g := ⟨_, rfl⟩
      clear ho7 hbw
      rw [hg7] at HDa ⊢
      clear hg7
      generalize ws.alloc (.cells (bvs zz).toArray 5) = va at *
      clear HD7
      refine hK.out _ _ ((HDa.out.boxi 0 rfl).cell 1 (by simp)) (fun hSn => ?_)
      clear hK K hSw0
      have hSw0 := hSn
      clear hSn
      (try simp only [Act.put, List.setIfInBounds_toArray, List.set_cons_zero, List.set_cons_succ])
      refine wpAnyH_ready (rs := [6]) (by kernel_rfl) (by simp) ?_
      refine AllReadyH.cons (o := ⟨some 23, _, _, _, _, _⟩) rfl (fun K hK => ?_) AllReadyH.nil
      go_simp
      have HDb := Lib.hid (HDa.out.alloc (.cells #[.slice (some ⟨g7, 0, none⟩) 64 64] 47))
      have hnr : Row1 (va.alloc (.cells #[.slice (some ⟨g7, 0, none⟩) 64 64] 47)) (some ⟨va.heap.size, 0, none⟩) 1 1 ([(some ⟨g7, 0, none⟩, 64, 64)].map slv) := Row1.of_Own (Own.new va #[.slice (some ⟨g7, 0, none⟩) 64 64] 47) rfl (Nat.le_refl _) (by simp [maxLen])
      have HNR2 := Lib.hid hnr
      clear hnr
      have hbw := HDb.out.only.size
      generalize hvz : va.heap.size = vz at *
      generalize hvb : va.alloc (.cells #[.slice (some ⟨g7, 0, none⟩) 64 64] 47) = vb at *
      clear hvb hvz
      refine hK.out _ _ ((HDb.out.boxi 0 rfl).cell 1 (by simp)) (fun hSn => ?_)
      clear hK K hSw0
      have hSw0 := hSn
      clear hSn
      (try simp only [Act.put, List.setIfInBounds_toArray, List.set_cons_zero, List.set_cons_succ])
      refine wpAnyH_ready (rs := [7]) (by kernel_rfl) (by simp) ?_
      refine AllReadyH.cons (o := ⟨some 24, _, _, _, _, _⟩) rfl (fun K hK => ?_) AllReadyH.nil
      refine step_append_row1 rfl (.tmp 21) (.tmp 23) 54 rfl w0.heap.size 47 i1 _ 24 Tryz.underlying54 hi1 hy0 hy1 hy2 rfl (.slice A4 j c4) j (sl.map slv) rfl (HDb.out.gi 0 rfl) (some ⟨vz, 0, none⟩) 1 1 ([(some ⟨g7, 0, none⟩, 64, 64)].map slv) rfl HNR2.out (slv_one _) (by unfold maxLen; omega) (by omega) hbw ?_
      intro v' vd hown hgrow hat
      rw [← List.map_append] at hown
      have hdd := HDb.out.gapp 0 rfl hown hgrow hat
      obtain ⟨A8, c8, rfl⟩ := hdd.gform 0 rfl
      simp only [List.set_cons_zero, List.set_cons_succ] at hdd
      have HDd := Lib.hid hdd
      clear hdd hown hgrow hat
      refine hK.out _ _ ((HDd.out.boxi 0 rfl).cell 1 (by simp)) (fun hSn => ?_)
      clear hK K hSw0
      have hSw0 := hSn
      clear hSn
      (try simp only [Act.put, List.setIfInBounds_toArray, List.set_cons_zero, List.set_cons_succ])
      refine wpAnyH_take (i := 8) (oi := ⟨some 25, _, _, _, _, _⟩) (v := ?_) rfl (by kernel_rfl) (by kernel_rfl) (by kernel_rfl) (fun _ _ _ h => h) (Or.inl ⟨by rfl, ?_⟩) (by assumption) ?_
      rotate_left
      · intro w hSw
        (try dsimp only at hSw)
        go_simp
        all_goals (try with_reducible rfl)
      (try simp only [Act.put, List.setIfInBounds_toArray, List.set_cons_zero, List.set_cons_succ])
      refine wpAnyH_take (i := 9) (oi := ⟨some 26, _, _, _, _, _⟩) (v := ?_) rfl (by kernel_rfl) (by kernel_rfl) (by kernel_rfl) (fun _ _ _ h => h) (Or.inl ⟨by rfl, ?_⟩) (by assumption) ?_
      rotate_left
      · intro w hSw
        (try dsimp only at hSw)
        go_simp
        all_goals (try with_reducible rfl)
      (try simp only [Act.put, List.setIfInBounds_toArray, List.set_cons_zero, List.set_cons_succ])
      refine wpAnyH_ready (rs := [10]) (by kernel_rfl) (by simp) ?_
      refine AllReadyH.cons (o := ⟨none, _, _, _, _, _⟩) rfl (fun K hK => ?_) AllReadyH.nil
      have yq := (HDd.out.boxi 0 rfl).cell 0 (by simp)
      simp only [List.getElem_cons_zero, List.getElem_cons_succ] at yq
      have fq := (HDd.out.boxi 0 rfl).frozen 0
      go_simp
      have hdz := HDd.out.put 0 rfl 0 (.slice A8 (j + 1) c8)
      simp only [List.set_cons_zero, List.set_cons_succ] at hdz
      have HDz := Lib.hid hdz
      clear hdz
      clear yq fq
      refine hK.out _ _ ((HDz.out.boxi 0 rfl).cell 1 (by simp)) (fun hSn => ?_)
      clear hK K hSw0
      have hSw0 := hSn
      clear hSn
      (try simp only [Act.put, List.setIfInBounds_toArray, List.set_cons_zero, List.set_cons_succ])
      refine wpAnyH_done (by kernel_rfl) ?_ _
      clear hSw0
      go_wp2_with fail
      go_roundg (gk - 1)
      case measure => omega
      case rel =>
        refine ⟨j + 1, A8, c8, sl ++ [(some ⟨g7, 0, none⟩, 64, 64)], by omega, by go_num, ?_⟩
        · refine (HDz.out.fuse (f1 := fun V => Bys V (some ⟨g7, 0, none⟩) 64 64 zz) (f2 := fun V => Bls V sl (List.replicate j zero64)) (f := fun V => Bls V (sl ++ [(some ⟨g7, 0, none⟩, 64, 64)]) (List.replicate (j + 1) zero64)) (by simp) (by simp) (fun V h1 h2 => by rw [List.replicate_succ']; have := HZZ.out; unfold zero64 at h2 ⊢; rw [this] at h2 ⊢; exact h2.snoc h1)).subF ?_
          intro f1 hf1
          rcases List.mem_cons.1 hf1 with rfl | hf1
          · simp
          · simp [hf1]
    refine AllReadyH.cons (o := ⟨some 22, _, _, _, _, _⟩) rfl (fun K hK => ?_) ?_
    · have hmk := HMK.out
      go_simp
      clear hmk
      have hbw := HD7.out.only.size
      have ho7 := Own.new ws (bvs zz).toArray 5
      have HDa := Lib.hid (HD7.out.addFc ((Only.refl [] ws).alloc (.cells (bvs zz).toArray 5)) (f := fun V => Bys V (some ⟨ws.heap.size, 0, none⟩) 64 64 zz) (Row1.fc (Row1.of_Own ho7 (by simp [hzl]) (Nat.le_refl _) (by simp [maxLen])) (fun _ a ha => by injection ha with ha; subst ha; simp)))
      obtain ⟨g7, hg7⟩ : ∃ g, ws.heap.size = g := ⟨_, rfl⟩
      clear ho7 hbw
      rw [hg7] at HDa ⊢
      clear hg7
      generalize ws.alloc (.cells (bvs zz).toArray 5) = va at *
      clear HD7
      refine hK.out _ _ ((HDa.out.boxi 0 rfl).cell 1 (by simp)) (fun hSn => ?_)
      clear hK K hSw0
      have hSw0 := hSn
      clear hSn
      (try simp only [Act.put, List.setIfInBounds_toArray, List.set_cons_zero, List.set_cons_succ])
      refine wpAnyH_ready (rs := [4, 6]) (by kernel_rfl) (by simp) ?_
      refine AllReadyH.cons (o := ⟨some 21, _, _, _, _, _⟩) rfl (fun K hK => ?_) ?_
      · have yq := (HDa.out.boxi 0 rfl).cell 0 (by simp)
        simp only [List.getElem_cons_zero, List.getElem_cons_succ] at yq
        go_simp
        clear yq
        refine hK.out _ _ ((HDa.out.boxi 0 rfl).cell 1 (by simp)) (fun hSn => ?_)
        clear hK K hSw0
        have hSw0 := hSn
        clear hSn
        (try simp only [Act.put, List.setIfInBounds_toArray, List.set_cons_zero, List.set_cons_succ])
        refine wpAnyH_ready (rs := [6]) (by kernel_rfl) (by simp) ?_
        refine AllReadyH.cons (o := ⟨some 23, _, _, _, _, _⟩) rfl (fun K hK => ?_) AllReadyH.nil
        go_simp
        have HDb := Lib.hid (HDa.out.alloc (.cells #[.slice (some ⟨g7, 0, none⟩) 64 64] 47))
        have hnr : Row1 (va.alloc (.cells #[.slice (some ⟨g7, 0, none⟩) 64 64] 47)) (some ⟨va.heap.size, 0, none⟩) 1 1 ([(some ⟨g7, 0, none⟩, 64, 64)].map slv) := Row1.of_Own (Own.new va #[.slice (some ⟨g7, 0, none⟩) 64 64] 47) rfl (Nat.le_refl _) (by simp [maxLen])
        have HNR2 := Lib.hid hnr
        clear hnr
        have hbw := HDb.out.only.size
        generalize hvz : va.heap.size = vz at *
        generalize hvb : va.alloc (.cells #[.slice (some ⟨g7, 0, none⟩) 64 64] 47) = vb at *
        clear hvb hvz
        refine hK.out _ _ ((HDb.out.boxi 0 rfl).cell 1 (by simp)) (fun hSn => ?_)
        clear hK K hSw0
        have hSw0 := hSn
        clear hSn
        (try simp only [Act.put, List.setIfInBounds_toArray, List.set_cons_zero, List.set_cons_succ])
        refine wpAnyH_ready (rs := [7]) (by kernel_rfl) (by simp) ?_
        refine AllReadyH.cons (o := ⟨some 24, _, _, _, _, _⟩) rfl (fun K hK => ?_) AllReadyH.nil
        refine step_append_row1 rfl (.tmp 21) (.tmp 23) 54 rfl w0.heap.size 47 i1 _ 24 Tryz.underlying54 hi1 hy0 hy1 hy2 rfl (.slice A4 j c4) j (sl.map slv) rfl (HDb.out.gi 0 rfl) (some ⟨vz, 0, none⟩) 1 1 ([(some ⟨g7, 0, none⟩, 64, 64)].map slv) rfl HNR2.out (slv_one _) (by unfold maxLen; omega) (by omega) hbw ?_
        intro v' vd hown hgrow hat
        rw [← List.map_append] at hown
        have hdd := HDb.out.gapp 0 rfl hown hgrow hat
        obtain ⟨A8, c8, rfl⟩ := hdd.gform 0 rfl
        simp only [List.set_cons_zero, List.set_cons_succ] at hdd
        have HDd := Lib.hid hdd
        clear hdd hown hgrow hat
        refine hK.out _ _ ((HDd.out.boxi 0 rfl).cell 1 (by simp)) (fun hSn => ?_)
        clear hK K hSw0
        have hSw0 := hSn
        clear hSn
        (try simp only [Act.put, List.setIfInBounds_toArray, List.set_cons_zero, List.set_cons_succ])
        refine wpAnyH_take (i := 8) (oi := ⟨some 25, _, _, _, _, _⟩) (v := ?_) rfl (by kernel_rfl) (by kernel_rfl) (by kernel_rfl) (fun _ _ _ h => h) (Or.inl ⟨by rfl, ?_⟩) (by assumption) ?_
        rotate_left
        · intro w hSw
          (try dsimp only at hSw)
          go_simp
          all_goals (try with_reducible rfl)
        (try simp only [Act.put, List.setIfInBounds_toArray, List.set_cons_zero, List.set_cons_succ])
        refine wpAnyH_take (i := 9) (oi := ⟨some 26, _, _, _, _, _⟩) (v := ?_) rfl (by kernel_rfl) (by kernel_rfl) (by kernel_rfl) (fun _ _ _ h => h) (Or.inl ⟨by rfl, ?_⟩) (by assumption) ?_
        rotate_left
        · intro w hSw
          (try dsimp only at hSw)
          go_simp
          all_goals (try with_reducible rfl)
        (try simp only [Act.put, List.setIfInBounds_toArray, List.set_cons_zero, List.set_cons_succ])
        refine wpAnyH_ready (rs := [10]) (by kernel_rfl) (by simp) ?_
        refine AllReadyH.cons (o := ⟨none, _, _, _, _, _⟩) rfl (fun K hK => ?_) AllReadyH.nil
        have yq := (HDd.out.boxi 0 rfl).cell 0 (by simp)
        simp only [List.getElem_cons_zero, List.getElem_cons_succ] at yq
        have fq := (HDd.out.boxi 0 rfl).frozen 0
        go_simp
        have hdz := HDd.out.put 0 rfl 0 (.slice A8 (j + 1) c8)
        simp only [List.set_cons_zero, List.set_cons_succ] at hdz
        have HDz := Lib.hid hdz
        clear hdz
        clear yq fq
        refine hK.out _ _ ((HDz.out.boxi 0 rfl).cell 1 (by simp)) (fun hSn => ?_)
        clear hK K hSw0
        have hSw0 := hSn
        clear hSn
        (try simp only [Act.put, List.setIfInBounds_toArray, List.set_cons_zero, List.set_cons_succ])
        refine wpAnyH_done (by kernel_rfl) ?_ _
        clear hSw0
        go_wp2_with fail
        go_roundg (gk - 1)
        case measure => omega
        case rel =>
          refine ⟨j + 1, A8, c8, sl ++ [(some ⟨g7, 0, none⟩, 64, 64)], by omega, by go_num, ?_⟩
          · refine (HDz.out.fuse (f1 := fun V => Bys V (some ⟨g7, 0, none⟩) 64 64 zz) (f2 := fun V => Bls V sl (List.replicate j zero64)) (f := fun V => Bls V (sl ++ [(some ⟨g7, 0, none⟩, 64, 64)]) (List.replicate (j + 1) zero64)) (by simp) (by simp) (fun V h1 h2 => by rw [List.replicate_succ']; have := HZZ.out; unfold zero64 at h2 ⊢; rw [this] at h2 ⊢; exact h2.snoc h1)).subF ?_
            intro f1 hf1
            rcases List.mem_cons.1 hf1 with rfl | hf1
            · simp
            · simp [hf1]
      refine AllReadyH.cons (o := ⟨some 23, _, _, _, _, _⟩) rfl (fun K hK => ?_) ?_
      · go_simp
        have HDb := Lib.hid (HDa.out.alloc (.cells #[.slice (some ⟨g7, 0, none⟩) 64 64] 47))
        have hnr : Row1 (va.alloc (.cells #[.slice (some ⟨g7, 0, none⟩) 64 64] 47)) (some ⟨va.heap.size, 0, none⟩) 1 1 ([(some ⟨g7, 0, none⟩, 64, 64)].map slv) := Row1.of_Own (Own.new va #[.slice (some ⟨g7, 0, none⟩) 64 64] 47) rfl (Nat.le_refl _) (by simp [maxLen])
        have HNR2 := Lib.hid hnr
        clear hnr
        have hbw := HDb.out.only.size
        generalize hvz : va.heap.size = vz at *
        generalize hvb : va.alloc (.cells #[.slice (some ⟨g7, 0, none⟩) 64 64] 47) = vb at *
        clear hvb hvz
        refine hK.out _ _ ((HDb.out.boxi 0 rfl).cell 1 (by simp)) (fun hSn => ?_)
        clear hK K hSw0
        have hSw0 := hSn
        clear hSn
        (try simp only [Act.put, List.setIfInBounds_toArray, List.set_cons_zero, List.set_cons_succ])
        refine wpAnyH_ready (rs := [4]) (by kernel_rfl) (by simp) ?_
        refine AllReadyH.cons (o := ⟨some 21, _, _, _, _, _⟩) rfl (fun K hK => ?_) AllReadyH.nil
        have yq := (HDb.out.boxi 0 rfl).cell 0 (by simp)
        simp only [List.getElem_cons_zero, List.getElem_cons_succ] at yq
        go_simp
        clear yq
        refine hK.out _ _ ((HDb.out.boxi 0 rfl).cell 1 (by simp)) (fun hSn => ?_)
        clear hK K hSw0
        have hSw0 := hSn
        clear hSn
        (try simp only [Act.put, List.setIfInBounds_toArray, List.set_cons_zero, List.set_cons_succ])
        refine wpAnyH_ready (rs := [7]) (by kernel_rfl) (by simp) ?_
        refine AllReadyH.cons (o := ⟨some 24, _, _, _, _, _⟩) rfl (fun K hK => ?_) AllReadyH.nil
        refine step_append_row1 rfl (.tmp 21) (.tmp 23) 54 rfl w0.heap.size 47 i1 _ 24 Tryz.underlying54 hi1 hy0 hy1 hy2 rfl (.slice A4 j c4) j (sl.map slv) rfl (HDb.out.gi 0 rfl) (some ⟨vz, 0, none⟩) 1 1 ([(some ⟨g7, 0, none⟩, 64, 64)].map slv) rfl HNR2.out (slv_one _) (by unfold maxLen; omega) (by omega) hbw ?_
        intro v' vd hown hgrow hat
        rw [← List.map_append] at hown
        have hdd := HDb.out.gapp 0 rfl hown hgrow hat
        obtain ⟨A8, c8, rfl⟩ := hdd.gform 0 rfl
        simp only [List.set_cons_zero, List.set_cons_succ] at hdd
        have HDd := Lib.hid hdd
        clear hdd hown hgrow hat
        refine hK.out _ _ ((HDd.out.boxi 0 rfl).cell 1 (by simp)) (fun hSn => ?_)
        clear hK K hSw0
        have hSw0 := hSn
        clear hSn
        (try simp only [Act.put, List.setIfInBounds_toArray, List.set_cons_zero, List.set_cons_succ])
        refine wpAnyH_take (i := 8) (oi := ⟨some 25, _, _, _, _, _⟩) (v := ?_) rfl (by kernel_rfl) (by kernel_rfl) (by kernel_rfl) (fun _ _ _ h => h) (Or.inl ⟨by rfl, ?_⟩) (by assumption) ?_
        rotate_left
        · intro w hSw
          (try dsimp only at hSw)
          go_simp
          all_goals (try with_reducible rfl)
        (try simp only [Act.put, List.setIfInBounds_toArray, List.set_cons_zero, List.set_cons_succ])
        refine wpAnyH_take (i := 9) (oi := ⟨some 26, _, _, _, _, _⟩) (v := ?_) rfl (by kernel_rfl) (by kernel_rfl) (by kernel_rfl) (fun _ _ _ h => h) (Or.inl ⟨by rfl, ?_⟩) (by assumption) ?_
        rotate_left
        · intro w hSw
          (try dsimp only at hSw)
          go_simp
          all_goals (try with_reducible rfl)
        (try simp only [Act.put, List.setIfInBounds_toArray, List.set_cons_zero, List.set_cons_succ])
        refine wpAnyH_ready (rs := [10]) (by kernel_rfl) (by simp) ?_
        refine AllReadyH.cons (o := ⟨none, _, _, _, _, _⟩) rfl (fun K hK => ?_) AllReadyH.nil
        have yq := (HDd.out.boxi 0 rfl).cell 0 (by simp)
        simp only [List.getElem_cons_zero, List.getElem_cons_succ] at yq
        have fq := (HDd.out.boxi 0 rfl).frozen 0
        go_simp
        have hdz := HDd.out.put 0 rfl 0 (.slice A8 (j + 1) c8)
        simp only [List.set_cons_zero, List.set_cons_succ] at hdz
        have HDz := Lib.hid hdz
        clear hdz
        clear yq fq
        refine hK.out _ _ ((HDz.out.boxi 0 rfl).cell 1 (by simp)) (fun hSn => ?_)
        clear hK K hSw0
        have hSw0 := hSn
        clear hSn
        (try simp only [Act.put, List.setIfInBounds_toArray, List.set_cons_zero, List.set_cons_succ])
        refine wpAnyH_done (by kernel_rfl) ?_ _
        clear hSw0
        go_wp2_with fail
        go_roundg (gk - 1)
        case measure => omega
        case rel =>
          refine ⟨j + 1, A8, c8, sl ++ [(some ⟨g7, 0, none⟩, 64, 64)], by omega, by go_num, ?_⟩
          · refine (HDz.out.fuse (f1 := fun V => Bys V (some ⟨g7, 0, none⟩) 64 64 zz) (f2 := fun V => Bls V sl (List.replicate j zero64)) (f := fun V => Bls V (sl ++ [(some ⟨g7, 0, none⟩, 64, 64)]) (List.replicate (j + 1) zero64)) (by simp) (by simp) (fun V h1 h2 => by rw [List.replicate_succ']; have := HZZ.out; unfold zero64 at h2 ⊢; rw [this] at h2 ⊢; exact h2.snoc h1)).subF ?_
            intro f1 hf1
            rcases List.mem_cons.1 hf1 with rfl | hf1
            · simp
            · simp [hf1]
      exact AllReadyH.nil
    exact AllReadyH.nil
  · obtain rfl : j = n := by omega
    go_wp2
    go_ret
    rw [HZF.out.symm] at HW
    exact NewR.mk h1 h2 HW.out
end Go.Proofs.YtgcfdjcpcclcjaaGreat
namespace Go.Proofs.YtgcfdjcpcclcjaaGreat
open Go Go.RowKit Go.Kn
theorem Rsk.gone1 {w0 w : World} {r : RD} {d : Dk} {c : Fr3} (h : Rsk w0 w r d c) (hg : d.gone = true) :
    Rsk w0 ((w.setCell ⟨r.M, 5, none⟩ (.int .i64 (wrap64 (d.acts + 1)))).setCell ⟨r.M, 4, none⟩ (.bool true)) r d.act c := by
  obtain ⟨v, lv, k, ls, sl, hs, hl, hm⟩ := h.mem
  have h1 := ((hm.put 0 (p := r.M) (cs := r.box v lv d) rfl 5 (.int .i64 (wrap64 (d.acts + 1)))).put 0 rfl 4 (.bool true))
  refine ⟨h.ok.act, h.N, h.hs, h.hf, v, lv, k, ls, sl, hs, hl, ?_⟩
  have e : r.L v lv sl d.act c.L = (r.M, [.slice (some ⟨r.s, 0, none⟩) r.N r.cs, v, .slice (some ⟨r.f, 0, none⟩) r.N r.cf, .int .i64 d.fuse, .bool true, .int .i64 (wrap64 (d.acts + 1)), lv]) :: (r.s, sl.map slv) :: (r.f, bls d.faults) :: c.L := by
    simp only [RD.L, RD.box, Dk.act, hg, if_true, Dk.tick]
  rw [e]
  exact h1
theorem Rsk.gone0 {w0 w : World} {r : RD} {d : Dk} {c : Fr3} (h : Rsk w0 w r d c) (hg : d.gone = false) (hf : 0 < d.fuse) :
    Rsk w0 ((w.setCell ⟨r.M, 5, none⟩ (.int .i64 (wrap64 (d.acts + 1)))).setCell ⟨r.M, 3, none⟩ (.int .i64 (d.fuse - 1))) r d.act c := by
  obtain ⟨v, lv, k, ls, sl, hs, hl, hm⟩ := h.mem
  have h1 := ((hm.put 0 (p := r.M) (cs := r.box v lv d) rfl 5 (.int .i64 (wrap64 (d.acts + 1)))).put 0 rfl 3 (.int .i64 (d.fuse - 1)))
  refine ⟨h.ok.act, h.N, h.hs, h.hf, v, lv, k, ls, sl, hs, hl, ?_⟩
  have hof : d.off = false := by unfold Dk.gone at hg; rw [Bool.or_eq_false_iff] at hg; exact hg.1
  have e : r.L v lv sl d.act c.L = (r.M, [.slice (some ⟨r.s, 0, none⟩) r.N r.cs, v, .slice (some ⟨r.f, 0, none⟩) r.N r.cf, .int .i64 (d.fuse - 1), .bool d.off, .int .i64 (wrap64 (d.acts + 1)), lv]) :: (r.s, sl.map slv) :: (r.f, bls d.faults) :: c.L := by
    simp only [RD.L, RD.box, Dk.act, hg, Bool.false_eq_true, if_false, Dk.tick, hof]
    rw [show max (d.fuse - 1) (-1) = d.fuse - 1 from by omega]
  rw [e]
  exact h1
theorem Rsk.gone0' {w0 w : World} {r : RD} {d : Dk} {c : Fr3} (h : Rsk w0 w r d c) (hg : d.gone = false) (hf : d.fuse < 0) :
    Rsk w0 (w.setCell ⟨r.M, 5, none⟩ (.int .i64 (wrap64 (d.acts + 1)))) r d.act c := by
  obtain ⟨v, lv, k, ls, sl, hs, hl, hm⟩ := h.mem
  have h1 := (hm.put 0 (p := r.M) (cs := r.box v lv d) rfl 5 (.int .i64 (wrap64 (d.acts + 1))))
  refine ⟨h.ok.act, h.N, h.hs, h.hf, v, lv, k, ls, sl, hs, hl, ?_⟩
  have hu := h.ok.u
  have hof : d.off = false := by unfold Dk.gone at hg; rw [Bool.or_eq_false_iff] at hg; exact hg.1
  have e : r.L v lv sl d.act c.L = (r.M, [.slice (some ⟨r.s, 0, none⟩) r.N r.cs, v, .slice (some ⟨r.f, 0, none⟩) r.N r.cf, .int .i64 d.fuse, .bool d.off, .int .i64 (wrap64 (d.acts + 1)), lv]) :: (r.s, sl.map slv) :: (r.f, bls d.faults) :: c.L := by
    simp only [RD.L, RD.box, Dk.act, hg, Bool.false_eq_true, if_false, Dk.tick, hof]
    rw [show max (d.fuse - 1) (-1) = d.fuse from by omega]
  rw [e]
  exact h1
theorem rk_act_any (w0 w : World) (r : RD) (d : Dk) (c : Fr3) (h : Rsk w0 w r d c) :
    Calls Tryz.prog 150 #[.pointer (some ⟨r.M, 0, none⟩)] w fun e w' => e = .returned (.bool (!d.gone)) ∧ Rsk w0 w' r d.act c := by
  obtain ⟨v, lv, k, ls, sl, hs, hl, hm⟩ := h.mem
  have hb := hm.boxi 0 (p := r.M) (cs := r.box v lv d) rfl
  have c3 := hb.cell 3 (by simp [RD.box])
  have c4 := hb.cell 4 (by simp [RD.box])
  have c5 := hb.cell 5 (by simp [RD.box])
  have f3 := hb.frozen 3
  have f4 := hb.frozen 4
  have f5 := hb.frozen 5
  simp only [RD.box, List.getElem_cons_zero, List.getElem_cons_succ] at c3 c4 c5
  have hu := h.ok.u
  have hlt := hb.lt
  obtain ⟨hu1, hu2⟩ := hu
  clear hm hb hl
  by_cases hg : d.gone = true
  · refine (show Calls _ _ _ _ (fun e w' => e = .returned (.bool false) ∧ Rsk w0 w' r d.act c) from ?_).mono (fun e w' h => by rw [hg]; exact h)
    have H := Lib.hid (Rsk.gone1 h hg)
    clear h
    unfold Dk.gone at hg
    by_cases ho : d.off = true
    · rw [ho] at c4
      clear hg ho
      go_enter Tryz.func150, Tryz.ntmps150
      go_wp2
      go_ret
      exact ⟨rfl, H.out⟩
    · rw [Bool.not_eq_true] at ho
      have hf : d.fuse = 0 := by rw [ho] at hg; simpa using hg
      rw [ho] at c4
      rw [hf] at c3
      clear hg ho hf hu1 hu2
      go_enter Tryz.func150, Tryz.ntmps150
      go_wp2
      go_ret
      exact ⟨rfl, H.out⟩
  · rw [Bool.not_eq_true] at hg
    refine (show Calls _ _ _ _ (fun e w' => e = .returned (.bool true) ∧ Rsk w0 w' r d.act c) from ?_).mono (fun e w' h => by rw [hg]; exact h)
    by_cases hz : 0 < d.fuse
    · have H := Lib.hid (h.gone0 hg hz)
      clear h
      unfold Dk.gone at hg
      rw [Bool.or_eq_false_iff] at hg
      obtain ⟨ho, hf⟩ := hg
      rw [ho] at c4
      have hf : ¬ d.fuse = 0 := by omega
      clear ho
      go_enter Tryz.func150, Tryz.ntmps150
      go_wp2
      go_ret
      exact ⟨rfl, H.out⟩
    · have hf0 : ¬ d.fuse = 0 := by
        unfold Dk.gone at hg
        rw [Bool.or_eq_false_iff] at hg
        simpa using hg.2
      have H := Lib.hid (h.gone0' hg (by omega))
      clear h
      unfold Dk.gone at hg
      rw [Bool.or_eq_false_iff] at hg
      obtain ⟨ho, hf⟩ := hg
      rw [ho] at c4
      clear ho hf
      go_enter Tryz.func150, Tryz.ntmps150
      go_wp2
      go_ret
      exact ⟨rfl, H.out⟩
theorem Tryz.infoHeld : (Tryz.prog.info? 175).map (fun i => (i.zero, i.size, i.bytes)) = some (some (.agg #[.int .i64 0, .slice none 0 0]), 2, 32) := by kernel_rfl
theorem Rsk.wroteMk {w0 w' : World} {r : RD} {d : Dk} {c : Fr3} {w : World} {v lv : Value} {k kk : Nat} {ls : List Value} {sl hs : List (Option Addr × Nat × Nat)} {b : List UInt8} {s : Option Addr × Nat × Nat} (h : Rsk w0 w r d c) (hh : d.has k = true) (hb : b.length = 64) (hl : hs.length = d.held.length)
    (hm : Wc w0 w' ((r.M, r.box v lv d.act) :: (r.s, sl.map slv) :: (r.f, bls d.faults) :: c.L) (⟨175, 2, v, d.held.length + 1, heldR d.held hs ++ [.int .i64 (k : Int), slv s]⟩ :: ⟨47, 1, lv, kk, ls⟩ :: c.G) ((fun W => Bls W sl d.safe) :: (fun W => Bls W (hs ++ [s]) (d.held.map (·.2) ++ [b])) :: c.F)) :
    Rsk w0 w' r (d.wrote k b) c := by
  refine ⟨h.ok.wrote hh hb, h.N, h.hs, h.hf, v, lv, kk, ls, sl, hs ++ [s], by simp [Dk.wrote, hl], ?_⟩
  have e1 : (d.wrote k b).held = d.held ++ [(k, b)] := by unfold Dk.wrote; simp
  rw [e1, heldR_snoc _ _ hl.symm, List.length_append, List.map_append]
  exact hm
set_option maxRecDepth 100000 in
set_option maxHeartbeats 4000000 in
theorem rk_write_any (w0 w : World) (r : RD) (d : Dk) (c : Fr3) (a : Int) (A : Option Addr) (n cc : Nat) (b : List UInt8) (h : Rsk w0 w r d c) (hb : (fun W => Bys W A n cc b) ∈ c.F) (hh : d.held.length ≤ 1000000) :
    Calls Tryz.prog 94 #[.pointer (some ⟨r.M, 0, none⟩), .int .i64 a, .slice A n cc] w fun e w' => e = .returned (.int .i64 (d.write a b).2) ∧ Rsk w0 w' r (d.write a b).1 c := by
  obtain ⟨v, lv, kk, ls, sl, hs, hl, hm⟩ := h.mem
  have hbl : b.length = n := by
    have := (hm.fact _ (List.mem_cons_of_mem _ (List.mem_cons_of_mem _ hb))).len
    rwa [bvs_length] at this
  have hbx := hm.boxi 0 (p := r.M) (cs := r.box v lv d) rfl
  have c0 := hbx.cell 0 (by simp [RD.box])
  simp only [RD.box, List.getElem_cons_zero, List.getElem_cons_succ] at c0
  have hN := h.N
  have hn := h.ok.n
  have hN1 : 1 ≤ r.N ∧ r.N ≤ 4096 := by omega
  obtain ⟨hN1, hN2⟩ := hN1
  have hha : decide (0 ≤ a ∧ a ≤ (r.N : Int) - 1) = d.has a := by
    unfold Dk.has
    rw [hN]
    by_cases h1 : 0 ≤ a ∧ a ≤ (r.N : Int) - 1
    · rw [decide_eq_true h1, decide_eq_true (by omega)]
    · rw [decide_eq_false h1, decide_eq_false (by omega)]
  have HHA := Lib.hid hha
  clear hm hbx hN hn hha hl
  by_cases hok : d.has a = true ∧ b.length = 64
  · obtain ⟨ho1, ho2⟩ := hok
    obtain rfl : n = 64 := by omega
    by_cases hg : d.gone = true
    · have e : d.write a b = (d.act, 3) := by unfold Dk.write; simp [ho1, ho2, hg]
      rw [e]
      have H := Lib.hid h
      have HG := Lib.hid hg
      have HO := Lib.hid ho1
      clear h hbl ho2 ho1 hg e
      go_enter Tryz.func94, Tryz.ntmps94
      go_wp2_with fail
      refine (within_any a 0 ((r.N : Int) - 1) _).mono ?_
      rintro e w1 ⟨rfl, rfl⟩
      rw [HHA.out, HO.out]
      go_wp2_with fail
      refine (rk_act_any w0 w r d c H.out).mono ?_
      rintro e w1 ⟨rfl, h1⟩
      rw [HG.out]
      have H1 := Lib.hid h1
      clear h1
      go_wp2
      go_ret
      exact ⟨rfl, H1.out⟩
    · have e : d.write a b = (d.wrote a b, 0) := by unfold Dk.write; simp [ho1, ho2, hg]
      rw [e]
      rw [Bool.not_eq_true] at hg
      obtain ⟨k, rfl⟩ : ∃ k : Nat, a = k := ⟨a.toNat, by unfold Dk.has at ho1; simp only [decide_eq_true_eq] at ho1; omega⟩
      have H := Lib.hid h
      have HG := Lib.hid hg
      have HO := Lib.hid ho1
      have HB := Lib.hid hb
      have HL := Lib.hid ho2
      clear h hbl ho2 ho1 hg e hb
      go_enter Tryz.func94, Tryz.ntmps94
      go_wp2_with fail
      refine (within_any (k : Int) 0 ((r.N : Int) - 1) _).mono ?_
      rintro e w1 ⟨rfl, rfl⟩
      rw [HHA.out, HO.out]
      go_wp2_with fail
      refine (rk_act_any w0 w r d c H.out).mono ?_
      rintro e w1 ⟨rfl, h1⟩
      rw [HG.out]
      clear c0 v lv kk ls sl hs
      obtain ⟨v, lv, kk, ls, sl, hs, hl, hm⟩ := h1.mem
      obtain ⟨i1, hi1, hy0, hy1, hy2⟩ := info_parts Tryz.infoHeld
      have hdl : d.act.held.length = d.held.length := rfl
      have hde : d.act.held = d.held := rfl
      rw [hde] at hm hl
      have HHL := Lib.hid hl
      have HD7 := Lib.hid hm.drew
      clear hm h1 hdl hde hl
      go_wp2_with fail
      refine wp_region_held_drew (S := fun w' => w'.cell? ⟨r.M, 0, none⟩ = some (.slice (some ⟨r.s, 0, none⟩) r.N r.cs)) (by kernel_rfl) (by simpa [RD.box] using (HD7.out.boxi 0 (p := r.M) rfl).cell 0 (by simp [RD.box])) (fun hSw0 => ?_)
      generalize w1.drew = ws at *
      refine wpAnyH_take (i := 0) (oi := ⟨some 24, _, _, _, _, _⟩) (v := ?_) rfl (by kernel_rfl) (by kernel_rfl) (by kernel_rfl) (fun _ _ _ h => h) (Or.inl ⟨by rfl, ?_⟩) (by assumption) ?_
      rotate_left
      · intro w hSw
        (try dsimp only at hSw)
        go_simp
        all_goals (try with_reducible rfl)
      (try simp only [Act.put, List.setIfInBounds_toArray, List.set_cons_zero, List.set_cons_succ])
      refine wpAnyH_take (i := 1) (oi := ⟨some 25, _, _, _, _, _⟩) (v := ?_) rfl (by kernel_rfl) (by kernel_rfl) (by kernel_rfl) (fun _ _ _ h => h) (Or.inl ⟨by rfl, ?_⟩) (by assumption) ?_
      rotate_left
      · intro w hSw
        (try dsimp only at hSw)
        go_simp
        all_goals (try with_reducible rfl)
      (try simp only [Act.put, List.setIfInBounds_toArray, List.set_cons_zero, List.set_cons_succ])
      refine wpAnyH_take (i := 2) (oi := ⟨some 26, _, _, _, _, _⟩) (v := ?_) rfl (by kernel_rfl) (by kernel_rfl) (by kernel_rfl) (fun _ _ _ h => h) (Or.inl ⟨by rfl, ?_⟩) (by assumption) ?_
      rotate_left
      · intro w hSw
        (try dsimp only at hSw)
        go_simp
        all_goals (try with_reducible rfl)
      (try simp only [Act.put, List.setIfInBounds_toArray, List.set_cons_zero, List.set_cons_succ])
      refine wpAnyH_take (i := 3) (oi := ⟨some 27, _, _, _, _, _⟩) (v := ?_) rfl (by kernel_rfl) (by kernel_rfl) (by kernel_rfl) (fun _ _ _ h => h) (Or.inl ⟨by rfl, ?_⟩) (by assumption) ?_
      rotate_left
      · intro w hSw
        (try dsimp only at hSw)
        go_simp
        all_goals (try with_reducible rfl)
      (try simp only [Act.put, List.setIfInBounds_toArray, List.set_cons_zero, List.set_cons_succ])
      refine wpAnyH_take (i := 5) (oi := ⟨some 29, _, _, _, _, _⟩) (v := ?_) rfl (by kernel_rfl) (by kernel_rfl) (by kernel_rfl) (fun _ _ _ h => h) (Or.inl ⟨by rfl, ?_⟩) (by assumption) ?_
      rotate_left
      · intro w hSw
        (try dsimp only at hSw)
        go_simp
        all_goals (try with_reducible rfl)
      (try simp only [Act.put, List.setIfInBounds_toArray, List.set_cons_zero, List.set_cons_succ])
      refine wpAnyH_take (i := 6) (oi := ⟨some 30, _, _, _, _, _⟩) (v := ?_) rfl (by kernel_rfl) (by kernel_rfl) (by kernel_rfl) (fun _ _ _ h => h) (Or.inl ⟨by rfl, ?_⟩) (by assumption) ?_
      rotate_left
      · intro w hSw
        (try dsimp only at hSw)
        go_simp
        all_goals (try with_reducible rfl)
      (try simp only [Act.put, List.setIfInBounds_toArray, List.set_cons_zero, List.set_cons_succ])
      refine wpAnyH_take (i := 7) (oi := ⟨some 31, _, _, _, _, _⟩) (v := ?_) rfl (by kernel_rfl) (by kernel_rfl) (by kernel_rfl) (fun _ _ _ h => h) (Or.inl ⟨by rfl, ?_⟩) (by assumption) ?_
      rotate_left
      · intro w hSw
        (try dsimp only at hSw)
        go_simp
        all_goals (try with_reducible rfl)
      (try simp only [Act.put, List.setIfInBounds_toArray, List.set_cons_zero, List.set_cons_succ])
      refine wpAnyH_take (i := 8) (oi := ⟨some 32, _, _, _, _, _⟩) (v := ?_) rfl (by kernel_rfl) (by kernel_rfl) (by kernel_rfl) (fun _ _ _ h => h) (Or.inl ⟨by rfl, ?_⟩) (by assumption) ?_
      rotate_left
      · intro w hSw
        (try dsimp only at hSw)
        go_simp
        all_goals (try with_reducible rfl)
      (try simp only [Act.put, List.setIfInBounds_toArray, List.set_cons_zero, List.set_cons_succ])
      refine wpAnyH_ready (rs := [4, 9]) (by kernel_rfl) (by simp) ?_
      refine AllReadyH.cons (o := ⟨some 28, _, _, _, _, _⟩) rfl (fun K hK => ?_) ?_
      · have yq := (HD7.out.boxi 0 (p := r.M) rfl).cell 1 (by simp [RD.box])
        simp only [RD.box, List.getElem_cons_zero, List.getElem_cons_succ] at yq
        go_simp
        clear yq
        refine hK.out _ _ (by simpa [RD.box] using (HD7.out.boxi 0 (p := r.M) rfl).cell 0 (by simp [RD.box])) (fun hSn => ?_)
        clear hK K hSw0
        have hSw0 := hSn
        clear hSn
        (try simp only [Act.put, List.setIfInBounds_toArray, List.set_cons_zero, List.set_cons_succ])
        refine wpAnyH_ready (rs := [9]) (by kernel_rfl) (by simp) ?_
        refine AllReadyH.cons (o := ⟨some 33, _, _, _, _, _⟩) rfl (fun K hK => ?_) AllReadyH.nil
        go_simp
        refine (part_any A 64 cc b 0 64 _ _ (HD7.out.fact _ (List.mem_cons_of_mem _ (List.mem_cons_of_mem _ HB.out))) (by omega) (by omega) (by omega)).mono ?_
        rintro en va ⟨rfl, ho7, hO⟩
        rw [List.drop_zero, List.take_of_length_le (by rw [HL.out]; omega)] at ho7
        have hbw := HD7.out.only.size
        have HDa := Lib.hid (HD7.out.addFc hO (f := fun V => Bys V (some ⟨ws.heap.size, 0, none⟩) 64 64 b) (Row1.fc (Row1.of_Own ho7 (by simp [HL.out]) (Nat.le_refl _) (by simp [maxLen])) (fun _ a ha => by injection ha with ha; subst ha; simp)))
        obtain ⟨g7, hg7⟩ : ∃ g, ws.heap.size = g := ⟨_, rfl⟩
        clear hO ho7 hbw
        rw [hg7] at HDa ⊢
        clear hg7 HD7
        refine hK.out _ _ (by simpa [RD.box] using (HDa.out.boxi 0 (p := r.M) rfl).cell 0 (by simp [RD.box])) (fun hSn => ?_)
        clear hK K hSw0
        have hSw0 := hSn
        clear hSn
        (try simp only [Act.put, List.setIfInBounds_toArray, List.set_cons_zero, List.set_cons_succ])
        refine wpAnyH_take (i := 10) (oi := ⟨some 34, _, _, _, _, _⟩) (v := ?_) rfl (by kernel_rfl) (by kernel_rfl) (by kernel_rfl) (fun _ _ _ h => h) (Or.inl ⟨by rfl, ?_⟩) (by assumption) ?_
        rotate_left
        · intro w hSw
          (try dsimp only at hSw)
          go_simp
          all_goals (try with_reducible rfl)
        (try simp only [Act.put, List.setIfInBounds_toArray, List.set_cons_zero, List.set_cons_succ])
        refine wpAnyH_ready (rs := [11]) (by kernel_rfl) (by simp) ?_
        refine AllReadyH.cons (o := ⟨some 35, _, _, _, _, _⟩) rfl (fun K hK => ?_) AllReadyH.nil
        go_simp
        have HDb := Lib.hid (HDa.out.alloc (.cells #[.int .i64 (k : Int), .slice (some ⟨g7, 0, none⟩) 64 64] 175))
        have hnw := news_new va #[.int .i64 (k : Int), .slice (some ⟨g7, 0, none⟩) 64 64] 175 (by simp [maxLen])
        have HNW := Lib.hid hnw
        clear hnw
        generalize hvz : va.heap.size = vz at *
        generalize hvb : va.alloc (.cells #[.int .i64 (k : Int), .slice (some ⟨g7, 0, none⟩) 64 64] 175) = vb at *
        clear hvb hvz
        refine hK.out _ _ (by simpa [RD.box] using (HDb.out.boxi 0 (p := r.M) rfl).cell 0 (by simp [RD.box])) (fun hSn => ?_)
        clear hK K hSw0
        have hSw0 := hSn
        clear hSn
        (try simp only [Act.put, List.setIfInBounds_toArray, List.set_cons_zero, List.set_cons_succ])
        refine wpAnyH_ready (rs := [12]) (by kernel_rfl) (by simp) ?_
        refine AllReadyH.cons (o := ⟨some 36, _, _, _, _, _⟩) rfl (fun K hK => ?_) AllReadyH.nil
        have hbw := HDb.out.only.size
        refine step_append_own rfl (.tmp 28) (.tmp 35) 106 rfl w0.heap.size 175 i1 _ 2 32 Tryz.underlying106 hi1 hy0 hy1 hy2 rfl (by decide) v d.held.length (heldR d.held hs) rfl (HDb.out.gi 0 rfl) ⟨vz, 0, none⟩ 1 1 [.int .i64 (k : Int), .slice (some ⟨g7, 0, none⟩) 64 64] rfl rfl HNW.out (by intro u hu; simp at hu; rcases hu with rfl | rfl <;> rfl) (by unfold maxLen; omega) (by omega) hbw ?_
        intro v5 vd hown hgrow hat
        have hdd := HDb.out.gapp 0 rfl hown hgrow hat
        obtain ⟨A8, c8, rfl⟩ := hdd.gform 0 rfl
        simp only [List.set_cons_zero, List.set_cons_succ] at hdd
        have HDd := Lib.hid hdd
        clear hdd hown hgrow hat hbw
        refine hK.out _ _ (by simpa [RD.box] using (HDd.out.boxi 0 (p := r.M) rfl).cell 0 (by simp [RD.box])) (fun hSn => ?_)
        clear hK K hSw0
        have hSw0 := hSn
        clear hSn
        (try simp only [Act.put, List.setIfInBounds_toArray, List.set_cons_zero, List.set_cons_succ])
        refine wpAnyH_take (i := 13) (oi := ⟨some 37, _, _, _, _, _⟩) (v := ?_) rfl (by kernel_rfl) (by kernel_rfl) (by kernel_rfl) (fun _ _ _ h => h) (Or.inl ⟨by rfl, ?_⟩) (by assumption) ?_
        rotate_left
        · intro w hSw
          (try dsimp only at hSw)
          go_simp
          all_goals (try with_reducible rfl)
        (try simp only [Act.put, List.setIfInBounds_toArray, List.set_cons_zero, List.set_cons_succ])
        refine wpAnyH_take (i := 14) (oi := ⟨some 38, _, _, _, _, _⟩) (v := ?_) rfl (by kernel_rfl) (by kernel_rfl) (by kernel_rfl) (fun _ _ _ h => h) (Or.inl ⟨by rfl, ?_⟩) (by assumption) ?_
        rotate_left
        · intro w hSw
          (try dsimp only at hSw)
          go_simp
          all_goals (try with_reducible rfl)
        (try simp only [Act.put, List.setIfInBounds_toArray, List.set_cons_zero, List.set_cons_succ])
        refine wpAnyH_ready (rs := [15]) (by kernel_rfl) (by simp) ?_
        refine AllReadyH.cons (o := ⟨none, _, _, _, _, _⟩) rfl (fun K hK => ?_) AllReadyH.nil
        have hxb := HDd.out.boxi 0 (p := r.M) rfl
        have yq := hxb.cell 1 (by simp [RD.box])
        simp only [RD.box, List.getElem_cons_zero, List.getElem_cons_succ] at yq
        have fq := hxb.frozen 1
        go_simp
        clear yq fq hxb
        have hdz := HDd.out.put 0 (p := r.M) rfl 1 (.slice A8 (d.held.length + 1) c8)
        have HDz := Lib.hid hdz
        clear hdz
        refine hK.out _ _ (by simpa [RD.box] using (HDz.out.boxi 0 (p := r.M) rfl).cell 0 (by simp [RD.box])) (fun hSn => ?_)
        clear hK K hSw0
        have hSw0 := hSn
        clear hSn
        (try simp only [Act.put, List.setIfInBounds_toArray, List.set_cons_zero, List.set_cons_succ])
        refine wpAnyH_done (by kernel_rfl) ?_ _
        clear hSw0
        go_wp2
        go_ret
        refine ⟨rfl, Rsk.wroteMk (v := .slice A8 (d.held.length + 1) c8) (lv := lv) (sl := sl) (hs := hs) (s := (some ⟨g7, 0, none⟩, 64, 64)) (kk := kk) (ls := ls) H.out HO.out HL.out HHL.out ?_⟩
        refine (HDz.out.fuse (f1 := fun V => Bys V (some ⟨g7, 0, none⟩) 64 64 b) (f2 := fun V => Bls V hs (d.held.map (·.2))) (f := fun V => Bls V (hs ++ [(some ⟨g7, 0, none⟩, 64, 64)]) (d.held.map (·.2) ++ [b])) (by simp) (by simp) (fun V h1 h2 => h2.snoc h1)).subF ?_
        intro f1 hf1
        rcases List.mem_cons.1 hf1 with rfl | hf1
        · exact List.mem_cons_of_mem _ (List.mem_cons_of_mem _ List.mem_cons_self)
        · rcases List.mem_cons.1 hf1 with rfl | hf1
          · exact List.mem_cons_self
          · exact List.mem_cons_of_mem _ (List.mem_cons_of_mem _ (List.mem_cons_of_mem _ (List.mem_cons_of_mem _ hf1)))
      refine AllReadyH.cons (o := ⟨some 33, _, _, _, _, _⟩) rfl (fun K hK => ?_) ?_
      · go_simp
        refine (part_any A 64 cc b 0 64 _ _ (HD7.out.fact _ (List.mem_cons_of_mem _ (List.mem_cons_of_mem _ HB.out))) (by omega) (by omega) (by omega)).mono ?_
        rintro en va ⟨rfl, ho7, hO⟩
        rw [List.drop_zero, List.take_of_length_le (by rw [HL.out]; omega)] at ho7
        have hbw := HD7.out.only.size
        have HDa := Lib.hid (HD7.out.addFc hO (f := fun V => Bys V (some ⟨ws.heap.size, 0, none⟩) 64 64 b) (Row1.fc (Row1.of_Own ho7 (by simp [HL.out]) (Nat.le_refl _) (by simp [maxLen])) (fun _ a ha => by injection ha with ha; subst ha; simp)))
        obtain ⟨g7, hg7⟩ : ∃ g, ws.heap.size = g := ⟨_, rfl⟩
        clear hO ho7 hbw
        rw [hg7] at HDa ⊢
        clear hg7 HD7
        refine hK.out _ _ (by simpa [RD.box] using (HDa.out.boxi 0 (p := r.M) rfl).cell 0 (by simp [RD.box])) (fun hSn => ?_)
        clear hK K hSw0
        have hSw0 := hSn
        clear hSn
        (try simp only [Act.put, List.setIfInBounds_toArray, List.set_cons_zero, List.set_cons_succ])
        refine wpAnyH_take (i := 10) (oi := ⟨some 34, _, _, _, _, _⟩) (v := ?_) rfl (by kernel_rfl) (by kernel_rfl) (by kernel_rfl) (fun _ _ _ h => h) (Or.inl ⟨by rfl, ?_⟩) (by assumption) ?_
        rotate_left
        · intro w hSw
          (try dsimp only at hSw)
          go_simp
          all_goals (try with_reducible rfl)
        (try simp only [Act.put, List.setIfInBounds_toArray, List.set_cons_zero, List.set_cons_succ])
        refine wpAnyH_ready (rs := [4, 11]) (by kernel_rfl) (by simp) ?_
        refine AllReadyH.cons (o := ⟨some 28, _, _, _, _, _⟩) rfl (fun K hK => ?_) ?_
        · have yq := (HDa.out.boxi 0 (p := r.M) rfl).cell 1 (by simp [RD.box])
          simp only [RD.box, List.getElem_cons_zero, List.getElem_cons_succ] at yq
          go_simp
          clear yq
          refine hK.out _ _ (by simpa [RD.box] using (HDa.out.boxi 0 (p := r.M) rfl).cell 0 (by simp [RD.box])) (fun hSn => ?_)
          clear hK K hSw0
          have hSw0 := hSn
          clear hSn
          (try simp only [Act.put, List.setIfInBounds_toArray, List.set_cons_zero, List.set_cons_succ])
          refine wpAnyH_ready (rs := [11]) (by kernel_rfl) (by simp) ?_
          refine AllReadyH.cons (o := ⟨some 35, _, _, _, _, _⟩) rfl (fun K hK => ?_) AllReadyH.nil
          go_simp
          have HDb := Lib.hid (HDa.out.alloc (.cells #[.int .i64 (k : Int), .slice (some ⟨g7, 0, none⟩) 64 64] 175))
          have hnw := news_new va #[.int .i64 (k : Int), .slice (some ⟨g7, 0, none⟩) 64 64] 175 (by simp [maxLen])
          have HNW := Lib.hid hnw
          clear hnw
          generalize hvz : va.heap.size = vz at *
          generalize hvb : va.alloc (.cells #[.int .i64 (k : Int), .slice (some ⟨g7, 0, none⟩) 64 64] 175) = vb at *
          clear hvb hvz
          refine hK.out _ _ (by simpa [RD.box] using (HDb.out.boxi 0 (p := r.M) rfl).cell 0 (by simp [RD.box])) (fun hSn => ?_)
          clear hK K hSw0
          have hSw0 := hSn
          clear hSn
          (try simp only [Act.put, List.setIfInBounds_toArray, List.set_cons_zero, List.set_cons_succ])
          refine wpAnyH_ready (rs := [12]) (by kernel_rfl) (by simp) ?_
          refine AllReadyH.cons (o := ⟨some 36, _, _, _, _, _⟩) rfl (fun K hK => ?_) AllReadyH.nil
          have hbw := HDb.out.only.size
          refine step_append_own rfl (.tmp 28) (.tmp 35) 106 rfl w0.heap.size 175 i1 _ 2 32 Tryz.underlying106 hi1 hy0 hy1 hy2 rfl (by decide) v d.held.length (heldR d.held hs) rfl (HDb.out.gi 0 rfl) ⟨vz, 0, none⟩ 1 1 [.int .i64 (k : Int), .slice (some ⟨g7, 0, none⟩) 64 64] rfl rfl HNW.out (by intro u hu; simp at hu; rcases hu with rfl | rfl <;> rfl) (by unfold maxLen; omega) (by omega) hbw ?_
          intro v5 vd hown hgrow hat
          have hdd := HDb.out.gapp 0 rfl hown hgrow hat
          obtain ⟨A8, c8, rfl⟩ := hdd.gform 0 rfl
          simp only [List.set_cons_zero, List.set_cons_succ] at hdd
          have HDd := Lib.hid hdd
          clear hdd hown hgrow hat hbw
          refine hK.out _ _ (by simpa [RD.box] using (HDd.out.boxi 0 (p := r.M) rfl).cell 0 (by simp [RD.box])) (fun hSn => ?_)
          clear hK K hSw0
          have hSw0 := hSn
          clear hSn
          (try simp only [Act.put, List.setIfInBounds_toArray, List.set_cons_zero, List.set_cons_succ])
          refine wpAnyH_take (i := 13) (oi := ⟨some 37, _, _, _, _, _⟩) (v := ?_) rfl (by kernel_rfl) (by kernel_rfl) (by kernel_rfl) (fun _ _ _ h => h) (Or.inl ⟨by rfl, ?_⟩) (by assumption) ?_
          rotate_left
          · intro w hSw
            (try dsimp only at hSw)
            go_simp
            all_goals (try with_reducible rfl)
          (try simp only [Act.put, List.setIfInBounds_toArray, List.set_cons_zero, List.set_cons_succ])
          refine wpAnyH_take (i := 14) (oi := ⟨some 38, _, _, _, _, _⟩) (v := ?_) rfl (by kernel_rfl) (by kernel_rfl) (by kernel_rfl) (fun _ _ _ h => h) (Or.inl ⟨by rfl, ?_⟩) (by assumption) ?_
          rotate_left
          · intro w hSw
            (try dsimp only at hSw)
            go_simp
            all_goals (try with_reducible rfl)
          (try simp only [Act.put, List.setIfInBounds_toArray, List.set_cons_zero, List.set_cons_succ])
          refine wpAnyH_ready (rs := [15]) (by kernel_rfl) (by simp) ?_
          refine AllReadyH.cons (o := ⟨none, _, _, _, _, _⟩) rfl (fun K hK => ?_) AllReadyH.nil
          have hxb := HDd.out.boxi 0 (p := r.M) rfl
          have yq := hxb.cell 1 (by simp [RD.box])
          simp only [RD.box, List.getElem_cons_zero, List.getElem_cons_succ] at yq
          have fq := hxb.frozen 1
          go_simp
          clear yq fq hxb
          have hdz := HDd.out.put 0 (p := r.M) rfl 1 (.slice A8 (d.held.length + 1) c8)
          have HDz := Lib.hid hdz
          clear hdz
          refine hK.out _ _ (by simpa [RD.box] using (HDz.out.boxi 0 (p := r.M) rfl).cell 0 (by simp [RD.box])) (fun hSn => ?_)
          clear hK K hSw0
          have hSw0 := hSn
          clear hSn
          (try simp only [Act.put, List.setIfInBounds_toArray, List.set_cons_zero, List.set_cons_succ])
          refine wpAnyH_done (by kernel_rfl) ?_ _
          clear hSw0
          go_wp2
          go_ret
          refine ⟨rfl, Rsk.wroteMk (v := .slice A8 (d.held.length + 1) c8) (lv := lv) (sl := sl) (hs := hs) (s := (some ⟨g7, 0, none⟩, 64, 64)) (kk := kk) (ls := ls) H.out HO.out HL.out HHL.out ?_⟩
          refine (HDz.out.fuse (f1 := fun V => Bys V (some ⟨g7, 0, none⟩) 64 64 b) (f2 := fun V => Bls V hs (d.held.map (·.2))) (f := fun V => Bls V (hs ++ [(some ⟨g7, 0, none⟩, 64, 64)]) (d.held.map (·.2) ++ [b])) (by simp) (by simp) (fun V h1 h2 => h2.snoc h1)).subF ?_
          intro f1 hf1
          rcases List.mem_cons.1 hf1 with rfl | hf1
          · exact List.mem_cons_of_mem _ (List.mem_cons_of_mem _ List.mem_cons_self)
          · rcases List.mem_cons.1 hf1 with rfl | hf1
            · exact List.mem_cons_self
            · exact List.mem_cons_of_mem _ (List.mem_cons_of_mem _ (List.mem_cons_of_mem _ (List.mem_cons_of_mem _ hf1)))
        refine AllReadyH.cons (o := ⟨some 35, _, _, _, _, _⟩) rfl (fun K hK => ?_) ?_
        · go_simp
          have HDb := Lib.hid (HDa.out.alloc (.cells #[.int .i64 (k : Int), .slice (some ⟨g7, 0, none⟩) 64 64] 175))
          have hnw := news_new va #[.int .i64 (k : Int), .slice (some ⟨g7, 0, none⟩) 64 64] 175 (by simp [maxLen])
          have HNW := Lib.hid hnw
          clear hnw
          generalize hvz : va.heap.size = vz at *
          generalize hvb : va.alloc (.cells #[.int .i64 (k : Int), .slice (some ⟨g7, 0, none⟩) 64 64] 175) = vb at *
          clear hvb hvz
          refine hK.out _ _ (by simpa [RD.box] using (HDb.out.boxi 0 (p := r.M) rfl).cell 0 (by simp [RD.box])) (fun hSn => ?_)
          clear hK K hSw0
          have hSw0 := hSn
          clear hSn
          (try simp only [Act.put, List.setIfInBounds_toArray, List.set_cons_zero, List.set_cons_succ])
          refine wpAnyH_ready (rs := [4]) (by kernel_rfl) (by simp) ?_
          refine AllReadyH.cons (o := ⟨some 28, _, _, _, _, _⟩) rfl (fun K hK => ?_) AllReadyH.nil
          have yq := (HDb.out.boxi 0 (p := r.M) rfl).cell 1 (by simp [RD.box])
          simp only [RD.box, List.getElem_cons_zero, List.getElem_cons_succ] at yq
          go_simp
          clear yq
          refine hK.out _ _ (by simpa [RD.box] using (HDb.out.boxi 0 (p := r.M) rfl).cell 0 (by simp [RD.box])) (fun hSn => ?_)
          clear hK K hSw0
          have hSw0 := hSn
          clear hSn
          (try simp only [Act.put, List.setIfInBounds_toArray, List.set_cons_zero, List.set_cons_succ])
          refine wpAnyH_ready (rs := [12]) (by kernel_rfl) (by simp) ?_
          refine AllReadyH.cons (o := ⟨some 36, _, _, _, _, _⟩) rfl (fun K hK => ?_) AllReadyH.nil
          have hbw := HDb.out.only.size
          refine step_append_own rfl (.tmp 28) (.tmp 35) 106 rfl w0.heap.size 175 i1 _ 2 32 Tryz.underlying106 hi1 hy0 hy1 hy2 rfl (by decide) v d.held.length (heldR d.held hs) rfl (HDb.out.gi 0 rfl) ⟨vz, 0, none⟩ 1 1 [.int .i64 (k : Int), .slice (some ⟨g7, 0, none⟩) 64 64] rfl rfl HNW.out (by intro u hu; simp at hu; rcases hu with rfl | rfl <;> rfl) (by unfold maxLen; omega) (by omega) hbw ?_
          intro v5 vd hown hgrow hat
          have hdd := HDb.out.gapp 0 rfl hown hgrow hat
          obtain ⟨A8, c8, rfl⟩ := hdd.gform 0 rfl
          simp only [List.set_cons_zero, List.set_cons_succ] at hdd
          have HDd := Lib.hid hdd
          clear hdd hown hgrow hat hbw
          refine hK.out _ _ (by simpa [RD.box] using (HDd.out.boxi 0 (p := r.M) rfl).cell 0 (by simp [RD.box])) (fun hSn => ?_)
          clear hK K hSw0
          have hSw0 := hSn
          clear hSn
          (try simp only [Act.put, List.setIfInBounds_toArray, List.set_cons_zero, List.set_cons_succ])
          refine wpAnyH_take (i := 13) (oi := ⟨some 37, _, _, _, _, _⟩) (v := ?_) rfl (by kernel_rfl) (by kernel_rfl) (by kernel_rfl) (fun _ _ _ h => h) (Or.inl ⟨by rfl, ?_⟩) (by assumption) ?_
          rotate_left
          · intro w hSw
            (try dsimp only at hSw)
            go_simp
            all_goals (try with_reducible rfl)
          (try simp only [Act.put, List.setIfInBounds_toArray, List.set_cons_zero, List.set_cons_succ])
          refine wpAnyH_take (i := 14) (oi := ⟨some 38, _, _, _, _, _⟩) (v := ?_) rfl (by kernel_rfl) (by kernel_rfl) (by kernel_rfl) (fun _ _ _ h => h) (Or.inl ⟨by rfl, ?_⟩) (by assumption) ?_
          rotate_left
          · intro w hSw
            (try dsimp only at hSw)
            go_simp
            all_goals (try with_reducible rfl)
          (try simp only [Act.put, List.setIfInBounds_toArray, List.set_cons_zero, List.set_cons_succ])
          refine wpAnyH_ready (rs := [15]) (by kernel_rfl) (by simp) ?_
          refine AllReadyH.cons (o := ⟨none, _, _, _, _, _⟩) rfl (fun K hK => ?_) AllReadyH.nil
          have hxb := HDd.out.boxi 0 (p := r.M) rfl
          have yq := hxb.cell 1 (by simp [RD.box])
          simp only [RD.box, List.getElem_cons_zero, List.getElem_cons_succ] at yq
          have fq := hxb.frozen 1
          go_simp
          clear yq fq hxb
          have hdz := HDd.out.put 0 (p := r.M) rfl 1 (.slice A8 (d.held.length + 1) c8)
          have HDz := Lib.hid hdz
          clear hdz
          refine hK.out _ _ (by simpa [RD.box] using (HDz.out.boxi 0 (p := r.M) rfl).cell 0 (by simp [RD.box])) (fun hSn => ?_)
          clear hK K hSw0
          have hSw0 := hSn
          clear hSn
          (try simp only [Act.put, List.setIfInBounds_toArray, List.set_cons_zero, List.set_cons_succ])
          refine wpAnyH_done (by kernel_rfl) ?_ _
          clear hSw0
          go_wp2
          go_ret
          refine ⟨rfl, Rsk.wroteMk (v := .slice A8 (d.held.length + 1) c8) (lv := lv) (sl := sl) (hs := hs) (s := (some ⟨g7, 0, none⟩, 64, 64)) (kk := kk) (ls := ls) H.out HO.out HL.out HHL.out ?_⟩
          refine (HDz.out.fuse (f1 := fun V => Bys V (some ⟨g7, 0, none⟩) 64 64 b) (f2 := fun V => Bls V hs (d.held.map (·.2))) (f := fun V => Bls V (hs ++ [(some ⟨g7, 0, none⟩, 64, 64)]) (d.held.map (·.2) ++ [b])) (by simp) (by simp) (fun V h1 h2 => h2.snoc h1)).subF ?_
          intro f1 hf1
          rcases List.mem_cons.1 hf1 with rfl | hf1
          · exact List.mem_cons_of_mem _ (List.mem_cons_of_mem _ List.mem_cons_self)
          · rcases List.mem_cons.1 hf1 with rfl | hf1
            · exact List.mem_cons_self
            · exact List.mem_cons_of_mem _ (List.mem_cons_of_mem _ (List.mem_cons_of_mem _ (List.mem_cons_of_mem _ hf1)))
        exact AllReadyH.nil
      exact AllReadyH.nil
  · have e : d.write a b = (d, 1) := by
      unfold Dk.write
      rw [if_neg]
      simp only [Bool.and_eq_true, decide_eq_true_eq]
      exact hok
    rw [e]
    have H := Lib.hid h
    by_cases ho1 : d.has a = true
    · have hn2 : ((n : Int) != 64) = true := by
        have : ¬ n = 64 := fun h => hok ⟨ho1, by omega⟩
        simp; omega
      have HO := Lib.hid ho1
      clear h hbl hok ho1 e
      go_enter Tryz.func94, Tryz.ntmps94
      go_wp2_with fail
      refine (within_any a 0 ((r.N : Int) - 1) _).mono ?_
      rintro e w1 ⟨rfl, rfl⟩
      rw [HHA.out, HO.out]
      go_wp2
      go_ret
      exact ⟨rfl, H.out⟩
    · rw [Bool.not_eq_true] at ho1
      have HO := Lib.hid ho1
      clear h hbl hok ho1 e
      go_enter Tryz.func94, Tryz.ntmps94
      go_wp2_with fail
      refine (within_any a 0 ((r.N : Int) - 1) _).mono ?_
      rintro e w1 ⟨rfl, rfl⟩
      rw [HHA.out, HO.out]
      go_wp2
      go_ret
      exact ⟨rfl, H.out⟩
end Go.Proofs.YtgcfdjcpcclcjaaGreat
namespace Go.Proofs.YtgcfdjcpcclcjaaGreat
open Go Go.RowKit Go.Kn
theorem Rsk.flushMk {w0 w w' : World} {r : RD} {d : Dk} {c : Fr3} {v lv : Value} {kk : Nat} {ls : List Value} {sl hs : List (Option Addr × Nat × Nat)} (h : Rsk w0 w r d c)
    (hm : Wc w0 w' ((r.M, r.box v lv d.act) :: (r.s, sl.map slv) :: (r.f, bls d.faults) :: c.L) (⟨175, 2, v, d.held.length, heldR d.held hs⟩ :: ⟨47, 1, lv, kk, ls⟩ :: c.G) ((fun W => Bls W sl d.now) :: (fun W => Bls W hs (d.held.map (·.2))) :: c.F)) :
    Rsk w0 (w'.setCell ⟨r.M, 1, none⟩ (.slice none 0 0)) r d.flushed c := by
  have h1 := (hm.greset).put 0 (p := r.M) (cs := r.box v lv d.act) rfl 1 (.slice none 0 0)
  refine ⟨h.ok.flushed, by show d.now.length = _; rw [Dk.now_length]; exact h.N, h.hs, h.hf, .slice none 0 0, lv, kk, ls, sl, [], rfl, ?_⟩
  refine (h1.addF (fun W => Bls W [] []) (fun W _ => Bls.nil W)).subF ?_
  intro f hf
  rcases List.mem_cons.1 hf with rfl | hf
  · exact List.mem_cons_of_mem _ List.mem_cons_self
  · rcases List.mem_cons.1 hf with rfl | hf
    · exact List.mem_cons_self
    · exact List.mem_cons_of_mem _ (List.mem_cons_of_mem _ (List.mem_cons_of_mem _ hf))
theorem Bls.set {w : World} {sl : List (Option Addr × Nat × Nat)} {bl : List (List UInt8)} (h : Bls w sl bl) (k : Nat) {s : Option Addr × Nat × Nat} {b : List UInt8} (hb : Bys w s.1 s.2.1 s.2.2 b) : Bls w (sl.set k s) (bl.set k b) := by
  refine ⟨by rw [List.length_set, List.length_set]; exact h.1, fun i h1 h2 => ?_⟩
  rw [List.length_set] at h1 h2
  by_cases e : k = i
  · subst e
    rw [List.getElem_set_self, List.getElem_set_self]
    exact hb
  · rw [List.getElem_set_ne e, List.getElem_set_ne e]
    exact h.2 i h1 h2
set_option maxRecDepth 100000 in
set_option maxHeartbeats 4000000 in
theorem rk_flush_any (w0 w : World) (r : RD) (d : Dk) (c : Fr3) (h : Rsk w0 w r d c) (hh : d.held.length ≤ 1000000) :
    Calls Tryz.prog 96 #[.pointer (some ⟨r.M, 0, none⟩)] w fun e w' => e = .returned (.int .i64 d.flush.2) ∧ Rsk w0 w' r d.flush.1 c := by
  have H := Lib.hid h
  by_cases hg : d.gone = true
  · have e : d.flush = (d.act, 3) := by unfold Dk.flush; rw [if_pos hg]
    rw [e]
    have HG := Lib.hid hg
    clear h hg e
    go_enter Tryz.func96, Tryz.ntmps96
    go_wp2_with fail
    refine (rk_act_any w0 w r d c H.out).mono ?_
    rintro e w1 ⟨rfl, h1⟩
    rw [HG.out]
    have H1 := Lib.hid h1
    clear h1
    go_wp2
    go_ret
    exact ⟨rfl, H1.out⟩
  · have e : d.flush = (d.flushed, 0) := by unfold Dk.flush; rw [if_neg hg]
    rw [e]
    rw [Bool.not_eq_true] at hg
    have hN := h.N
    have hn := h.ok.n
    have HN := Lib.hid hN
    have hN1 : 1 ≤ r.N ∧ r.N ≤ 4096 := by omega
    obtain ⟨hN1, hN2⟩ := hN1
    have HG := Lib.hid hg
    clear h hg e hN hn
    go_enter Tryz.func96, Tryz.ntmps96
    go_wp2_with fail
    refine (rk_act_any w0 w r d c H.out).mono ?_
    rintro e w1 ⟨rfl, h1⟩
    rw [HG.out]
    obtain ⟨v, lv, kk, ls, sl0, hs, hl, hm⟩ := h1.mem
    have hdl : d.act.held = d.held := rfl
    rw [hdl] at hl hm
    obtain ⟨A, cc, rfl⟩ := hm.gform 0 rfl
    have HM := Lib.hid hm
    have HHL := Lib.hid hl
    obtain ⟨n, hn⟩ : ∃ n, d.held.length = n := ⟨_, rfl⟩
    rw [hn] at hh HM
    have HL := Lib.hid hn
    clear hm h1 hdl hl hn
    go_wp2_with fail
    go_loopg [3] n (fun q i wr => ∃ (j : Nat) (sl : List (Option Addr × Nat × Nat)), j + q = n ∧ i = .int .i64 j ∧ Wc w0 wr ((r.M, r.box (.slice A n cc) lv d.act) :: (r.s, sl.map slv) :: (r.f, bls d.faults) :: c.L) (⟨175, 2, .slice A n cc, n, heldR d.held hs⟩ :: ⟨47, 1, lv, kk, ls⟩ :: c.G) ((fun W => Bls W sl (Dk.over d.safe (d.held.take j))) :: (fun W => Bls W hs (d.held.map (·.2))) :: c.F))
    case atStart => exact ⟨0, sl0, by omega, rfl, HM.out⟩
    obtain ⟨j, sl, hj, rfl, hw⟩ := hrel
    have HW := Lib.hid hw
    clear hw HM
    have hbx := HW.out.boxi 0 (p := r.M) rfl
    have c1 := hbx.cell 1 (by simp [RD.box])
    simp only [RD.box, List.getElem_cons_zero, List.getElem_cons_succ] at c1
    clear hbx
    by_cases hlt : j < n
    · have hjl : j < d.held.length := by rw [HL.out]; exact hlt
      have hok := H.out.ok.h d.held[j] (List.getElem_mem _)
      obtain ⟨A', c', hv, _, _, hcl, _⟩ := (HW.out.gath (x := ⟨175, 2, .slice A n cc, n, heldR d.held hs⟩) List.mem_cons_self).form (by show 0 < 2; omega)
      injection hv with e1 e2 e3
      subst e1 e3
      obtain ⟨g, rfl, _, _, hcells⟩ := hcl (by show 0 < n; omega)
      obtain ⟨g0, g1⟩ := heldR_get d.held hs HHL.out.symm j hjl
      have y0 := hcells _ _ g0
      have y1 := hcells _ _ g1
      have hjh : j < hs.length := by rw [HHL.out]; exact hjl
      have hbb := (HW.out.fi 1 rfl).2 j hjh (by simpa using hjl)
      rw [List.getElem_map] at hbb
      have hov := Dk.over_take d.safe d.held j hjl
      have hsll := (HW.out.fi 0 rfl).1
      rw [Dk.over_length, HN.out] at hsll
      have hbf : ∀ W, Bls W hs (d.held.map (·.2)) → Bys W hs[j].1 hs[j].2.1 hs[j].2.2 d.held[j].2 := fun W hW => by
        have := hW.2 j hjh (by simpa using hjl)
        rwa [List.getElem_map] at this
      have HBF := Lib.hid hbf
      have HOV := Lib.hid hov
      have HSL := Lib.hid hsll
      obtain ⟨⟨A1, n1, k1⟩, hs1⟩ : ∃ s, hs[j] = s := ⟨_, rfl⟩
      rw [hs1] at y1 HBF
      simp only [slv] at y1
      rw [Nat.mul_comm 2 j] at y0 y1
      obtain ⟨x, hx⟩ : ∃ x, d.held[j].1 = x := ⟨_, rfl⟩
      obtain ⟨b, hb⟩ : ∃ b, d.held[j].2 = b := ⟨_, rfl⟩
      rw [hx] at y0 hok HOV
      rw [hb] at HBF HOV
      have hxN := hok.1
      clear hok
      have hxp : x < r.N := by rw [← HN.out]; exact hxN
      have hx1 : (x : Int) < (r.N : Int) := by omega
      have hlt2 : (j : Int) < (n : Int) := by omega
      have HD7 := Lib.hid HW.out.drew
      have HY : Hid (wr.cell? ⟨g, j * 2, none⟩ = some (.int .i64 (x : Int)) ∧ wr.cell? ⟨g, j * 2 + 1, none⟩ = some (.slice A1 n1 k1)) := Lib.hid ⟨y0, y1⟩
      have hsg : g ≠ r.s := fun e => HW.out.g3 (r.s, sl.map slv) (by simp) _ List.mem_cons_self (by rw [← e]; rfl)
      clear hx hb hcells hcl g0 g1 hbb hov hsll hbf hs1 hjl hjh hxN y0 y1 HW
      go_wp2_with fail
      refine wp_region_held_drew (S := fun w' => w'.cell? ⟨r.M, 0, none⟩ = some (.slice (some ⟨r.s, 0, none⟩) r.N r.cs) ∧ w'.cell? ⟨r.M, 1, none⟩ = some (.slice (some ⟨g, 0, none⟩) n cc) ∧ w'.cell? ⟨g, j * 2, none⟩ = some (.int .i64 (x : Int)) ∧ w'.cell? ⟨g, j * 2 + 1, none⟩ = some (.slice A1 n1 k1)) (by kernel_rfl) ⟨by simpa [RD.box] using (HD7.out.boxi 0 (p := r.M) rfl).cell 0 (by simp [RD.box]), by simpa [RD.box] using (HD7.out.boxi 0 (p := r.M) rfl).cell 1 (by simp [RD.box]), HY.out.1, HY.out.2⟩ (fun hSw0 => ?_)
      generalize wr.drew = ws at *
      refine wpAnyH_take (i := 0) (oi := ⟨some 16, _, _, _, _, _⟩) (v := ?_) rfl (by kernel_rfl) (by kernel_rfl) (by kernel_rfl) (fun _ _ _ h => h) (Or.inl ⟨by rfl, ?_⟩) (by assumption) ?_
      rotate_left
      · intro w hSw
        (try dsimp only at hSw)
        go_simp
        all_goals (try with_reducible rfl)
      (try simp only [Act.put, List.setIfInBounds_toArray, List.set_cons_zero, List.set_cons_succ])
      refine wpAnyH_take (i := 1) (oi := ⟨some 17, _, _, _, _, _⟩) (v := ?_) rfl (by kernel_rfl) (by kernel_rfl) (by kernel_rfl) (fun _ _ _ h => h) (Or.inl ⟨by rfl, ?_⟩) (by assumption) ?_
      rotate_left
      · intro w hSw
        (try dsimp only at hSw)
        go_simp
        all_goals (try with_reducible rfl)
      (try simp only [Act.put, List.setIfInBounds_toArray, List.set_cons_zero, List.set_cons_succ])
      refine wpAnyH_take (i := 2) (oi := ⟨some 18, _, _, _, _, _⟩) (v := ?_) rfl (by kernel_rfl) (by kernel_rfl) (by kernel_rfl) (fun _ _ _ h => h) (Or.inl ⟨by rfl, ?_⟩) (by assumption) ?_
      rotate_left
      · intro w hSw
        (try dsimp only at hSw)
        go_simp
        all_goals (try with_reducible rfl)
      (try simp only [Act.put, List.setIfInBounds_toArray, List.set_cons_zero, List.set_cons_succ])
      refine wpAnyH_take (i := 3) (oi := ⟨some 19, _, _, _, _, _⟩) (v := ?_) rfl (by kernel_rfl) (by kernel_rfl) (by kernel_rfl) (fun _ _ _ h => h) (Or.inl ⟨by rfl, ?_⟩) (by assumption) ?_
      rotate_left
      · intro w hSw
        (try dsimp only at hSw)
        go_simp
        all_goals (try with_reducible rfl)
      (try simp only [Act.put, List.setIfInBounds_toArray, List.set_cons_zero, List.set_cons_succ])
      refine wpAnyH_take (i := 4) (oi := ⟨some 20, _, _, _, _, _⟩) (v := ?_) rfl (by kernel_rfl) (by kernel_rfl) (by kernel_rfl) (fun _ _ _ h => h) (Or.inl ⟨by rfl, ?_⟩) (by assumption) ?_
      rotate_left
      · intro w hSw
        (try dsimp only at hSw)
        go_simp
        all_goals (try with_reducible rfl)
      (try simp only [Act.put, List.setIfInBounds_toArray, List.set_cons_zero, List.set_cons_succ])
      refine wpAnyH_take (i := 5) (oi := ⟨some 21, _, _, _, _, _⟩) (v := ?_) rfl (by kernel_rfl) (by kernel_rfl) (by kernel_rfl) (fun _ _ _ h => h) (Or.inl ⟨by rfl, ?_⟩) (by assumption) ?_
      rotate_left
      · intro w hSw
        (try dsimp only at hSw)
        go_simp
        all_goals (try with_reducible rfl)
      (try simp only [Act.put, List.setIfInBounds_toArray, List.set_cons_zero, List.set_cons_succ])
      refine wpAnyH_take (i := 6) (oi := ⟨some 22, _, _, _, _, _⟩) (v := ?_) rfl (by kernel_rfl) (by kernel_rfl) (by kernel_rfl) (fun _ _ _ h => h) (Or.inl ⟨by rfl, ?_⟩) (by assumption) ?_
      rotate_left
      · intro w hSw
        (try dsimp only at hSw)
        go_simp
        all_goals (try with_reducible rfl)
      (try simp only [Act.put, List.setIfInBounds_toArray, List.set_cons_zero, List.set_cons_succ])
      refine wpAnyH_take (i := 7) (oi := ⟨some 23, _, _, _, _, _⟩) (v := ?_) rfl (by kernel_rfl) (by kernel_rfl) (by kernel_rfl) (fun _ _ _ h => h) (Or.inl ⟨by rfl, ?_⟩) (by assumption) ?_
      rotate_left
      · intro w hSw
        (try dsimp only at hSw)
        go_simp
        all_goals (try with_reducible rfl)
      (try simp only [Act.put, List.setIfInBounds_toArray, List.set_cons_zero, List.set_cons_succ])
      refine wpAnyH_take (i := 8) (oi := ⟨some 24, _, _, _, _, _⟩) (v := ?_) rfl (by kernel_rfl) (by kernel_rfl) (by kernel_rfl) (fun _ _ _ h => h) (Or.inl ⟨by rfl, ?_⟩) (by assumption) ?_
      rotate_left
      · intro w hSw
        (try dsimp only at hSw)
        go_simp
        all_goals (try with_reducible rfl)
      (try simp only [Act.put, List.setIfInBounds_toArray, List.set_cons_zero, List.set_cons_succ])
      refine wpAnyH_take (i := 9) (oi := ⟨some 25, _, _, _, _, _⟩) (v := ?_) rfl (by kernel_rfl) (by kernel_rfl) (by kernel_rfl) (fun _ _ _ h => h) (Or.inl ⟨by rfl, ?_⟩) (by assumption) ?_
      rotate_left
      · intro w hSw
        (try dsimp only at hSw)
        go_simp
        all_goals (try with_reducible rfl)
      (try simp only [Act.put, List.setIfInBounds_toArray, List.set_cons_zero, List.set_cons_succ])
      refine wpAnyH_take (i := 10) (oi := ⟨some 26, _, _, _, _, _⟩) (v := ?_) rfl (by kernel_rfl) (by kernel_rfl) (by kernel_rfl) (fun _ _ _ h => h) (Or.inl ⟨by rfl, ?_⟩) (by assumption) ?_
      rotate_left
      · intro w hSw
        (try dsimp only at hSw)
        go_simp
        all_goals (try with_reducible rfl)
      (try simp only [Act.put, List.setIfInBounds_toArray, List.set_cons_zero, List.set_cons_succ])
      refine wpAnyH_take (i := 11) (oi := ⟨some 27, _, _, _, _, _⟩) (v := ?_) rfl (by kernel_rfl) (by kernel_rfl) (by kernel_rfl) (fun _ _ _ h => h) (Or.inl ⟨by rfl, ?_⟩) (by assumption) ?_
      rotate_left
      · intro w hSw
        (try dsimp only at hSw)
        go_simp
        all_goals (try with_reducible rfl)
      (try simp only [Act.put, List.setIfInBounds_toArray, List.set_cons_zero, List.set_cons_succ])
      refine wpAnyH_take (i := 12) (oi := ⟨some 28, _, _, _, _, _⟩) (v := ?_) rfl (by kernel_rfl) (by kernel_rfl) (by kernel_rfl) (fun _ _ _ h => h) (Or.inl ⟨by rfl, ?_⟩) (by assumption) ?_
      rotate_left
      · intro w hSw
        (try dsimp only at hSw)
        go_simp
        all_goals (try with_reducible rfl)
      (try simp only [Act.put, List.setIfInBounds_toArray, List.set_cons_zero, List.set_cons_succ])
      refine wpAnyH_take (i := 13) (oi := ⟨some 29, _, _, _, _, _⟩) (v := ?_) rfl (by kernel_rfl) (by kernel_rfl) (by kernel_rfl) (fun _ _ _ h => h) (Or.inl ⟨by rfl, ?_⟩) (by assumption) ?_
      rotate_left
      · intro w hSw
        (try dsimp only at hSw)
        go_simp
        all_goals (try with_reducible rfl)
      (try simp only [Act.put, List.setIfInBounds_toArray, List.set_cons_zero, List.set_cons_succ])
      refine wpAnyH_take (i := 14) (oi := ⟨some 30, _, _, _, _, _⟩) (v := ?_) rfl (by kernel_rfl) (by kernel_rfl) (by kernel_rfl) (fun _ _ _ h => h) (Or.inl ⟨by rfl, ?_⟩) (by assumption) ?_
      rotate_left
      · intro w hSw
        (try dsimp only at hSw)
        go_simp
        all_goals (try with_reducible rfl)
      (try simp only [Act.put, List.setIfInBounds_toArray, List.set_cons_zero, List.set_cons_succ])
      refine wpAnyH_take (i := 15) (oi := ⟨some 31, _, _, _, _, _⟩) (v := ?_) rfl (by kernel_rfl) (by kernel_rfl) (by kernel_rfl) (fun _ _ _ h => h) (Or.inl ⟨by rfl, ?_⟩) (by assumption) ?_
      rotate_left
      · intro w hSw
        (try dsimp only at hSw)
        go_simp
        all_goals (try with_reducible rfl)
      (try simp only [Act.put, List.setIfInBounds_toArray, List.set_cons_zero, List.set_cons_succ])
      refine wpAnyH_take (i := 16) (oi := ⟨some 32, _, _, _, _, _⟩) (v := ?_) rfl (by kernel_rfl) (by kernel_rfl) (by kernel_rfl) (fun _ _ _ h => h) (Or.inl ⟨by rfl, ?_⟩) (by assumption) ?_
      rotate_left
      · intro w hSw
        (try dsimp only at hSw)
        go_simp
        all_goals (try with_reducible rfl)
      (try simp only [Act.put, List.setIfInBounds_toArray, List.set_cons_zero, List.set_cons_succ])
      refine wpAnyH_take (i := 17) (oi := ⟨some 33, _, _, _, _, _⟩) (v := ?_) rfl (by kernel_rfl) (by kernel_rfl) (by kernel_rfl) (fun _ _ _ h => h) (Or.inl ⟨by rfl, ?_⟩) (by assumption) ?_
      rotate_left
      · intro w hSw
        (try dsimp only at hSw)
        go_simp
        all_goals (try with_reducible rfl)
      (try simp only [Act.put, List.setIfInBounds_toArray, List.set_cons_zero, List.set_cons_succ])
      refine wpAnyH_take (i := 18) (oi := ⟨some 34, _, _, _, _, _⟩) (v := ?_) rfl (by kernel_rfl) (by kernel_rfl) (by kernel_rfl) (fun _ _ _ h => h) (Or.inl ⟨by rfl, ?_⟩) (by assumption) ?_
      rotate_left
      · intro w hSw
        (try dsimp only at hSw)
        go_simp
        all_goals (try with_reducible rfl)
      (try simp only [Act.put, List.setIfInBounds_toArray, List.set_cons_zero, List.set_cons_succ])
      refine wpAnyH_take (i := 19) (oi := ⟨some 35, _, _, _, _, _⟩) (v := ?_) rfl (by kernel_rfl) (by kernel_rfl) (by kernel_rfl) (fun _ _ _ h => h) (Or.inl ⟨by rfl, ?_⟩) (by assumption) ?_
      rotate_left
      · intro w hSw
        (try dsimp only at hSw)
        go_simp
        all_goals (try with_reducible rfl)
      (try simp only [Act.put, List.setIfInBounds_toArray, List.set_cons_zero, List.set_cons_succ])
      refine wpAnyH_take (i := 20) (oi := ⟨some 36, _, _, _, _, _⟩) (v := ?_) rfl (by kernel_rfl) (by kernel_rfl) (by kernel_rfl) (fun _ _ _ h => h) (Or.inl ⟨by rfl, ?_⟩) (by assumption) ?_
      rotate_left
      · intro w hSw
        (try dsimp only at hSw)
        go_simp
        all_goals (try with_reducible rfl)
      (try simp only [Act.put, List.setIfInBounds_toArray, List.set_cons_zero, List.set_cons_succ])
      refine wpAnyH_ready (rs := [21]) (by kernel_rfl) (by simp) ?_
      refine AllReadyH.cons (o := ⟨none, _, _, _, _, _⟩) rfl (fun K hK => ?_) AllReadyH.nil
      have hxb := HD7.out.boxi 1 rfl
      have hsx : x < (sl.map slv).length := by rw [List.length_map, HSL.out]; exact hxp
      have yq := hxb.cell x hsx
      have fq := hxb.frozen x
      generalize (sl.map slv)[x] = old at yq
      have hdz := HD7.out.put 1 rfl x (.slice A1 n1 k1)
      have hmp : (sl.map slv).set x (.slice A1 n1 k1) = (sl.set x (A1, n1, k1)).map slv := by rw [List.map_set]; rfl
      rw [hmp] at hdz
      simp only [List.set_cons_zero, List.set_cons_succ] at hdz
      have HDz := Lib.hid hdz
      obtain ⟨s0, s1, s2, s3⟩ := hSw0
      clear hxb hsx hdz hmp
      go_simp
      clear yq fq
      refine hK.out _ _ ⟨by simpa [RD.box] using (HDz.out.boxi 0 (p := r.M) rfl).cell 0 (by simp [RD.box]), by simpa [RD.box] using (HDz.out.boxi 0 (p := r.M) rfl).cell 1 (by simp [RD.box]), cell_set_ne (by simp) s2 _, cell_set_ne (by simp) s3 _⟩ (fun hSn => ?_)
      clear hK K s0 s1 s2 s3 hSn
      (try simp only [Act.put, List.setIfInBounds_toArray, List.set_cons_zero, List.set_cons_succ])
      refine wpAnyH_done (by kernel_rfl) ?_ _
      have HE := Lib.hid ((HDz.out.fuse (f1 := fun W => Bls W sl (Dk.over d.safe (d.held.take j))) (f2 := fun W => Bls W hs (d.held.map (·.2))) (f := fun W => Bls W (sl.set x (A1, n1, k1)) (Dk.over d.safe (d.held.take (j + 1)))) (by simp) (by simp) (fun V h1 h2 => by rw [HOV.out]; exact Bls.set h1 x (HBF.out V h2))).subF (F' := (fun W => Bls W (sl.set x (A1, n1, k1)) (Dk.over d.safe (d.held.take (j + 1)))) :: (fun W => Bls W hs (d.held.map (·.2))) :: c.F) (by
        intro f hf
        rcases List.mem_cons.1 hf with rfl | hf
        · exact List.mem_cons_self
        · exact List.mem_cons_of_mem _ (List.mem_cons_of_mem _ hf)))
      clear HDz HD7
      go_wp2_with fail
      go_roundg (gk - 1)
      case measure => omega
      case rel => exact ⟨j + 1, _, by omega, by go_num, HE.out⟩
    · obtain rfl : j = n := by omega
      have hw := HW.out
      rw [List.take_of_length_le (by rw [HL.out]; omega)] at hw
      have HE := Lib.hid (H.out.flushMk (v := .slice A j cc) (lv := lv) (kk := kk) (ls := ls) (sl := sl) (hs := hs) (by rw [HL.out]; exact hw))
      have f1 := (hw.boxi 0 (p := r.M) rfl).frozen 1
      clear hw
      go_wp2
      go_ret
      exact ⟨rfl, HE.out⟩
end Go.Proofs.YtgcfdjcpcclcjaaGreat
namespace Go.Kn
open Go Go.RowKit
def Dk.wrs (d : Dk) (a : Int) (b : List UInt8) : Nat → Dk
  | 0 => d
  | i + 1 => ((Dk.wrs d a b i).write (a + (i : Nat)) ((b.drop (64 * i)).take 64)).1
def Dk.puts (d : Dk) (a : Int) (b : List UInt8) : Dk := ((d.wrs a b (b.length / 64)).flush).1
theorem Dk.write_held (d : Dk) (a : Int) (b : List UInt8) : (d.write a b).1.held.length ≤ d.held.length + 1 := by
  unfold Dk.write
  split
  · split
    · show d.held.length ≤ _
      omega
    · show (d.held ++ [(a.toNat, b)]).length ≤ _
      rw [List.length_append]
      exact Nat.le_refl _
  · show d.held.length ≤ _
    omega
theorem Dk.wrs_held (d : Dk) (a : Int) (b : List UInt8) : ∀ i, (d.wrs a b i).held.length ≤ d.held.length + i
  | 0 => Nat.le_refl _
  | i + 1 => by
    have h1 := Dk.wrs_held d a b i
    have h2 := Dk.write_held (d.wrs a b i) (a + (i : Nat)) ((b.drop (64 * i)).take 64)
    show ((Dk.wrs d a b i).write _ _).1.held.length ≤ _
    omega
end Go.Kn
namespace Go.Proofs.YtgcfdjcpcclcjaaGreat
open Go Go.RowKit Go.Kn
theorem Duo.ofRsk {w0 w : World} {p : PD} {r : RD} {d e : Dk} {c : Fr3} {v : Value} (h1 : d.Ok) (h2 : d.safe.length = p.N) (h3 : p.N ≤ p.cs) (h4 : p.N ≤ p.cn) (h5 : p.N ≤ p.cf)
    (h : Rsk w0 w r e ⟨p.L v d c.L, ⟨158, 65, v, d.held.length, heldV d.held⟩ :: c.G, c.F⟩) : Duo w0 w p r d e c := by
  obtain ⟨v', lv, k, ls, sl, hs, hl, hm⟩ := h.mem
  have pl : (p.L v d (r.L v' lv sl e c.L)).Perm (r.L v' lv sl e (p.L v d c.L)) := by
    have := (List.perm_append_comm (l₁ := p.L v d []) (l₂ := r.L v' lv sl e [])).append_right c.L
    simpa [PD.L, RD.L] using this
  have pg : ∀ a b x : Gs, (a :: b :: x :: c.G).Perm (b :: x :: a :: c.G) := fun a b x => (List.Perm.swap _ _ _).trans ((List.Perm.swap _ _ _).cons _)
  exact ⟨h1, h2, h3, h4, h5, h.ok, h.N, h.hs, h.hf, v, v', lv, k, ls, sl, hs, hl, hm.perm pl.symm (pg _ _ _).symm⟩
theorem Duo.imp {w0 w : World} {p : PD} {r : RD} {d e : Dk} {c : Fr3} (h : Duo w0 w p r d e c) {f1 f : World → Prop} (h1 : f1 ∈ c.F) (hf : ∀ W, f1 W → f W) : Duo w0 w p r d e ⟨c.L, c.G, f :: c.F⟩ := by
  obtain ⟨v, v', lv, k, ls, sl, hs, hl, hm⟩ := h.mem
  refine ⟨h.ok, h.N, h.hs, h.hn, h.hf, h.ok', h.N', h.hs', h.hf', v, v', lv, k, ls, sl, hs, hl, ?_⟩
  refine (hm.fuse (f := f) (List.mem_cons_of_mem _ (List.mem_cons_of_mem _ h1)) (List.mem_cons_of_mem _ (List.mem_cons_of_mem _ h1)) (fun W h2 _ => hf W h2)).subF ?_
  intro g hg
  simp only [List.mem_cons] at hg ⊢
  rcases hg with hg | hg | hg | hg
  · exact .inr (.inl hg)
  · exact .inr (.inr (.inl hg))
  · exact .inl hg
  · exact .inr (.inr (.inr hg))
theorem Duo.subF {w0 w : World} {p : PD} {r : RD} {d e : Dk} {c : Fr3} (h : Duo w0 w p r d e c) {F' : List (World → Prop)} (hF : ∀ f ∈ F', f ∈ c.F) : Duo w0 w p r d e ⟨c.L, c.G, F'⟩ := by
  obtain ⟨v, v', lv, k, ls, sl, hs, hl, hm⟩ := h.mem
  refine ⟨h.ok, h.N, h.hs, h.hn, h.hf, h.ok', h.N', h.hs', h.hf', v, v', lv, k, ls, sl, hs, hl, hm.subF ?_⟩
  intro g hg
  simp only [List.mem_cons] at hg ⊢
  rcases hg with hg | hg | hg
  · exact .inl hg
  · exact .inr (.inl hg)
  · exact .inr (.inr (hF _ hg))
theorem Duo.fact {w0 w : World} {p : PD} {r : RD} {d e : Dk} {c : Fr3} (h : Duo w0 w p r d e c) {f : World → Prop} (hf : f ∈ c.F) : f w := by
  obtain ⟨v, v', lv, k, ls, sl, hs, hl, hm⟩ := h.mem
  exact hm.fact _ (List.mem_cons_of_mem _ (List.mem_cons_of_mem _ hf))
def TwoSays (w0 : World) (n : Nat) (c : Fr3) (e : Ending) (w' : World) : Prop := ∃ p r, e = .returned (.tuple #[.pointer (some ⟨p.D, 0, none⟩), .pointer (some ⟨r.M, 0, none⟩), .bool true]) ∧ p.N = n ∧ r.N = n ∧ Duo w0 w' p r (Dk.new n) (Dk.new n) c
set_option maxRecDepth 100000 in
set_option maxHeartbeats 4000000 in
theorem kit_two_any (w0 w : World) (n : Nat) (c : Fr3) (h : Wc w0 w c.L c.G c.F) (h1 : 1 ≤ n) (h2 : n ≤ 4096) : Calls Tryz.prog 76 #[.int .i64 (n : Int)] w (TwoSays w0 n c) := by
  have H := Lib.hid h
  clear h
  go_enter Tryz.func76, Tryz.ntmps76
  go_wp2_with fail
  refine (dk_new_any n w h1 h2).mono ?_
  rintro e w1 ⟨p, rfl, hpN, hO1, hd⟩
  have hdsk := hd w0 c H.out
  obtain ⟨v, hm⟩ := hdsk.mem
  have HK := Lib.hid hdsk
  have HM := Lib.hid hm
  have HPN := Lib.hid hpN
  clear hd hdsk hm hO1 H hpN
  go_wp2_with fail
  refine (rk_new_any w0 _ n ⟨p.L v (Dk.new n) c.L, _, c.F⟩ HM.out h1 h2).mono ?_
  rintro e w2 ⟨r, rfl, hrN, hr⟩
  have HR := Lib.hid (Duo.ofRsk HK.out.ok HK.out.N HK.out.hs HK.out.hn HK.out.hf hr)
  have HRN := Lib.hid hrN
  clear hr HM hrN
  go_wp2
  refine bodyPost_ret (v := .tuple #[.pointer (some ⟨p.D, 0, none⟩), .pointer (some ⟨r.M, 0, none⟩), .bool true]) (by kernel_rfl) rfl ?_
  exact ⟨p, r, rfl, HPN.out, HRN.out, HR.out⟩
theorem Bys.chunk {w : World} {A : Option Addr} {n c i : Nat} {b : List UInt8} (h : Bys w A n c b) (hi : 64 * i + 64 ≤ n) : Bys w (cutA A c (64 * i)) 64 (c - 64 * i) ((b.drop (64 * i)).take 64) := by
  have := Row1.cut (l := 64 * i) (m := 64) h hi
  rwa [bvs_cut] at this
set_option maxRecDepth 100000 in
set_option maxHeartbeats 4000000 in
theorem kit_put_any (w0 w : World) (p : PD) (r : RD) (d : Dk) (c : Fr3) (a : Int) (A : Option Addr) (n cc : Nat) (b : List UInt8) (h : Duo w0 w p r d d c) (hb : (fun W => Bys W A n cc b) ∈ c.F) (hh : d.held.length ≤ 1000) (hn : n ≤ 65536) (ha : 0 ≤ a ∧ a ≤ 1000000) :
    Calls Tryz.prog 27 #[.pointer (some ⟨p.D, 0, none⟩), .pointer (some ⟨r.M, 0, none⟩), .int .i64 a, .slice A n cc] w fun e w' => e = .returned (.bool true) ∧ Duo w0 w' p r (d.puts a b) (d.puts a b) c := by
  have hby := h.fact hb
  have hbl := hby.len
  have hle := hby.le
  have hcm := hby.cm
  rw [bvs_length] at hbl
  unfold maxLen at hcm
  have H := Lib.hid h
  have HB := Lib.hid hb
  have HL := Lib.hid hbl
  obtain ⟨ha0, ha1⟩ := ha
  clear h hb hby hbl
  go_enter Tryz.func27, Tryz.ntmps27
  go_wp2_with fail
  go_loopg [9] (n / 64) (fun q i wr => ∃ j : Nat, j + q = n / 64 ∧ i = .int .i64 j ∧ Duo w0 wr p r (d.wrs a b j) (d.wrs a b j) c)
  case atStart => exact ⟨0, by omega, rfl, H.out⟩
  obtain ⟨j, hj, rfl, hd⟩ := hrel
  have HD := Lib.hid hd
  clear hd
  have hdiv : ((n : Int)).tdiv 64 = ((n / 64 : Nat) : Int) := by rw [Int.tdiv_eq_ediv_of_nonneg (by omega)]; omega
  have hhj := Dk.wrs_held d a b j
  by_cases hlt : j < n / 64
  · have hjn : 64 * j + 64 ≤ n := by omega
    have hlt2 : (j : Int) < ((n / 64 : Nat) : Int) := by omega
    have hd2 := HD.out.imp HB.out (f := fun W => Bys W (cutA A cc (64 * j)) 64 (cc - 64 * j) ((b.drop (64 * j)).take 64)) (fun W hW => Bys.chunk hW hjn)
    have HD2 := Lib.hid hd2
    have hsl : ∀ w, (Instr.slice 47 (.slice A n cc) (some (.int .i64 ((j : Int) * 64))) (some (.int .i64 (((j : Int) + 1) * 64))) none).run Tryz.prog w = .ok (.slice (cutA A cc (64 * j)) 64 (cc - 64 * j)) w := fun w =>
      run_slice1 (P := Tryz.prog) w 47 5 Tryz.underlying47 (by kernel_rfl) A n cc _ _ (64 * j) (64 * j + 64) 64 .i64 .i64 (by omega) (by omega) (by omega) (by omega) (by omega)
    have hw1 := IntWalk.i64_in (a + (j : Int)) (by omega)
    clear hd2 HD
    go_wp2_with fail
    obtain ⟨c1, hF1, hP, back1⟩ := HD2.out.ofP
    refine (dk_write_any w0 _ p _ c1 (a + (j : Int)) (cutA A cc (64 * j)) 64 (cc - 64 * j) ((b.drop (64 * j)).take 64) hP (hF1 _ List.mem_cons_self) (by omega)).mono ?_
    rintro e w1 ⟨rfl, hd1⟩
    have HD3 := Lib.hid (back1 _ _ hd1)
    clear hF1 hP back1 hd1 HD2
    go_wp2_with fail
    obtain ⟨c2, hF2, hR, back2⟩ := HD3.out.ofR
    refine (rk_write_any w0 _ r _ c2 (a + (j : Int)) (cutA A cc (64 * j)) 64 (cc - 64 * j) ((b.drop (64 * j)).take 64) hR (hF2 _ List.mem_cons_self) (by omega)).mono ?_
    rintro e w2 ⟨rfl, hd1⟩
    have HD4 := Lib.hid ((back2 _ _ hd1).subF (F' := c.F) (fun f hf => List.mem_cons_of_mem _ hf))
    clear hF2 hR back2 hd1 HD3
    have hws : ((d.wrs a b j).write (a + (j : Int)) ((b.drop (64 * j)).take 64)).1 = d.wrs a b (j + 1) := rfl
    rw [hws] at HD4
    clear hws hsl
    generalize ((d.wrs a b j).write (a + (j : Int)) ((b.drop (64 * j)).take 64)).2 = z at *
    have hz : (z != z) = false := by simp
    go_wp2_with fail
    go_roundg (gk - 1)
    case measure => omega
    case rel => exact ⟨j + 1, by omega, by go_num, HD4.out⟩
  · obtain rfl : j = n / 64 := by omega
    have hlt2 : ¬ ((n / 64 : Nat) : Int) < ((n / 64 : Nat) : Int) := by omega
    go_wp2_with fail
    obtain ⟨c1, hF1, hP, back1⟩ := HD.out.ofP
    refine (dk_flush_any w0 _ p _ c1 hP (by omega)).mono ?_
    rintro e w1 ⟨rfl, hd1⟩
    have HD3 := Lib.hid (back1 _ _ hd1)
    clear hF1 hP back1 hd1 HD
    go_wp2_with fail
    obtain ⟨c2, hF2, hR, back2⟩ := HD3.out.ofR
    refine (rk_flush_any w0 _ r _ c2 hR (by omega)).mono ?_
    rintro e w2 ⟨rfl, hd1⟩
    have HD4 := Lib.hid (back2 _ _ hd1)
    clear hF2 hR back2 hd1 HD3
    have hpe : d.puts a b = (d.wrs a b (n / 64)).flush.1 := by unfold Dk.puts; rw [HL.out]
    rw [← hpe] at HD4
    generalize (d.wrs a b (n / 64)).flush.2 = z at *
    have HPE := Lib.hid hpe
    clear hpe
    go_wp2
    go_ret
    exact ⟨by simp, HD4.out⟩
end Go.Proofs.YtgcfdjcpcclcjaaGreat
namespace Go.Kn
open Go Go.RowKit
/-- a device's numbers that may be -/
def CfOk (b s l : Int) : Prop := (1 ≤ b ∧ b ≤ 64) ∧ (8 ≤ s ∧ s ≤ 32) ∧ (24 ≤ l ∧ l ≤ 64)
/-- a Geom -/
structure GeoAt (w : World) (p : Nat) (b s l : Int) : Prop where
  c0 : w.cell? ⟨p, 0, none⟩ = some (.int .i64 b)
  c1 : w.cell? ⟨p, 1, none⟩ = some (.int .i64 s)
  c2 : w.cell? ⟨p, 2, none⟩ = some (.int .i64 l)
theorem GeoAt.keep0 {w w' : World} {p : Nat} {b s l : Int} (h : GeoAt w p b s l) (hO : Only [] w w') : GeoAt w' p b s l := ⟨hO.cell h.c0 (by simp), hO.cell h.c1 (by simp), hO.cell h.c2 (by simp)⟩
theorem GeoAt.lt {w : World} {p : Nat} {b s l : Int} (h : GeoAt w p b s l) : p < w.heap.size := lt_of_cell h.c0
def upI (n by_ : Int) : Int := (n + by_ - 1) / by_
def pgs (b : Int) : Int := (b + 14) / 15
def rln (s : Int) : Int := (43 + 5 * s + 63) / 64
theorem pgs_bounds {b s l : Int} (h : CfOk b s l) : 1 ≤ pgs b ∧ pgs b ≤ 5 := by unfold pgs; unfold CfOk at h; omega
theorem rln_bounds {b s l : Int} (h : CfOk b s l) : 2 ≤ rln s ∧ rln s ≤ 4 ∧ 43 + 5 * s ≤ 64 * rln s := by unfold rln; unfold CfOk at h; omega
end Go.Kn
namespace Go.Proofs.YtgcfdjcpcclcjaaGreat
open Go Go.RowKit Go.Kn
theorem geom_within_any (n lo hi : Int) (w : World) : Calls Tryz.prog 140 #[.int .i64 n, .int .i64 lo, .int .i64 hi] w fun e w' => e = .returned (.bool (decide (lo ≤ n ∧ n ≤ hi))) ∧ w = w' := by
  go_enter Tryz.func140, Tryz.ntmps140
  by_cases h1 : lo ≤ n <;> by_cases h2 : n ≤ hi <;>
  (go_wp2
   go_ret
   exact ⟨by simp [*], rfl⟩)
theorem geom_up_any (n b : Int) (w : World) (hn : 0 ≤ n ∧ n ≤ 100000) (hb : 0 < b ∧ b ≤ 1000) : Calls Tryz.prog 182 #[.int .i64 n, .int .i64 b] w fun e w' => e = .returned (.int .i64 (upI n b)) ∧ w = w' := by
  have e1 : (n + b - 1).tdiv b = upI n b := Int.tdiv_eq_ediv_of_nonneg (by omega)
  have hq : 0 ≤ upI n b ∧ upI n b ≤ 1000000 := by
    unfold upI
    exact ⟨Int.ediv_nonneg (by omega) (by omega), Int.le_trans (Int.ediv_le_self _ (by omega)) (by omega)⟩
  have hbne : ¬ (b = 0) := by omega
  go_enter Tryz.func182, Tryz.ntmps182
  go_wp2
  all_goals (first | (exfalso; omega) | skip)
  go_ret
  refine ⟨?_, rfl⟩
  rw [← e1]
  rfl
theorem ref_up_any (n b : Int) (w : World) (hn : 0 ≤ n ∧ n ≤ 100000) (hb : 0 < b ∧ b ≤ 1000) : Calls Tryz.prog 155 #[.int .i64 n, .int .i64 b] w fun e w' => e = .returned (.int .i64 (upI n b)) ∧ w = w' := by
  have e1 : (n + b - 1).tdiv b = upI n b := Int.tdiv_eq_ediv_of_nonneg (by omega)
  have hq : 0 ≤ upI n b ∧ upI n b ≤ 1000000 := by
    unfold upI
    exact ⟨Int.ediv_nonneg (by omega) (by omega), Int.le_trans (Int.ediv_le_self _ (by omega)) (by omega)⟩
  have hbne : ¬ (b = 0) := by omega
  go_enter Tryz.func155, Tryz.ntmps155
  go_wp2
  all_goals (first | (exfalso; omega) | skip)
  go_ret
  refine ⟨?_, rfl⟩
  rw [← e1]
  rfl
theorem geom_config_any (p : Nat) (b s l : Int) (w : World) (hg : GeoAt w p b s l) :
    Calls Tryz.prog 162 #[.pointer (some ⟨p, 0, none⟩)] w fun e w' => e = .returned (.agg #[.int .i64 b, .int .i64 s, .int .i64 l]) ∧ Only [] w w' := by
  have hres : Tryz.f162.results = #[.cell 2 25] := by kernel_rfl
  have HRES := Lib.hid hres
  obtain ⟨c0, c1, c2⟩ := hg
  have hlt := lt_of_cell c0
  clear hres
  go_enter Tryz.func162, Tryz.ntmps162
  go_wp2
  (try simp only [Exit.inBlock, Exit.then])
  refine bodyPost_ret (v := .agg #[.int .i64 b, .int .i64 s, .int .i64 l]) ?_ rfl ⟨rfl, ?_⟩
  · simp only [results, HRES.out]
    go_simp
  · exact (Only.refl _ _).alloc _
theorem field_cfg0 (b s l : Int) (w : World) : (Instr.field 25 (.agg #[.int .i64 b, .int .i64 s, .int .i64 l]) 0).run Tryz.prog w = .ok (.int .i64 b) w := by kernel_rfl
set_option maxRecDepth 100000 in
theorem geom_pages_any (p : Nat) (b s l : Int) (w : World) (hg : GeoAt w p b s l) (hb : CfOk b s l) :
    Calls Tryz.prog 147 #[.pointer (some ⟨p, 0, none⟩)] w fun e w' => e = .returned (.int .i64 (pgs b)) ∧ Only [] w w' := by
  have HG := Lib.hid hg
  have HB := Lib.hid hb
  have e1 : upI b 15 = pgs b := by unfold upI pgs; congr 1; omega
  have HE := Lib.hid e1
  clear hg hb e1
  have hfl := field_cfg0 b s l
  go_enter Tryz.func147, Tryz.ntmps147
  go_wp2_with fail
  refine (geom_config_any p b s l _ HG.out).mono ?_
  rintro e w1 ⟨rfl, hO1⟩
  have HO1 := Lib.hid hO1
  clear hO1
  go_wp2_with fail
  refine (geom_up_any b 15 _ (by have := HB.out; unfold CfOk at this; omega) (by decide)).mono ?_
  rintro e w2 ⟨rfl, rfl⟩
  rw [HE.out]
  go_wp2
  go_ret
  exact ⟨rfl, HO1.out⟩
theorem geom_rlen_any (p : Nat) (b s l : Int) (w : World) (hg : GeoAt w p b s l) (hb : CfOk b s l) :
    Calls Tryz.prog 146 #[.pointer (some ⟨p, 0, none⟩)] w fun e w' => e = .returned (.int .i64 (rln s)) ∧ w = w' := by
  obtain ⟨c0, c1, c2⟩ := hg
  have hlt := lt_of_cell c0
  have HB := Lib.hid hb
  have e1 : upI (43 + 5 * s) 64 = rln s := by unfold upI rln; congr 1; omega
  have HE := Lib.hid e1
  have hs : 8 ≤ s ∧ s ≤ 32 := hb.2.1
  have hw1 := IntWalk.i64_in (5 * s) (by omega)
  have hw2 := IntWalk.i64_in (43 + 5 * s) (by omega)
  clear hb e1
  go_enter Tryz.func146, Tryz.ntmps146
  go_wp2_with fail
  refine (geom_up_any (43 + 5 * s) 64 _ (by omega) (by decide)).mono ?_
  rintro e w2 ⟨rfl, rfl⟩
  rw [HE.out]
  go_wp2
  go_ret
  exact ⟨rfl, rfl⟩
theorem geom_has_any (p : Nat) (b s l x : Int) (w : World) (hg : GeoAt w p b s l) (hb : CfOk b s l) :
    Calls Tryz.prog 80 #[.pointer (some ⟨p, 0, none⟩), .int .i64 x] w fun e w' => e = .returned (.bool (decide (0 ≤ x ∧ x ≤ s - 1))) ∧ w = w' := by
  obtain ⟨c0, c1, c2⟩ := hg
  have hlt := lt_of_cell c0
  have hs : 8 ≤ s ∧ s ≤ 32 := hb.2.1
  have hw1 := IntWalk.i64_in (s - 1) (by omega)
  obtain ⟨bb, hbb⟩ : ∃ bb, decide (0 ≤ x ∧ x ≤ s - 1) = bb := ⟨_, rfl⟩
  have HBB := Lib.hid hbb
  rw [hbb]
  clear hb hbb
  go_enter Tryz.func80, Tryz.ntmps80
  go_wp2_with fail
  refine (geom_within_any x 0 (s - 1) _).mono ?_
  rintro e w2 ⟨rfl, rfl⟩
  rw [HBB.out]
  go_wp2
  go_ret
  exact ⟨rfl, rfl⟩
set_option maxRecDepth 100000 in
theorem ref_pages_any (b s l : Int) (w : World) (hb : CfOk b s l) :
    Calls Tryz.prog 101 #[.agg #[.int .i64 b, .int .i64 s, .int .i64 l]] w fun e w' => e = .returned (.int .i64 (pgs b)) ∧ Only [] w w' := by
  have e1 : upI b 15 = pgs b := by unfold upI pgs; congr 1; omega
  have HE := Lib.hid e1
  have HB := Lib.hid hb
  clear e1 hb
  go_enter Tryz.func101, Tryz.ntmps101
  go_wp2_with fail
  refine (ref_up_any b 15 _ (by have := HB.out; unfold CfOk at this; omega) (by decide)).mono ?_
  rintro e w2 ⟨rfl, rfl⟩
  rw [HE.out]
  go_wp2
  go_ret
  exact ⟨rfl, (Only.refl _ _).alloc _⟩
theorem ref_rlen_any (b s l : Int) (w : World) (hb : CfOk b s l) :
    Calls Tryz.prog 100 #[.agg #[.int .i64 b, .int .i64 s, .int .i64 l]] w fun e w' => e = .returned (.int .i64 (rln s)) ∧ Only [] w w' := by
  have e1 : upI (43 + 5 * s) 64 = rln s := by unfold upI rln; congr 1; omega
  have HE := Lib.hid e1
  have hs : 8 ≤ s ∧ s ≤ 32 := hb.2.1
  have hw1 := IntWalk.i64_in (5 * s) (by omega)
  have hw2 := IntWalk.i64_in (43 + 5 * s) (by omega)
  clear hb e1
  go_enter Tryz.func100, Tryz.ntmps100
  go_wp2_with fail
  refine (ref_up_any (43 + 5 * s) 64 _ (by omega) (by decide)).mono ?_
  rintro e w2 ⟨rfl, rfl⟩
  rw [HE.out]
  go_wp2
  go_ret
  exact ⟨rfl, (Only.refl _ _).alloc _⟩
end Go.Proofs.YtgcfdjcpcclcjaaGreat
namespace Go.Kn
open Go Go.RowKit
def headMay (i : It) : Bool := decide (0 ≤ i.k ∧ i.k ≤ 31) && decide (1 ≤ i.b ∧ i.b ≤ 2147483647) && decide (1 ≤ i.c ∧ i.c ≤ 2147483647) && decide (0 ≤ i.v ∧ i.v ≤ 4294967295)
def headRow (i : It) : List UInt8 := lay (lay zeros64 0 (les 1 [75, 72, i.k])) 3 (les 4 [i.b, i.c, i.v])
def encHead (i : It) : Option (List UInt8) := if headMay i = true then some (sealed (headRow i)) else none
def headOf (bs : List UInt8) : It := ⟨rd bs 2 1, rd bs 3 4, rd bs 7 4, rd bs 11 4⟩
def decHead (bs : List UInt8) : Option It := decBy encHead headOf bs
theorem headMay_iff {i : It} : headMay i = true ↔ (0 ≤ i.k ∧ i.k ≤ 31) ∧ (1 ≤ i.b ∧ i.b ≤ 2147483647) ∧ (1 ≤ i.c ∧ i.c ≤ 2147483647) ∧ (0 ≤ i.v ∧ i.v ≤ 4294967295) := by
  simp [headMay, and_assoc]
theorem headRow_cat (i : It) : headRow i = cat [(1, 75), (1, 72), (1, i.k), (4, i.b), (4, i.c), (4, i.v)] ++ List.replicate 49 0 := by
  unfold headRow
  rw [les_cat 1, lay_cat _ _ 3 4 _ rfl (by simp [zeros64]), lay_zero, cat_length]
  rfl
theorem headRow_length (i : It) : (headRow i).length = 64 := by
  rw [headRow_cat, List.length_append, cat_length]
  rfl
theorem encHead_len {i : It} {b : List UInt8} (h : encHead i = some b) : b.length = 64 := by
  unfold encHead at h
  split at h
  · injection h with h
    rw [← h]
    exact sealed_length _ (headRow_length i)
  · cases h
theorem encHead_closed {i : It} {b : List UInt8} (h : encHead i = some b) : Closed b 60 := by
  unfold encHead at h
  split at h
  · injection h with h
    rw [← h]
    exact sealed_closed _ (headRow_length i)
  · cases h
theorem encHead_rd {i : It} {b : List UInt8} (h : encHead i = some b) (k n : Nat) (hk : k + n ≤ 60) : rd b k n = rd (headRow i) k n := by
  unfold encHead at h
  split at h
  · injection h with h
    rw [← h]
    exact rd_sealed _ (headRow_length i) k n hk
  · cases h
theorem encHead_may {i : It} {b : List UInt8} (h : encHead i = some b) : headMay i = true := by
  unfold encHead at h
  split at h
  · assumption
  · cases h
theorem encHead_of {i : It} {b : List UInt8} (h : encHead i = some b) : headOf b = i := by
  obtain ⟨h0, h1, h2, h3⟩ := headMay_iff.1 (encHead_may h)
  have e : (256 : Int) ^ 1 = 256 := rfl
  have e4 : (256 : Int) ^ 4 = 4294967296 := rfl
  unfold headOf
  rw [encHead_rd h 2 1 (by decide), encHead_rd h 3 4 (by decide), encHead_rd h 7 4 (by decide), encHead_rd h 11 4 (by decide), headRow_cat]
  have g0 := cat_get [(1, 75), (1, 72)] 1 i.k [(4, i.b), (4, i.c), (4, i.v)] (List.replicate 49 0) (by omega)
  have g1 := cat_get [(1, 75), (1, 72), (1, i.k)] 4 i.b [(4, i.c), (4, i.v)] (List.replicate 49 0) (by omega)
  have g2 := cat_get [(1, 75), (1, 72), (1, i.k), (4, i.b)] 4 i.c [(4, i.v)] (List.replicate 49 0) (by omega)
  have g3 := cat_get [(1, 75), (1, 72), (1, i.k), (4, i.b), (4, i.c)] 4 i.v [] (List.replicate 49 0) (by omega)
  simp only [wid, List.map_cons, List.map_nil, List.sum_cons, List.sum_nil, List.cons_append, List.nil_append, Nat.reduceAdd] at g0 g1 g2 g3
  rw [g0, g1, g2, g3]
theorem head_back {i : It} (h : headMay i = true) : ∃ b, encHead i = some b ∧ b.length = 64 ∧ Closed b 60 ∧ decHead b = some i := by
  have he : encHead i = some (sealed (headRow i)) := by unfold encHead; rw [if_pos h]
  exact ⟨_, he, encHead_len he, encHead_closed he, decBy_back (encHead_of he) he⟩
end Go.Kn
namespace Go.Kn
open Go Go.RowKit
theorem headRow_ref (i : It) : lay (lay (lay zeros64 0 [75, 72]) 2 (le 1 i.k.toNat)) 3 (les 4 [i.b, i.c, i.v]) = headRow i := by
  have e : lay (lay zeros64 0 [75, 72]) 2 (le 1 i.k.toNat) = lay zeros64 0 (les 1 [75, 72, i.k]) := by
    have h := lay_lay zeros64 0 [75, 72] (le 1 i.k.toNat) (by simp [zeros64])
    simp only [List.length_cons, List.length_nil, Nat.zero_add, Nat.reduceAdd] at h
    rw [h]
    rfl
  rw [e]
  rfl
/-- what a reader of heads answers -/
def HeadSays (w : World) (o : Option It) (err : Int) (e : Ending) (w' : World) : Prop :=
  e = .returned (.tuple #[.agg (o.getD ⟨0, 0, 0, 0⟩).vals, .int .i64 (if o.isSome then 0 else err)]) ∧ Only [] w w'
end Go.Kn
namespace Go.Proofs.YtgcfdjcpcclcjaaGreat
open Go Go.RowKit Go.Kn
theorem head_within_any (n lo hi : Int) (w : World) : Calls Tryz.prog 212 #[.int .i64 n, .int .i64 lo, .int .i64 hi] w fun e w' => e = .returned (.bool (decide (lo ≤ n ∧ n ≤ hi))) ∧ w = w' := by
  go_enter Tryz.func212, Tryz.ntmps212
  by_cases h1 : lo ≤ n <;> by_cases h2 : n ≤ hi <;>
  (go_wp2
   go_ret
   exact ⟨by simp [*], rfl⟩)
set_option maxRecDepth 100000 in
set_option maxHeartbeats 1000000 in
theorem head_may_any (k b c v : Int) (w : World) :
    Calls Tryz.prog 195 #[.agg #[.int .i64 k, .int .i64 b, .int .i64 c, .int .i64 v]] w fun e w' => e = .returned (.bool (headMay ⟨k, b, c, v⟩)) ∧ Only [] w w' := by
  go_enter Tryz.func195, Tryz.ntmps195
  go_wp2_with (first | (go_at_call 212; refine (head_within_any _ _ _ _).mono ?_; rintro e w' ⟨rfl, rfl⟩))
  all_goals (go_ret; exact ⟨by simp [headMay, *], (Only.refl _ _).alloc _⟩)
set_option maxRecDepth 100000 in
set_option maxHeartbeats 1000000 in
theorem ref_head_may_any (k b c v : Int) (w : World) :
    Calls Tryz.prog 143 #[.agg #[.int .i64 k, .int .i64 b, .int .i64 c, .int .i64 v]] w fun e w' => e = .returned (.bool (headMay ⟨k, b, c, v⟩)) ∧ Only [] w w' := by
  go_enter Tryz.func143, Tryz.ntmps143
  go_wp2_with (first | (go_at_call 99; refine (within_any _ _ _ _).mono ?_; rintro e w' ⟨rfl, rfl⟩))
  all_goals (go_ret; exact ⟨by simp [headMay, *], (Only.refl _ _).alloc _⟩)
end Go.Proofs.YtgcfdjcpcclcjaaGreat
namespace Go.Proofs.YtgcfdjcpcclcjaaGreat
open Go Go.RowKit Go.Kn
set_option maxRecDepth 100000 in
set_option maxHeartbeats 4000000 in
theorem head_enc_own (f0 f1 f2 f3 : Int) (w : World) :
    Calls Tryz.prog 171 #[.agg #[.int .i64 f0, .int .i64 f1, .int .i64 f2, .int .i64 f3]] w (EncOwn w (encHead ⟨f0, f1, f2, f3⟩)) := by
  cases hm : headMay ⟨f0, f1, f2, f3⟩
  · have HM := Lib.hid hm
    clear hm
    go_enter Tryz.func171, Tryz.ntmps171
    go_wp2_with fail
    refine (head_may_any f0 f1 f2 f3 _).mono ?_
    rintro e w1 ⟨rfl, hO1⟩
    rw [HM.out]
    go_wp2
    go_ret2
    exact EncOwn.no (by unfold encHead; rw [HM.out]; rfl) (((Only.refl _ _).alloc _).trans' hO1)
  · have HM := Lib.hid hm
    have HF0 : Hid (Fit 1 [75, 72, f0]) := Lib.hid (by have := headMay_iff.1 hm; simp only [fit_cons, fit_nil, Int.reducePow, and_true] at *; omega)
    have HF1 : Hid (Fit 4 [f1, f2, f3]) := Lib.hid (by have := headMay_iff.1 hm; simp only [fit_cons, fit_nil, Int.reducePow, and_true] at *; omega)
    have HE : Hid (encHead ⟨f0, f1, f2, f3⟩ = some (sealed (headRow ⟨f0, f1, f2, f3⟩))) := Lib.hid (by unfold encHead; rw [if_pos hm])
    have HLR := Lib.hid (headRow_length ⟨f0, f1, f2, f3⟩)
    clear hm
    go_enter Tryz.func171, Tryz.ntmps171
    go_wp2_with fail
    refine (head_may_any f0 f1 f2 f3 _).mono ?_
    rintro e w1 ⟨rfl, hO1⟩
    rw [HM.out]
    have HB1 := Lib.hid ((Own.new w #[.int .i64 f0, .int .i64 f1, .int .i64 f2, .int .i64 f3] 143).keep0 hO1)
    have HO1 := Lib.hid (((Only.refl [] w).alloc (.cells #[.int .i64 f0, .int .i64 f1, .int .i64 f2, .int .i64 f3] 143)).trans' hO1)
    have HSZ : Hid (w.heap.size ≤ w.heap.size) := Lib.hid (Nat.le_refl _)
    clear hO1
    go_wp2_with fail
    generalize hbb : w.heap.size = b at HB1 HSZ ⊢
    have HBB := Lib.hid hbb
    clear hbb
    refine (new_any 64 _ (by decide) (by decide)).mono ?_
    rintro e w2 ⟨p, g, rfl, hp, hg, hr, hO⟩
    have HS : Hid (Encs w w2 p g 0 b zeros64 [.int .i64 f0, .int .i64 f1, .int .i64 f2, .int .i64 f3]) := Lib.hid (Encs.start HB1.out HO1.out hp hg hr hO)
    have hgg : b < w1.heap.size := HB1.out.lt
    clear hr hO HB1
    have x0 := HS.out.box.cell 0 (by simp)
    have x1 := HS.out.box.cell 1 (by simp)
    have x2 := HS.out.box.cell 2 (by simp)
    have x3 := HS.out.box.cell 3 (by simp)
    simp only [List.getElem_cons_zero, List.getElem_cons_succ] at x0 x1 x2 x3
    go_wp2_with fail
    have LX : zeros64.length = 64 := by first | rfl | (simp [lay_length, zeros64]) | (rw [lay_length _ _ _ (by simp [lay_length, zeros64])]; simp [lay_length, zeros64])
    refine (put_any p g 0 zeros64 1 _ 3 3 [75, 72, f0] _ (by exact HS.out.row.alloc _) (by exact ins_built _ [75, 72, f0] _ 3 rfl (by omega)) (by exact ne_built HS.out.row) (by decide) (by rw [LX]; decide) HF0.out).mono ?_
    rintro e w3 ⟨rfl, hr, hO⟩
    have HS0 : Hid (Encs w w3 p g 3 b (lay zeros64 0 (les 1 [75, 72, f0])) [.int .i64 f0, .int .i64 f1, .int .i64 f2, .int .i64 f3]) := Lib.hid ((HS.out.alloc _).put hr hO)
    clear hr hO LX HS x0 x1 x2 x3
    have HS := HS0
    clear HS0
    have x0 := HS.out.box.cell 0 (by simp)
    have x1 := HS.out.box.cell 1 (by simp)
    have x2 := HS.out.box.cell 2 (by simp)
    have x3 := HS.out.box.cell 3 (by simp)
    simp only [List.getElem_cons_zero, List.getElem_cons_succ] at x0 x1 x2 x3
    go_wp2_with fail
    have LX : (lay zeros64 0 (les 1 [75, 72, f0])).length = 64 := by first | rfl | (simp [lay_length, zeros64]) | (rw [lay_length _ _ _ (by simp [lay_length, zeros64])]; simp [lay_length, zeros64])
    refine (put_any p g 3 (lay zeros64 0 (les 1 [75, 72, f0])) 4 _ 3 3 [f1, f2, f3] _ (by exact HS.out.row.alloc _) (by exact ins_built _ [f1, f2, f3] _ 3 rfl (by omega)) (by exact ne_built HS.out.row) (by decide) (by rw [LX]; decide) HF1.out).mono ?_
    rintro e w4 ⟨rfl, hr, hO⟩
    have HS1 : Hid (Encs w w4 p g 15 b (lay (lay zeros64 0 (les 1 [75, 72, f0])) 3 (les 4 [f1, f2, f3])) [.int .i64 f0, .int .i64 f1, .int .i64 f2, .int .i64 f3]) := Lib.hid ((HS.out.alloc _).put hr hO)
    clear hr hO LX HS x0 x1 x2 x3
    have HS := HS1
    clear HS1
    go_wp2_with fail
    have HX : Hid ((lay (lay zeros64 0 (les 1 [75, 72, f0])) 3 (les 4 [f1, f2, f3])) = headRow ⟨f0, f1, f2, f3⟩) := Lib.hid rfl
    rw [HX.out] at HS
    generalize headRow ⟨f0, f1, f2, f3⟩ = X at *
    clear HX
    refine (bytes_any p g 15 X _ (by exact HS.out.row)).mono ?_
    rintro e w8 ⟨A4, c4, rfl, hc4, hm4, hpos4, hO4⟩
    obtain ⟨g4, rfl, hg4, ho4⟩ := hpos4 (by rw [HLR.out]; decide)
    rw [HLR.out] at hc4 ⊢
    have HO4 := Lib.hid (HS.out.only.trans' hO4)
    have HW4 := Lib.hid ho4
    have hgw : w.heap.size ≤ g4 := Nat.le_trans HS.out.only.size hg4
    clear hpos4 hO4 ho4 HS
    go_wp2_with fail
    refine (crc_seal_any g4 c4 X 60 _ HLR.out hc4 hm4 (by exact HW4.out)).mono ?_
    rintro e w9 ⟨rfl, ho5, hO5⟩
    have HO5 := Lib.hid (HO4.out.trans hO5 (by simpa using hgw) : Only [] w w9)
    have HW5 := Lib.hid ho5
    clear ho5 hO5
    go_wp2
    go_ret2
    have hl := sealed_length X HLR.out
    exact EncOwn.yes HE.out hl hc4 hm4 hgw HW5.out HO5.out
theorem head_enc_any (f0 f1 f2 f3 : Int) (w : World) :
    Calls Tryz.prog 171 #[.agg #[.int .i64 f0, .int .i64 f1, .int .i64 f2, .int .i64 f3]] w (EncSays w (encHead ⟨f0, f1, f2, f3⟩)) :=
  (head_enc_own f0 f1 f2 f3 w).mono fun _ _ h => h.says
end Go.Proofs.YtgcfdjcpcclcjaaGreat
namespace Go.Proofs.YtgcfdjcpcclcjaaGreat
open Go Go.RowKit Go.Kn
set_option maxRecDepth 100000 in
set_option maxHeartbeats 4000000 in
theorem head_dec_any (A : Option Addr) (n c : Nat) (bs : List UInt8) (w : World) (hi : Bys w A n c bs) (hn : n ≤ 65536) :
    Calls Tryz.prog 184 #[.slice A n c] w (HeadSays w (decHead bs) 2) := by
  have hlen := hi.len
  rw [bvs_length] at hlen
  have HI := Lib.hid hi
  have HL := Lib.hid hlen
  clear hi hlen
  have hres : Tryz.f184.results = #[.cell 2 143, .tmp 3] := by kernel_rfl
  have HRES := Lib.hid hres
  clear hres
  go_enter Tryz.func184, Tryz.ntmps184
  go_wp2_with fail
  have HF0 := Lib.hid (Own.new w #[.int .i64 0, .int .i64 0, .int .i64 0, .int .i64 0] 143)
  have HO0 := Lib.hid ((Only.refl [] w).alloc (.cells #[.int .i64 0, .int .i64 0, .int .i64 0, .int .i64 0] 143))
  have HI0 := Lib.hid (HI.out.alloc (.cells #[.int .i64 0, .int .i64 0, .int .i64 0, .int .i64 0] 143))
  have HSZ : Hid (w.heap.size ≤ w.heap.size) := Lib.hid (Nat.le_refl _)
  generalize w.alloc (.cells #[.int .i64 0, .int .i64 0, .int .i64 0, .int .i64 0] 143) = w0 at *
  generalize hf : w.heap.size = f at HF0 HSZ ⊢
  have HFF := Lib.hid hf
  clear hf
  refine (from_any A n c bs _ HI0.out hn).mono ?_
  rintro e w1 ⟨p, g, rfl, hp, hg, hr, hO⟩
  have HD := Lib.hid (Decs.start HF0.out (by rw [HFF.out]; exact Nat.le_refl _) HO0.out hp hg hr hO)
  have hfg : f < w0.heap.size := HF0.out.lt
  clear hr hO HF0
  go_wp2_with fail
  refine (take_all p g 0 bs 2 _ (by exact HD.out.row)).mono ?_
  rintro e w2 ⟨A2, c2, rfl, _, _, hr, hO⟩
  have HD1 := Lib.hid (HD.out.got hr hO)
  generalize hk : takeK bs 0 2 = k0 at *
  generalize takeOk bs 0 2 = o0 at *
  generalize takeB bs 0 2 = b0 at *
  have HK0 := Lib.hid hk
  clear hr hO hk HD
  have HD := HD1
  clear HD1
  go_wp2_with fail
  refine (get_all p g k0 bs 1 _ (by exact HD.out.row)).mono ?_
  rintro e v0 ⟨rfl, hr, hO⟩
  have hn := HD.out.got hr hO
  generalize hx : ((getN bs k0 1 : Nat) : Int) = x0 at *
  have HX0 := Lib.hid hx
  generalize hk : getK bs k0 1 = k1 at *
  have HK1 := Lib.hid hk
  generalize getOk bs k0 1 = o1 at *
  have q0 := hn.box.cell 0 (by simp)
  have z0 := hn.box.frozen 0
  simp only [List.getElem_cons_zero, List.getElem_cons_succ] at q0
  have hm := hn.put 0 (.int .i64 x0)
  simp only [List.set_cons_zero, List.set_cons_succ] at hm
  have HD1 := Lib.hid hm
  clear hr hO hx hk hn hm HD
  have HD := HD1
  clear HD1
  go_wp2_with fail
  clear q0 z0
  refine (get_all p g k1 bs 4 _ (by exact HD.out.row)).mono ?_
  rintro e v1 ⟨rfl, hr, hO⟩
  have hn := HD.out.got hr hO
  generalize hx : ((getN bs k1 4 : Nat) : Int) = x1 at *
  have HX1 := Lib.hid hx
  generalize hk : getK bs k1 4 = k2 at *
  have HK2 := Lib.hid hk
  generalize getOk bs k1 4 = o2 at *
  have q0 := hn.box.cell 1 (by simp)
  have z0 := hn.box.frozen 1
  simp only [List.getElem_cons_zero, List.getElem_cons_succ] at q0
  have hm := hn.put 1 (.int .i64 x1)
  simp only [List.set_cons_zero, List.set_cons_succ] at hm
  have HD1 := Lib.hid hm
  clear hr hO hx hk hn hm HD
  have HD := HD1
  clear HD1
  go_wp2_with fail
  clear q0 z0
  refine (get_all p g k2 bs 4 _ (by exact HD.out.row)).mono ?_
  rintro e v2 ⟨rfl, hr, hO⟩
  have hn := HD.out.got hr hO
  generalize hx : ((getN bs k2 4 : Nat) : Int) = x2 at *
  have HX2 := Lib.hid hx
  generalize hk : getK bs k2 4 = k3 at *
  have HK3 := Lib.hid hk
  generalize getOk bs k2 4 = o3 at *
  have q0 := hn.box.cell 2 (by simp)
  have z0 := hn.box.frozen 2
  simp only [List.getElem_cons_zero, List.getElem_cons_succ] at q0
  have hm := hn.put 2 (.int .i64 x2)
  simp only [List.set_cons_zero, List.set_cons_succ] at hm
  have HD1 := Lib.hid hm
  clear hr hO hx hk hn hm HD
  have HD := HD1
  clear HD1
  go_wp2_with fail
  clear q0 z0
  refine (get_all p g k3 bs 4 _ (by exact HD.out.row)).mono ?_
  rintro e v3 ⟨rfl, hr, hO⟩
  have hn := HD.out.got hr hO
  generalize hx : ((getN bs k3 4 : Nat) : Int) = x3 at *
  have HX3 := Lib.hid hx
  generalize hk : getK bs k3 4 = k4 at *
  have HK4 := Lib.hid hk
  generalize getOk bs k3 4 = o4 at *
  have q0 := hn.box.cell 3 (by simp)
  have z0 := hn.box.frozen 3
  simp only [List.getElem_cons_zero, List.getElem_cons_succ] at q0
  have hm := hn.put 3 (.int .i64 x3)
  simp only [List.set_cons_zero, List.set_cons_succ] at hm
  have HD1 := Lib.hid hm
  clear hr hO hx hk hn hm HD
  have HD := HD1
  clear HD1
  generalize hwl : v3.setCell ⟨f, 3, none⟩ (.int .i64 x3) = wl at *
  have y0 := HD.out.box.cell 0 (by simp)
  have y1 := HD.out.box.cell 1 (by simp)
  have y2 := HD.out.box.cell 2 (by simp)
  have y3 := HD.out.box.cell 3 (by simp)
  simp only [List.getElem_cons_zero, List.getElem_cons_succ] at y0 y1 y2 y3
  go_wp2_with fail
  clear hwl
  have HDS : Hid ((if encHead ⟨x0, x1, x2, x3⟩ = some bs then some ⟨x0, x1, x2, x3⟩ else none) = decHead bs) := Lib.hid (decBy_same (enc := encHead) (of := headOf) (bs := bs) (x := ⟨x0, x1, x2, x3⟩) (N := 64) (fun _ _ h => encHead_len h) (fun h => by
    have e0 := (took_at (bs := bs) (k := 0) (n := 2) (by omega)).2
    have a0 : k0 = 2 := by rw [← HK0.out]; exact e0
    have g0 := got_at (bs := bs) (k := 2) (n := 1) (by omega) (by omega)
    have a1 : k1 = 3 := by rw [← HK1.out, a0]; exact g0.2
    have d0 : x0 = rd bs 2 1 := by rw [← HX0.out, a0]; exact g0.1
    have g1 := got_at (bs := bs) (k := 3) (n := 4) (by omega) (by omega)
    have a2 : k2 = 7 := by rw [← HK2.out, a1]; exact g1.2
    have d1 : x1 = rd bs 3 4 := by rw [← HX1.out, a1]; exact g1.1
    have g2 := got_at (bs := bs) (k := 7) (n := 4) (by omega) (by omega)
    have a3 : k3 = 11 := by rw [← HK3.out, a2]; exact g2.2
    have d2 : x2 = rd bs 7 4 := by rw [← HX2.out, a2]; exact g2.1
    have g3 := got_at (bs := bs) (k := 11) (n := 4) (by omega) (by omega)
    have a4 : k4 = 15 := by rw [← HK4.out, a3]; exact g3.2
    have d3 : x3 = rd bs 11 4 := by rw [← HX3.out, a3]; exact g3.1
    unfold headOf
    rw [d0, d1, d2, d3]))
  clear q0 z0 HX0 HX1 HX2 HX3 HK0 HK1 HK2 HK3 HK4
  refine (head_enc_any x0 x1 x2 x3 _).mono ?_
  rintro e w8 ⟨A3, c3, rfl, hb3, _, hO3⟩
  have HB := Lib.hid (HI.out.keep0 (HD.out.only.trans' hO3))
  have HD3 := Lib.hid (HD.out.keep hO3)
  clear hO3 HD y0 y1 y2 y3
  have HSB : Hid (w.heap.size ≤ f) := Lib.hid HD3.out.hf
  cases hen : encHead ⟨x0, x1, x2, x3⟩ with
  | none =>
    have HNO : Hid (decHead bs = none) := Lib.hid (by rw [← HDS.out, hen]; rfl)
    rw [hen] at hb3
    clear hb3 hen HDS
    have y0 := HD3.out.box.cell 0 (by simp)
    have y1 := HD3.out.box.cell 1 (by simp)
    have y2 := HD3.out.box.cell 2 (by simp)
    have y3 := HD3.out.box.cell 3 (by simp)
    simp only [List.getElem_cons_zero, List.getElem_cons_succ] at y0 y1 y2 y3
    have z0 := HD3.out.box.frozen 0
    have z1 := HD3.out.box.frozen 1
    have z2 := HD3.out.box.frozen 2
    have z3 := HD3.out.box.frozen 3
    simp only [Option.getD_none, Option.isSome_none, List.length_nil]
    go_wp2
    (try simp only [Exit.inBlock, Exit.then])
    refine bodyPost_ret (v := .tuple #[.agg #[.int .i64 0, .int .i64 0, .int .i64 0, .int .i64 0], .int .i64 2]) ?_ rfl ?_
    · simp only [results, HRES.out]
      go_simp
    · rw [HNO.out]
      exact ⟨rfl, ((((HD3.out.only.set (.inr HSB.out) _).set (.inr HSB.out) _).set (.inr HSB.out) _).set (.inr HSB.out) _)⟩
  | some ys =>
    rw [hen] at hb3
    simp only [Option.getD_some] at hb3
    have HB3 := Lib.hid hb3
    have HEN := Lib.hid hen
    clear hb3 hen
    simp only [Option.getD_some, Option.isSome_some, if_true]
    go_wp2_with fail
    refine (bytes_equal_any A3 ys.length c3 ys A n c bs _ (by exact HB3.out) (by exact HB.out)).mono ?_
    rintro e w9 ⟨rfl, rfl⟩
    by_cases hyb : ys = bs
    · have hd : decide (ys = bs) = true := by simp [hyb]
      have HYES : Hid (decHead bs = some ⟨x0, x1, x2, x3⟩) := Lib.hid (by rw [← HDS.out, HEN.out, hyb, if_pos rfl])
      rw [hd]
      clear hd hyb HEN HDS
      have y0 := HD3.out.box.cell 0 (by simp)
      have y1 := HD3.out.box.cell 1 (by simp)
      have y2 := HD3.out.box.cell 2 (by simp)
      have y3 := HD3.out.box.cell 3 (by simp)
      simp only [List.getElem_cons_zero, List.getElem_cons_succ] at y0 y1 y2 y3
      have z0 := HD3.out.box.frozen 0
      have z1 := HD3.out.box.frozen 1
      have z2 := HD3.out.box.frozen 2
      have z3 := HD3.out.box.frozen 3
      go_wp2
      (try simp only [Exit.inBlock, Exit.then])
      refine bodyPost_ret (v := .tuple #[.agg #[.int .i64 x0, .int .i64 x1, .int .i64 x2, .int .i64 x3], .int .i64 0]) ?_ rfl ?_
      · simp only [results, HRES.out]
        go_simp
      · rw [HYES.out]
        exact ⟨rfl, ((((HD3.out.only.set (.inr HSB.out) _).set (.inr HSB.out) _).set (.inr HSB.out) _).set (.inr HSB.out) _)⟩
    · have hd : decide (ys = bs) = false := by simp [hyb]
      have HYES : Hid (decHead bs = none) := Lib.hid (by rw [← HDS.out, HEN.out, if_neg (by intro h; injection h with h; exact hyb h)])
      rw [hd]
      clear hd hyb HEN HDS
      have y0 := HD3.out.box.cell 0 (by simp)
      have y1 := HD3.out.box.cell 1 (by simp)
      have y2 := HD3.out.box.cell 2 (by simp)
      have y3 := HD3.out.box.cell 3 (by simp)
      simp only [List.getElem_cons_zero, List.getElem_cons_succ] at y0 y1 y2 y3
      have z0 := HD3.out.box.frozen 0
      have z1 := HD3.out.box.frozen 1
      have z2 := HD3.out.box.frozen 2
      have z3 := HD3.out.box.frozen 3
      go_wp2
      (try simp only [Exit.inBlock, Exit.then])
      refine bodyPost_ret (v := .tuple #[.agg #[.int .i64 0, .int .i64 0, .int .i64 0, .int .i64 0], .int .i64 2]) ?_ rfl ?_
      · simp only [results, HRES.out]
        go_simp
      · rw [HYES.out]
        exact ⟨rfl, ((((HD3.out.only.set (.inr HSB.out) _).set (.inr HSB.out) _).set (.inr HSB.out) _).set (.inr HSB.out) _)⟩
end Go.Proofs.YtgcfdjcpcclcjaaGreat
namespace Go.Kn
open Go Go.RowKit
theorem div_pow_succ (k t : Nat) : k / 2 ^ t / 2 = k / 2 ^ (t + 1) := by rw [Nat.div_div_eq_div_mul, Nat.pow_succ]
end Go.Kn
namespace Go.Proofs.YtgcfdjcpcclcjaaGreat
open Go Go.RowKit Go.Kn
set_option maxRecDepth 100000 in
set_option maxHeartbeats 4000000 in
theorem ref_more_any (s : Nat) (A : Option Addr) (n c : Nat) (bs : List UInt8) (w : World) (hs : s < 4294967296) (hi : Bys w A n c bs) :
    Calls Tryz.prog 91 #[.int .i64 s, .slice A n c] w fun e w' => e = .returned (.int .i64 ((4294967295 - cadd (4294967295 - s) bs : Nat) : Int)) ∧ Only [] w w' := by
  have hlen := hi.len
  rw [bvs_length] at hlen
  have hle := hi.le
  have hcm := hi.cm
  unfold maxLen at hcm
  have HI := Lib.hid hi
  have HL := Lib.hid hlen
  clear hi hlen
  have hwf : (Lit.int .i64 (s : Int)).wf = true := by simp [Lit.wf, IntKind.min, IntKind.max, IntKind.signed, IntKind.bits]; omega
  have hsm : (s : Int) % 4294967296 = s := by omega
  go_enter Tryz.func91, Tryz.ntmps91
  go_wp2_with fail
  refine (mod_any (s : Int) 4294967296 _ hwf (by decide) (by decide)).mono ?_
  rintro e w1 ⟨rfl, rfl⟩
  rw [hsm]
  have hnb := bits_not_u32 s hs
  have hx : 4294967295 - s < 4294967296 := by omega
  generalize hxx : 4294967295 - s = x at *
  have HXX := Lib.hid hxx
  clear hxx hwf hsm
  go_wp2_with fail
  go_loopg [5, 6] n (fun r v i wr => ∃ j : Nat, j + r = n ∧ i = .int .i64 j ∧ v = .int .u32 (cadd x (bs.take j) : Nat) ∧ Only [] w wr)
  case atStart => exact ⟨0, by omega, rfl, by simp [cadd], Only.refl _ _⟩
  obtain ⟨j, hj, rfl, rfl, hO⟩ := hrel
  have HO := Lib.hid hO
  have hlx := cadd_lt hx (bs.take j)
  clear hO
  by_cases hlt : j < n
  · have hjz : j < bs.length := by rw [HL.out]; exact hlt
    obtain ⟨a, o, rfl, hc⟩ := HI.out.at_ (by omega)
    have q0 := hc j (by simpa using hjz)
    rw [bvs_get] at q0
    have c0 := HO.out.cell q0 (by simp)
    have hsn : cadd x (bs.take (j + 1)) = cbyte (cadd x (bs.take j)) bs[j] := by rw [List.take_succ_eq_append_getElem hjz, cadd_snoc]
    have HSN := Lib.hid hsn
    clear hc q0 hsn
    generalize bs[j] = cc at *
    generalize cadd x (bs.take j) = y at *
    have hlt2 : (j : Int) < (n : Int) := by omega
    have hge : 0 ≤ (j : Int) := by omega
    have htn : ((j : Int)).toNat = j := by omega
    have hcc : cc.toNat < 256 := cc.toNat_lt
    go_wp2_with fail
    rename World => w2
    obtain ⟨gk0, hgk0⟩ : ∃ g0, g0 = gk := ⟨gk, rfl⟩
    go_loopg [5, 7, 8] 8 (fun r v d i ws => ∃ t : Nat, t + r = 8 ∧ i = .int .i64 t ∧ v = .int .u32 (cbits cc.toNat y t : Nat) ∧ d = .int .u32 (cc.toNat / 2 ^ t : Nat) ∧ ws = w2)
    case atStart => exact ⟨0, by omega, rfl, rfl, by simp, rfl⟩
    obtain ⟨t, ht, rfl, rfl, rfl, rfl⟩ := hrel
    have hlz := cbits_lt hlx cc.toNat t
    have hzz : cbits cc.toNat y (t + 1) = cstep (cbits cc.toNat y t) (cc.toNat / 2 ^ t) := rfl
    have HZ := Lib.hid hzz
    clear hzz
    by_cases ht8 : t < 8
    · have ht2 : (t : Int) < 8 := by omega
      have htg : 0 ≤ (t : Int) := by omega
      have htt : ((t : Int)).toNat = t := by omega
      have hdt : cc.toNat / 2 ^ t < 256 := Nat.lt_of_le_of_lt (Nat.div_le_self _ _) hcc
      have hcond := crc_cond (cbits cc.toNat y t) (cc.toNat / 2 ^ t) hlz hdt
      have hxp := bits_xor_u32_nat (cbits cc.toNat y t / 2) 2197175160 (by omega) (by decide)
      rw [show ((cbits cc.toNat y t / 2 : Nat) : Int) = ((cbits cc.toNat y t : Nat) : Int) / 2 from by simp, show ((2197175160 : Nat) : Int) = 2197175160 from rfl] at hxp
      have hz2 : ((cbits cc.toNat y t / 2 : Nat) : Int) = ((cbits cc.toNat y t : Nat) : Int) / 2 := by simp
      have hd2 : ((cc.toNat / 2 ^ t : Nat) : Int) / 2 = ((cc.toNat / 2 ^ (t + 1) : Nat) : Int) := by rw [← div_pow_succ]; rfl
      have HXP := Lib.hid hxp
      have HZ2 := Lib.hid hz2
      have HD2 := Lib.hid hd2
      clear hxp hz2 hd2
      generalize cc.toNat / 2 ^ t = d at *
      generalize cbits cc.toNat y t = z at *
      generalize cc.toNat = k at *
      by_cases hb : (z ^^^ d) % 2 = 1
      · rw [decide_eq_true hb] at hcond
        have HC := Lib.hid hb
        clear hb
        go_wp2_with fail
        go_roundg (gk - 1)
        case measure => omega
        case rel =>
          refine ⟨t + 1, by omega, by go_num, ?_, ?_, rfl⟩
          · rw [HXP.out, HZ.out]
            unfold cstep
            rw [if_pos HC.out]
          · rw [HD2.out]
      · rw [decide_eq_false hb] at hcond
        have HC := Lib.hid hb
        clear hb
        go_wp2_with fail
        go_roundg (gk - 1)
        case measure => omega
        case rel =>
          refine ⟨t + 1, by omega, by go_num, ?_, ?_, rfl⟩
          · rw [HZ.out]
            unfold cstep
            rw [if_neg HC.out, HZ2.out]
          · rw [HD2.out]
    · obtain rfl : t = 8 := by omega
      have HSB : Hid (cadd x (bs.take (j + 1)) = cbits cc.toNat y 8) := Lib.hid HSN.out
      generalize cbits cc.toNat y 8 = z at *
      go_wp2_with fail
      go_roundg (gk0 - 1)
      case measure => omega
      case rel => exact ⟨j + 1, by omega, by go_num, by rw [HSB.out], HO.out⟩
  · obtain rfl : j = n := by omega
    have htk : bs.take j = bs := List.take_of_length_le (by rw [HL.out]; omega)
    rw [htk] at hlx ⊢
    have hn := bits_not_u32 (cadd x bs) hlx
    have HXX' := Lib.hid (rfl : cadd x bs = cadd x bs)
    generalize hyy : cadd x bs = y at *
    have HYY := Lib.hid hyy
    have hr : 4294967295 - y < 4294967296 := by omega
    generalize hzz : 4294967295 - y = z at *
    have HZZ := Lib.hid hzz
    clear hyy hzz hnb
    go_wp2
    go_ret
    refine ⟨?_, HO.out⟩
    rw [HXX.out, HYY.out, HZZ.out]
    simp
theorem ref_sum_any (A : Option Addr) (n c : Nat) (bs : List UInt8) (w : World) (hi : Bys w A n c bs) :
    Calls Tryz.prog 92 #[.slice A n c] w fun e w' => e = .returned (.int .i64 (csum bs : Nat)) ∧ Only [] w w' := by
  go_enter Tryz.func92, Tryz.ntmps92
  go_wp2_with fail
  refine (ref_more_any 0 A n c bs _ (by decide) hi).mono ?_
  rintro e w1 ⟨rfl, hO⟩
  go_wp2
  go_ret
  exact ⟨rfl, hO⟩
end Go.Proofs.YtgcfdjcpcclcjaaGreat
namespace Go.Proofs.YtgcfdjcpcclcjaaGreat
open Go Go.RowKit Go.Kn
set_option maxRecDepth 100000 in
set_option maxHeartbeats 4000000 in
theorem ref_closed_any (p g k : Nat) (bs : List UInt8) (w : World) (h : RowAt w p g bs k) (hl : bs.length = 64) :
    Calls Tryz.prog 144 #[.pointer (some ⟨p, 0, none⟩)] w fun e w' => ∃ c, e = .returned (.slice (some ⟨g, 0, none⟩) 64 c) ∧ 64 ≤ c ∧ c ≤ maxLen ∧ Kn.Own w' g (bvs (sealed bs)) ∧ Only [p, g] w w' := by
  obtain ⟨old, c, hf0, hcl, hf1, _, _⟩ := h.facts hl (show 0 < 64 by omega)
  have hpz := h.pz 1
  have hcm : c ≤ maxLen := by
    obtain ⟨A', c', h1, _, h3, _⟩ := h.fb
    rw [h1] at hf0
    injection hf0 with hf0
    injection hf0 with _ _ hcc
    omega
  have hpl := h.place 60 (by omega)
  have HL := Lib.hid hl
  have HP := Lib.hid hpl
  have hO0 : Only [p] w (w.setCell ⟨p, 1, none⟩ (.int .i64 ((60 : Nat) : Int))) := (Only.refl _ _).set (by simp) _
  have HO0 := Lib.hid hO0
  have H := Lib.hid h
  clear hpl hl hO0 h
  go_enter Tryz.func144, Tryz.ntmps144
  go_wp2_with fail
  have e60 : ((60 : Nat) : Int) = 60 := rfl
  rw [e60] at HP HO0
  have hb : Bys (w.setCell ⟨p, 1, none⟩ (.int .i64 60)) (some ⟨g, 0, none⟩) 60 c (bs.take 60) := by
    have h1 := (HP.out.own (by have := HL.out; omega)).take 60
    rw [show (bvs bs).take 60 = bvs (bs.take 60) from by simp [bvs, List.map_take]] at h1
    exact Row1.of_Own h1 (by simp; have := HL.out; omega) (by omega) hcm
  generalize w.setCell ⟨p, 1, none⟩ (.int .i64 60) = w0 at *
  refine (ref_sum_any (some ⟨g, 0, none⟩) 60 c (bs.take 60) _ (by exact hb)).mono ?_
  rintro e w1 ⟨rfl, hO1⟩
  have HR1 := Lib.hid (HP.out.keep0 hO1)
  have HO1 := Lib.hid (HO0.out.trans' (hO1.mono (by simp)))
  have hs := csum_lt (bs.take 60)
  have hsd : sealed bs = lay bs 60 (le 4 (csum (bs.take 60))) := rfl
  have HSD := Lib.hid hsd
  clear hO1 hb HP HO0 H hf0 hf1 hpz hsd
  generalize csum (bs.take 60) = s at *
  go_wp2_with fail
  refine (ref_one_any p g 60 bs 4 (s : Int) _ (by exact HR1.out) (by decide) (by rw [HL.out]; decide) ⟨by omega, by have e : (256 : Int) ^ 4 = 4294967296 := rfl; omega⟩).mono ?_
  rintro e w2 ⟨rfl, hr2, hO2⟩
  have e3 : ((s : Nat) : Int).toNat = s := by omega
  rw [e3, ← HSD.out] at hr2
  have hl2 := sealed_length bs HL.out
  obtain ⟨A2, c2, hc2, hle2, hm2, hA2⟩ := hr2.fb
  have hA := hA2 (by omega)
  subst hA
  rw [hl2] at hc2 hle2
  have HOW := Lib.hid (hr2.own (by omega))
  have HO2 := Lib.hid (((HO1.out.mono (T := [p, g]) (by simp)).trans' hO2) : Only [p, g] w w2)
  clear hr2 hO2 hA2 hl2
  go_wp2
  go_ret
  exact ⟨c2, rfl, hle2, hm2, HOW.out, HO2.out⟩
end Go.Proofs.YtgcfdjcpcclcjaaGreat
