/- Contract of record.Decode. Printed by mkrece.py. -/
import Derived.Test.YtoibehikojkoiaaRecD
import Derived.Test.YtoibehikojkoiaaWc
set_option linter.unusedVariables false
set_option linter.unusedSimpArgs false
namespace Go.Kn
open Go Go.RowKit
def chunkB (b : List UInt8) (i : Nat) : List UInt8 := (b.drop (64 * (i + 1))).take 64
theorem rcBl_eq (b : List UInt8) (k : Nat) : rcBl b k = (List.range k).map (chunkB b) := rfl
theorem rcFit_eq (b : List UInt8) : rcFit b = (hdOk b && decide (b.length = 64 * (1 + hdB b))) := by
  unfold rcFit
  by_cases h : 16 ≤ b.length
  · obtain ⟨h1, h2, h3, _⟩ := hd_at h
    rw [h2, h3]
  · rw [decide_eq_false (by omega), decide_eq_false (by omega), Bool.and_false, Bool.and_false]
theorem rcFit_iff {b : List UInt8} : rcFit b = true ↔ (b.take 2 = [75, 82] ∧ (1 ≤ rcN b ∧ rcN b ≤ 6) ∧ rcK b ≤ rcN b) ∧ b.length = 64 * (1 + rcK b) := by
  unfold rcFit rcHd
  simp only [Bool.and_eq_true, decide_eq_true_eq]
theorem rc_its_len {b : List UInt8} (h : rcFit b = true) : ((b.drop 16).take (7 * rcN b)).length = 7 * rcN b := by
  obtain ⟨⟨_, ⟨_, _⟩, _⟩, hl⟩ := rcFit_iff.1 h
  rw [List.length_take, List.length_drop]
  omega
theorem rc_items {b : List UInt8} (h : rcFit b = true) : decItems ((b.drop 16).take (7 * rcN b)) = if (rcOf b).its.all It.may = true then some (rcOf b).its else none := by
  have hl := rc_its_len h
  obtain ⟨⟨_, ⟨_, _⟩, _⟩, _⟩ := rcFit_iff.1 h
  have e : (rcOf b).its = parse ((b.drop 16).take (7 * rcN b)) (rcN b) := rfl
  rw [e]
  unfold decItems
  rw [hl, show 7 * rcN b / 7 = rcN b from by omega]
  by_cases hm : (parse ((b.drop 16).take (7 * rcN b)) (rcN b)).all It.may = true
  · rw [if_pos ⟨by omega, by omega, hm⟩, if_pos hm]
  · rw [if_neg (fun hh => hm hh.2.2), if_neg hm]
theorem rc_no_items {b : List UInt8} (h : rcFit b = true) (hd : decItems ((b.drop 16).take (7 * rcN b)) = none) : decRc b = none := by
  cases hr : decRc b with
  | none => rfl
  | some x =>
    obtain ⟨h1, h2, _⟩ := encRc_of_dec hr
    obtain ⟨hm, _⟩ := of_enc h1
    obtain ⟨_, hal, _⟩ := rcMay_iff.1 hm
    rw [h2] at hal
    rw [rc_items h, if_pos hal] at hd
    cases hd
theorem rc_some_items {b : List UInt8} {l : List It} (h : rcFit b = true) (hd : decItems ((b.drop 16).take (7 * rcN b)) = some l) : l = (rcOf b).its := by
  rw [rc_items h] at hd
  split at hd
  · injection hd with hd; exact hd.symm
  · cases hd
theorem rc_not_fit {b : List UInt8} (h : rcFit b = false) : decRc b = none := by
  unfold decRc
  rw [h]
  rfl
theorem rc_dec_of {b : List UInt8} (h : rcFit b = true) : decRc b = (match encRc (rcOf b) with
    | some (y, s) => if y = b then some (rcOf b, s) else none
    | none => none) := by
  unfold decRc
  rw [if_pos h]
  rfl
theorem Wc.mk1 {w0 w : World} {f : Nat} {cs : List Value} (hO : Only [] w0 w) (ho : Kn.Own w f cs) (hf : w0.heap.size ≤ f) : Wc w0 w [(f, cs)] [] [] :=
  ⟨hO, by intro x hx; simp at hx; subst hx; exact ho, by intro x hx; simp at hx; subst hx; exact hf, by simp, by simp, by simp, by simp, by simp⟩
theorem Row1.three {w : World} {g o n c l m : Nat} {xs : List Value} (h : Row1 w (some ⟨g, o, none⟩) n c xs) (hl : l + m ≤ n) : Row1 w (some ⟨g, o + l, none⟩) m m ((xs.drop l).take m) := by
  have h1 := h.len
  have h2 := h.le
  have h3 := h.cm
  refine ⟨by simp; omega, Nat.le_refl _, by omega, fun hm => ⟨g, o + l, rfl, fun i hi => ?_⟩⟩
  obtain ⟨g', o', e, hc⟩ := h.at_ (by omega)
  injection e with e
  injection e with e1 e2
  subst e1 e2
  simp at hi
  rw [List.getElem_take, List.getElem_drop, Nat.add_assoc]
  exact hc (l + i) (by omega)
def rcZ : Rc := ⟨0, 0, 0, [], []⟩
/-- what a reader of records answers -/
def RcSays (w : World) (o : Option (Rc × Nat)) (err : Int) (e : Ending) (w' : World) : Prop :=
  ∃ s t : Option Addr × Nat × Nat, e = .returned (.tuple #[.agg (((o.map (·.1)).getD rcZ).cells s t), .int .i64 ((o.map (·.2)).getD 0 : Nat), .int .i64 (if o.isSome then 0 else err)]) ∧ Fc w' (fun k => k < w.heap.size) (fun W => RcAt W ((o.map (·.1)).getD rcZ) s t) ∧ Only [] w w'
theorem RcSays.no {w w' : World} {o : Option (Rc × Nat)} {err : Int} (h : o = none) (hO : Only [] w w') : RcSays w o err (.returned (.tuple #[.agg #[.int .i64 0, .int .i64 0, .int .i64 0, .slice none 0 0, .slice none 0 0], .int .i64 0, .int .i64 err])) w' := by
  subst h
  exact ⟨(none, 0, 0), (none, 0, 0), rfl, fun W _ => ⟨Its.nil W, Blks.nil W⟩, hO⟩
theorem RcAt.fc {w : World} {M : Nat → Prop} {r : Rc} {s t : Option Addr × Nat × Nat} {sl : List (Option Addr × Nat × Nat)} (h1 : Fc w M (fun W => Its W s.1 s.2.1 s.2.2 r.its)) (h2 : Fc w M (fun W => Row1 W t.1 t.2.1 t.2.2 (sl.map slv))) (h3 : Fc w M (fun W => Bls W sl r.bl)) : Fc w M (fun W => RcAt W r s t) := fun W hW =>
  ⟨h1 W hW, sl, h2 W hW, h3 W hW⟩
theorem setCell_obj {w : World} {D : Nat} {o : Obj} {p : Addr} {v : Value} (h : w.heap[D]? = some o) (ho : o.isCells = false) : (w.setCell p v).heap[D]? = some o := (KeepsOthers.setCell w p v).same D o h ho
theorem Only.putObj {w0 w : World} {D : Nat} {o : Obj} (h : Only [] w0 w) (hD : w0.heap.size ≤ D) : Only [] w0 (w.putObj D o) :=
  h.trans (T := [D]) ⟨rfl, rfl, rfl, by simp, fun k _ hk => World.putObj_heap_other (by simpa using hk)⟩ (by simpa using hD)
theorem Row1.of_owns {w : World} {base e n c : Nat} {A : Option Addr} {xs : List Value} (h : w.ownsRow base e 1 (.slice A n c) n xs) : Row1 w A n c xs ∧ (0 < n → ∀ a, A = some a → base ≤ a.block) := by
  have h1 := h.1
  rw [Nat.mul_one] at h1
  rcases h.2 with ⟨hv, h0⟩ | ⟨g, cap, cur, hv, hb, hh, hn, hm, hs, ht⟩
  · injection hv with e1 e2 e3
    subst e1 e3
    subst h0
    obtain rfl : xs = [] := List.eq_nil_of_length_eq_zero h1
    exact ⟨Row1.nil w, fun h => absurd h (by omega)⟩
  · injection hv with e1 e2 e3
    subst e1 e3
    refine ⟨Row1.of_Own ⟨cur, _, hh, by rw [h1]; simpa using ht⟩ h1 hn hm, fun _ a ha => ?_⟩
    injection ha with ha
    subst ha
    exact hb
theorem Wc.rcFc {w V : World} {L : List (Nat × List Value)} {F : List (World → Prop)} {e N n c3 c5 : Nat} {A3 A5 : Option Addr} {sl : List (Option Addr × Nat × Nat)} {its : List It} {bl : List (List UInt8)} {rm rn rp : Int} (h : Wc w V L [⟨e, 1, .slice A5 n c5, n, sl.map slv⟩] F)
    (hb : (fun W => Bls W sl bl) ∈ F) (hi : (fun W => Its W A3 N c3 its) ∈ F) (hfi : 0 < N → ∀ a, A3 = some a → w.heap.size ≤ a.block) (hfr : ∀ s ∈ sl, ∀ a, s.1 = some a → w.heap.size ≤ a.block) :
    Fc V (fun k => k < w.heap.size) (fun W => RcAt W ⟨rm, rn, rp, its, bl⟩ (A3, N, c3) (A5, n, c5)) := by
  obtain ⟨h1, h2⟩ := Row1.of_owns (h.gi 0 rfl)
  refine RcAt.fc (sl := sl) ((h.fact _ hi).fc (fun h0 a ha hm => ?_)) (h1.fc (fun h0 a ha hm => ?_)) ((h.fact _ hb).fc (fun s hs _ a ha hm => ?_))
  · have := hfi h0 a ha; omega
  · have := h2 h0 a ha; omega
  · have := hfr s hs a ha; omega
theorem Its.keepS {S : List Nat} {w w' : World} {A : Option Addr} {n c : Nat} {l : List It} (h : Its w A n c l) (hO : Only S w w') (hS : 0 < n → ∀ a, A = some a → a.block ∉ S) : Its w' A n c l :=
  ⟨h.len, h.le, h.cm, fun hn => by
    obtain ⟨g, o, e, hc⟩ := h.at_ hn
    have hg : g ∉ S := hS hn _ e
    exact ⟨g, o, e, fun i hi => ⟨hO.cell (hc i hi).1 hg, hO.cell (hc i hi).2.1 hg, hO.cell (hc i hi).2.2.1 hg, hO.cell (hc i hi).2.2.2 hg⟩⟩⟩
end Go.Kn
namespace Go.Proofs.Ytoibehikojkoiaa
open Go Go.RowKit Go.Kn Go.Shelf
attribute [local go_sem] Oper.semAt_some

set_option maxRecDepth 100000 in
set_option maxHeartbeats 16000000 in
theorem rec_dec_any (A : Option Addr) (n c : Nat) (bs : List UInt8) (w : World) (hi : Bys w A n c bs) (hn : n ≤ 60000) :
    Calls Try.prog 25 #[.slice A n c] w (RcSays w (decRc bs) 2) := by
  have hres : Try.f25.results = #[.cell 2 47, .tmp 3, .tmp 4] := by kernel_rfl
  have HRES := Lib.hid hres
  obtain ⟨i0, hi0, hz0, hz1, hz2⟩ := info_parts Try.infoBys
  have hlen := hi.len
  have hnc := hi.le
  have hcm := hi.cm
  rw [bvs_length] at hlen
  have HI := Lib.hid hi
  have HL := Lib.hid hlen
  have hfe := rcFit_eq bs
  rw [hlen] at hfe
  have HFE := Lib.hid hfe
  have hB0 := Own.new w #[.int .i64 0, .int .i64 0, .int .i64 0, .slice none 0 0, .slice none 0 0] 47
  have hO0 := (Only.refl [] w).alloc (.cells #[.int .i64 0, .int .i64 0, .int .i64 0, .slice none 0 0, .slice none 0 0] 47)
  have HI0 := Lib.hid (HI.out.alloc (.cells #[.int .i64 0, .int .i64 0, .int .i64 0, .slice none 0 0, .slice none 0 0] 47))
  have hfl := hB0.lt
  have hK := getN_lt bs (hdK3 bs)
  clear hi hlen hfe hres
  refine (callsIn_wide (n := 4)).1 (callsIn_of_wp_marks Try.func25 rfl trivial ?_ rfl)
  simp only [Try.ntmps25, List.size_toArray, List.length_cons, List.length_nil, Nat.reduceAdd, Nat.reduceSub, Array.replicate_succ, Array.replicate_zero, List.push_toArray, List.append_toArray, List.nil_append, List.cons_append]
  refine wpIn_wide.2 ?_
  go_wp2_with fail
  generalize hfe : w.heap.size = f at *
  have HFE2 := Lib.hid hfe
  have hfw : w.heap.size ≤ f := by omega
  clear hfe
  generalize w.alloc (.cells #[.int .i64 0, .int .i64 0, .int .i64 0, .slice none 0 0, .slice none 0 0] 47) = w0 at *
  refine (from_any A n c bs _ (by exact HI0.out) (by omega)).mono ?_
  rintro en w1 ⟨p, g, rfl, hp, hg, hr1, hO1⟩
  have HS1 : Hid (Decs w w1 p g 0 f bs [.int .i64 0, .int .i64 0, .int .i64 0, .slice none 0 0, .slice none 0 0]) := Lib.hid (Decs.start hB0 hfw hO0 hp hg hr1 hO1)
  clear hr1 hO1 hB0 hO0 HI0 hp hg
  go_wp2_with fail
  refine (rec_heading_any p g bs _ HS1.out.row).mono ?_
  rintro en w2 ⟨rfl, hr2, hO2⟩
  have HS2 := Lib.hid (HS1.out.got hr2 hO2)
  clear hr2 hO2 HS1
  have hK2 : hdB bs ≤ 255 := hK
  obtain ⟨Nv, hN'⟩ : ∃ x, x = hdN bs := ⟨_, rfl⟩
  obtain ⟨kb, hkb⟩ : ∃ x, x = hdB bs := ⟨_, rfl⟩
  rw [← hN', ← hkb]
  rw [← hkb] at hK2
  have HNN := Lib.hid hN'
  have HKB := Lib.hid hkb
  obtain ⟨q, hq⟩ : ∃ q, hdOk bs = q := ⟨_, rfl⟩
  have HQ := Lib.hid hq
  rw [hq]
  clear hq hK hN' hkb
  have hw1 : IntKind.i64.wrap (1 + (kb : Int)) = 1 + (kb : Int) := IntWalk.i64_in _ (by omega)
  have hw2 : IntKind.i64.wrap (64 * (1 + (kb : Int))) = 64 * (1 + (kb : Int)) := IntWalk.i64_in _ (by omega)
  unfold maxLen at hcm
  have hx0 := HS2.out.box.cell 0 (by simp)
  have hx1 := HS2.out.box.cell 1 (by simp)
  have hx2 := HS2.out.box.cell 2 (by simp)
  have hx3 := HS2.out.box.cell 3 (by simp)
  have hx4 := HS2.out.box.cell 4 (by simp)
  simp only [List.getElem_cons_zero, List.getElem_cons_succ] at hx0 hx1 hx2 hx3 hx4
  have hz0' := HS2.out.box.frozen 0
  have hz1' := HS2.out.box.frozen 1
  have hz2' := HS2.out.box.frozen 2
  have hz3' := HS2.out.box.frozen 3
  have hz4' := HS2.out.box.frozen 4
  have hfw2 := HS2.out.box.lt
  by_cases hfit : ¬ (q = true ∧ n = 64 * (1 + kb))
  · have hno : decRc bs = none := rc_not_fit (by
      rw [HFE.out, HQ.out, ← HKB.out]
      cases q with
      | false => rfl
      | true => simpa using hfit)
    have HNO := Lib.hid hno
    clear hno
    cases q
    · clear hfit
      go_wp2
      (try simp only [Exit.inBlock, Exit.then])
      refine marks_ret (v := (.tuple #[.agg #[.int .i64 0, .int .i64 0, .int .i64 0, .slice none 0 0, .slice none 0 0], .int .i64 0, .int .i64 2])) ?_ rfl (RcSays.no HNO.out ?_)
      · simp only [results, HRES.out]
        go_simp
      · (repeat' first | (with_reducible refine Only.set ?_ (.inr hfw) _) | (with_reducible exact HS2.out.only))
    · have hd : ((n : Int) != 64 * (1 + (kb : Int))) = true := by simp at hfit ⊢; omega
      clear hfit
      go_wp2
      (try simp only [Exit.inBlock, Exit.then])
      refine marks_ret (v := (.tuple #[.agg #[.int .i64 0, .int .i64 0, .int .i64 0, .slice none 0 0, .slice none 0 0], .int .i64 0, .int .i64 2])) ?_ rfl (RcSays.no HNO.out ?_)
      · simp only [results, HRES.out]
        go_simp
      · (repeat' first | (with_reducible refine Only.set ?_ (.inr hfw) _) | (with_reducible exact HS2.out.only))
  · have hfit := Classical.not_not.1 hfit
    obtain ⟨rfl, hnk⟩ := hfit
    have hd : ((n : Int) != 64 * (1 + (kb : Int))) = false := by simp; omega
    have hft : rcFit bs = true := by rw [HFE.out, HQ.out, ← HKB.out, decide_eq_true hnk]; rfl
    have HFT := Lib.hid hft
    obtain ⟨⟨-, ⟨h1N, hN6⟩, hKN⟩, -⟩ := rcFit_iff.1 hft
    have hl64 : 64 ≤ bs.length := by rw [HL.out]; omega
    obtain ⟨a1, a2, -, a4⟩ := hd_at (b := bs) (by omega)
    have HNR : Hid (Nv = rcN bs) := Lib.hid (by rw [HNN.out, a1])
    have HKR : Hid (kb = rcK bs) := Lib.hid (by rw [HKB.out, a2])
    rw [← HNR.out] at h1N hN6 hKN
    rw [← HKR.out] at hKN
    have HS3 : Hid (Decs w w2 p g 16 f bs [.int .i64 0, .int .i64 0, .int .i64 0, .slice none 0 0, .slice none 0 0]) := Lib.hid (by rw [← a4]; exact HS2.out)
    have HNK := Lib.hid hnk
    have hnb : 64 ≤ n := by omega
    have hn7 : n ≤ 448 := by omega
    have hw3 : IntKind.i64.wrap (7 * (Nv : Int)) = 7 * (Nv : Int) := IntWalk.i64_in _ (by omega)
    clear hft a1 a2 a4 HS2 hnk hl64 HFE HQ
    go_wp2_with fail
    rw [show (7 : Int) * (Nv : Int) = ((7 * Nv : Nat) : Int) from by omega]
    refine (take_any p g 16 bs (7 * Nv) _ HS3.out.row (by rw [HL.out]; omega)).mono ?_
    rintro en w3 ⟨A3, c3, rfl, hc3, hm3, hpos3, hr3, hO3⟩
    obtain ⟨g3, rfl, hg3, ho3⟩ := hpos3 (by omega)
    have HB3 : Hid (Bys w3 (some ⟨g3, 0, none⟩) (7 * Nv) c3 ((bs.drop 16).take (7 * Nv))) := Lib.hid (Row1.of_Own ho3 (by rw [bvs_length, HNR.out]; exact rc_its_len HFT.out) hc3 hm3)
    have HS4 := Lib.hid (HS3.out.got hr3 hO3)
    clear hw1 hw2 hw3 hd hpos3 hr3 hO3 ho3 HS3 hx0 hx1 hx2 hx3 hx4 hz0' hz1' hz2' hz3' hz4' hfw2
    obtain ⟨L7, hL7⟩ : ∃ x, x = 7 * Nv := ⟨_, rfl⟩
    rw [← hL7] at HB3 hc3 ⊢
    have hL42 : L7 ≤ 42 := by omega
    have HL7 := Lib.hid hL7
    clear hL7
    go_wp2_with fail
    refine (item_dec_any (some ⟨g3, 0, none⟩) L7 c3 _ _ (by exact HB3.out) (by omega)).mono ?_
    rintro en w4 ⟨A4, c4, rfl, hits, hfr, hO4⟩
    have HS5 := Lib.hid (HS4.out.keep hO4)
    have hw3s := HS4.out.only.size
    have hf3 := HS4.out.box.lt
    have hx0 := HS5.out.box.cell 0 (by simp)
    have hx1 := HS5.out.box.cell 1 (by simp)
    have hx2 := HS5.out.box.cell 2 (by simp)
    have hx3 := HS5.out.box.cell 3 (by simp)
    have hx4 := HS5.out.box.cell 4 (by simp)
    simp only [List.getElem_cons_zero, List.getElem_cons_succ] at hx0 hx1 hx2 hx3 hx4
    have hz0' := HS5.out.box.frozen 0
    have hz1' := HS5.out.box.frozen 1
    have hz2' := HS5.out.box.frozen 2
    have hz3' := HS5.out.box.frozen 3
    have hz4' := HS5.out.box.frozen 4
    have hfw2 := HS5.out.box.lt
    clear hO4 HS4 HB3
    rw [HL7.out, HNR.out] at hits hfr ⊢
    cases hdi : decItems ((bs.drop 16).take (7 * rcN bs)) with
    | none =>
      have hno : decRc bs = none := rc_no_items HFT.out hdi
      have HNO := Lib.hid hno
      simp only [Option.getD_none, Option.isSome_none, List.length_nil, Bool.false_eq_true, if_false]
      clear hits hfr hno
      go_wp2
      (try simp only [Exit.inBlock, Exit.then])
      refine marks_ret (v := (.tuple #[.agg #[.int .i64 0, .int .i64 0, .int .i64 0, .slice none 0 0, .slice none 0 0], .int .i64 0, .int .i64 2])) ?_ rfl (RcSays.no HNO.out ?_)
      · simp only [results, HRES.out]
        go_simp
      · (repeat' first | (with_reducible refine Only.set ?_ (.inr hfw) _) | (with_reducible exact HS5.out.only))
    | some its =>
      have hie := rc_some_items HFT.out hdi
      have hil : its.length = Nv := by rw [hie, HNR.out]; exact parse_length _ _
      rw [hdi] at hits hfr
      simp only [Option.getD_some] at hits hfr
      rw [hil] at hits hfr
      simp only [Option.getD_some, Option.isSome_some, if_true]
      rw [hil]
      have HIE := Lib.hid hie
      have HFR : Hid (0 < Nv → ∀ a, A4 = some a → a.block ≠ f ∧ w.heap.size ≤ a.block) := Lib.hid (fun h0 a ha => by have := hfr h0 a ha; omega)
      have HIT5 := Lib.hid (hits.keepS ((Only.refl [f] w4).set (p := ⟨f, 3, none⟩) (by simp) (.slice A4 Nv c4)) (fun h0 a ha => by simpa using (HFR.out h0 a ha).1))
      have hp5 := HS5.out.put 3 (.slice A4 Nv c4)
      simp only [List.set_cons_zero, List.set_cons_succ] at hp5
      have HP5 := Lib.hid hp5
      clear hdi hie hil hits hfr hp5
      go_wp2_with fail
      generalize hw5 : w4.setCell ⟨f, 3, none⟩ (.slice A4 Nv c4) = w5 at *
      clear hw5 HS5
      clear hx0 hx1 hx2 hx3 hx4 hz0' hz1' hz2' hz3' hz4' hfw2
      refine (from_any A n c bs _ (by exact HI.out.keep0 HP5.out.only) (by omega)).mono ?_
      rintro en w6 ⟨p2, g2, rfl, hp, hg, hr, hO⟩
      have HNA : Hid (0 < Nv → ∀ a, A4 = some a → a.block ≠ p2) := Lib.hid (fun h0 a ha => by have := HIT5.out.block_lt h0 a ha; omega)
      have HIT := Lib.hid (HIT5.out.keep0 hO)
      have HS : Hid (Decs w w6 p2 g2 0 f bs [.int .i64 0, .int .i64 0, .int .i64 0, .slice A4 Nv c4, .slice none 0 0]) := Lib.hid (Decs.start HP5.out.box hfw HP5.out.only hp hg hr hO)
      clear hp hg hr hO HP5 HIT5
      have HRM : Hid (((num ((bs.drop 2).take 4) : Nat) : Int) = rd bs 2 4) := Lib.hid rfl
      have HRN : Hid (((num ((bs.drop 6).take 4) : Nat) : Int) = rd bs 6 4) := Lib.hid rfl
      have HRP : Hid (((num ((bs.drop 10).take 4) : Nat) : Int) = rd bs 10 4) := Lib.hid rfl
      have HRO : Hid (rcOf bs = ⟨rd bs 2 4, rd bs 6 4, rd bs 10 4, its, rcBl bs kb⟩) := Lib.hid (by rw [HIE.out, HKR.out]; rfl)
      generalize rd bs 2 4 = rm at *
      generalize rd bs 6 4 = rn at *
      generalize rd bs 10 4 = rp at *
      go_wp2_with fail
      refine (take_any p2 g2 0 bs 2 _ HS.out.row (by rw [HL.out]; omega)).mono ?_
      rintro en w7 ⟨A7, c7, rfl, -, -, -, hr, hO⟩
      have HSn := Lib.hid (HS.out.got hr hO)
      have HITn := Lib.hid (HIT.out.keepS hO (fun h0 a ha => by simpa using HNA.out h0 a ha))
      clear hr hO HS HIT
      have HS := HSn
      have HIT := HITn
      clear HSn HITn
      go_wp2_with fail
      refine (get_any p2 g2 2 bs 4 _ HS.out.row (by decide) (by rw [HL.out]; omega)).mono ?_
      rintro en w8 ⟨rfl, hr, hO⟩
      rw [HRM.out]
      have HSg := Lib.hid (HS.out.got hr hO)
      have HITg := Lib.hid (HIT.out.keepS hO (fun h0 a ha => by simpa using HNA.out h0 a ha))
      clear hr hO HS HIT
      have hq0 := HSg.out.box.cell 0 (by simp)
      simp only [List.getElem_cons_zero, List.getElem_cons_succ] at hq0
      have hq1 := HSg.out.box.frozen 0
      have hq2 := HSg.out.box.lt
      have hp5 := HSg.out.put 0 (.int .i64 rm)
      simp only [List.set_cons_zero, List.set_cons_succ] at hp5
      have HS := Lib.hid hp5
      have HIT := Lib.hid (HITg.out.keepS ((Only.refl [f] w8).set (p := ⟨f, 0, none⟩) (by simp) (.int .i64 rm)) (fun h0 a ha => by simpa using (HFR.out h0 a ha).1))
      clear hp5 HSg HITg
      go_upto_region 12 with fail
      generalize hw5 : World.setCell w8 ⟨f, 0, none⟩ (.int .i64 rm) = w9 at *
      clear hw5 hq0 hq1 hq2
      go_wp2_with fail
      refine (get_any p2 g2 6 bs 4 _ HS.out.row (by decide) (by rw [HL.out]; omega)).mono ?_
      rintro en w10 ⟨rfl, hr, hO⟩
      rw [HRN.out]
      have HSg := Lib.hid (HS.out.got hr hO)
      have HITg := Lib.hid (HIT.out.keepS hO (fun h0 a ha => by simpa using HNA.out h0 a ha))
      clear hr hO HS HIT
      have hq0 := HSg.out.box.cell 1 (by simp)
      simp only [List.getElem_cons_zero, List.getElem_cons_succ] at hq0
      have hq1 := HSg.out.box.frozen 1
      have hq2 := HSg.out.box.lt
      have hp5 := HSg.out.put 1 (.int .i64 rn)
      simp only [List.set_cons_zero, List.set_cons_succ] at hp5
      have HS := Lib.hid hp5
      have HIT := Lib.hid (HITg.out.keepS ((Only.refl [f] w10).set (p := ⟨f, 1, none⟩) (by simp) (.int .i64 rn)) (fun h0 a ha => by simpa using (HFR.out h0 a ha).1))
      clear hp5 HSg HITg
      go_upto_region 13 with fail
      generalize hw5 : World.setCell w10 ⟨f, 1, none⟩ (.int .i64 rn) = w11 at *
      clear hw5 hq0 hq1 hq2
      go_wp2_with fail
      refine (get_any p2 g2 10 bs 4 _ HS.out.row (by decide) (by rw [HL.out]; omega)).mono ?_
      rintro en w12 ⟨rfl, hr, hO⟩
      rw [HRP.out]
      have HSg := Lib.hid (HS.out.got hr hO)
      have HITg := Lib.hid (HIT.out.keepS hO (fun h0 a ha => by simpa using HNA.out h0 a ha))
      clear hr hO HS HIT
      have hq0 := HSg.out.box.cell 2 (by simp)
      simp only [List.getElem_cons_zero, List.getElem_cons_succ] at hq0
      have hq1 := HSg.out.box.frozen 2
      have hq2 := HSg.out.box.lt
      have hp5 := HSg.out.put 2 (.int .i64 rp)
      simp only [List.set_cons_zero, List.set_cons_succ] at hp5
      have HS := Lib.hid hp5
      have HIT := Lib.hid (HITg.out.keepS ((Only.refl [f] w12).set (p := ⟨f, 2, none⟩) (by simp) (.int .i64 rp)) (fun h0 a ha => by simpa using (HFR.out h0 a ha).1))
      clear hp5 HSg HITg
      go_upto_region 14 with fail
      generalize hw5 : World.setCell w12 ⟨f, 2, none⟩ (.int .i64 rp) = w13 at *
      clear hw5 hq0 hq1 hq2
      have hs64 : ∀ w, (Instr.slice 35 (.slice A n c) (some (.int .i64 64)) none none).run Try.prog w = .ok (.slice (cutA A c 64) (64 * kb) (c - 64)) w := fun w => run_slice1_lo (P := Try.prog) w 35 5 Try.underlying35 (by kernel_rfl) A n c 64 64 (64 * kb) .i64 rfl (by omega) (by omega)
      go_wp2_with fail
      refine (chunk_any (cutA A c 64) (64 * kb) (c - 64) _).mono ?_
      rintro en wx ⟨rfl, rfl⟩
      have hw1 := ((Wc.mk1 HS.out.only HS.out.box HS.out.hf).gnew 35 1)
      have hw2 := (hw1.addF (fun W => Its W A4 Nv c4 its) (HIT.out.fc (fun h0 a ha hm => by
        have := HFR.out h0 a ha
        simp [Mut, Value.ownBlock] at hm
        omega))).old (f := fun W => Bys W A n c bs) (Row1.fc HI.out (fun _ _ _ h => h))
      have hw3 := (hw2.newB #[.slice (cutA A c 64) (64 * kb) (c - 64)] 35 rfl).newB #[.int .i64 64] 3 (b := w13.heap.size + 1) (by simp)
      have hbl := HS.out.box.lt
      have hHD : Hid (w.heap.size ≤ w13.heap.size) := Lib.hid HS.out.only.size
      clear hw1 hw2 HS HIT hs64
      generalize hwL : (w13.alloc (.cells #[.slice (cutA A c 64) (64 * kb) (c - 64)] 35)).alloc (.cells #[.int .i64 64] 3) = wL at *
      have hsz : wL.heap.size = w13.heap.size + 2 := by rw [← hwL]; simp
      generalize w13.heap.size + 1 = b2 at *
      generalize w13.heap.size = b1 at *
      have HWL := Lib.hid hw3
      have HSZ := Lib.hid hsz
      clear hw3 hwL hsz
      obtain ⟨ga, oa, rfl, -⟩ := HI.out.at_ (by omega)
      obtain ⟨A1, hA1⟩ : ∃ x, cutA (some (⟨ga, oa, none⟩ : Addr)) c 64 = x := ⟨_, rfl⟩
      have hA2 : 0 < kb → A1 = some ⟨ga, oa + 64, none⟩ := fun h0 => by
        have := HNK.out
        rw [← hA1, cutA, if_neg (by omega)]
        simp only [Option.map_some, Addr.add]
        split <;> simp_all
      rw [hA1] at HWL ⊢
      clear hA1
      have HA2 := Lib.hid hA2
      clear hA2
      go_wp2_with fail
      refine (wpIn_wide (n := 4)).1 ?_
      refine wpIn_rangeFunc_ownG (F := Fence.wide) (n := 4) rfl (by decide) (gf := 141) (lb := #[.pointer (some ⟨b1, 0, none⟩), .pointer (some ⟨b2, 0, none⟩)]) rfl trivial (enters_of Try.func141 (by kernel_rfl) rfl)
        (chunk_stops 3 (by decide) b1 b2 ga (oa + 64) (c - 64) kb A1 HA2.out wL ((HWL.out.boxi 1 rfl).cell 0 (by simp)) ((HWL.out.boxi 0 rfl).cell 0 (by simp)) (by omega) (by omega) (by unfold maxLen; omega))
        (fun h k => h.trans k) (kpAt_b (by have := HSZ.out; intro k hk; have h1 := (HWL.out.boxi 1 rfl).lt; have h2 := (HWL.out.boxi 0 rfl).lt; simp at hk; rcases hk with rfl | rfl <;> assumption)) (Below.refl _ _) (fun _ => rfl)
        (fun (pre : List (Fin kb)) W => ∃ (A5 : Option Addr) (c5 : Nat) (sl : List (Option Addr × Nat × Nat)), Wc w W [(b2, [.int .i64 64]), (b1, [.slice A1 (64 * kb) (c - 64)]), (f, [.int .i64 rm, .int .i64 rn, .int .i64 rp, .slice A4 Nv c4, .slice A5 pre.length c5])] [⟨35, 1, .slice A5 pre.length c5, pre.length, sl.map slv⟩] [(fun W => Bls W sl (pre.map fun (x : Fin kb) => chunkB bs x.val)), (fun W => Bys W (some ⟨ga, oa, none⟩) n c bs), (fun W => Its W A4 Nv c4 its)] ∧ (∀ s ∈ sl, ∀ a, s.1 = some a → w.heap.size ≤ a.block))
        (fun _ _ _ => False)
        (fun s W W' row ⟨A5, c5, sl, h, hp⟩ hg hr => ⟨A5, c5, sl, h.grown HWL.out.only.size hg hr, hp⟩)
        (fun _ _ _ _ _ hs _ _ => hs)
        ⟨none, 0, [], HWL.out.addF (fun W => Bls W [] []) (fun W _ => Bls.nil W), by simp⟩
        (a₁ := ?a1) ?assign ?body ?done ?stop
      case assign =>
        intro l x W K hK
        gi_wp2
        exact hK
      case stop =>
        rintro D c pre W _ _ h _
        exact h.elim
      case body =>
        rintro l pre x W ⟨A5, c5, sl, hw, hfr⟩ hlen
        have HCH : Hid (∀ V, Bys V (some ⟨ga, oa, none⟩) n c bs → Bys V (some ⟨ga, oa + 64 + 64 * x.val, none⟩) 64 64 (chunkB bs x.val)) := Lib.hid (fun V h => by
          have hx := x.isLt
          have h3 := Row1.three h (l := 64 + 64 * x.val) (m := 64) (by have := HNK.out; omega)
          rw [bvs_cut, ← Nat.add_assoc] at h3
          unfold chunkB
          rw [show 64 * (x.val + 1) = 64 + 64 * x.val from by omega]
          exact h3)
        have HCL : Hid ((chunkB bs x.val).length = 64) := Lib.hid (by
          have hx := x.isLt
          have := HNK.out
          have := HL.out
          unfold chunkB
          rw [List.length_take, List.length_drop]
          omega)
        have HFRR := Lib.hid hfr
        have HMP : Hid ((pre ++ [x]).map (fun (x : Fin kb) => chunkB bs x.val) = pre.map (fun (x : Fin kb) => chunkB bs x.val) ++ [chunkB bs x.val]) := Lib.hid (by simp)
        have HPL : Hid ((pre ++ [x]).length = pre.length + 1) := Lib.hid (by simp)
        have HWs := Lib.hid hw
        have HIS : Hid (∀ k ∈ f :: (Value.slice A5 pre.length c5).ownBlock.toList, (∀ ob, W.heap[k]? = some ob → ob.isCells = true) ∧ k ≠ b1 ∧ k ≠ b2) := Lib.hid (fun k hk => by
          have hnd := hw.nd
          simp at hnd
          rcases List.mem_cons.1 hk with rfl | hk
          · exact ⟨(hw.boxi 2 rfl).isCells, fun e => hnd.2 e.symm, fun e => hnd.1.2 e.symm⟩
          · have hk2 : (Value.slice A5 pre.length c5).ownBlock = some k := by simpa using hk
            exact ⟨ownsRow_isCells (hw.gi 0 rfl) k hk2, fun e => hw.g3 (b1, [.slice A1 (64 * kb) (c - 64)]) (by simp) _ (List.mem_singleton.2 rfl) (by rw [← e]; exact hk2), fun e => hw.g3 (b2, [.int .i64 64]) (by simp) _ (List.mem_singleton.2 rfl) (by rw [← e]; exact hk2)⟩)
        obtain ⟨S0, hS0⟩ : ∃ S, S = f :: (Value.slice A5 pre.length c5).ownBlock.toList := ⟨_, rfl⟩
        rw [← hS0] at HIS
        have HSf : Hid (f ∈ S0) := Lib.hid (by rw [hS0]; simp)
        have HSo : Hid (∀ k, (Value.slice A5 pre.length c5).ownBlock = some k → k ∈ S0) := Lib.hid (fun k hk => by rw [hS0, hk]; simp)
        have HDs := Lib.hid hw.drew
        have HOs : Hid (Only S0 W W.drew) := Lib.hid (Only.refl _ _).drew
        obtain ⟨jj, hjj⟩ : ∃ j, j = pre.length := ⟨_, rfl⟩
        rw [← hjj] at HDs HSo HPL hlen
        have HJJ := Lib.hid hjj
        clear hw hfr hS0 hjj
        have hjk : jj ≤ 1000 := by omega
        refine wpIn_block ?_
        refine wpIn_region_held_drew (S := fun w' => w'.cell? ⟨f, 0, none⟩ = some (.int .i64 rm)) not_letsOut_ownPostG (plainOps_spec (by kernel_rfl)) (by kernel_rfl) ((HDs.out.boxi 2 rfl).cell 0 (by simp)) (fun hSw0 => ?_)
        generalize W.drew = ws at *
        refine wpAnyH_take (i := 0) (oi := ⟨some 74, _, _, _, _, _⟩) (v := ?_) rfl (by kernel_rfl) (by kernel_rfl) (by kernel_rfl) (fun _ _ _ h => h) (Or.inl ⟨by rfl, ?_⟩) (by assumption) ?_
        rotate_left
        · intro w hSw
          (try dsimp only at hSw)
          go_simp
          all_goals (try with_reducible rfl)
        (try simp only [Act.put, List.setIfInBounds_toArray, List.set_cons_zero, List.set_cons_succ])
        refine wpAnyH_take (i := 2) (oi := ⟨some 76, _, _, _, _, _⟩) (v := ?_) rfl (by kernel_rfl) (by kernel_rfl) (by kernel_rfl) (fun _ _ _ h => h) (Or.inl ⟨by rfl, ?_⟩) (by assumption) ?_
        rotate_left
        · intro w hSw
          (try dsimp only at hSw)
          go_simp
          all_goals (try with_reducible rfl)
        (try simp only [Act.put, List.setIfInBounds_toArray, List.set_cons_zero, List.set_cons_succ])
        refine wpAnyH_ready (rs := [1, 3]) (by kernel_rfl) (by simp) ?_
        refine AllReadyH.cons (o := ⟨some 75, _, _, _, _, _⟩) rfl (fun K hK => ?_) ?_
        · have yq := (HDs.out.boxi 2 rfl).cell 4 (by simp)
          simp only [List.getElem_cons_zero, List.getElem_cons_succ] at yq
          have lq := (HDs.out.boxi 2 rfl).lt
          go_simp
          clear yq lq
          refine hK.out _ _ ((HDs.out.boxi 2 rfl).cell 0 (by simp)) (fun hSn => ?_)
          clear hK K hSw0
          have hSw0 := hSn
          clear hSn
          (try simp only [Act.put, List.setIfInBounds_toArray, List.set_cons_zero, List.set_cons_succ])
          refine wpAnyH_ready (rs := [3]) (by kernel_rfl) (by simp) ?_
          refine AllReadyH.cons (o := ⟨some 77, _, _, _, _, _⟩) rfl (fun K hK => ?_) AllReadyH.nil
          go_simp
          refine (clone_any _ 64 64 (chunkB bs x.val) _ (HCH.out _ (HDs.out.fi 1 rfl)) (by decide)).mono ?_
          rintro en va ⟨A7, c7, rfl, hc7, hm7, hpos7, hO⟩
          rw [HCL.out] at hc7 hpos7 ⊢
          obtain ⟨g7, rfl, hg7, ho7⟩ := hpos7 (by decide)
          have hbw := HDs.out.only.size
          have HDa := Lib.hid (HDs.out.addFc hO (f := fun V => Bys V (some ⟨g7, 0, none⟩) 64 c7 (chunkB bs x.val)) (Row1.fc (Row1.of_Own ho7 (by rw [bvs_length, HCL.out]) hc7 hm7) (fun _ a ha => by injection ha with ha; subst ha; simp; omega)))
          have HOa := Lib.hid (HOs.out.trans' (hO.mono (by simp)))
          have hgw : w.heap.size ≤ g7 := by omega
          clear hpos7 hO ho7 hg7 hbw
          refine hK.out _ _ ((HDa.out.boxi 2 rfl).cell 0 (by simp)) (fun hSn => ?_)
          clear hK K hSw0
          have hSw0 := hSn
          clear hSn
          (try simp only [Act.put, List.setIfInBounds_toArray, List.set_cons_zero, List.set_cons_succ])
          refine wpAnyH_ready (rs := [4]) (by kernel_rfl) (by simp) ?_
          refine AllReadyH.cons (o := ⟨some 78, _, _, _, _, _⟩) rfl (fun K hK => ?_) AllReadyH.nil
          go_simp
          have HDb := Lib.hid (HDa.out.alloc (.cells #[.slice (some ⟨g7, 0, none⟩) 64 c7] 35))
          have HOb := Lib.hid (HOa.out.alloc (.cells #[.slice (some ⟨g7, 0, none⟩) 64 c7] 35))
          have hnr : Row1 (va.alloc (.cells #[.slice (some ⟨g7, 0, none⟩) 64 c7] 35)) (some ⟨va.heap.size, 0, none⟩) 1 1 ([(some ⟨g7, 0, none⟩, 64, c7)].map slv) := Row1.of_Own (Own.new va #[.slice (some ⟨g7, 0, none⟩) 64 c7] 35) rfl (Nat.le_refl _) (by simp [maxLen])
          have HNR2 := Lib.hid hnr
          clear hnr
          have hbw := HDb.out.only.size
          generalize hvz : va.heap.size = vz at *
          generalize hvb : va.alloc (.cells #[.slice (some ⟨g7, 0, none⟩) 64 c7] 35) = vb at *
          clear hvb hvz
          refine hK.out _ _ ((HDb.out.boxi 2 rfl).cell 0 (by simp)) (fun hSn => ?_)
          clear hK K hSw0
          have hSw0 := hSn
          clear hSn
          (try simp only [Act.put, List.setIfInBounds_toArray, List.set_cons_zero, List.set_cons_succ])
          refine wpAnyH_ready (rs := [5]) (by kernel_rfl) (by simp) ?_
          refine AllReadyH.cons (o := ⟨some 79, _, _, _, _, _⟩) rfl (fun K hK => ?_) AllReadyH.nil
          refine step_append_row1 rfl (.tmp 75) (.tmp 78) 45 rfl w.heap.size 35 i0 _ 24 Try.underlying45 hi0 hz0 hz1 hz2 rfl (.slice A5 jj c5) jj (sl.map slv) rfl (HDb.out.gi 0 rfl) (some ⟨vz, 0, none⟩) 1 1 ([(some ⟨g7, 0, none⟩, 64, c7)].map slv) rfl HNR2.out (slv_one _) (by unfold maxLen; omega) (by omega) hbw ?_
          intro v' vd hown hgrow hat
          rw [← List.map_append] at hown
          have hdd := HDb.out.gapp 0 rfl hown hgrow hat
          obtain ⟨A6, c6, rfl⟩ := hdd.gform 0 rfl
          have HDd := Lib.hid hdd
          have HOd := Lib.hid (HOb.out.grown hgrow (fun k hk => .inl (HSo.out k hk)))
          clear hdd hown hgrow hat
          refine hK.out _ _ ((HDd.out.boxi 2 rfl).cell 0 (by simp)) (fun hSn => ?_)
          clear hK K hSw0
          have hSw0 := hSn
          clear hSn
          (try simp only [Act.put, List.setIfInBounds_toArray, List.set_cons_zero, List.set_cons_succ])
          refine wpAnyH_take (i := 6) (oi := ⟨some 80, _, _, _, _, _⟩) (v := ?_) rfl (by kernel_rfl) (by kernel_rfl) (by kernel_rfl) (fun _ _ _ h => h) (Or.inl ⟨by rfl, ?_⟩) (by assumption) ?_
          rotate_left
          · intro w hSw
            (try dsimp only at hSw)
            go_simp
            all_goals (try with_reducible rfl)
          (try simp only [Act.put, List.setIfInBounds_toArray, List.set_cons_zero, List.set_cons_succ])
          refine wpAnyH_ready (rs := [7]) (by kernel_rfl) (by simp) ?_
          refine AllReadyH.cons (o := ⟨none, _, _, _, _, _⟩) rfl (fun K hK => ?_) AllReadyH.nil
          have yq := (HDd.out.boxi 2 rfl).cell 4 (by simp)
          simp only [List.getElem_cons_zero, List.getElem_cons_succ] at yq
          have lq := (HDd.out.boxi 2 rfl).lt
          have fq := (HDd.out.boxi 2 rfl).frozen 4
          go_simp
          have HDz := Lib.hid (HDd.out.put 2 rfl 4 (.slice A6 (jj + 1) c6))
          have HOz := Lib.hid (HOd.out.set (p := ⟨f, 4, none⟩) (.inl HSf.out) (.slice A6 (jj + 1) c6))
          clear yq lq fq
          refine hK.out _ _ ((HDz.out.boxi 2 rfl).cell 0 (by simp)) (fun hSn => ?_)
          clear hK K hSw0
          have hSw0 := hSn
          clear hSn
          (try simp only [Act.put, List.setIfInBounds_toArray, List.set_cons_zero, List.set_cons_succ])
          refine wpAnyH_done (by kernel_rfl) ?_ _
          clear hSw0
          have hkf := keeps_of_only HOz.out (fun k hk => (HIS.out k hk).1)
          have hkp : KpAt [b1, b2] W _ := KpAt.of_only HOz.out (fun k hk => ⟨fun hm => by have := (HIS.out k hm).2; simp at hk; rcases hk with rfl | rfl <;> simp_all, by have h1 := (HWs.out.boxi 1 rfl).lt; have h2 := (HWs.out.boxi 0 rfl).lt; simp at hk; rcases hk with rfl | rfl <;> assumption⟩)
          refine ⟨hkf.from _, hkp, A6, c6, sl ++ [(some ⟨g7, 0, none⟩, 64, c7)], ?_, ?_⟩
          · rw [HPL.out, HMP.out]
            refine (HDz.out.fuse (f1 := fun V => Bys V (some ⟨g7, 0, none⟩) 64 c7 (chunkB bs x.val)) (f2 := fun V => Bls V sl (pre.map fun (x : Fin kb) => chunkB bs x.val)) (f := fun V => Bls V (sl ++ [(some ⟨g7, 0, none⟩, 64, c7)]) (pre.map (fun (x : Fin kb) => chunkB bs x.val) ++ [chunkB bs x.val])) (List.mem_cons_self ..) (List.mem_cons_of_mem _ (List.mem_cons_self ..)) (fun V h1 h2 => h2.snoc h1)).sub (List.Sublist.refl _) ?_
            intro f1 hf1
            simp only [List.mem_cons, List.not_mem_nil, or_false] at hf1 ⊢
            rcases hf1 with rfl | rfl | rfl <;> simp
          · intro s hs a ha
            rcases List.mem_append.1 hs with hs | hs
            · exact HFRR.out s hs a ha
            · simp at hs
              subst hs
              injection ha with ha
              subst ha
              exact hgw
        refine AllReadyH.cons (o := ⟨some 77, _, _, _, _, _⟩) rfl (fun K hK => ?_) ?_
        · go_simp
          refine (clone_any _ 64 64 (chunkB bs x.val) _ (HCH.out _ (HDs.out.fi 1 rfl)) (by decide)).mono ?_
          rintro en va ⟨A7, c7, rfl, hc7, hm7, hpos7, hO⟩
          rw [HCL.out] at hc7 hpos7 ⊢
          obtain ⟨g7, rfl, hg7, ho7⟩ := hpos7 (by decide)
          have hbw := HDs.out.only.size
          have HDa := Lib.hid (HDs.out.addFc hO (f := fun V => Bys V (some ⟨g7, 0, none⟩) 64 c7 (chunkB bs x.val)) (Row1.fc (Row1.of_Own ho7 (by rw [bvs_length, HCL.out]) hc7 hm7) (fun _ a ha => by injection ha with ha; subst ha; simp; omega)))
          have HOa := Lib.hid (HOs.out.trans' (hO.mono (by simp)))
          have hgw : w.heap.size ≤ g7 := by omega
          clear hpos7 hO ho7 hg7 hbw
          refine hK.out _ _ ((HDa.out.boxi 2 rfl).cell 0 (by simp)) (fun hSn => ?_)
          clear hK K hSw0
          have hSw0 := hSn
          clear hSn
          (try simp only [Act.put, List.setIfInBounds_toArray, List.set_cons_zero, List.set_cons_succ])
          refine wpAnyH_ready (rs := [1, 4]) (by kernel_rfl) (by simp) ?_
          refine AllReadyH.cons (o := ⟨some 75, _, _, _, _, _⟩) rfl (fun K hK => ?_) ?_
          · have yq := (HDa.out.boxi 2 rfl).cell 4 (by simp)
            simp only [List.getElem_cons_zero, List.getElem_cons_succ] at yq
            have lq := (HDa.out.boxi 2 rfl).lt
            go_simp
            clear yq lq
            refine hK.out _ _ ((HDa.out.boxi 2 rfl).cell 0 (by simp)) (fun hSn => ?_)
            clear hK K hSw0
            have hSw0 := hSn
            clear hSn
            (try simp only [Act.put, List.setIfInBounds_toArray, List.set_cons_zero, List.set_cons_succ])
            refine wpAnyH_ready (rs := [4]) (by kernel_rfl) (by simp) ?_
            refine AllReadyH.cons (o := ⟨some 78, _, _, _, _, _⟩) rfl (fun K hK => ?_) AllReadyH.nil
            go_simp
            have HDb := Lib.hid (HDa.out.alloc (.cells #[.slice (some ⟨g7, 0, none⟩) 64 c7] 35))
            have HOb := Lib.hid (HOa.out.alloc (.cells #[.slice (some ⟨g7, 0, none⟩) 64 c7] 35))
            have hnr : Row1 (va.alloc (.cells #[.slice (some ⟨g7, 0, none⟩) 64 c7] 35)) (some ⟨va.heap.size, 0, none⟩) 1 1 ([(some ⟨g7, 0, none⟩, 64, c7)].map slv) := Row1.of_Own (Own.new va #[.slice (some ⟨g7, 0, none⟩) 64 c7] 35) rfl (Nat.le_refl _) (by simp [maxLen])
            have HNR2 := Lib.hid hnr
            clear hnr
            have hbw := HDb.out.only.size
            generalize hvz : va.heap.size = vz at *
            generalize hvb : va.alloc (.cells #[.slice (some ⟨g7, 0, none⟩) 64 c7] 35) = vb at *
            clear hvb hvz
            refine hK.out _ _ ((HDb.out.boxi 2 rfl).cell 0 (by simp)) (fun hSn => ?_)
            clear hK K hSw0
            have hSw0 := hSn
            clear hSn
            (try simp only [Act.put, List.setIfInBounds_toArray, List.set_cons_zero, List.set_cons_succ])
            refine wpAnyH_ready (rs := [5]) (by kernel_rfl) (by simp) ?_
            refine AllReadyH.cons (o := ⟨some 79, _, _, _, _, _⟩) rfl (fun K hK => ?_) AllReadyH.nil
            refine step_append_row1 rfl (.tmp 75) (.tmp 78) 45 rfl w.heap.size 35 i0 _ 24 Try.underlying45 hi0 hz0 hz1 hz2 rfl (.slice A5 jj c5) jj (sl.map slv) rfl (HDb.out.gi 0 rfl) (some ⟨vz, 0, none⟩) 1 1 ([(some ⟨g7, 0, none⟩, 64, c7)].map slv) rfl HNR2.out (slv_one _) (by unfold maxLen; omega) (by omega) hbw ?_
            intro v' vd hown hgrow hat
            rw [← List.map_append] at hown
            have hdd := HDb.out.gapp 0 rfl hown hgrow hat
            obtain ⟨A6, c6, rfl⟩ := hdd.gform 0 rfl
            have HDd := Lib.hid hdd
            have HOd := Lib.hid (HOb.out.grown hgrow (fun k hk => .inl (HSo.out k hk)))
            clear hdd hown hgrow hat
            refine hK.out _ _ ((HDd.out.boxi 2 rfl).cell 0 (by simp)) (fun hSn => ?_)
            clear hK K hSw0
            have hSw0 := hSn
            clear hSn
            (try simp only [Act.put, List.setIfInBounds_toArray, List.set_cons_zero, List.set_cons_succ])
            refine wpAnyH_take (i := 6) (oi := ⟨some 80, _, _, _, _, _⟩) (v := ?_) rfl (by kernel_rfl) (by kernel_rfl) (by kernel_rfl) (fun _ _ _ h => h) (Or.inl ⟨by rfl, ?_⟩) (by assumption) ?_
            rotate_left
            · intro w hSw
              (try dsimp only at hSw)
              go_simp
              all_goals (try with_reducible rfl)
            (try simp only [Act.put, List.setIfInBounds_toArray, List.set_cons_zero, List.set_cons_succ])
            refine wpAnyH_ready (rs := [7]) (by kernel_rfl) (by simp) ?_
            refine AllReadyH.cons (o := ⟨none, _, _, _, _, _⟩) rfl (fun K hK => ?_) AllReadyH.nil
            have yq := (HDd.out.boxi 2 rfl).cell 4 (by simp)
            simp only [List.getElem_cons_zero, List.getElem_cons_succ] at yq
            have lq := (HDd.out.boxi 2 rfl).lt
            have fq := (HDd.out.boxi 2 rfl).frozen 4
            go_simp
            have HDz := Lib.hid (HDd.out.put 2 rfl 4 (.slice A6 (jj + 1) c6))
            have HOz := Lib.hid (HOd.out.set (p := ⟨f, 4, none⟩) (.inl HSf.out) (.slice A6 (jj + 1) c6))
            clear yq lq fq
            refine hK.out _ _ ((HDz.out.boxi 2 rfl).cell 0 (by simp)) (fun hSn => ?_)
            clear hK K hSw0
            have hSw0 := hSn
            clear hSn
            (try simp only [Act.put, List.setIfInBounds_toArray, List.set_cons_zero, List.set_cons_succ])
            refine wpAnyH_done (by kernel_rfl) ?_ _
            clear hSw0
            have hkf := keeps_of_only HOz.out (fun k hk => (HIS.out k hk).1)
            have hkp : KpAt [b1, b2] W _ := KpAt.of_only HOz.out (fun k hk => ⟨fun hm => by have := (HIS.out k hm).2; simp at hk; rcases hk with rfl | rfl <;> simp_all, by have h1 := (HWs.out.boxi 1 rfl).lt; have h2 := (HWs.out.boxi 0 rfl).lt; simp at hk; rcases hk with rfl | rfl <;> assumption⟩)
            refine ⟨hkf.from _, hkp, A6, c6, sl ++ [(some ⟨g7, 0, none⟩, 64, c7)], ?_, ?_⟩
            · rw [HPL.out, HMP.out]
              refine (HDz.out.fuse (f1 := fun V => Bys V (some ⟨g7, 0, none⟩) 64 c7 (chunkB bs x.val)) (f2 := fun V => Bls V sl (pre.map fun (x : Fin kb) => chunkB bs x.val)) (f := fun V => Bls V (sl ++ [(some ⟨g7, 0, none⟩, 64, c7)]) (pre.map (fun (x : Fin kb) => chunkB bs x.val) ++ [chunkB bs x.val])) (List.mem_cons_self ..) (List.mem_cons_of_mem _ (List.mem_cons_self ..)) (fun V h1 h2 => h2.snoc h1)).sub (List.Sublist.refl _) ?_
              intro f1 hf1
              simp only [List.mem_cons, List.not_mem_nil, or_false] at hf1 ⊢
              rcases hf1 with rfl | rfl | rfl <;> simp
            · intro s hs a ha
              rcases List.mem_append.1 hs with hs | hs
              · exact HFRR.out s hs a ha
              · simp at hs
                subst hs
                injection ha with ha
                subst ha
                exact hgw
          refine AllReadyH.cons (o := ⟨some 78, _, _, _, _, _⟩) rfl (fun K hK => ?_) ?_
          · go_simp
            have HDb := Lib.hid (HDa.out.alloc (.cells #[.slice (some ⟨g7, 0, none⟩) 64 c7] 35))
            have HOb := Lib.hid (HOa.out.alloc (.cells #[.slice (some ⟨g7, 0, none⟩) 64 c7] 35))
            have hnr : Row1 (va.alloc (.cells #[.slice (some ⟨g7, 0, none⟩) 64 c7] 35)) (some ⟨va.heap.size, 0, none⟩) 1 1 ([(some ⟨g7, 0, none⟩, 64, c7)].map slv) := Row1.of_Own (Own.new va #[.slice (some ⟨g7, 0, none⟩) 64 c7] 35) rfl (Nat.le_refl _) (by simp [maxLen])
            have HNR2 := Lib.hid hnr
            clear hnr
            have hbw := HDb.out.only.size
            generalize hvz : va.heap.size = vz at *
            generalize hvb : va.alloc (.cells #[.slice (some ⟨g7, 0, none⟩) 64 c7] 35) = vb at *
            clear hvb hvz
            refine hK.out _ _ ((HDb.out.boxi 2 rfl).cell 0 (by simp)) (fun hSn => ?_)
            clear hK K hSw0
            have hSw0 := hSn
            clear hSn
            (try simp only [Act.put, List.setIfInBounds_toArray, List.set_cons_zero, List.set_cons_succ])
            refine wpAnyH_ready (rs := [1]) (by kernel_rfl) (by simp) ?_
            refine AllReadyH.cons (o := ⟨some 75, _, _, _, _, _⟩) rfl (fun K hK => ?_) AllReadyH.nil
            have yq := (HDb.out.boxi 2 rfl).cell 4 (by simp)
            simp only [List.getElem_cons_zero, List.getElem_cons_succ] at yq
            have lq := (HDb.out.boxi 2 rfl).lt
            go_simp
            clear yq lq
            refine hK.out _ _ ((HDb.out.boxi 2 rfl).cell 0 (by simp)) (fun hSn => ?_)
            clear hK K hSw0
            have hSw0 := hSn
            clear hSn
            (try simp only [Act.put, List.setIfInBounds_toArray, List.set_cons_zero, List.set_cons_succ])
            refine wpAnyH_ready (rs := [5]) (by kernel_rfl) (by simp) ?_
            refine AllReadyH.cons (o := ⟨some 79, _, _, _, _, _⟩) rfl (fun K hK => ?_) AllReadyH.nil
            refine step_append_row1 rfl (.tmp 75) (.tmp 78) 45 rfl w.heap.size 35 i0 _ 24 Try.underlying45 hi0 hz0 hz1 hz2 rfl (.slice A5 jj c5) jj (sl.map slv) rfl (HDb.out.gi 0 rfl) (some ⟨vz, 0, none⟩) 1 1 ([(some ⟨g7, 0, none⟩, 64, c7)].map slv) rfl HNR2.out (slv_one _) (by unfold maxLen; omega) (by omega) hbw ?_
            intro v' vd hown hgrow hat
            rw [← List.map_append] at hown
            have hdd := HDb.out.gapp 0 rfl hown hgrow hat
            obtain ⟨A6, c6, rfl⟩ := hdd.gform 0 rfl
            have HDd := Lib.hid hdd
            have HOd := Lib.hid (HOb.out.grown hgrow (fun k hk => .inl (HSo.out k hk)))
            clear hdd hown hgrow hat
            refine hK.out _ _ ((HDd.out.boxi 2 rfl).cell 0 (by simp)) (fun hSn => ?_)
            clear hK K hSw0
            have hSw0 := hSn
            clear hSn
            (try simp only [Act.put, List.setIfInBounds_toArray, List.set_cons_zero, List.set_cons_succ])
            refine wpAnyH_take (i := 6) (oi := ⟨some 80, _, _, _, _, _⟩) (v := ?_) rfl (by kernel_rfl) (by kernel_rfl) (by kernel_rfl) (fun _ _ _ h => h) (Or.inl ⟨by rfl, ?_⟩) (by assumption) ?_
            rotate_left
            · intro w hSw
              (try dsimp only at hSw)
              go_simp
              all_goals (try with_reducible rfl)
            (try simp only [Act.put, List.setIfInBounds_toArray, List.set_cons_zero, List.set_cons_succ])
            refine wpAnyH_ready (rs := [7]) (by kernel_rfl) (by simp) ?_
            refine AllReadyH.cons (o := ⟨none, _, _, _, _, _⟩) rfl (fun K hK => ?_) AllReadyH.nil
            have yq := (HDd.out.boxi 2 rfl).cell 4 (by simp)
            simp only [List.getElem_cons_zero, List.getElem_cons_succ] at yq
            have lq := (HDd.out.boxi 2 rfl).lt
            have fq := (HDd.out.boxi 2 rfl).frozen 4
            go_simp
            have HDz := Lib.hid (HDd.out.put 2 rfl 4 (.slice A6 (jj + 1) c6))
            have HOz := Lib.hid (HOd.out.set (p := ⟨f, 4, none⟩) (.inl HSf.out) (.slice A6 (jj + 1) c6))
            clear yq lq fq
            refine hK.out _ _ ((HDz.out.boxi 2 rfl).cell 0 (by simp)) (fun hSn => ?_)
            clear hK K hSw0
            have hSw0 := hSn
            clear hSn
            (try simp only [Act.put, List.setIfInBounds_toArray, List.set_cons_zero, List.set_cons_succ])
            refine wpAnyH_done (by kernel_rfl) ?_ _
            clear hSw0
            have hkf := keeps_of_only HOz.out (fun k hk => (HIS.out k hk).1)
            have hkp : KpAt [b1, b2] W _ := KpAt.of_only HOz.out (fun k hk => ⟨fun hm => by have := (HIS.out k hm).2; simp at hk; rcases hk with rfl | rfl <;> simp_all, by have h1 := (HWs.out.boxi 1 rfl).lt; have h2 := (HWs.out.boxi 0 rfl).lt; simp at hk; rcases hk with rfl | rfl <;> assumption⟩)
            refine ⟨hkf.from _, hkp, A6, c6, sl ++ [(some ⟨g7, 0, none⟩, 64, c7)], ?_, ?_⟩
            · rw [HPL.out, HMP.out]
              refine (HDz.out.fuse (f1 := fun V => Bys V (some ⟨g7, 0, none⟩) 64 c7 (chunkB bs x.val)) (f2 := fun V => Bls V sl (pre.map fun (x : Fin kb) => chunkB bs x.val)) (f := fun V => Bls V (sl ++ [(some ⟨g7, 0, none⟩, 64, c7)]) (pre.map (fun (x : Fin kb) => chunkB bs x.val) ++ [chunkB bs x.val])) (List.mem_cons_self ..) (List.mem_cons_of_mem _ (List.mem_cons_self ..)) (fun V h1 h2 => h2.snoc h1)).sub (List.Sublist.refl _) ?_
              intro f1 hf1
              simp only [List.mem_cons, List.not_mem_nil, or_false] at hf1 ⊢
              rcases hf1 with rfl | rfl | rfl <;> simp
            · intro s hs a ha
              rcases List.mem_append.1 hs with hs | hs
              · exact HFRR.out s hs a ha
              · simp at hs
                subst hs
                injection ha with ha
                subst ha
                exact hgw
          exact AllReadyH.nil
        exact AllReadyH.nil
      case done =>
        rintro D xs W hD hxs ⟨A5, c5, sl, hw, hfr⟩ hK
        have hxl : xs.length = kb := by have := congrArg List.length hxs; simpa using this
        have hbl : xs.map (fun (x : Fin kb) => chunkB bs x.val) = rcBl bs kb := by rw [rcBl_eq, ← hxs, List.map_map]; rfl
        rw [hxl, hbl] at hw
        have hDw : w.heap.size ≤ D := Nat.le_trans HWL.out.only.size hD
        have hDl := lt_of_obj hK
        have hDf : D ≠ f := fun e => by
          have h1 := (hw.boxi 2 rfl).isCells _ (by rw [← e]; exact hK)
          cases h1
        have HKW := Lib.hid hK
        have HWW := Lib.hid hw
        have HFRR := Lib.hid hfr
        have HGB : Hid (Blks W A5 kb c5 (rcBl bs kb)) := Lib.hid ⟨sl, (Row1.of_owns (hw.gi 0 rfl)).1, hw.fi 0 rfl⟩
        have HDO := Lib.hid (rc_dec_of HFT.out)
        clear hxs hxl hbl hK hw hfr
        have x0 := (HWW.out.boxi 2 rfl).cell 0 (by simp)
        have x1 := (HWW.out.boxi 2 rfl).cell 1 (by simp)
        have x2 := (HWW.out.boxi 2 rfl).cell 2 (by simp)
        have x3 := (HWW.out.boxi 2 rfl).cell 3 (by simp)
        have x4 := (HWW.out.boxi 2 rfl).cell 4 (by simp)
        simp only [List.getElem_cons_zero, List.getElem_cons_succ] at x0 x1 x2 x3 x4
        go_wp2_with fail
        refine (rec_enc_any rm rn rp A4 Nv c4 its A5 kb c5 (rcBl bs kb) _ (by exact HWW.out.fi 2 rfl) (by exact HGB.out)).mono ?_
        intro en wy he
        rw [← HRO.out] at he
        have hdo := HDO.out
        have hpc : ∀ (V : World) (i : Nat) (ob : Obj), (World.putObj V D ob).cell? ⟨f, i, none⟩ = V.cell? ⟨f, i, none⟩ := fun V i ob => World.cell?_of_block (World.putObj_heap_other (Ne.symm hDf))
        cases hen : encRc (rcOf bs) with
        | none =>
          rw [hen] at he hdo
          obtain ⟨rfl, hO⟩ := he.of_none
          have HY := Lib.hid (HWW.out.keep0 hO)
          have HKY : Hid (wy.heap[D]? = some (.deferred (some []))) := Lib.hid ((hO.block D hDl (by simp)).trans HKW.out)
          have HNO : Hid (decRc bs = none) := Lib.hid hdo
          clear hen hO he hdo x0 x1 x2 x3 x4
          have hx0 := (HY.out.boxi 2 rfl).cell 0 (by simp)
          have hx1 := (HY.out.boxi 2 rfl).cell 1 (by simp)
          have hx2 := (HY.out.boxi 2 rfl).cell 2 (by simp)
          have hx3 := (HY.out.boxi 2 rfl).cell 3 (by simp)
          have hx4 := (HY.out.boxi 2 rfl).cell 4 (by simp)
          simp only [List.getElem_cons_zero, List.getElem_cons_succ] at hx0 hx1 hx2 hx3 hx4
          have hz0' := (HY.out.boxi 2 rfl).frozen 0
          have hz1' := (HY.out.boxi 2 rfl).frozen 1
          have hz2' := (HY.out.boxi 2 rfl).frozen 2
          have hz3' := (HY.out.boxi 2 rfl).frozen 3
          have hz4' := (HY.out.boxi 2 rfl).frozen 4
          have hfw2 := (HY.out.boxi 2 rfl).lt
          go_wp2
          (try simp only [Exit.inBlock, Exit.then])
          refine marks_ret1 (v := (.tuple #[.agg #[.int .i64 0, .int .i64 0, .int .i64 0, .slice none 0 0, .slice none 0 0], .int .i64 0, .int .i64 2])) (D := D) ?_ ?_ rfl (RcSays.no HNO.out ?_)
          · (repeat' first | (with_reducible refine setCell_obj ?_ rfl) | (with_reducible exact HKY.out))
          · simp only [results, HRES.out]
            go_simp
          · refine Only.putObj ?_ hDw
            (repeat' first | (with_reducible refine Only.set ?_ (.inr hfw) _) | (with_reducible exact HY.out.only))
        | some ys =>
          obtain ⟨y, s⟩ := ys
          rw [hen] at he hdo
          obtain ⟨g9, c9, rfl, hc9, hm9, hg9, ho9, hO⟩ := he.of_some
          have HY := Lib.hid (HWW.out.keep0 hO)
          have HKY : Hid (wy.heap[D]? = some (.deferred (some []))) := Lib.hid ((hO.block D hDl (by simp)).trans HKW.out)
          have HB9 : Hid (Bys wy (some ⟨g9, 0, none⟩) y.length c9 y) := Lib.hid (Row1.of_Own ho9 (bvs_length _) hc9 hm9)
          have HDO2 : Hid (decRc bs = if y = bs then some (rcOf bs, s) else none) := Lib.hid hdo
          clear hen hO he hdo ho9 x0 x1 x2 x3 x4 HDO
          have hx0 := (HY.out.boxi 2 rfl).cell 0 (by simp)
          have hx1 := (HY.out.boxi 2 rfl).cell 1 (by simp)
          have hx2 := (HY.out.boxi 2 rfl).cell 2 (by simp)
          have hx3 := (HY.out.boxi 2 rfl).cell 3 (by simp)
          have hx4 := (HY.out.boxi 2 rfl).cell 4 (by simp)
          simp only [List.getElem_cons_zero, List.getElem_cons_succ] at hx0 hx1 hx2 hx3 hx4
          have hz0' := (HY.out.boxi 2 rfl).frozen 0
          have hz1' := (HY.out.boxi 2 rfl).frozen 1
          have hz2' := (HY.out.boxi 2 rfl).frozen 2
          have hz3' := (HY.out.boxi 2 rfl).frozen 3
          have hz4' := (HY.out.boxi 2 rfl).frozen 4
          have hfw2 := (HY.out.boxi 2 rfl).lt
          go_wp2_with fail
          refine (bytes_equal_any (some ⟨g9, 0, none⟩) y.length c9 y (some ⟨ga, oa, none⟩) n c bs _ (by exact HB9.out) (by exact HY.out.fi 1 rfl)).mono ?_
          rintro en w5 ⟨rfl, rfl⟩
          by_cases hyb : y = bs
          · have hd : decide (y = bs) = true := by simp [hyb]
            have HYES : Hid (decRc bs = some (rcOf bs, s)) := Lib.hid (by rw [HDO2.out, if_pos hyb])
            clear hyb
            go_wp2
            (try simp only [Exit.inBlock, Exit.then])
            have hkd : (World.heap (World.setCell (World.setCell (World.setCell (World.setCell (World.setCell wy ⟨f, 0, none⟩ (.int .i64 rm)) ⟨f, 1, none⟩ (.int .i64 rn)) ⟨f, 2, none⟩ (.int .i64 rp)) ⟨f, 3, none⟩ (.slice A4 Nv c4)) ⟨f, 4, none⟩ (.slice A5 kb c5)))[D]? = some (.deferred (some [])) := by
              (repeat' first | (with_reducible refine setCell_obj ?_ rfl) | (with_reducible exact HKY.out))
            have hfin := (((((HY.out.put 2 rfl 0 (.int .i64 rm)).put 2 rfl 1 (.int .i64 rn)).put 2 rfl 2 (.int .i64 rp)).put 2 rfl 3 (.slice A4 Nv c4)).put 2 rfl 4 (.slice A5 kb c5)).putObj (.deferred none) hkd rfl hDw
            refine marks_ret1 (v := .tuple #[.agg #[.int .i64 rm, .int .i64 rn, .int .i64 rp, .slice A4 Nv c4, .slice A5 kb c5], .int .i64 (s : Nat), .int .i64 0]) (D := D) hkd ?_ rfl ?_
            · simp only [results, HRES.out]
              go_simp
            · rw [HYES.out]
              refine ⟨(A4, Nv, c4), (A5, kb, c5), ?_, ?_, hfin.only⟩
              · simp only [Option.map_some, Option.getD_some, Option.isSome_some, if_true]
                rw [HRO.out]
                rfl
              · simp only [Option.map_some, Option.getD_some]
                rw [HRO.out]
                exact hfin.rcFc (List.mem_cons_self ..) (List.mem_cons_of_mem _ (List.mem_cons_of_mem _ (List.mem_cons_self ..))) (fun h0 a ha => (HFR.out h0 a ha).2) HFRR.out
          · have hd : decide (y = bs) = false := by simp [hyb]
            have HNO : Hid (decRc bs = none) := Lib.hid (by rw [HDO2.out, if_neg hyb])
            clear hyb
            go_wp2
            (try simp only [Exit.inBlock, Exit.then])
            refine marks_ret1 (v := (.tuple #[.agg #[.int .i64 0, .int .i64 0, .int .i64 0, .slice none 0 0, .slice none 0 0], .int .i64 0, .int .i64 2])) (D := D) ?_ ?_ rfl (RcSays.no HNO.out ?_)
            · (repeat' first | (with_reducible refine setCell_obj ?_ rfl) | (with_reducible exact HKY.out))
            · simp only [results, HRES.out]
              go_simp
            · refine Only.putObj ?_ hDw
              (repeat' first | (with_reducible refine Only.set ?_ (.inr hfw) _) | (with_reducible exact HY.out.only))
end Go.Proofs.Ytoibehikojkoiaa
