/- Contract of record.Encode. Printed by mkrec.py. -/
import Derived.Test.YtoibehikojkoiaaRecA
import Derived.Test.YtoibehikojkoiaaRecB
import Derived.Test.YtoibehikojkoiaaStep
import Derived.Test.YtoibehikojkoiaaRefD
import Derived.Test.YtoibehikojkoiaaItemB
import Derived.Deep.RegionHeld3
import Derived.Deep.RegionLaw
set_option linter.unusedVariables false
set_option linter.unusedSimpArgs false
namespace Go.Kn
open Go Go.RowKit
/-- what lays a record answers -/
def EncRc (w : World) (o : Option (List UInt8 × Nat)) (err : Int) (e : Ending) (w' : World) : Prop :=
  (o = none ∧ e = .returned (.tuple #[.slice none 0 0, .int .i64 0, .int .i64 err]) ∧ Only [] w w') ∨
  ∃ bs s g c, o = some (bs, s) ∧ e = .returned (.tuple #[.slice (some ⟨g, 0, none⟩) bs.length c, .int .i64 (s : Nat), .int .i64 0]) ∧ bs.length ≤ c ∧ c ≤ maxLen ∧ w.heap.size ≤ g ∧ Own w' g (bvs bs) ∧ Only [] w w'
theorem EncRc.no {w w' : World} {o : Option (List UInt8 × Nat)} {err : Int} (h : o = none) (hO : Only [] w w') : EncRc w o err (.returned (.tuple #[.slice none 0 0, .int .i64 0, .int .i64 err])) w' := .inl ⟨h, rfl, hO⟩
theorem EncRc.of_none {w w' : World} {err : Int} {e : Ending} (h : EncRc w none err e w') : e = .returned (.tuple #[.slice none 0 0, .int .i64 0, .int .i64 err]) ∧ Only [] w w' := by
  rcases h with ⟨_, h⟩ | ⟨_, _, _, _, h, _⟩
  · exact h
  · cases h
theorem EncRc.of_some {w w' : World} {bs : List UInt8} {s : Nat} {err : Int} {e : Ending} (h : EncRc w (some (bs, s)) err e w') : ∃ g c, e = .returned (.tuple #[.slice (some ⟨g, 0, none⟩) bs.length c, .int .i64 (s : Nat), .int .i64 0]) ∧ bs.length ≤ c ∧ c ≤ maxLen ∧ w.heap.size ≤ g ∧ Own w' g (bvs bs) ∧ Only [] w w' := by
  rcases h with ⟨h, _⟩ | ⟨bs', s', g, c, h, rest⟩
  · cases h
  · injection h with h
    injection h with h1 h2
    subst h1 h2
    exact ⟨g, c, rest⟩
theorem blks_of_owns {w : World} {base e n : Nat} {v : Value} {sl : List (Option Addr × Nat × Nat)} {bl : List (List UInt8)} (h : w.ownsRow base e 1 v n (sl.map slv)) (hb : Bls w sl bl) (hB : base ≤ w.heap.size) : ∃ A c, v = .slice A n c ∧ Blks w A n c bl := by
  have hl := h.1
  have hg : Gath w base e v (sl.map slv) := ⟨by rw [hl, Nat.mul_one]; exact h, hB⟩
  obtain ⟨A, c, hv, hr, _⟩ := hg.formN (n := n) (by rw [hl, Nat.mul_one])
  exact ⟨A, c, hv, sl, hr, hb⟩
theorem Bls.only {w w' : World} {sl : List (Option Addr × Nat × Nat)} {bl : List (List UInt8)} {S : List Nat} (h : Bls w sl bl) (hO : Only S w w') (hs : ∀ s ∈ sl, 0 < s.2.1 → ∀ a, s.1 = some a → a.block ∉ S) : Bls w' sl bl :=
  ⟨h.1, fun i h1 h2 => (h.2 i h1 h2).keepP hO (fun h0 => hs _ (List.getElem_mem h1) h0)⟩
theorem Encs.keepS {S : List Nat} {w0 w w' : World} {p g k b : Nat} {X : List UInt8} {vs : List Value} (h : Encs w0 w p g k b X vs) (hO : Only S w w') (h1 : p ∉ S) (h2 : g ∉ S) (h3 : b ∉ S) (h4 : ∀ i ∈ S, w0.heap.size ≤ i) : Encs w0 w' p g k b X vs :=
  ⟨h.row.keep hO h1 h2, h.box.keep hO h3, h.only.trans hO (fun i hi => .inr (h4 i hi)), h.bp, h.bg, h.hp, h.hg⟩
/-- a slice that was just built of one-cell elements -/
theorem ownsRow_built (w : World) (e : Nat) (vs : List Value) (n : Nat) (hn : vs.length = n) (hm : n ≤ maxLen) : (w.alloc (.cells vs.toArray e)).ownsRow w.heap.size e 1 (.slice (some ⟨w.heap.size, 0, none⟩) n n) n vs :=
  ⟨by rw [hn, Nat.mul_one], .inr ⟨w.heap.size, n, vs.toArray, rfl, Nat.le_refl _, heap_alloc_new w _, Nat.le_refl _, hm, by simp [hn], by rw [Nat.mul_one, ← hn]; simp⟩⟩
/-- the row of a record, laid but for its sum -/
theorem rc_row {r : Rc} (h : r.its.length ≤ 6) : lay (List.replicate 64 0) 0 (cat (rcFs r) ++ itsB r.its) = rcHead r ++ List.replicate 4 0 := by
  unfold rcHead lay
  have hl : (cat (rcFs r) ++ itsB r.its).length = 16 + 7 * r.its.length := by rw [List.length_append, rcFs_len, itsB_length]
  rw [hl, List.take_zero, List.nil_append, List.drop_replicate, List.append_assoc, List.append_assoc, List.append_assoc, List.replicate_append_replicate]
  congr 3
  omega
theorem rc_sum {r : Rc} (h : r.its.length ≤ 6) (s : Nat) : lay (rcHead r ++ List.replicate 4 0) 60 (le 4 s) = rcHead r ++ le 4 s := by
  have hl := rcHead_length h
  unfold lay
  rw [List.take_left' hl, le_length, List.drop_of_length_le (by rw [List.length_append, hl, List.length_replicate]; decide), List.append_nil]
end Go.Kn
namespace Go.Proofs.Ytoibehikojkoiaa
open Go Go.RowKit Go.Kn

theorem Try.infoBys : (Try.prog.info? 35).map (fun i => (i.zero, i.size, i.bytes)) = some (some (.slice none 0 0), 1, 24) := by kernel_rfl

set_option maxRecDepth 100000 in
set_option maxHeartbeats 16000000 in
theorem rec_enc_any (rm rn rp : Int) (A : Option Addr) (na ca : Nat) (its : List It) (B : Option Addr) (nb cb : Nat) (bl : List (List UInt8)) (w : World) (hi : Its w A na ca its) (hj : Blks w B nb cb bl) :
    Calls Try.prog 19 #[.agg #[.int .i64 rm, .int .i64 rn, .int .i64 rp, .slice A na ca, .slice B nb cb]] w (EncRc w (encRc ⟨rm, rn, rp, its, bl⟩) 1) := by
  have hlen := hi.len
  have hln := hj.len
  have hdl := hj.le
  have hdm := hj.cm
  have hcl := hi.le
  have hcm := hi.cm
  unfold maxLen at hcm hdm
  have HI := Lib.hid hi
  have HJ := Lib.hid hj
  have HL := Lib.hid hlen
  have HLB := Lib.hid hln
  have hO0 := (Only.refl [] w).alloc (.cells #[.int .i64 rm, .int .i64 rn, .int .i64 rp, .slice A na ca, .slice B nb cb] 47)
  have hbx := Own.new w #[.int .i64 rm, .int .i64 rn, .int .i64 rp, .slice A na ca, .slice B nb cb] 47
  have x0 := hbx.cell 0 (by simp)
  have x1 := hbx.cell 1 (by simp)
  have x2 := hbx.cell 2 (by simp)
  have x3 := hbx.cell 3 (by simp)
  have x4 := hbx.cell 4 (by simp)
  simp only [List.getElem_cons_zero, List.getElem_cons_succ] at x0 x1 x2 x3 x4
  clear hi hj hlen hln
  cases hm : rcMay ⟨rm, rn, rp, its, bl⟩
  · have HM := Lib.hid hm
    clear hm
    go_enter Try.func19, Try.ntmps19
    go_upto_region 1 with fail
    generalize w.alloc (.cells #[.int .i64 rm, .int .i64 rn, .int .i64 rp, .slice A na ca, .slice B nb cb] 47) = w0 at *
    have HO0 := Lib.hid hO0
    clear hO0 hbx
    go_wp2_with fail
    refine (rec_may_any rm rn rp A na ca its B nb cb bl _ (by exact HI.out.keep0 HO0.out) (by exact HJ.out.keep0 HO0.out)).mono ?_
    rintro e w1 ⟨rfl, hO1⟩
    rw [HM.out]
    have HO1 := Lib.hid (HO0.out.trans' hO1)
    clear hO1 x0 x1 x2 x3 x4
    go_wp2
    go_ret3
    exact EncRc.no (by unfold encRc; rw [HM.out]; rfl) HO1.out
  · obtain ⟨⟨hm1, hm2, hm3, hm4, hm5⟩, hal, hbn, hbf⟩ := rcMay_iff.1 hm
    have hld := loads_le its
    have hna : na ≤ 6 := by rw [← HL.out]; exact hm5
    have hnb : nb ≤ 6 := by
      have h1 := HLB.out
      simp only at hbn hm5
      omega
    have HF0 : Hid (Fit 1 [75, 82]) := Lib.hid (by simp only [fit_cons, fit_nil, Int.reducePow, and_true]; omega)
    have HF1 : Hid (Fit 4 [rm, rn, rp]) := Lib.hid (by simp only [fit_cons, fit_nil, Int.reducePow, and_true] at *; omega)
    have HF2 : Hid (Fit 1 [(na : Int), (nb : Int)]) := Lib.hid (by simp only [fit_cons, fit_nil, Int.reducePow, and_true]; omega)
    have HE : Hid (encItems its = some (itsB its)) := Lib.hid (by unfold encItems; rw [if_pos ⟨hm5, hal⟩])
    have HM := Lib.hid hm
    have HM5 := Lib.hid hm5
    obtain ⟨L, hL⟩ : ∃ L, (itsB its).length = L := ⟨_, rfl⟩
    have hL7 : L = 7 * na := by rw [← hL, itsB_length, HL.out]
    have hL42 : L ≤ 42 := by omega
    have HLL := Lib.hid hL
    clear hm hal hbn hbf hm1 hm2 hm3 hm4 hm5 hL hL7
    go_enter Try.func19, Try.ntmps19
    go_upto_region 1 with fail
    generalize hbb : w.heap.size = b at *
    have HSZ : Hid (w.heap.size ≤ b) := Lib.hid (by omega)
    have HBB := Lib.hid hbb
    generalize w.alloc (.cells #[.int .i64 rm, .int .i64 rn, .int .i64 rp, .slice A na ca, .slice B nb cb] 47) = w0 at *
    have HO0 := Lib.hid hO0
    clear hO0 hbb
    go_wp2_with fail
    refine (rec_may_any rm rn rp A na ca its B nb cb bl _ (by exact HI.out.keep0 HO0.out) (by exact HJ.out.keep0 HO0.out)).mono ?_
    rintro e w1 ⟨rfl, hO1⟩
    rw [HM.out]
    have HB1 := Lib.hid (hbx.keep0 hO1)
    have HO1 := Lib.hid (HO0.out.trans' hO1)
    clear hO1 x0 x1 x2 x3 x4 hbx HO0
    have x3 := HB1.out.cell 3 (by simp)
    simp only [List.getElem_cons_zero, List.getElem_cons_succ] at x3
    go_wp2_with fail
    refine (item_enc_any A na ca its _ (by exact HI.out.keep0 HO1.out)).mono ?_
    rintro e w2 ⟨A2, c2, rfl, hb2, hn2, hO2⟩
    rw [HE.out] at hb2 ⊢
    simp only [Option.getD_some, Option.isSome_some, if_true] at hb2 ⊢
    rw [HLL.out] at hb2 ⊢
    have HB2 := Lib.hid (HB1.out.keep0 hO2)
    have HO2 := Lib.hid (HO1.out.trans' hO2)
    have HIB2 := Lib.hid hb2
    have hcL := hb2.le
    have hcM := hb2.cm
    unfold maxLen at hcM
    clear hb2 hn2 hO2 x3 HB1 HO1
    go_wp2_with fail
    refine (new_any 64 _ (by decide) (by decide)).mono ?_
    rintro e w3 ⟨p, g, rfl, hp, hg, hr, hO⟩
    rw [show (List.replicate (Int.toNat 64) (0 : UInt8)) = List.replicate 64 0 from rfl] at hr
    have hz : (List.replicate 64 (0 : UInt8)).length = 64 := by rw [List.length_replicate]
    have HRW := Lib.hid (rc_row (r := ⟨rm, rn, rp, its, bl⟩) HM5.out)
    generalize List.replicate 64 (0 : UInt8) = zr at *
    have HZ := Lib.hid hz
    have HS : Hid (Encs w w3 p g 0 b zr [.int .i64 rm, .int .i64 rn, .int .i64 rp, .slice A na ca, .slice B nb cb]) := Lib.hid (Encs.start HB2.out HO2.out hp hg hr hO)
    have HIB3 := Lib.hid (HIB2.out.keep0 hO)
    have HNE : Hid (0 < L → ∀ a, A2 = some a → a.block ≠ p ∧ a.block ≠ g) := Lib.hid (fun h0 a ha => by have := HIB2.out.block_lt h0 a ha; omega)
    clear hr hO hp hg hz HB2 HO2 HIB2
    have HIB := HIB3
    clear HIB3
    have HX := HZ
    go_wp2_with fail
    refine (put_any p g 0 zr 1 _ 2 2 [75, 82] _ (by exact HS.out.row.alloc _) (by exact ins_built _ [75, 82] _ 2 rfl (by omega)) (by exact ne_built HS.out.row) (by decide) (by rw [HX.out]; omega) HF0.out).mono ?_
    rintro e w4 ⟨rfl, hr, hO⟩
    have hO' := ((Only.refl [p, g] w3).alloc (.cells ([75, 82].map (Value.int .i64)).toArray 3)).trans' hO
    have HIBn := Lib.hid (HIB.out.keepP hO' (fun h0 a ha => by have := HNE.out h0 a ha; simp [this.1, this.2]))
    rw [show lay zr 0 (les 1 [75, 82]) = lay zr 0 (cat [(1, 75), (1, 82)]) from rfl] at hr
    have HSn : Hid (Encs w w4 p g 2 b (lay zr 0 (cat [(1, 75), (1, 82)])) [.int .i64 rm, .int .i64 rn, .int .i64 rp, .slice A na ca, .slice B nb cb]) := Lib.hid ((HS.out.alloc _).put hr hO)
    clear hr hO hO' HS HIB HX
    have HS := HSn
    have HIB := HIBn
    clear HSn HIBn
    have HX : Hid ((lay zr 0 (cat [(1, 75), (1, 82)])).length = 64) := Lib.hid (by rw [lay_length _ _ _ (by rw [cat_length, HZ.out]; decide), HZ.out])
    have HLC := Lib.hid (lay_cat zr [(1, 75), (1, 82)] 2 4 [rm, rn, rp] rfl (by rw [HZ.out]; show (14 : Nat) ≤ 64; decide))
    generalize lay zr 0 (cat [(1, 75), (1, 82)]) = X1 at *
    have x0 := HS.out.box.cell 0 (by simp)
    have x1 := HS.out.box.cell 1 (by simp)
    have x2 := HS.out.box.cell 2 (by simp)
    simp only [List.getElem_cons_zero, List.getElem_cons_succ] at x0 x1 x2
    go_wp2_with fail
    refine (put_any p g 2 X1 4 _ 3 3 [rm, rn, rp] _ (by exact HS.out.row.alloc _) (by exact ins_built _ [rm, rn, rp] _ 3 rfl (by omega)) (by exact ne_built HS.out.row) (by decide) (by rw [HX.out]; omega) HF1.out).mono ?_
    rintro e w5 ⟨rfl, hr, hO⟩
    have hO' := ((Only.refl [p, g] w4).alloc (.cells ([rm, rn, rp].map (Value.int .i64)).toArray 3)).trans' hO
    have HIBn := Lib.hid (HIB.out.keepP hO' (fun h0 a ha => by have := HNE.out h0 a ha; simp [this.1, this.2]))
    rw [HLC.out] at hr
    have HSn : Hid (Encs w w5 p g 14 b (lay zr 0 (cat ([(1, 75), (1, 82)] ++ [rm, rn, rp].map fun z => (4, z)))) [.int .i64 rm, .int .i64 rn, .int .i64 rp, .slice A na ca, .slice B nb cb]) := Lib.hid ((HS.out.alloc _).put hr hO)
    clear hr hO hO' HS HIB HX
    have HS := HSn
    have HIB := HIBn
    clear HSn HIBn
    clear HLC x0 x1 x2
    have HX : Hid ((lay zr 0 (cat ([(1, 75), (1, 82)] ++ [rm, rn, rp].map fun z => (4, z)))).length = 64) := Lib.hid (by rw [lay_length _ _ _ (by rw [cat_length, HZ.out]; show (14 : Nat) ≤ 64; decide), HZ.out])
    have HLC := Lib.hid (lay_cat zr ([(1, 75), (1, 82)] ++ [rm, rn, rp].map fun z => (4, z)) 14 1 [(na : Int), (nb : Int)] rfl (by rw [HZ.out]; show (16 : Nat) ≤ 64; decide))
    have HFS : Hid (([(1, 75), (1, 82)] ++ [rm, rn, rp].map fun z => (4, z)) ++ [(na : Int), (nb : Int)].map (fun z => (1, z)) = rcFs ⟨rm, rn, rp, its, bl⟩) := Lib.hid (by unfold rcFs; rw [HL.out, HLB.out]; rfl)
    generalize lay zr 0 (cat ([(1, 75), (1, 82)] ++ [rm, rn, rp].map fun z => (4, z))) = X2 at *
    have x3 := HS.out.box.cell 3 (by simp)
    have x4 := HS.out.box.cell 4 (by simp)
    simp only [List.getElem_cons_zero, List.getElem_cons_succ] at x3 x4
    go_wp2_with fail
    refine (put_any p g 14 X2 1 _ 2 2 [(na : Int), (nb : Int)] _ (by exact HS.out.row.alloc _) (by exact ins_built _ [(na : Int), (nb : Int)] _ 2 rfl (by omega)) (by exact ne_built HS.out.row) (by decide) (by rw [HX.out]; omega) HF2.out).mono ?_
    rintro e w6 ⟨rfl, hr, hO⟩
    have hO' := ((Only.refl [p, g] w5).alloc (.cells ([(na : Int), (nb : Int)].map (Value.int .i64)).toArray 3)).trans' hO
    have HIBn := Lib.hid (HIB.out.keepP hO' (fun h0 a ha => by have := HNE.out h0 a ha; simp [this.1, this.2]))
    rw [HLC.out, HFS.out] at hr
    have HSn : Hid (Encs w w6 p g 16 b (lay zr 0 (cat (rcFs ⟨rm, rn, rp, its, bl⟩))) [.int .i64 rm, .int .i64 rn, .int .i64 rp, .slice A na ca, .slice B nb cb]) := Lib.hid ((HS.out.alloc _).put hr hO)
    clear hr hO hO' HS HIB HX
    have HS := HSn
    have HIB := HIBn
    clear HSn HIBn
    clear HLC HFS x3 x4
    have hcl16 : (cat (rcFs ⟨rm, rn, rp, its, bl⟩)).length = 16 := rcFs_len _
    have HX : Hid ((lay zr 0 (cat (rcFs ⟨rm, rn, rp, its, bl⟩))).length = 64) := Lib.hid (by rw [lay_length _ _ _ (by rw [hcl16, HZ.out]; decide), HZ.out])
    have HLI : Hid (lay (lay zr 0 (cat (rcFs ⟨rm, rn, rp, its, bl⟩))) 16 (itsB its) = rcHead ⟨rm, rn, rp, its, bl⟩ ++ List.replicate 4 0) := Lib.hid (by
      have e := lay_lay zr 0 (cat (rcFs ⟨rm, rn, rp, its, bl⟩)) (itsB its) (by rw [hcl16, HLL.out, HZ.out]; omega)
      rw [hcl16, Nat.zero_add] at e
      rw [e]
      exact HRW.out)
    clear hcl16
    generalize lay zr 0 (cat (rcFs ⟨rm, rn, rp, its, bl⟩)) = X3 at *
    go_wp2_with fail
    refine (lay_any p g 16 X3 A2 L c2 (itsB its) _ (by exact HS.out.row) (by exact HIB.out) (by rw [HX.out]; omega)).mono ?_
    rintro e w7 ⟨rfl, hr, hO⟩
    rw [HLI.out] at hr
    have hl60 := rcHead_length (r := ⟨rm, rn, rp, its, bl⟩) HM5.out
    have HRS := Lib.hid (rc_sum (r := ⟨rm, rn, rp, its, bl⟩) HM5.out (rcSum ⟨rm, rn, rp, its, bl⟩))
    have hs32 : rcSum ⟨rm, rn, rp, its, bl⟩ < 4294967296 := csum_lt _
    have hsm : csum (rcHead ⟨rm, rn, rp, its, bl⟩ :: bl).flatten = rcSum ⟨rm, rn, rp, its, bl⟩ := by rw [List.flatten_cons]; rfl
    have hrb : rcHead ⟨rm, rn, rp, its, bl⟩ ++ le 4 (rcSum ⟨rm, rn, rp, its, bl⟩) ++ bl.flatten = rcBytes ⟨rm, rn, rp, its, bl⟩ := by unfold rcBytes; rw [List.append_assoc]
    have hX4 : (rcHead ⟨rm, rn, rp, its, bl⟩ ++ List.replicate 4 0).length = 64 := by rw [List.length_append, hl60, List.length_replicate]
    have hT4 : (rcHead ⟨rm, rn, rp, its, bl⟩ ++ List.replicate 4 0).take 60 = rcHead ⟨rm, rn, rp, its, bl⟩ := List.take_left' hl60
    have HSn : Hid (Encs w w7 p g (16 + L) b (rcHead ⟨rm, rn, rp, its, bl⟩ ++ List.replicate 4 0) [.int .i64 rm, .int .i64 rn, .int .i64 rp, .slice A na ca, .slice B nb cb]) := Lib.hid (HS.out.put hr hO)
    clear hr hO HS HIB HX HLI
    have HS := HSn
    clear HSn
    have HX4 := Lib.hid hX4
    have HT4 := Lib.hid hT4
    have HL60 := Lib.hid hl60
    clear hX4 hT4 hl60
    rw [← HT4.out] at hsm
    have hrl := rcBytes_length (r := ⟨rm, rn, rp, its, bl⟩) HM.out
    have HENC : Hid (encRc ⟨rm, rn, rp, its, bl⟩ = some (rcBytes ⟨rm, rn, rp, its, bl⟩, rcSum ⟨rm, rn, rp, its, bl⟩)) := Lib.hid (enc_rc HM.out)
    generalize rcSum ⟨rm, rn, rp, its, bl⟩ = s at *
    generalize rcBytes ⟨rm, rn, rp, its, bl⟩ = RB at *
    have HSM := Lib.hid hsm
    have HRB := Lib.hid hrb
    have HRL := Lib.hid hrl
    clear hsm hrb hrl
    generalize rcHead ⟨rm, rn, rp, its, bl⟩ ++ List.replicate 4 0 = X4 at *
    go_wp2_with fail
    have hsub : (44 : Int) - (L : Int) = ((44 - L : Nat) : Int) := by omega
    rw [hsub]
    refine (take_any p g (16 + L) X4 (44 - L) _ (by exact HS.out.row) (by rw [HX4.out]; omega)).mono ?_
    rintro e w8 ⟨A8, c8, rfl, hc8, hm8, hpos8, hr, hO⟩
    rw [show 16 + L + (44 - L) = 60 from by omega] at hr
    have HSn : Hid (Encs w w8 p g 60 b X4 [.int .i64 rm, .int .i64 rn, .int .i64 rp, .slice A na ca, .slice B nb cb]) := Lib.hid (HS.out.put hr (hO.mono (by simp)))
    clear hr hO hpos8 hc8 hm8 hsub HS
    have HS := HSn
    clear HSn
    obtain ⟨i0, hi0, hz0, hz1, hz2⟩ := info_parts Try.infoBys
    go_wp2_with fail
    obtain ⟨sl, hrow0, hbls0⟩ := HJ.out
    have HRO0 := Lib.hid hrow0
    have HBL0 := Lib.hid hbls0
    clear hrow0 hbls0
    have HSd : Hid (Encs w (w8).drew p g 60 b X4 [.int .i64 rm, .int .i64 rn, .int .i64 rp, .slice A na ca, .slice B nb cb]) := Lib.hid HS.out.drew
    clear HS
    refine wp_region_held_drew (S := (fun w' => w'.cell? ⟨b, 4, none⟩ = some (.slice B nb cb))) (by kernel_rfl) (HSd.out.box.cell 4 (by simp)) (fun hSw0 => ?_)
    refine wpAnyH_take (i := 0) (oi := ⟨some 48, _, _, _, _, _⟩) (v := ?_) rfl (by kernel_rfl) (by kernel_rfl) (by kernel_rfl) (fun _ _ _ h => h) (Or.inl ⟨by rfl, ?_⟩) (by assumption) ?_
    rotate_left
    · intro w hSw
      (try dsimp only at hSw)
      go_simp
      all_goals (try with_reducible rfl)
    (try simp only [Act.put, List.setIfInBounds_toArray, List.set_cons_zero, List.set_cons_succ])
    refine wpAnyH_take (i := 4) (oi := ⟨some 52, _, _, _, _, _⟩) (v := ?_) rfl (by kernel_rfl) (by kernel_rfl) (by kernel_rfl) (fun _ _ _ h => h) (Or.inl ⟨by rfl, ?_⟩) (by assumption) ?_
    rotate_left
    · intro w hSw
      (try dsimp only at hSw)
      go_simp
      all_goals (try with_reducible rfl)
    (try simp only [Act.put, List.setIfInBounds_toArray, List.set_cons_zero, List.set_cons_succ])
    refine wpAnyH_take (i := 5) (oi := ⟨some 53, _, _, _, _, _⟩) (v := ?_) rfl (by kernel_rfl) (by kernel_rfl) (by kernel_rfl) (fun _ _ _ h => h) (Or.inl ⟨by rfl, ?_⟩) (by assumption) ?_
    rotate_left
    · intro w hSw
      (try dsimp only at hSw)
      go_simp
      all_goals (try with_reducible rfl)
    (try simp only [Act.put, List.setIfInBounds_toArray, List.set_cons_zero, List.set_cons_succ])
    refine wpAnyH_ready (rs := [1]) (by kernel_rfl) (by simp) ?_
    refine AllReadyH.cons (o := ⟨some 49, _, _, _, _, _⟩) rfl (fun K hK => ?_) AllReadyH.nil
    go_simp
    refine (bytes_any p g 60 X4 _ (by exact HSd.out.row)).mono ?_
    rintro en va ⟨A9, c9, rfl, hc9, hm9, hpos9, hO⟩
    obtain ⟨g9, rfl, hg9, ho9⟩ := hpos9 (by rw [HX4.out]; decide)
    rw [HX4.out] at hc9 ⊢
    have HSe := Lib.hid (HSd.out.keep hO)
    have HO9 := Lib.hid ho9
    have hgl9 := ho9.lt
    have hm9c := hm9
    unfold maxLen at hm9c
    have hc9i : (60 : Int) ≤ (c9 : Int) := by omega
    clear hO ho9 hpos9 HSd
    refine hK.out _ _ (HSe.out.box.cell 4 (by simp)) (fun hSn => ?_)
    clear hK K hSw0
    have hSw0 := hSn
    clear hSn
    (try simp only [Act.put, List.setIfInBounds_toArray, List.set_cons_zero, List.set_cons_succ])
    refine wpAnyH_take (i := 2) (oi := ⟨some 50, _, _, _, _, _⟩) (v := ?_) rfl (by kernel_rfl) (by kernel_rfl) (by kernel_rfl) (fun _ _ _ h => h) (Or.inl ⟨by rfl, ?_⟩) (by assumption) ?_
    rotate_left
    · intro w hSw
      (try dsimp only at hSw)
      go_simp
      all_goals (try with_reducible rfl)
    (try simp only [Act.put, List.setIfInBounds_toArray, List.set_cons_zero, List.set_cons_succ])
    refine wpAnyH_ready (rs := [3]) (by kernel_rfl) (by simp) ?_
    refine AllReadyH.cons (o := ⟨some 51, _, _, _, _, _⟩) rfl (fun K hK => ?_) AllReadyH.nil
    go_simp
    have HSf := Lib.hid (HSe.out.alloc (.cells #[.slice (some ⟨g9, 0, none⟩) 60 c9] 35))
    have HO9f := Lib.hid (HO9.out.alloc (.cells #[.slice (some ⟨g9, 0, none⟩) 60 c9] 35))
    have HOWf : Hid ((va.alloc (.cells #[.slice (some ⟨g9, 0, none⟩) 60 c9] 35)).ownsRow va.heap.size 35 1 (.slice (some ⟨va.heap.size, 0, none⟩) 1 1) 1 ([(some ⟨g9, 0, none⟩, 60, c9)].map slv)) := Lib.hid (ownsRow_built va 35 [.slice (some ⟨g9, 0, none⟩) 60 c9] 1 rfl (by simp [maxLen]))
    have hvsz : va.heap.size ≤ (va.alloc (.cells #[.slice (some ⟨g9, 0, none⟩) 60 c9] 35)).heap.size := by simp
    have hwa := HSe.out.only.size
    have hlb := HSe.out.box.lt
    have hlp := HSe.out.row.lp
    have hlg := HSe.out.row.lg
    generalize hvz : va.heap.size = vz at *
    generalize hvb : (va.alloc (.cells #[.slice (some ⟨g9, 0, none⟩) 60 c9] 35)) = vb at *
    clear hvb hvz
    clear HSe HO9
    refine hK.out _ _ (HSf.out.box.cell 4 (by simp)) (fun hSn => ?_)
    clear hK K hSw0
    have hSw0 := hSn
    clear hSn
    (try simp only [Act.put, List.setIfInBounds_toArray, List.set_cons_zero, List.set_cons_succ])
    refine wpAnyH_ready (rs := [6]) (by kernel_rfl) (by simp) ?_
    refine AllReadyH.cons (o := ⟨some 54, _, _, _, _, _⟩) rfl (fun K hK => ?_) AllReadyH.nil
    refine step_append_row1 rfl (.tmp 51) (.tmp 53) 45 rfl vz 35 i0 _ 24 Try.underlying45 hi0 hz0 hz1 hz2 rfl (.slice (some ⟨vz, 0, none⟩) 1 1) 1 _ rfl HOWf.out B nb cb (sl.map slv) rfl (HRO0.out.keep0 HSf.out.only) (slv_one sl) (by unfold maxLen; omega) (by omega) hvsz ?_
    intro v' vc hown hgrow _
    have hS : Only [vz] vb vc := (Only.refl _ _).grown hgrow fun q hq => .inl (by simp [Value.ownBlock] at hq; simp [hq])
    have HSg := Lib.hid (HSf.out.keepS hS (by simp; omega) (by simp; omega) (by simp; omega) (by simp; omega))
    have hO9g := HO9f.out.keep hS (by simp; omega)
    have hb0 : Bys vc (some ⟨g9, 0, none⟩) 60 c9 (X4.take 60) := Row1.of_Own (show Own vc g9 (bvs (X4.take 60)) by have := hO9g.take 60; rwa [show (bvs X4).take 60 = bvs (X4.take 60) from by simp [bvs, List.map_take]] at this) (by rw [bvs_length, List.length_take, HX4.out]; decide) (by omega) hm9
    obtain ⟨A5, c5, rfl, hbk⟩ := blks_of_owns (sl := (some ⟨g9, 0, none⟩, 60, c9) :: sl) hown ((HBL0.out.keep0 HSg.out.only).cons hb0) (Nat.le_trans hvsz hS.size)
    have HBK := Lib.hid hbk
    clear hbk hb0 hO9g hS hown hgrow HOWf HO9f HSf hvsz hlb hlp hlg hwa
    refine hK.out _ _ (HSg.out.box.cell 4 (by simp)) (fun hSn => ?_)
    clear hK K hSw0
    have hSw0 := hSn
    clear hSn
    (try simp only [Act.put, List.setIfInBounds_toArray, List.set_cons_zero, List.set_cons_succ])
    refine wpAnyH_ready (rs := [7]) (by kernel_rfl) (by simp) ?_
    refine AllReadyH.cons (o := ⟨some 55, _, _, _, _, _⟩) rfl (fun K hK => ?_) AllReadyH.nil
    go_simp
    refine (crc_sum_blks A5 (1 + nb) c5 _ _ (by exact HBK.out)).mono ?_
    rintro en vd ⟨rfl, hO⟩
    rw [HSM.out]
    have HSh := Lib.hid (HSg.out.keep hO)
    clear hO HSg HBK
    refine hK.out _ _ (HSh.out.box.cell 4 (by simp)) (fun hSn => ?_)
    clear hK K hSw0
    have hSw0 := hSn
    clear hSn
    (try simp only [Act.put, List.setIfInBounds_toArray, List.set_cons_zero, List.set_cons_succ])
    refine wpAnyH_take (i := 8) (oi := ⟨some 8, _, _, _, _, _⟩) (v := ?_) rfl (by kernel_rfl) (by kernel_rfl) (by kernel_rfl) (fun _ _ _ h => h) (Or.inl ⟨by rfl, ?_⟩) (by assumption) ?_
    rotate_left
    · intro w hSw
      (try dsimp only at hSw)
      go_simp
      all_goals (try with_reducible rfl)
    (try simp only [Act.put, List.setIfInBounds_toArray, List.set_cons_zero, List.set_cons_succ])
    refine wpAnyH_done (by kernel_rfl) ?_ _
    clear hSw0
    have HF3 : Hid (Fit 4 [(s : Int)]) := Lib.hid (by simp only [fit_cons, fit_nil, Int.reducePow, and_true]; omega)
    go_wp2_with fail
    refine (put_any p g 60 X4 4 _ 1 1 [(s : Int)] _ (by exact HSh.out.row.alloc _) (by exact ins_built _ [(s : Int)] _ 1 rfl (by omega)) (by exact ne_built HSh.out.row) (by decide) (by rw [HX4.out]; omega) HF3.out).mono ?_
    rintro e wf ⟨rfl, hr, hO⟩
    rw [les_one, Int.toNat_natCast, HRS.out] at hr
    have HS : Hid (Encs w wf p g 64 b (rcHead ⟨rm, rn, rp, its, bl⟩ ++ le 4 s) [.int .i64 rm, .int .i64 rn, .int .i64 rp, .slice A na ca, .slice B nb cb]) := Lib.hid ((HSh.out.alloc _).put hr hO)
    have hX5 : (rcHead ⟨rm, rn, rp, its, bl⟩ ++ le 4 s).length = 64 := by rw [List.length_append, HL60.out, le_length]
    have HX5 := Lib.hid hX5
    clear hr hO HSh hX5 HF3 HRS HL60
    generalize rcHead ⟨rm, rn, rp, its, bl⟩ ++ le 4 s = X5 at *
    have hfl : (X5 :: bl).flatten = RB := by rw [List.flatten_cons]; exact HRB.out
    have HFL := Lib.hid hfl
    clear hfl
    go_wp2_with fail
    have HSd : Hid (Encs w (wf).drew p g 64 b X5 [.int .i64 rm, .int .i64 rn, .int .i64 rp, .slice A na ca, .slice B nb cb]) := Lib.hid HS.out.drew
    clear HS
    refine wp_region_held_drew (S := (fun w' => w'.cell? ⟨b, 4, none⟩ = some (.slice B nb cb))) (by kernel_rfl) (HSd.out.box.cell 4 (by simp)) (fun hSw0 => ?_)
    refine wpAnyH_take (i := 0) (oi := ⟨some 60, _, _, _, _, _⟩) (v := ?_) rfl (by kernel_rfl) (by kernel_rfl) (by kernel_rfl) (fun _ _ _ h => h) (Or.inl ⟨by rfl, ?_⟩) (by assumption) ?_
    rotate_left
    · intro w hSw
      (try dsimp only at hSw)
      go_simp
      all_goals (try with_reducible rfl)
    (try simp only [Act.put, List.setIfInBounds_toArray, List.set_cons_zero, List.set_cons_succ])
    refine wpAnyH_take (i := 3) (oi := ⟨some 63, _, _, _, _, _⟩) (v := ?_) rfl (by kernel_rfl) (by kernel_rfl) (by kernel_rfl) (fun _ _ _ h => h) (Or.inl ⟨by rfl, ?_⟩) (by assumption) ?_
    rotate_left
    · intro w hSw
      (try dsimp only at hSw)
      go_simp
      all_goals (try with_reducible rfl)
    (try simp only [Act.put, List.setIfInBounds_toArray, List.set_cons_zero, List.set_cons_succ])
    refine wpAnyH_take (i := 4) (oi := ⟨some 64, _, _, _, _, _⟩) (v := ?_) rfl (by kernel_rfl) (by kernel_rfl) (by kernel_rfl) (fun _ _ _ h => h) (Or.inl ⟨by rfl, ?_⟩) (by assumption) ?_
    rotate_left
    · intro w hSw
      (try dsimp only at hSw)
      go_simp
      all_goals (try with_reducible rfl)
    (try simp only [Act.put, List.setIfInBounds_toArray, List.set_cons_zero, List.set_cons_succ])
    refine wpAnyH_take (i := 7) (oi := ⟨some 67, _, _, _, _, _⟩) (v := ?_) rfl (by kernel_rfl) (by kernel_rfl) (by kernel_rfl) (fun _ _ _ h => h) (Or.inl ⟨by rfl, ?_⟩) (by assumption) ?_
    rotate_left
    · intro w hSw
      (try dsimp only at hSw)
      go_simp
      all_goals (try with_reducible rfl)
    (try simp only [Act.put, List.setIfInBounds_toArray, List.set_cons_zero, List.set_cons_succ])
    refine wpAnyH_ready (rs := [1]) (by kernel_rfl) (by simp) ?_
    refine AllReadyH.cons (o := ⟨some 61, _, _, _, _, _⟩) rfl (fun K hK => ?_) AllReadyH.nil
    go_simp
    refine (bytes_any p g 64 X5 _ (by exact HSd.out.row)).mono ?_
    rintro en va ⟨A9, c9, rfl, hc9, hm9, hpos9, hO⟩
    obtain ⟨g9, rfl, hg9, ho9⟩ := hpos9 (by rw [HX5.out]; decide)
    rw [HX5.out] at hc9 ⊢
    have HSe := Lib.hid (HSd.out.keep hO)
    have HO9 := Lib.hid ho9
    have hgl9 := ho9.lt
    have hm9c := hm9
    unfold maxLen at hm9c
    have hc9i : (60 : Int) ≤ (c9 : Int) := by omega
    clear hO ho9 hpos9 HSd
    refine hK.out _ _ (HSe.out.box.cell 4 (by simp)) (fun hSn => ?_)
    clear hK K hSw0
    have hSw0 := hSn
    clear hSn
    (try simp only [Act.put, List.setIfInBounds_toArray, List.set_cons_zero, List.set_cons_succ])
    refine wpAnyH_ready (rs := [2]) (by kernel_rfl) (by simp) ?_
    refine AllReadyH.cons (o := ⟨some 62, _, _, _, _, _⟩) rfl (fun K hK => ?_) AllReadyH.nil
    go_simp
    have HSf := Lib.hid (HSe.out.alloc (.cells #[.slice (some ⟨g9, 0, none⟩) 64 c9] 35))
    have HO9f := Lib.hid (HO9.out.alloc (.cells #[.slice (some ⟨g9, 0, none⟩) 64 c9] 35))
    have HOWf : Hid ((va.alloc (.cells #[.slice (some ⟨g9, 0, none⟩) 64 c9] 35)).ownsRow va.heap.size 35 1 (.slice (some ⟨va.heap.size, 0, none⟩) 1 1) 1 ([(some ⟨g9, 0, none⟩, 64, c9)].map slv)) := Lib.hid (ownsRow_built va 35 [.slice (some ⟨g9, 0, none⟩) 64 c9] 1 rfl (by simp [maxLen]))
    have hvsz : va.heap.size ≤ (va.alloc (.cells #[.slice (some ⟨g9, 0, none⟩) 64 c9] 35)).heap.size := by simp
    have hwa := HSe.out.only.size
    have hlb := HSe.out.box.lt
    have hlp := HSe.out.row.lp
    have hlg := HSe.out.row.lg
    generalize hvz : va.heap.size = vz at *
    generalize hvb : (va.alloc (.cells #[.slice (some ⟨g9, 0, none⟩) 64 c9] 35)) = vb at *
    clear hvb hvz
    clear HSe HO9
    refine hK.out _ _ (HSf.out.box.cell 4 (by simp)) (fun hSn => ?_)
    clear hK K hSw0
    have hSw0 := hSn
    clear hSn
    (try simp only [Act.put, List.setIfInBounds_toArray, List.set_cons_zero, List.set_cons_succ])
    refine wpAnyH_ready (rs := [5]) (by kernel_rfl) (by simp) ?_
    refine AllReadyH.cons (o := ⟨some 65, _, _, _, _, _⟩) rfl (fun K hK => ?_) AllReadyH.nil
    refine step_append_row1 rfl (.tmp 62) (.tmp 64) 45 rfl vz 35 i0 _ 24 Try.underlying45 hi0 hz0 hz1 hz2 rfl (.slice (some ⟨vz, 0, none⟩) 1 1) 1 _ rfl HOWf.out B nb cb (sl.map slv) rfl (HRO0.out.keep0 HSf.out.only) (slv_one sl) (by unfold maxLen; omega) (by omega) hvsz ?_
    intro v' vc hown hgrow _
    have hS : Only [vz] vb vc := (Only.refl _ _).grown hgrow fun q hq => .inl (by simp [Value.ownBlock] at hq; simp [hq])
    have HSg := Lib.hid (HSf.out.keepS hS (by simp; omega) (by simp; omega) (by simp; omega) (by simp; omega))
    have hO9g := HO9f.out.keep hS (by simp; omega)
    have hb0 : Bys vc (some ⟨g9, 0, none⟩) 64 c9 X5 := Row1.of_Own hO9g (by rw [bvs_length, HX5.out]) hc9 hm9
    obtain ⟨A5, c5, rfl, hbk⟩ := blks_of_owns (sl := (some ⟨g9, 0, none⟩, 64, c9) :: sl) hown ((HBL0.out.keep0 HSg.out.only).cons hb0) (Nat.le_trans hvsz hS.size)
    have HBK := Lib.hid hbk
    clear hbk hb0 hO9g hS hown hgrow HOWf HO9f HSf hvsz hlb hlp hlg hwa
    refine hK.out _ _ (HSg.out.box.cell 4 (by simp)) (fun hSn => ?_)
    clear hK K hSw0
    have hSw0 := hSn
    clear hSn
    (try simp only [Act.put, List.setIfInBounds_toArray, List.set_cons_zero, List.set_cons_succ])
    refine wpAnyH_ready (rs := [6]) (by kernel_rfl) (by simp) ?_
    refine AllReadyH.cons (o := ⟨some 66, _, _, _, _, _⟩) rfl (fun K hK => ?_) AllReadyH.nil
    go_simp
    refine (concat_any A5 (1 + nb) c5 (X5 :: bl) _ (by exact HBK.out) (by rw [HFL.out, HRL.out]; have := HLB.out; omega)).mono ?_
    rintro en vd ⟨A10, c10, rfl, hc10, hm10, hpos10, hO⟩
    rw [HFL.out] at hc10 hpos10 ⊢
    obtain ⟨g10, rfl, hg10, ho10⟩ := hpos10 (by rw [HRL.out]; omega)
    have hgg := HSg.out.only.size
    have HOA := Lib.hid ho10
    have HSh := Lib.hid (HSg.out.keep hO)
    clear hO ho10 hpos10 HSg HBK
    refine hK.out _ _ (HSh.out.box.cell 4 (by simp)) (fun hSn => ?_)
    clear hK K hSw0
    have hSw0 := hSn
    clear hSn
    (try simp only [Act.put, List.setIfInBounds_toArray, List.set_cons_zero, List.set_cons_succ])
    refine wpAnyH_take (i := 8) (oi := ⟨some 2, _, _, _, _, _⟩) (v := ?_) rfl (by kernel_rfl) (by kernel_rfl) (by kernel_rfl) (fun _ _ _ h => h) (Or.inl ⟨by rfl, ?_⟩) (by assumption) ?_
    rotate_left
    · intro w hSw
      (try dsimp only at hSw)
      go_simp
      all_goals (try with_reducible rfl)
    (try simp only [Act.put, List.setIfInBounds_toArray, List.set_cons_zero, List.set_cons_succ])
    refine wpAnyH_take (i := 9) (oi := ⟨some 3, _, _, _, _, _⟩) (v := ?_) rfl (by kernel_rfl) (by kernel_rfl) (by kernel_rfl) (fun _ _ _ h => h) (Or.inl ⟨by rfl, ?_⟩) (by assumption) ?_
    rotate_left
    · intro w hSw
      (try dsimp only at hSw)
      go_simp
      all_goals (try with_reducible rfl)
    (try simp only [Act.put, List.setIfInBounds_toArray, List.set_cons_zero, List.set_cons_succ])
    refine wpAnyH_take (i := 10) (oi := ⟨some 4, _, _, _, _, _⟩) (v := ?_) rfl (by kernel_rfl) (by kernel_rfl) (by kernel_rfl) (fun _ _ _ h => h) (Or.inl ⟨by rfl, ?_⟩) (by assumption) ?_
    rotate_left
    · intro w hSw
      (try dsimp only at hSw)
      go_simp
      all_goals (try with_reducible rfl)
    (try simp only [Act.put, List.setIfInBounds_toArray, List.set_cons_zero, List.set_cons_succ])
    refine wpAnyH_done (by kernel_rfl) ?_ _
    clear hSw0
    go_wp2
    go_ret3
    exact .inr ⟨RB, s, g10, c10, HENC.out, rfl, hc10, hm10, Nat.le_trans hgg hg10, HOA.out, HSh.out.only⟩
end Go.Proofs.Ytoibehikojkoiaa
