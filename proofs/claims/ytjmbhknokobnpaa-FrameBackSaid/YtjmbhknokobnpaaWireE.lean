/- Contract of frame.Encode. Printed by mkwire2.py. -/
import Derived.Test.YtjmbhknokobnpaaWireN
import Derived.Test.YtjmbhknokobnpaaRefD
import Derived.Test.YtjmbhknokobnpaaCrcB
import Derived.Test.YtjmbhknokobnpaaItemB
set_option linter.unusedVariables false
set_option linter.unusedSimpArgs false
namespace Go.Kn
open Go Go.RowKit
def frZ (f : Fr) : List UInt8 := List.replicate (25 + f.data.length) 0
def frX1 (f : Fr) : List UInt8 := lay (frZ f) 0 (les 1 [75, 70, f.k])
def frX2 (f : Fr) : List UInt8 := lay (frX1 f) 3 (les 4 [f.v, f.s])
def frX3 (f : Fr) : List UInt8 := lay (frX2 f) 11 (les 1 [f.b, f.c])
def frX4 (f : Fr) : List UInt8 := lay (frX3 f) 13 (les 4 [f.e, f.d])
def frX5 (f : Fr) : List UInt8 := lay (frX4 f) 21 f.data
theorem frZ_length (f : Fr) : (frZ f).length = 25 + f.data.length := by simp [frZ]
theorem frX1_length (f : Fr) : (frX1 f).length = 25 + f.data.length := by unfold frX1; rw [lay_length _ _ _ (by rw [frZ_length]; simp; omega), frZ_length]
theorem frX2_length (f : Fr) : (frX2 f).length = 25 + f.data.length := by unfold frX2; rw [lay_length _ _ _ (by rw [frX1_length]; simp; omega), frX1_length]
theorem frX3_length (f : Fr) : (frX3 f).length = 25 + f.data.length := by unfold frX3; rw [lay_length _ _ _ (by rw [frX2_length]; simp; omega), frX2_length]
theorem frX4_length (f : Fr) : (frX4 f).length = 25 + f.data.length := by unfold frX4; rw [lay_length _ _ _ (by rw [frX3_length]; simp; omega), frX3_length]
theorem frX5_length (f : Fr) : (frX5 f).length = 25 + f.data.length := by unfold frX5; rw [lay_length _ _ _ (by rw [frX4_length]; omega), frX4_length]
theorem frX4_cat (f : Fr) : frX4 f = lay (frZ f) 0 (cat (frNums f)) := by
  unfold frX4 frX3 frX2 frX1
  rw [les_cat 1 [75, 70, f.k], lay_cat _ _ 3 4 _ rfl (by rw [frZ_length]; simp; omega), lay_cat _ _ 11 1 _ rfl (by rw [frZ_length]; simp; omega), lay_cat _ _ 13 4 _ rfl (by rw [frZ_length]; simp; omega)]
  rfl
theorem frX5_head (f : Fr) : frX5 f = frHead f ++ List.replicate 4 0 := by
  unfold frX5
  have e := lay_lay (frZ f) 0 (cat (frNums f)) f.data (by rw [frZ_length, cat_length, frNums_wid]; omega)
  rw [cat_length, frNums_wid, Nat.zero_add] at e
  rw [frX4_cat, e, lay_zero]
  have h : (frZ f).drop (cat (frNums f) ++ f.data).length = List.replicate 4 0 := by
    rw [List.length_append, cat_length, frNums_wid]
    unfold frZ
    rw [List.drop_replicate]
    congr 1
    omega
  rw [h]
  rfl
theorem frX5_sealed (f : Fr) : lay (frX5 f) (21 + f.data.length) (le 4 (csum ((frX5 f).take (21 + f.data.length)))) = frBytes f := by
  have hl : (frHead f).length = 21 + f.data.length := frHead_length f
  have ht : (frX5 f).take (21 + f.data.length) = frHead f := by rw [frX5_head, ← hl, List.take_left]
  rw [ht]
  unfold lay
  rw [ht, List.drop_eq_nil_of_le (by rw [frX5_length]; simp; omega), List.append_nil]
  rfl
end Go.Kn
namespace Go.Proofs.Ytjmbhknokobnpaa
open Go Go.RowKit Go.Kn

set_option maxRecDepth 100000 in
set_option maxHeartbeats 4000000 in
theorem frame_enc_own (k v s b c e d : Int) (A : Option Addr) (n cp : Nat) (xs : List UInt8) (w : World) (hi : Bys w A n cp xs) :
    Calls Try.prog 43 #[.agg #[.int .i64 k, .int .i64 v, .int .i64 s, .int .i64 b, .int .i64 c, .int .i64 e, .int .i64 d, .slice A n cp]] w (EncOwn w (encFr ⟨k, v, s, b, c, e, d, xs⟩)) := by
  have hlen := hi.len
  rw [bvs_length] at hlen
  cases hm : frMay ⟨k, v, s, b, c, e, d, xs⟩
  · have HM := Lib.hid hm
    have HI := Lib.hid hi
    clear hm hi hlen
    go_enter Try.func43, Try.ntmps43
    go_wp2_with fail
    refine (frame_may_any k v s b c e d A n cp xs _ (by exact HI.out.alloc _)).mono ?_
    rintro en w1 ⟨rfl, hO1⟩
    rw [HM.out]
    go_wp2
    go_ret2
    exact EncOwn.no (by unfold encFr; rw [HM.out]; rfl) (((Only.refl _ _).alloc _).trans' hO1)
  · have HM := Lib.hid hm
    have hbd := frMay_bounds hm
    dsimp only at hbd
    rw [hlen] at hbd
    have hn64 : n ≤ 64 := by omega
    have HF0 : Hid (Fit 1 [75, 70, k]) := Lib.hid (by simp only [fit_cons, fit_nil, Int.reducePow, and_true]; omega)
    have HF1 : Hid (Fit 4 [v, s]) := Lib.hid (by simp only [fit_cons, fit_nil, Int.reducePow, and_true]; omega)
    have HF2 : Hid (Fit 1 [b, c]) := Lib.hid (by simp only [fit_cons, fit_nil, Int.reducePow, and_true]; omega)
    have HF3 : Hid (Fit 4 [e, d]) := Lib.hid (by simp only [fit_cons, fit_nil, Int.reducePow, and_true]; omega)
    have HE : Hid (encFr ⟨k, v, s, b, c, e, d, xs⟩ = some (frBytes ⟨k, v, s, b, c, e, d, xs⟩)) := Lib.hid (fr_back hm).1
    have HL := Lib.hid hlen
    have HI := Lib.hid hi
    obtain ⟨f, hf⟩ : ∃ f : Fr, f = ⟨k, v, s, b, c, e, d, xs⟩ := ⟨_, rfl⟩
    have hfd : f.data.length = n := by rw [hf]; exact hlen
    have HFF := Lib.hid hf
    have HFD := Lib.hid hfd
    clear hm hbd hi hlen hf hfd
    go_enter Try.func43, Try.ntmps43
    go_wp2_with fail
    refine (frame_may_any k v s b c e d A n cp xs _ (by exact HI.out.alloc _)).mono ?_
    rintro en w1 ⟨rfl, hO1⟩
    rw [HM.out]
    have HB1 : Hid (Own w1 w.heap.size [.int .i64 k, .int .i64 v, .int .i64 s, .int .i64 b, .int .i64 c, .int .i64 e, .int .i64 d, .slice A n cp]) := Lib.hid ((Own.new w #[.int .i64 k, .int .i64 v, .int .i64 s, .int .i64 b, .int .i64 c, .int .i64 e, .int .i64 d, .slice A n cp] 64).keep0 hO1)
    have HO1 := Lib.hid (((Only.refl [] w).alloc (.cells #[.int .i64 k, .int .i64 v, .int .i64 s, .int .i64 b, .int .i64 c, .int .i64 e, .int .i64 d, .slice A n cp] 64)).trans' hO1)
    have hx7 : w1.cell? ⟨w.heap.size, 7, none⟩ = some (.slice A n cp) := HB1.out.cell 7 (by simp)
    have hbl : w.heap.size < w1.heap.size := HB1.out.lt
    clear hO1
    go_wp2_with fail
    refine (new_any (21 + (n : Int) + 4) _ (by omega) (by omega)).mono ?_
    rintro en w2 ⟨p, g, rfl, hp, hg, hr, hO⟩
    have hz : List.replicate (21 + (n : Int) + 4).toNat (0 : UInt8) = frZ f := by
      unfold frZ
      rw [HFD.out]
      congr 1
      omega
    rw [hz] at hr
    have HS : Hid (Encs w w2 p g 0 w.heap.size (frZ f) [.int .i64 k, .int .i64 v, .int .i64 s, .int .i64 b, .int .i64 c, .int .i64 e, .int .i64 d, .slice A n cp]) := Lib.hid (Encs.start HB1.out HO1.out hp hg hr hO)
    clear hr hO hz HB1 hx7
    have x0 := HS.out.box.cell 0 (by simp)
    have x1 := HS.out.box.cell 1 (by simp)
    have x2 := HS.out.box.cell 2 (by simp)
    have x3 := HS.out.box.cell 3 (by simp)
    have x4 := HS.out.box.cell 4 (by simp)
    have x5 := HS.out.box.cell 5 (by simp)
    have x6 := HS.out.box.cell 6 (by simp)
    have x7 := HS.out.box.cell 7 (by simp)
    simp only [List.getElem_cons_zero, List.getElem_cons_succ] at x0 x1 x2 x3 x4 x5 x6 x7
    go_wp2_with fail
    refine (put_any p g 0 (frZ f) 1 _ 3 3 [75, 70, k] _ (by exact HS.out.row.alloc _) (by exact ins_built _ [75, 70, k] _ 3 rfl (by omega)) (by exact ne_built HS.out.row) (by decide) (by rw [frZ_length]; omega) HF0.out).mono ?_
    rintro en w3 ⟨rfl, hr, hO⟩
    have hxe : lay (frZ f) 0 (les 1 [75, 70, k]) = (frX1 f) := by unfold frX1; rw [HFF.out]
    rw [hxe] at hr
    have HS1 : Hid (Encs w w3 p g 3 w.heap.size (frX1 f) [.int .i64 k, .int .i64 v, .int .i64 s, .int .i64 b, .int .i64 c, .int .i64 e, .int .i64 d, .slice A n cp]) := Lib.hid ((HS.out.alloc _).put hr hO)
    clear hr hO hxe HS x0 x1 x2 x3 x4 x5 x6 x7
    have HS := HS1
    clear HS1
    have x0 := HS.out.box.cell 0 (by simp)
    have x1 := HS.out.box.cell 1 (by simp)
    have x2 := HS.out.box.cell 2 (by simp)
    have x3 := HS.out.box.cell 3 (by simp)
    have x4 := HS.out.box.cell 4 (by simp)
    have x5 := HS.out.box.cell 5 (by simp)
    have x6 := HS.out.box.cell 6 (by simp)
    have x7 := HS.out.box.cell 7 (by simp)
    simp only [List.getElem_cons_zero, List.getElem_cons_succ] at x0 x1 x2 x3 x4 x5 x6 x7
    go_wp2_with fail
    refine (put_any p g 3 (frX1 f) 4 _ 2 2 [v, s] _ (by exact HS.out.row.alloc _) (by exact ins_built _ [v, s] _ 2 rfl (by omega)) (by exact ne_built HS.out.row) (by decide) (by rw [frX1_length]; omega) HF1.out).mono ?_
    rintro en w4 ⟨rfl, hr, hO⟩
    have hxe : lay (frX1 f) 3 (les 4 [v, s]) = (frX2 f) := by unfold frX2; rw [HFF.out]
    rw [hxe] at hr
    have HS1 : Hid (Encs w w4 p g 11 w.heap.size (frX2 f) [.int .i64 k, .int .i64 v, .int .i64 s, .int .i64 b, .int .i64 c, .int .i64 e, .int .i64 d, .slice A n cp]) := Lib.hid ((HS.out.alloc _).put hr hO)
    clear hr hO hxe HS x0 x1 x2 x3 x4 x5 x6 x7
    have HS := HS1
    clear HS1
    have x0 := HS.out.box.cell 0 (by simp)
    have x1 := HS.out.box.cell 1 (by simp)
    have x2 := HS.out.box.cell 2 (by simp)
    have x3 := HS.out.box.cell 3 (by simp)
    have x4 := HS.out.box.cell 4 (by simp)
    have x5 := HS.out.box.cell 5 (by simp)
    have x6 := HS.out.box.cell 6 (by simp)
    have x7 := HS.out.box.cell 7 (by simp)
    simp only [List.getElem_cons_zero, List.getElem_cons_succ] at x0 x1 x2 x3 x4 x5 x6 x7
    go_wp2_with fail
    refine (put_any p g 11 (frX2 f) 1 _ 2 2 [b, c] _ (by exact HS.out.row.alloc _) (by exact ins_built _ [b, c] _ 2 rfl (by omega)) (by exact ne_built HS.out.row) (by decide) (by rw [frX2_length]; omega) HF2.out).mono ?_
    rintro en w5 ⟨rfl, hr, hO⟩
    have hxe : lay (frX2 f) 11 (les 1 [b, c]) = (frX3 f) := by unfold frX3; rw [HFF.out]
    rw [hxe] at hr
    have HS1 : Hid (Encs w w5 p g 13 w.heap.size (frX3 f) [.int .i64 k, .int .i64 v, .int .i64 s, .int .i64 b, .int .i64 c, .int .i64 e, .int .i64 d, .slice A n cp]) := Lib.hid ((HS.out.alloc _).put hr hO)
    clear hr hO hxe HS x0 x1 x2 x3 x4 x5 x6 x7
    have HS := HS1
    clear HS1
    have x0 := HS.out.box.cell 0 (by simp)
    have x1 := HS.out.box.cell 1 (by simp)
    have x2 := HS.out.box.cell 2 (by simp)
    have x3 := HS.out.box.cell 3 (by simp)
    have x4 := HS.out.box.cell 4 (by simp)
    have x5 := HS.out.box.cell 5 (by simp)
    have x6 := HS.out.box.cell 6 (by simp)
    have x7 := HS.out.box.cell 7 (by simp)
    simp only [List.getElem_cons_zero, List.getElem_cons_succ] at x0 x1 x2 x3 x4 x5 x6 x7
    go_wp2_with fail
    refine (put_any p g 13 (frX3 f) 4 _ 2 2 [e, d] _ (by exact HS.out.row.alloc _) (by exact ins_built _ [e, d] _ 2 rfl (by omega)) (by exact ne_built HS.out.row) (by decide) (by rw [frX3_length]; omega) HF3.out).mono ?_
    rintro en w6 ⟨rfl, hr, hO⟩
    have hxe : lay (frX3 f) 13 (les 4 [e, d]) = (frX4 f) := by unfold frX4; rw [HFF.out]
    rw [hxe] at hr
    have HS1 : Hid (Encs w w6 p g 21 w.heap.size (frX4 f) [.int .i64 k, .int .i64 v, .int .i64 s, .int .i64 b, .int .i64 c, .int .i64 e, .int .i64 d, .slice A n cp]) := Lib.hid ((HS.out.alloc _).put hr hO)
    clear hr hO hxe HS x0 x1 x2 x3 x4 x5 x6 x7
    have HS := HS1
    clear HS1
    have x0 := HS.out.box.cell 0 (by simp)
    have x1 := HS.out.box.cell 1 (by simp)
    have x2 := HS.out.box.cell 2 (by simp)
    have x3 := HS.out.box.cell 3 (by simp)
    have x4 := HS.out.box.cell 4 (by simp)
    have x5 := HS.out.box.cell 5 (by simp)
    have x6 := HS.out.box.cell 6 (by simp)
    have x7 := HS.out.box.cell 7 (by simp)
    simp only [List.getElem_cons_zero, List.getElem_cons_succ] at x0 x1 x2 x3 x4 x5 x6 x7
    go_wp2_with fail
    refine (lay_any p g 21 (frX4 f) A n cp xs _ (by exact HS.out.row) (by exact HI.out.keep0 HS.out.only) (by rw [frX4_length, HFD.out]; omega)).mono ?_
    rintro en w7 ⟨rfl, hr, hO⟩
    have hxe : lay (frX4 f) 21 xs = frX5 f := by unfold frX5; rw [HFF.out]
    rw [hxe] at hr
    have HS1 : Hid (Encs w w7 p g (21 + n) w.heap.size (frX5 f) [.int .i64 k, .int .i64 v, .int .i64 s, .int .i64 b, .int .i64 c, .int .i64 e, .int .i64 d, .slice A n cp]) := Lib.hid (HS.out.put hr hO)
    clear hr hO hxe HS x0 x1 x2 x3 x4 x5 x6 x7
    have HS := HS1
    clear HS1
    have HLR : Hid ((frX5 f).length = 21 + n + 4) := Lib.hid (by rw [frX5_length, HFD.out]; omega)
    have hse := frX5_sealed f
    rw [HFD.out] at hse
    have HSE := Lib.hid hse
    have HE2 : Hid (encFr ⟨k, v, s, b, c, e, d, xs⟩ = some (frBytes f)) := Lib.hid (by rw [HE.out, HFF.out])
    have HBL : Hid ((frBytes f).length = 21 + n + 4) := Lib.hid (by rw [frBytes_length, HFD.out]; omega)
    clear hse
    generalize frX5 f = X at *
    generalize frBytes f = Y at *
    go_wp2_with fail
    refine (bytes_any p g (21 + n) X _ (by exact HS.out.row)).mono ?_
    rintro en w8 ⟨A4, c4, rfl, hc4, hm4, hpos4, hO4⟩
    obtain ⟨g4, rfl, hg4, ho4⟩ := hpos4 (by rw [HLR.out]; omega)
    rw [HLR.out] at hc4 ⊢
    have HO4 := Lib.hid (HS.out.only.trans' hO4)
    have HW4 := Lib.hid ho4
    have hgw : w.heap.size ≤ g4 := Nat.le_trans HS.out.only.size hg4
    clear hpos4 hO4 ho4 HS
    go_wp2_with fail
    refine (crc_seal_any g4 c4 X (21 + n) _ HLR.out hc4 hm4 (by exact HW4.out)).mono ?_
    rintro en w9 ⟨rfl, ho5, hO5⟩
    rw [HSE.out] at ho5
    have HO5 := Lib.hid (HO4.out.trans hO5 (by simpa using hgw) : Only [] w w9)
    have HW5 := Lib.hid ho5
    clear ho5 hO5
    go_wp2
    go_ret2
    exact EncOwn.yes HE2.out HBL.out hc4 hm4 hgw HW5.out HO5.out
theorem frame_enc_any (k v s b c e d : Int) (A : Option Addr) (n cp : Nat) (xs : List UInt8) (w : World) (hi : Bys w A n cp xs) :
    Calls Try.prog 43 #[.agg #[.int .i64 k, .int .i64 v, .int .i64 s, .int .i64 b, .int .i64 c, .int .i64 e, .int .i64 d, .slice A n cp]] w (EncSays w (encFr ⟨k, v, s, b, c, e, d, xs⟩)) :=
  (frame_enc_own k v s b c e d A n cp xs w hi).mono fun _ _ h => h.says
end Go.Proofs.Ytjmbhknokobnpaa
