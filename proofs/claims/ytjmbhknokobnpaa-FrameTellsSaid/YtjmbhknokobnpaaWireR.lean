/- Contract of the reference's FrameBytes. Printed by mkwire4.py. -/
import Derived.Test.YtjmbhknokobnpaaWireO
import Derived.Test.YtjmbhknokobnpaaWireE
import Derived.Test.YtjmbhknokobnpaaCrcC
import Derived.Deep.RegionHeld3
set_option linter.unusedVariables false
set_option linter.unusedSimpArgs false
namespace Go.Kn
open Go Go.RowKit
theorem byte_wrap (k : Int) (h : 0 ≤ k ∧ k < 256) : IntKind.u8.wrap k = ((UInt8.ofNat k.toNat).toNat : Int) := by
  rw [UInt8.toNat_ofNat']
  simp [IntKind.wrap, IntKind.signed, IntKind.bits]
  omega
end Go.Kn
namespace Go.Proofs.Ytjmbhknokobnpaa
open Go Go.RowKit Go.Kn

set_option maxRecDepth 100000 in
set_option maxHeartbeats 8000000 in
theorem ref_frame_enc_own (k v s b c e d : Int) (A : Option Addr) (n cp : Nat) (xs : List UInt8) (w : World) (hi : Bys w A n cp xs) :
    Calls Try.prog 44 #[.agg #[.int .i64 k, .int .i64 v, .int .i64 s, .int .i64 b, .int .i64 c, .int .i64 e, .int .i64 d, .slice A n cp]] w (EncOwn w (encFr ⟨k, v, s, b, c, e, d, xs⟩)) := by
  have hlen := hi.len
  rw [bvs_length] at hlen
  cases hm : frMay ⟨k, v, s, b, c, e, d, xs⟩
  · have HM := Lib.hid hm
    have HI := Lib.hid hi
    clear hm hi hlen
    go_enter Try.func44, Try.ntmps44
    go_wp2_with fail
    refine (ref_frame_may_any k v s b c e d A n cp xs _ (by exact HI.out.alloc _)).mono ?_
    rintro en w1 ⟨rfl, hO1⟩
    rw [HM.out]
    go_wp2
    go_ret2
    exact EncOwn.no (by unfold encFr; rw [HM.out]; rfl) (((Only.refl _ _).alloc _).trans' hO1)
  · have HM := Lib.hid hm
    have hbd := frMay_bounds hm
    dsimp only at hbd
    rw [hlen] at hbd
    have hn64 : n ≤ 64 := by omega
    have HF1 : Hid (Fit 4 [v, s]) := Lib.hid (by simp only [fit_cons, fit_nil, Int.reducePow, and_true]; omega)
    have HF2 : Hid (Fit 1 [b, c]) := Lib.hid (by simp only [fit_cons, fit_nil, Int.reducePow, and_true]; omega)
    have HF3 : Hid (Fit 4 [e, d]) := Lib.hid (by simp only [fit_cons, fit_nil, Int.reducePow, and_true]; omega)
    have HE : Hid (encFr ⟨k, v, s, b, c, e, d, xs⟩ = some (frBytes ⟨k, v, s, b, c, e, d, xs⟩)) := Lib.hid (fr_back hm).1
    have hkw := byte_wrap k hbd.1
    obtain ⟨kb, hkb⟩ : ∃ kb : UInt8, UInt8.ofNat k.toNat = kb := ⟨_, rfl⟩
    rw [hkb] at hkw
    obtain ⟨kz, hkz⟩ : ∃ z : Int, ((kb.toNat : Nat) : Int) = z := ⟨_, rfl⟩
    rw [hkz] at hkw
    have HKB : Hid (le 1 k.toNat = [kb]) := Lib.hid (by simp [le, hkb])
    have HKZ := Lib.hid hkz
    have HL := Lib.hid hlen
    have HI := Lib.hid hi
    obtain ⟨f, hf⟩ : ∃ f : Fr, f = ⟨k, v, s, b, c, e, d, xs⟩ := ⟨_, rfl⟩
    have hfd : f.data.length = n := by rw [hf]; exact hlen
    have HFF := Lib.hid hf
    have HFD := Lib.hid hfd
    clear hm hbd hi hlen hf hfd hkb hkz
    go_enter Try.func44, Try.ntmps44
    go_wp2_with fail
    refine (ref_frame_may_any k v s b c e d A n cp xs _ (by exact HI.out.alloc _)).mono ?_
    rintro en w1 ⟨rfl, hO1⟩
    rw [HM.out]
    have HB1 : Hid (Own w1 w.heap.size [.int .i64 k, .int .i64 v, .int .i64 s, .int .i64 b, .int .i64 c, .int .i64 e, .int .i64 d, .slice A n cp]) := Lib.hid ((Own.new w #[.int .i64 k, .int .i64 v, .int .i64 s, .int .i64 b, .int .i64 c, .int .i64 e, .int .i64 d, .slice A n cp] 64).keep0 hO1)
    have HO1 := Lib.hid (((Only.refl [] w).alloc (.cells #[.int .i64 k, .int .i64 v, .int .i64 s, .int .i64 b, .int .i64 c, .int .i64 e, .int .i64 d, .slice A n cp] 64)).trans' hO1)
    have hx7 : w1.cell? ⟨w.heap.size, 7, none⟩ = some (.slice A n cp) := HB1.out.cell 7 (by simp)
    have hbl : w.heap.size < w1.heap.size := HB1.out.lt
    clear hO1
    go_wp2_with fail
    refine (ref_new_any (25 + (n : Int)) _ (by omega) (by omega)).mono ?_
    rintro en w2 ⟨p, g, rfl, hp, hg, hr, hO⟩
    have hz : List.replicate (25 + (n : Int)).toNat (0 : UInt8) = frZ f := by
      unfold frZ
      rw [HFD.out]
      congr 1 <;> omega
    rw [hz] at hr
    have HS : Hid (Encs w w2 p g 0 w.heap.size (frZ f) [.int .i64 k, .int .i64 v, .int .i64 s, .int .i64 b, .int .i64 c, .int .i64 e, .int .i64 d, .slice A n cp]) := Lib.hid (Encs.start HB1.out HO1.out hp hg hr hO)
    clear hr hO hz HB1 hx7
    have x0 := HS.out.box.cell 0 (by simp)
    have x1 := HS.out.box.cell 1 (by simp)
    have x2 := HS.out.box.cell 2 (by simp)
    have x3 := HS.out.box.cell 3 (by simp)
    have x4 := HS.out.box.cell 4 (by simp)
    have x5 := HS.out.box.cell 5 (by simp)
    have x6 := HS.out.box.cell 6 (by simp)
    have x7 := HS.out.box.cell 7 (by simp)
    simp only [List.getElem_cons_zero, List.getElem_cons_succ] at x0 x1 x2 x3 x4 x5 x6 x7
    go_wp2_with fail
    have hb3 : Bys (w2.alloc (.cells #[.int .u8 75, .int .u8 70, .int .u8 kz] 5)) (some ⟨w2.heap.size, 0, none⟩) 3 3 [75, 70, kb] := by
      have h := Own.new w2 #[.int .u8 75, .int .u8 70, .int .u8 kz] 5
      rw [← HKZ.out] at h ⊢
      exact Row1.of_Own h (by simp) (Nat.le_refl _) (by simp [maxLen])
    have HB3 := Lib.hid hb3
    clear hb3
    refine (ref_lay_any p g 0 (frZ f) _ 3 3 [75, 70, kb] _ (by exact HS.out.row.alloc _) (by exact HB3.out) (by rw [frZ_length, HFD.out]; omega)).mono ?_
    rintro en w3 ⟨rfl, hr, hO⟩
    have hxe : lay (frZ f) 0 [75, 70, kb] = frX1 f := by
      unfold frX1
      rw [HFF.out]
      show lay _ 0 [75, 70, kb] = lay _ 0 (le 1 75 ++ (le 1 70 ++ (le 1 k.toNat ++ [])))
      rw [HKB.out]
      rfl
    rw [hxe] at hr
    have HS1 : Hid (Encs w w3 p g 3 w.heap.size (frX1 f) [.int .i64 k, .int .i64 v, .int .i64 s, .int .i64 b, .int .i64 c, .int .i64 e, .int .i64 d, .slice A n cp]) := Lib.hid ((HS.out.alloc _).put hr hO)
    clear hr hO hxe HS HB3 x0 x1 x2 x3 x4 x5 x6 x7
    have HS := HS1
    clear HS1
    have x0 := HS.out.box.cell 0 (by simp)
    have x1 := HS.out.box.cell 1 (by simp)
    have x2 := HS.out.box.cell 2 (by simp)
    have x3 := HS.out.box.cell 3 (by simp)
    have x4 := HS.out.box.cell 4 (by simp)
    have x5 := HS.out.box.cell 5 (by simp)
    have x6 := HS.out.box.cell 6 (by simp)
    have x7 := HS.out.box.cell 7 (by simp)
    simp only [List.getElem_cons_zero, List.getElem_cons_succ] at x0 x1 x2 x3 x4 x5 x6 x7
    go_wp2_with fail
    refine (ref_put_any p g 3 (frX1 f) 4 _ 2 2 [v, s] _ (by exact HS.out.row.alloc _) (by exact ins_built _ [v, s] _ 2 rfl (by omega)) (by exact ne_built HS.out.row) (by decide) (by rw [frX1_length]; omega) HF1.out).mono ?_
    rintro en w4 ⟨rfl, hr, hO⟩
    have hxe : lay (frX1 f) 3 (les 4 [v, s]) = (frX2 f) := by unfold frX2; rw [HFF.out]
    rw [hxe] at hr
    have HS1 : Hid (Encs w w4 p g 11 w.heap.size (frX2 f) [.int .i64 k, .int .i64 v, .int .i64 s, .int .i64 b, .int .i64 c, .int .i64 e, .int .i64 d, .slice A n cp]) := Lib.hid ((HS.out.alloc _).put hr hO)
    clear hr hO hxe HS x0 x1 x2 x3 x4 x5 x6 x7
    have HS := HS1
    clear HS1
    have x0 := HS.out.box.cell 0 (by simp)
    have x1 := HS.out.box.cell 1 (by simp)
    have x2 := HS.out.box.cell 2 (by simp)
    have x3 := HS.out.box.cell 3 (by simp)
    have x4 := HS.out.box.cell 4 (by simp)
    have x5 := HS.out.box.cell 5 (by simp)
    have x6 := HS.out.box.cell 6 (by simp)
    have x7 := HS.out.box.cell 7 (by simp)
    simp only [List.getElem_cons_zero, List.getElem_cons_succ] at x0 x1 x2 x3 x4 x5 x6 x7
    go_wp2_with fail
    refine (ref_put_any p g 11 (frX2 f) 1 _ 2 2 [b, c] _ (by exact HS.out.row.alloc _) (by exact ins_built _ [b, c] _ 2 rfl (by omega)) (by exact ne_built HS.out.row) (by decide) (by rw [frX2_length]; omega) HF2.out).mono ?_
    rintro en w5 ⟨rfl, hr, hO⟩
    have hxe : lay (frX2 f) 11 (les 1 [b, c]) = (frX3 f) := by unfold frX3; rw [HFF.out]
    rw [hxe] at hr
    have HS1 : Hid (Encs w w5 p g 13 w.heap.size (frX3 f) [.int .i64 k, .int .i64 v, .int .i64 s, .int .i64 b, .int .i64 c, .int .i64 e, .int .i64 d, .slice A n cp]) := Lib.hid ((HS.out.alloc _).put hr hO)
    clear hr hO hxe HS x0 x1 x2 x3 x4 x5 x6 x7
    have HS := HS1
    clear HS1
    have x0 := HS.out.box.cell 0 (by simp)
    have x1 := HS.out.box.cell 1 (by simp)
    have x2 := HS.out.box.cell 2 (by simp)
    have x3 := HS.out.box.cell 3 (by simp)
    have x4 := HS.out.box.cell 4 (by simp)
    have x5 := HS.out.box.cell 5 (by simp)
    have x6 := HS.out.box.cell 6 (by simp)
    have x7 := HS.out.box.cell 7 (by simp)
    simp only [List.getElem_cons_zero, List.getElem_cons_succ] at x0 x1 x2 x3 x4 x5 x6 x7
    go_wp2_with fail
    refine (ref_put_any p g 13 (frX3 f) 4 _ 2 2 [e, d] _ (by exact HS.out.row.alloc _) (by exact ins_built _ [e, d] _ 2 rfl (by omega)) (by exact ne_built HS.out.row) (by decide) (by rw [frX3_length]; omega) HF3.out).mono ?_
    rintro en w6 ⟨rfl, hr, hO⟩
    have hxe : lay (frX3 f) 13 (les 4 [e, d]) = (frX4 f) := by unfold frX4; rw [HFF.out]
    rw [hxe] at hr
    have HS1 : Hid (Encs w w6 p g 21 w.heap.size (frX4 f) [.int .i64 k, .int .i64 v, .int .i64 s, .int .i64 b, .int .i64 c, .int .i64 e, .int .i64 d, .slice A n cp]) := Lib.hid ((HS.out.alloc _).put hr hO)
    clear hr hO hxe HS x0 x1 x2 x3 x4 x5 x6 x7
    have HS := HS1
    clear HS1
    have x0 := HS.out.box.cell 0 (by simp)
    have x1 := HS.out.box.cell 1 (by simp)
    have x2 := HS.out.box.cell 2 (by simp)
    have x3 := HS.out.box.cell 3 (by simp)
    have x4 := HS.out.box.cell 4 (by simp)
    have x5 := HS.out.box.cell 5 (by simp)
    have x6 := HS.out.box.cell 6 (by simp)
    have x7 := HS.out.box.cell 7 (by simp)
    simp only [List.getElem_cons_zero, List.getElem_cons_succ] at x0 x1 x2 x3 x4 x5 x6 x7
    go_wp2_with fail
    refine (ref_lay_any p g 21 (frX4 f) A n cp xs _ (by exact HS.out.row) (by exact HI.out.keep0 HS.out.only) (by rw [frX4_length, HFD.out]; omega)).mono ?_
    rintro en w7 ⟨rfl, hr, hO⟩
    have hxe : lay (frX4 f) 21 xs = frX5 f := by unfold frX5; rw [HFF.out]
    rw [hxe] at hr
    have HS1 : Hid (Encs w w7 p g (21 + n) w.heap.size (frX5 f) [.int .i64 k, .int .i64 v, .int .i64 s, .int .i64 b, .int .i64 c, .int .i64 e, .int .i64 d, .slice A n cp]) := Lib.hid (HS.out.put hr hO)
    clear hr hO hxe HS x0 x1 x2 x3 x4 x5 x6 x7
    have HS := HS1
    clear HS1
    have HLR : Hid ((frX5 f).length = 25 + n) := Lib.hid (by rw [frX5_length, HFD.out])
    have hse := frX5_sealed f
    rw [HFD.out] at hse
    have HSE := Lib.hid hse
    have HE2 : Hid (encFr ⟨k, v, s, b, c, e, d, xs⟩ = some (frBytes f)) := Lib.hid (by rw [HE.out, HFF.out])
    have HBL : Hid ((frBytes f).length = 25 + n) := Lib.hid (by rw [frBytes_length, HFD.out])
    clear hse
    generalize frX5 f = X at *
    generalize frBytes f = Y at *
    obtain ⟨Ab, cb, hf0, hfb, hfA⟩ := row_bys HS.out.row
    have hA := hfA (by rw [HLR.out]; omega)
    subst hA
    have hfk := HS.out.row.fk
    have hcb := hfb.cm
    have hcl := hfb.le
    rw [HLR.out] at hf0 hfb hcl
    have HFB : Hid (Bys w7 (some ⟨g, 0, none⟩) (21 + n) cb (X.take (21 + n))) := Lib.hid (by
      have h1 := (HS.out.row.own (by rw [HLR.out]; omega)).take (21 + n)
      rw [show (bvs X).take (21 + n) = bvs (X.take (21 + n)) from by simp [bvs, List.map_take]] at h1
      exact Row1.of_Own h1 (by simp [HLR.out]) (by omega) hcb)
    have hcs := csum_lt (X.take (21 + n))
    obtain ⟨cs, hcse⟩ : ∃ x, csum (X.take (21 + n)) = x := ⟨_, rfl⟩
    rw [hcse] at hcs
    have HCS := Lib.hid hcse
    have hk1 : ((21 + n : Nat) : Int) = 21 + (n : Int) := by omega
    rw [hk1] at hfk
    unfold maxLen at hcb
    have hs0 : 0 ≤ 21 + (n : Int) := by omega
    have hs1 : 21 + (n : Int) ≤ (cb : Int) := by omega
    have hs2 : (21 + (n : Int)).toNat = 21 + n := by omega
    have hs3 : 21 + n ≤ cb := by omega
    clear hfb hfA hcse hk1
    go_wp2_with fail
    go_region_with (first
      | (go_at_call 98; refine (ref_sum_any (some ⟨g, 0, none⟩) (21 + n) cb (X.take (21 + n)) _ (by exact HFB.out.drew)).mono ?_
         rintro en w8 ⟨rfl, hO8⟩
         rw [HCS.out]
         have hO8' := ((Only.refl [] w7).drew).trans' hO8
         have g0 := hO8'.cell hf0 (by simp)
         have g1 := hO8'.cell hfk (by simp)
         have HS8 := Lib.hid (HS.out.keep hO8')
         clear hO8 hO8')
      | (go_at_call 96; refine (ref_one_any p g (21 + n) X 4 (cs : Int) _ (by exact HS8.out.row) (by decide) (by rw [HLR.out]; omega) ⟨by omega, by have e : (256 : Int) ^ 4 = 4294967296 := rfl; omega⟩).mono ?_
         rintro en w9 ⟨rfl, hr, hO⟩
         have h0 := HS8.out.put hr hO
         have HS9 := Lib.hid h0
         obtain ⟨A9, c9, hf9, hb9, hA9⟩ := row_bys hr
         have g2 := hf9
         clear hr hO h0 hf9))
    all_goals
      have e3 : ((cs : Nat) : Int).toNat = cs := by omega
      rw [e3, ← HCS.out, HSE.out] at HS9 g2 hb9 hA9
      rw [HBL.out] at g2 hb9 hA9
      have hA := hA9 (by omega)
      subst hA
      have HROW := Lib.hid (And.intro HS9.out.hg (And.intro HS9.out.only (And.intro (HS9.out.row.own (by rw [HBL.out]; omega)) (And.intro hb9.le hb9.cm))))
      clear hb9 hA9
      go_wp2
      go_ret2
      obtain ⟨r1, r2, r3, r4, r5⟩ := HROW.out
      exact EncOwn.yes HE2.out HBL.out r4 r5 r1 r3 r2
theorem ref_frame_enc_any (k v s b c e d : Int) (A : Option Addr) (n cp : Nat) (xs : List UInt8) (w : World) (hi : Bys w A n cp xs) :
    Calls Try.prog 44 #[.agg #[.int .i64 k, .int .i64 v, .int .i64 s, .int .i64 b, .int .i64 c, .int .i64 e, .int .i64 d, .slice A n cp]] w (EncSays w (encFr ⟨k, v, s, b, c, e, d, xs⟩)) :=
  (ref_frame_enc_own k v s b c e d A n cp xs w hi).mono fun _ _ h => h.says
end Go.Proofs.Ytjmbhknokobnpaa
