/- Contract of the reference's FrameOf. Printed by mkwire5.py. -/
import Derived.Test.YtjmbhknokobnpaaWireR
import Derived.Test.YtjmbhknokobnpaaWireB
set_option linter.unusedVariables false
set_option linter.unusedSimpArgs false
namespace Go.Proofs.Ytjmbhknokobnpaa
open Go Go.RowKit Go.Kn

set_option maxRecDepth 100000 in
set_option maxHeartbeats 8000000 in
theorem ref_frame_dec_bad (A : Option Addr) (n c : Nat) (bs : List UInt8) (w : World) (hi : Bys w A n c bs) (h : n < 25 ∨ 89 < n) (hm : n ≤ 65536) :
    Calls Try.prog 46 #[.slice A n c] w (FrSays w (decFr bs) 2) := by
  have hlen := hi.len
  rw [bvs_length] at hlen
  have HI := Lib.hid hi
  have HL := Lib.hid hlen
  have hres : Try.f46.results = #[.cell 2 64, .tmp 3] := by kernel_rfl
  have HRES := Lib.hid hres
  clear hres
  have HNO : Hid (decFr bs = none) := Lib.hid (fr_len (by rw [hlen]; omega))
  clear hi hlen
  rcases h with h | h
  · have d1 : decide ((n : Int) < 25) = true := by simp; omega
    go_enter Try.func46, Try.ntmps46
    go_wp2
    (try simp only [Exit.inBlock, Exit.then])
    refine bodyPost_ret (v := .tuple #[.agg #[.int .i64 0, .int .i64 0, .int .i64 0, .int .i64 0, .int .i64 0, .int .i64 0, .int .i64 0, .slice none 0 0], .int .i64 2]) ?_ rfl ?_
    · simp only [results, HRES.out]
      go_simp
    · exact FrSays.no HNO.out (((Only.refl _ _).alloc _).alloc _)
  · have d1 : decide ((n : Int) < 25) = false := by simp; omega
    have d2 : decide (89 < (n : Int)) = true := by simp; omega
    go_enter Try.func46, Try.ntmps46
    go_wp2
    (try simp only [Exit.inBlock, Exit.then])
    refine bodyPost_ret (v := .tuple #[.agg #[.int .i64 0, .int .i64 0, .int .i64 0, .int .i64 0, .int .i64 0, .int .i64 0, .int .i64 0, .slice none 0 0], .int .i64 2]) ?_ rfl ?_
    · simp only [results, HRES.out]
      go_simp
    · exact FrSays.no HNO.out (((Only.refl _ _).alloc _).alloc _)

set_option maxRecDepth 100000 in
set_option maxHeartbeats 8000000 in
theorem ref_frame_dec_full (A : Option Addr) (n c : Nat) (bs : List UInt8) (w : World) (hi : Bys w A n c bs) (h25 : 25 < n) (h89 : n ≤ 89) :
    Calls Try.prog 46 #[.slice A n c] w (FrSays w (decFr bs) 2) := by
  have hlen := hi.len
  rw [bvs_length] at hlen
  have HI := Lib.hid hi
  have HL := Lib.hid hlen
  have hres : Try.f46.results = #[.cell 2 64, .tmp 3] := by kernel_rfl
  have HRES := Lib.hid hres
  clear hres
  clear hi hlen
  have d1 : decide ((n : Int) < 25) = false := by first | (simp; done) | (simp; omega)
  have d2 : decide (89 < (n : Int)) = false := by first | (simp; done) | (simp; omega)
  have d3 : decide (25 < (n : Int)) = true := by first | (simp; done) | (simp; omega)
  go_enter Try.func46, Try.ntmps46
  go_wp2_with fail
  have HRC : Hid (Own ((w.alloc (.cells #[.int .i64 0, .int .i64 0, .int .i64 0, .int .i64 0, .int .i64 0, .int .i64 0, .int .i64 0, .slice none 0 0] 64)).alloc (.cells #[.int .i64 0, .int .i64 0, .int .i64 0, .int .i64 0, .int .i64 0, .int .i64 0, .int .i64 0, .slice none 0 0] 64)) w.heap.size [.int .i64 0, .int .i64 0, .int .i64 0, .int .i64 0, .int .i64 0, .int .i64 0, .int .i64 0, .slice none 0 0]) := Lib.hid ((Own.new w #[.int .i64 0, .int .i64 0, .int .i64 0, .int .i64 0, .int .i64 0, .int .i64 0, .int .i64 0, .slice none 0 0] 64).alloc (.cells #[.int .i64 0, .int .i64 0, .int .i64 0, .int .i64 0, .int .i64 0, .int .i64 0, .int .i64 0, .slice none 0 0] 64))
  have HF0 := Lib.hid (Own.new (w.alloc (.cells #[.int .i64 0, .int .i64 0, .int .i64 0, .int .i64 0, .int .i64 0, .int .i64 0, .int .i64 0, .slice none 0 0] 64)) #[.int .i64 0, .int .i64 0, .int .i64 0, .int .i64 0, .int .i64 0, .int .i64 0, .int .i64 0, .slice none 0 0] 64)
  have HO0 := Lib.hid (((Only.refl [] w).alloc (.cells #[.int .i64 0, .int .i64 0, .int .i64 0, .int .i64 0, .int .i64 0, .int .i64 0, .int .i64 0, .slice none 0 0] 64)).alloc (.cells #[.int .i64 0, .int .i64 0, .int .i64 0, .int .i64 0, .int .i64 0, .int .i64 0, .int .i64 0, .slice none 0 0] 64))
  have HI0 := Lib.hid ((HI.out.alloc (.cells #[.int .i64 0, .int .i64 0, .int .i64 0, .int .i64 0, .int .i64 0, .int .i64 0, .int .i64 0, .slice none 0 0] 64)).alloc (.cells #[.int .i64 0, .int .i64 0, .int .i64 0, .int .i64 0, .int .i64 0, .int .i64 0, .int .i64 0, .slice none 0 0] 64))
  have hfs : (w.alloc (.cells #[.int .i64 0, .int .i64 0, .int .i64 0, .int .i64 0, .int .i64 0, .int .i64 0, .int .i64 0, .slice none 0 0] 64)).heap.size = w.heap.size + 1 := by simp
  rw [hfs] at HF0
  clear hfs
  generalize (w.alloc (.cells #[.int .i64 0, .int .i64 0, .int .i64 0, .int .i64 0, .int .i64 0, .int .i64 0, .int .i64 0, .slice none 0 0] 64)).alloc (.cells #[.int .i64 0, .int .i64 0, .int .i64 0, .int .i64 0, .int .i64 0, .int .i64 0, .int .i64 0, .slice none 0 0] 64) = w0 at *
  generalize hf : w.heap.size + 1 = f at HF0 ⊢
  have HFF := Lib.hid hf
  clear hf
  refine (ref_from_any A n c bs _ HI0.out (by omega)).mono ?_
  rintro e w1 ⟨p, g, rfl, hp, hg, hr, hO⟩
  have HRC1 := Lib.hid (HRC.out.keep0 hO)
  have HD := Lib.hid (Decs.start HF0.out (by have := HFF.out; omega) HO0.out hp hg hr hO)
  have hfg : f < w0.heap.size := HF0.out.lt
  have hwg : w.heap.size < w0.heap.size := HRC.out.lt
  have hpz := HD.out.row.pz 1
  have hpk := HD.out.row.fk
  clear hr hO HF0 HRC
  go_wp2_with fail
  have HD1 := Lib.hid (HD.out.place (k' := 2) (by rw [HL.out]; omega))
  have HRC2 := Lib.hid (HRC1.out.far (p := ⟨p, 1, none⟩) (by show p ≠ w.heap.size; omega) (.int .i64 ((2 : Nat) : Int)))
  have e2 : ((2 : Nat) : Int) = 2 := rfl
  rw [e2] at HD1 HRC2
  clear HD HRC1 hpz hpk e2
  have HD := HD1
  have HRC := HRC2
  clear HD1 HRC2
  refine (ref_num_any p g 2 bs 1 _ (by exact HD.out.row) (by decide) (by rw [HL.out]; omega)).mono ?_
  rintro e v0 ⟨rfl, hr, hO⟩
  have hn := HD.out.got hr hO
  have hrc := HRC.out.keep hO (by simp; omega)
  generalize hx : ((num ((bs.drop 2).take 1) : Nat) : Int) = x0 at *
  have HX0 : Hid (x0 = rd bs 2 1) := Lib.hid hx.symm
  have q0 := hn.box.cell 0 (by simp)
  have z0 := hn.box.frozen 0
  simp only [List.getElem_cons_zero, List.getElem_cons_succ] at q0
  have hm := hn.put 0 (.int .i64 x0)
  simp only [List.set_cons_zero, List.set_cons_succ] at hm
  have HD1 := Lib.hid hm
  have HRC1 := Lib.hid (hrc.far (p := ⟨f, 0, none⟩) (by have := HFF.out; show f ≠ w.heap.size; omega) (.int .i64 x0))
  clear hr hO hx hn hm HD HRC hrc
  have HD := HD1
  have HRC := HRC1
  clear HD1 HRC1
  go_wp2_with fail
  clear q0 z0
  refine (ref_num_any p g 3 bs 4 _ (by exact HD.out.row) (by decide) (by rw [HL.out]; omega)).mono ?_
  rintro e v1 ⟨rfl, hr, hO⟩
  have hn := HD.out.got hr hO
  have hrc := HRC.out.keep hO (by simp; omega)
  generalize hx : ((num ((bs.drop 3).take 4) : Nat) : Int) = x1 at *
  have HX1 : Hid (x1 = rd bs 3 4) := Lib.hid hx.symm
  have q0 := hn.box.cell 1 (by simp)
  have z0 := hn.box.frozen 1
  simp only [List.getElem_cons_zero, List.getElem_cons_succ] at q0
  have hm := hn.put 1 (.int .i64 x1)
  simp only [List.set_cons_zero, List.set_cons_succ] at hm
  have HD1 := Lib.hid hm
  have HRC1 := Lib.hid (hrc.far (p := ⟨f, 1, none⟩) (by have := HFF.out; show f ≠ w.heap.size; omega) (.int .i64 x1))
  clear hr hO hx hn hm HD HRC hrc
  have HD := HD1
  have HRC := HRC1
  clear HD1 HRC1
  go_wp2_with fail
  clear q0 z0
  refine (ref_num_any p g 7 bs 4 _ (by exact HD.out.row) (by decide) (by rw [HL.out]; omega)).mono ?_
  rintro e v2 ⟨rfl, hr, hO⟩
  have hn := HD.out.got hr hO
  have hrc := HRC.out.keep hO (by simp; omega)
  generalize hx : ((num ((bs.drop 7).take 4) : Nat) : Int) = x2 at *
  have HX2 : Hid (x2 = rd bs 7 4) := Lib.hid hx.symm
  have q0 := hn.box.cell 2 (by simp)
  have z0 := hn.box.frozen 2
  simp only [List.getElem_cons_zero, List.getElem_cons_succ] at q0
  have hm := hn.put 2 (.int .i64 x2)
  simp only [List.set_cons_zero, List.set_cons_succ] at hm
  have HD1 := Lib.hid hm
  have HRC1 := Lib.hid (hrc.far (p := ⟨f, 2, none⟩) (by have := HFF.out; show f ≠ w.heap.size; omega) (.int .i64 x2))
  clear hr hO hx hn hm HD HRC hrc
  have HD := HD1
  have HRC := HRC1
  clear HD1 HRC1
  go_wp2_with fail
  clear q0 z0
  refine (ref_num_any p g 11 bs 1 _ (by exact HD.out.row) (by decide) (by rw [HL.out]; omega)).mono ?_
  rintro e v3 ⟨rfl, hr, hO⟩
  have hn := HD.out.got hr hO
  have hrc := HRC.out.keep hO (by simp; omega)
  generalize hx : ((num ((bs.drop 11).take 1) : Nat) : Int) = x3 at *
  have HX3 : Hid (x3 = rd bs 11 1) := Lib.hid hx.symm
  have q0 := hn.box.cell 3 (by simp)
  have z0 := hn.box.frozen 3
  simp only [List.getElem_cons_zero, List.getElem_cons_succ] at q0
  have hm := hn.put 3 (.int .i64 x3)
  simp only [List.set_cons_zero, List.set_cons_succ] at hm
  have HD1 := Lib.hid hm
  have HRC1 := Lib.hid (hrc.far (p := ⟨f, 3, none⟩) (by have := HFF.out; show f ≠ w.heap.size; omega) (.int .i64 x3))
  clear hr hO hx hn hm HD HRC hrc
  have HD := HD1
  have HRC := HRC1
  clear HD1 HRC1
  go_wp2_with fail
  clear q0 z0
  refine (ref_num_any p g 12 bs 1 _ (by exact HD.out.row) (by decide) (by rw [HL.out]; omega)).mono ?_
  rintro e v4 ⟨rfl, hr, hO⟩
  have hn := HD.out.got hr hO
  have hrc := HRC.out.keep hO (by simp; omega)
  generalize hx : ((num ((bs.drop 12).take 1) : Nat) : Int) = x4 at *
  have HX4 : Hid (x4 = rd bs 12 1) := Lib.hid hx.symm
  have q0 := hn.box.cell 4 (by simp)
  have z0 := hn.box.frozen 4
  simp only [List.getElem_cons_zero, List.getElem_cons_succ] at q0
  have hm := hn.put 4 (.int .i64 x4)
  simp only [List.set_cons_zero, List.set_cons_succ] at hm
  have HD1 := Lib.hid hm
  have HRC1 := Lib.hid (hrc.far (p := ⟨f, 4, none⟩) (by have := HFF.out; show f ≠ w.heap.size; omega) (.int .i64 x4))
  clear hr hO hx hn hm HD HRC hrc
  have HD := HD1
  have HRC := HRC1
  clear HD1 HRC1
  go_wp2_with fail
  clear q0 z0
  refine (ref_num_any p g 13 bs 4 _ (by exact HD.out.row) (by decide) (by rw [HL.out]; omega)).mono ?_
  rintro e v5 ⟨rfl, hr, hO⟩
  have hn := HD.out.got hr hO
  have hrc := HRC.out.keep hO (by simp; omega)
  generalize hx : ((num ((bs.drop 13).take 4) : Nat) : Int) = x5 at *
  have HX5 : Hid (x5 = rd bs 13 4) := Lib.hid hx.symm
  have q0 := hn.box.cell 5 (by simp)
  have z0 := hn.box.frozen 5
  simp only [List.getElem_cons_zero, List.getElem_cons_succ] at q0
  have hm := hn.put 5 (.int .i64 x5)
  simp only [List.set_cons_zero, List.set_cons_succ] at hm
  have HD1 := Lib.hid hm
  have HRC1 := Lib.hid (hrc.far (p := ⟨f, 5, none⟩) (by have := HFF.out; show f ≠ w.heap.size; omega) (.int .i64 x5))
  clear hr hO hx hn hm HD HRC hrc
  have HD := HD1
  have HRC := HRC1
  clear HD1 HRC1
  go_wp2_with fail
  clear q0 z0
  refine (ref_num_any p g 17 bs 4 _ (by exact HD.out.row) (by decide) (by rw [HL.out]; omega)).mono ?_
  rintro e v6 ⟨rfl, hr, hO⟩
  have hn := HD.out.got hr hO
  have hrc := HRC.out.keep hO (by simp; omega)
  generalize hx : ((num ((bs.drop 17).take 4) : Nat) : Int) = x6 at *
  have HX6 : Hid (x6 = rd bs 17 4) := Lib.hid hx.symm
  have q0 := hn.box.cell 6 (by simp)
  have z0 := hn.box.frozen 6
  simp only [List.getElem_cons_zero, List.getElem_cons_succ] at q0
  have hm := hn.put 6 (.int .i64 x6)
  simp only [List.set_cons_zero, List.set_cons_succ] at hm
  have HD1 := Lib.hid hm
  have HRC1 := Lib.hid (hrc.far (p := ⟨f, 6, none⟩) (by have := HFF.out; show f ≠ w.heap.size; omega) (.int .i64 x6))
  clear hr hO hx hn hm HD HRC hrc
  have HD := HD1
  have HRC := HRC1
  clear HD1 HRC1
  generalize hwl : v6.setCell ⟨f, 6, none⟩ (.int .i64 x6) = wl at *
  obtain ⟨m, hm25⟩ : ∃ m : Nat, n = m + 25 := ⟨n - 25, by omega⟩
  have hmi : (n : Int) - 25 = (m : Int) := by omega
  have HMI := Lib.hid hmi
  have HM25 := Lib.hid hm25
  clear hmi hm25
  go_wp2_with fail
  clear hwl q0 z0
  rw [HMI.out]
  refine (ref_take_any p g 21 bs m _ (by exact HD.out.row) (by have := HM25.out; rw [HL.out]; omega)).mono ?_
  rintro e w4 ⟨A7, c7, rfl, hc7, hm7, hpos7, hr, hO⟩
  have hn7 := HD.out.got hr hO
  have hrc := HRC.out.keep hO (by simp; omega)
  have hm0 : 0 < m := by have := HM25.out; omega
  obtain ⟨b7, rfl, hg7, ho7⟩ := hpos7 hm0
  generalize hys : (bs.drop 21).take m = ys at *
  have hyl : ys.length = m := by rw [← hys]; have := HM25.out; have := HL.out; simp; omega
  have HYS := Lib.hid hys
  have HYL := Lib.hid hyl
  have hb7f : b7 ≠ f := by have := HD.out.box.lt; omega
  have hb7r : b7 ≠ w.heap.size := by have := HRC.out.lt; omega
  have q0 := hn7.box.cell 7 (by simp)
  have z0 := hn7.box.frozen 7
  simp only [List.getElem_cons_zero, List.getElem_cons_succ] at q0
  have hm := hn7.put 7 (.slice (some ⟨b7, 0, none⟩) m c7)
  simp only [List.set_cons_zero, List.set_cons_succ] at hm
  have HD1 := Lib.hid hm
  have HRC1 := Lib.hid (hrc.far (p := ⟨f, 7, none⟩) (by have := HFF.out; show f ≠ w.heap.size; omega) (.slice (some ⟨b7, 0, none⟩) m c7))
  have HBY := Lib.hid (Row1.of_Own (ho7.far (p := ⟨f, 7, none⟩) (by show f ≠ b7; exact Ne.symm hb7f) (.slice (some ⟨b7, 0, none⟩) m c7)) (by rw [bvs_length]; exact hyl) hc7 hm7)
  clear hr hO hys hn7 hm HD HRC hrc hpos7 ho7 hyl
  have HD := HD1
  have HRC := HRC1
  clear HD1 HRC1
  generalize hwm : w4.setCell ⟨f, 7, none⟩ (.slice (some ⟨b7, 0, none⟩) m c7) = wm at *
  have y0 := HD.out.box.cell 0 (by simp)
  have y1 := HD.out.box.cell 1 (by simp)
  have y2 := HD.out.box.cell 2 (by simp)
  have y3 := HD.out.box.cell 3 (by simp)
  have y4 := HD.out.box.cell 4 (by simp)
  have y5 := HD.out.box.cell 5 (by simp)
  have y6 := HD.out.box.cell 6 (by simp)
  have y7 := HD.out.box.cell 7 (by simp)
  simp only [List.getElem_cons_zero, List.getElem_cons_succ] at y0 y1 y2 y3 y4 y5 y6 y7
  go_wp2_with fail
  clear hwm
  have HDS : Hid ((if encFr ⟨x0, x1, x2, x3, x4, x5, x6, ys⟩ = some bs then some ⟨x0, x1, x2, x3, x4, x5, x6, ys⟩ else none) = decFr bs) := Lib.hid (fr_same (fun h => by
    have dy : ys = (bs.drop 21).take (bs.length - 25) := by
      rw [← HYS.out, HL.out]; congr 1; have := HM25.out; omega
    unfold frOf
    rw [HX0.out, HX1.out, HX2.out, HX3.out, HX4.out, HX5.out, HX6.out, ← dy]))
  clear q0 z0 HX0 HX1 HX2 HX3 HX4 HX5 HX6
  refine (ref_frame_enc_any x0 x1 x2 x3 x4 x5 x6 (some ⟨b7, 0, none⟩) m c7 ys _ (by exact HBY.out)).mono ?_
  rintro e w8 ⟨A3, c3, rfl, hb3, _, hO3⟩
  have HB := Lib.hid (HI.out.keep0 (HD.out.only.trans' hO3))
  have HD3 := Lib.hid (HD.out.keep hO3)
  have HRC3 := Lib.hid (HRC.out.keep0 hO3)
  have HBY3 := Lib.hid (HBY.out.keep0 hO3)
  have HSB : Hid (w.heap.size ≤ w.heap.size) := Lib.hid (Nat.le_refl _)
  clear hO3 HD HRC y0 y1 y2 y3 y4 y5 y6 y7
  cases hen : encFr ⟨x0, x1, x2, x3, x4, x5, x6, ys⟩ with
  | none =>
    have HNO : Hid (decFr bs = none) := Lib.hid (by rw [← HDS.out, hen]; rfl)
    rw [hen] at hb3
    clear hb3 hen HDS
    have y0 := HD3.out.box.cell 0 (by simp)
    have y1 := HD3.out.box.cell 1 (by simp)
    have y2 := HD3.out.box.cell 2 (by simp)
    have y3 := HD3.out.box.cell 3 (by simp)
    have y4 := HD3.out.box.cell 4 (by simp)
    have y5 := HD3.out.box.cell 5 (by simp)
    have y6 := HD3.out.box.cell 6 (by simp)
    have y7 := HD3.out.box.cell 7 (by simp)
    have r0 := HRC3.out.cell 0 (by simp)
    have r1 := HRC3.out.cell 1 (by simp)
    have r2 := HRC3.out.cell 2 (by simp)
    have r3 := HRC3.out.cell 3 (by simp)
    have r4 := HRC3.out.cell 4 (by simp)
    have r5 := HRC3.out.cell 5 (by simp)
    have r6 := HRC3.out.cell 6 (by simp)
    have r7 := HRC3.out.cell 7 (by simp)
    simp only [List.getElem_cons_zero, List.getElem_cons_succ] at y0 y1 y2 y3 y4 y5 y6 y7 r0 r1 r2 r3 r4 r5 r6 r7
    have z0 := HRC3.out.frozen 0
    have z1 := HRC3.out.frozen 1
    have z2 := HRC3.out.frozen 2
    have z3 := HRC3.out.frozen 3
    have z4 := HRC3.out.frozen 4
    have z5 := HRC3.out.frozen 5
    have z6 := HRC3.out.frozen 6
    have z7 := HRC3.out.frozen 7
    simp only [Option.getD_none, Option.isSome_none, List.length_nil]
    go_wp2
    (try simp only [Exit.inBlock, Exit.then])
    refine bodyPost_ret (v := .tuple #[.agg #[.int .i64 0, .int .i64 0, .int .i64 0, .int .i64 0, .int .i64 0, .int .i64 0, .int .i64 0, .slice none 0 0], .int .i64 2]) ?_ rfl ?_
    · simp only [results, HRES.out]
      go_simp
    · exact FrSays.no HNO.out ((((((((HD3.out.only.set (.inr HSB.out) _).set (.inr HSB.out) _).set (.inr HSB.out) _).set (.inr HSB.out) _).set (.inr HSB.out) _).set (.inr HSB.out) _).set (.inr HSB.out) _).set (.inr HSB.out) _)
  | some zs =>
    rw [hen] at hb3
    simp only [Option.getD_some] at hb3
    have HB3 := Lib.hid hb3
    have HEN := Lib.hid hen
    clear hb3 hen
    simp only [Option.getD_some, Option.isSome_some, if_true]
    go_wp2_with fail
    refine (equal_any A3 zs.length c3 zs A n c bs _ (by exact HB3.out) (by exact HB.out)).mono ?_
    rintro e w9 ⟨rfl, k9, rfl⟩
    have HD4 := Lib.hid (HD3.out.keep ((Only.refl _ _).drewN k9))
    have HRC4 := Lib.hid (HRC3.out.drewN k9)
    have HBY4 := Lib.hid (HBY3.out.drewN k9)
    generalize w8.drewN k9 = w10 at *
    clear HD3 HRC3 HBY3
    have HD3 := HD4
    have HRC3 := HRC4
    have HBY3 := HBY4
    clear HD4 HRC4 HBY4
    by_cases hyb : zs = bs
    · have hd : decide (zs = bs) = true := by simp [hyb]
      have HYES : Hid (decFr bs = some ⟨x0, x1, x2, x3, x4, x5, x6, ys⟩) := Lib.hid (by rw [← HDS.out, HEN.out, hyb, if_pos rfl])
      rw [hd]
      clear hd hyb HEN HDS
      have y0 := HD3.out.box.cell 0 (by simp)
      have y1 := HD3.out.box.cell 1 (by simp)
      have y2 := HD3.out.box.cell 2 (by simp)
      have y3 := HD3.out.box.cell 3 (by simp)
      have y4 := HD3.out.box.cell 4 (by simp)
      have y5 := HD3.out.box.cell 5 (by simp)
      have y6 := HD3.out.box.cell 6 (by simp)
      have y7 := HD3.out.box.cell 7 (by simp)
      have r0 := HRC3.out.cell 0 (by simp)
      have r1 := HRC3.out.cell 1 (by simp)
      have r2 := HRC3.out.cell 2 (by simp)
      have r3 := HRC3.out.cell 3 (by simp)
      have r4 := HRC3.out.cell 4 (by simp)
      have r5 := HRC3.out.cell 5 (by simp)
      have r6 := HRC3.out.cell 6 (by simp)
      have r7 := HRC3.out.cell 7 (by simp)
      simp only [List.getElem_cons_zero, List.getElem_cons_succ] at y0 y1 y2 y3 y4 y5 y6 y7 r0 r1 r2 r3 r4 r5 r6 r7
      have z0 := HRC3.out.frozen 0
      have z1 := HRC3.out.frozen 1
      have z2 := HRC3.out.frozen 2
      have z3 := HRC3.out.frozen 3
      have z4 := HRC3.out.frozen 4
      have z5 := HRC3.out.frozen 5
      have z6 := HRC3.out.frozen 6
      have z7 := HRC3.out.frozen 7
      go_wp2
      (try simp only [Exit.inBlock, Exit.then])
      refine bodyPost_ret (v := .tuple #[.agg #[.int .i64 x0, .int .i64 x1, .int .i64 x2, .int .i64 x3, .int .i64 x4, .int .i64 x5, .int .i64 x6, .slice (some ⟨b7, 0, none⟩) m c7], .int .i64 0]) ?_ rfl ?_
      · simp only [results, HRES.out]
        go_simp
      · rw [HYES.out]
        exact ⟨(some ⟨b7, 0, none⟩), m, c7, rfl, HBY3.out.keepP (S := [w.heap.size]) (((((((((Only.refl [w.heap.size] _).set (by simp) _).set (by simp) _).set (by simp) _).set (by simp) _).set (by simp) _).set (by simp) _).set (by simp) _).set (by simp) _) (fun h0 a ha => by injection ha with ha; subst ha; simpa using hb7r), ((((((((HD3.out.only.set (.inr HSB.out) _).set (.inr HSB.out) _).set (.inr HSB.out) _).set (.inr HSB.out) _).set (.inr HSB.out) _).set (.inr HSB.out) _).set (.inr HSB.out) _).set (.inr HSB.out) _)⟩
    · have hd : decide (zs = bs) = false := by simp [hyb]
      have HNO : Hid (decFr bs = none) := Lib.hid (by rw [← HDS.out, HEN.out, if_neg (by intro h; injection h with h; exact hyb h)])
      rw [hd]
      clear hd hyb HEN HDS
      have y0 := HD3.out.box.cell 0 (by simp)
      have y1 := HD3.out.box.cell 1 (by simp)
      have y2 := HD3.out.box.cell 2 (by simp)
      have y3 := HD3.out.box.cell 3 (by simp)
      have y4 := HD3.out.box.cell 4 (by simp)
      have y5 := HD3.out.box.cell 5 (by simp)
      have y6 := HD3.out.box.cell 6 (by simp)
      have y7 := HD3.out.box.cell 7 (by simp)
      have r0 := HRC3.out.cell 0 (by simp)
      have r1 := HRC3.out.cell 1 (by simp)
      have r2 := HRC3.out.cell 2 (by simp)
      have r3 := HRC3.out.cell 3 (by simp)
      have r4 := HRC3.out.cell 4 (by simp)
      have r5 := HRC3.out.cell 5 (by simp)
      have r6 := HRC3.out.cell 6 (by simp)
      have r7 := HRC3.out.cell 7 (by simp)
      simp only [List.getElem_cons_zero, List.getElem_cons_succ] at y0 y1 y2 y3 y4 y5 y6 y7 r0 r1 r2 r3 r4 r5 r6 r7
      have z0 := HRC3.out.frozen 0
      have z1 := HRC3.out.frozen 1
      have z2 := HRC3.out.frozen 2
      have z3 := HRC3.out.frozen 3
      have z4 := HRC3.out.frozen 4
      have z5 := HRC3.out.frozen 5
      have z6 := HRC3.out.frozen 6
      have z7 := HRC3.out.frozen 7
      go_wp2
      (try simp only [Exit.inBlock, Exit.then])
      refine bodyPost_ret (v := .tuple #[.agg #[.int .i64 0, .int .i64 0, .int .i64 0, .int .i64 0, .int .i64 0, .int .i64 0, .int .i64 0, .slice none 0 0], .int .i64 2]) ?_ rfl ?_
      · simp only [results, HRES.out]
        go_simp
      · exact FrSays.no HNO.out ((((((((HD3.out.only.set (.inr HSB.out) _).set (.inr HSB.out) _).set (.inr HSB.out) _).set (.inr HSB.out) _).set (.inr HSB.out) _).set (.inr HSB.out) _).set (.inr HSB.out) _).set (.inr HSB.out) _)

set_option maxRecDepth 100000 in
set_option maxHeartbeats 8000000 in
theorem ref_frame_dec_bare (A : Option Addr) (n c : Nat) (bs : List UInt8) (w : World) (hi : Bys w A n c bs) (h25 : n = 25) :
    Calls Try.prog 46 #[.slice A n c] w (FrSays w (decFr bs) 2) := by
  have hlen := hi.len
  rw [bvs_length] at hlen
  have HI := Lib.hid hi
  have HL := Lib.hid hlen
  have hres : Try.f46.results = #[.cell 2 64, .tmp 3] := by kernel_rfl
  have HRES := Lib.hid hres
  clear hres
  subst h25
  clear hi hlen
  have d1 : decide (((25 : Nat) : Int) < 25) = false := by first | (simp; done) | (simp; omega)
  have d2 : decide (89 < ((25 : Nat) : Int)) = false := by first | (simp; done) | (simp; omega)
  have d3 : decide (25 < ((25 : Nat) : Int)) = false := by first | (simp; done) | (simp; omega)
  go_enter Try.func46, Try.ntmps46
  go_wp2_with fail
  have HRC : Hid (Own ((w.alloc (.cells #[.int .i64 0, .int .i64 0, .int .i64 0, .int .i64 0, .int .i64 0, .int .i64 0, .int .i64 0, .slice none 0 0] 64)).alloc (.cells #[.int .i64 0, .int .i64 0, .int .i64 0, .int .i64 0, .int .i64 0, .int .i64 0, .int .i64 0, .slice none 0 0] 64)) w.heap.size [.int .i64 0, .int .i64 0, .int .i64 0, .int .i64 0, .int .i64 0, .int .i64 0, .int .i64 0, .slice none 0 0]) := Lib.hid ((Own.new w #[.int .i64 0, .int .i64 0, .int .i64 0, .int .i64 0, .int .i64 0, .int .i64 0, .int .i64 0, .slice none 0 0] 64).alloc (.cells #[.int .i64 0, .int .i64 0, .int .i64 0, .int .i64 0, .int .i64 0, .int .i64 0, .int .i64 0, .slice none 0 0] 64))
  have HF0 := Lib.hid (Own.new (w.alloc (.cells #[.int .i64 0, .int .i64 0, .int .i64 0, .int .i64 0, .int .i64 0, .int .i64 0, .int .i64 0, .slice none 0 0] 64)) #[.int .i64 0, .int .i64 0, .int .i64 0, .int .i64 0, .int .i64 0, .int .i64 0, .int .i64 0, .slice none 0 0] 64)
  have HO0 := Lib.hid (((Only.refl [] w).alloc (.cells #[.int .i64 0, .int .i64 0, .int .i64 0, .int .i64 0, .int .i64 0, .int .i64 0, .int .i64 0, .slice none 0 0] 64)).alloc (.cells #[.int .i64 0, .int .i64 0, .int .i64 0, .int .i64 0, .int .i64 0, .int .i64 0, .int .i64 0, .slice none 0 0] 64))
  have HI0 := Lib.hid ((HI.out.alloc (.cells #[.int .i64 0, .int .i64 0, .int .i64 0, .int .i64 0, .int .i64 0, .int .i64 0, .int .i64 0, .slice none 0 0] 64)).alloc (.cells #[.int .i64 0, .int .i64 0, .int .i64 0, .int .i64 0, .int .i64 0, .int .i64 0, .int .i64 0, .slice none 0 0] 64))
  have hfs : (w.alloc (.cells #[.int .i64 0, .int .i64 0, .int .i64 0, .int .i64 0, .int .i64 0, .int .i64 0, .int .i64 0, .slice none 0 0] 64)).heap.size = w.heap.size + 1 := by simp
  rw [hfs] at HF0
  clear hfs
  generalize (w.alloc (.cells #[.int .i64 0, .int .i64 0, .int .i64 0, .int .i64 0, .int .i64 0, .int .i64 0, .int .i64 0, .slice none 0 0] 64)).alloc (.cells #[.int .i64 0, .int .i64 0, .int .i64 0, .int .i64 0, .int .i64 0, .int .i64 0, .int .i64 0, .slice none 0 0] 64) = w0 at *
  generalize hf : w.heap.size + 1 = f at HF0 ⊢
  have HFF := Lib.hid hf
  clear hf
  refine (ref_from_any A 25 c bs _ HI0.out (by omega)).mono ?_
  rintro e w1 ⟨p, g, rfl, hp, hg, hr, hO⟩
  have HRC1 := Lib.hid (HRC.out.keep0 hO)
  have HD := Lib.hid (Decs.start HF0.out (by have := HFF.out; omega) HO0.out hp hg hr hO)
  have hfg : f < w0.heap.size := HF0.out.lt
  have hwg : w.heap.size < w0.heap.size := HRC.out.lt
  have hpz := HD.out.row.pz 1
  have hpk := HD.out.row.fk
  clear hr hO HF0 HRC
  go_wp2_with fail
  have HD1 := Lib.hid (HD.out.place (k' := 2) (by rw [HL.out]; omega))
  have HRC2 := Lib.hid (HRC1.out.far (p := ⟨p, 1, none⟩) (by show p ≠ w.heap.size; omega) (.int .i64 ((2 : Nat) : Int)))
  have e2 : ((2 : Nat) : Int) = 2 := rfl
  rw [e2] at HD1 HRC2
  clear HD HRC1 hpz hpk e2
  have HD := HD1
  have HRC := HRC2
  clear HD1 HRC2
  refine (ref_num_any p g 2 bs 1 _ (by exact HD.out.row) (by decide) (by rw [HL.out]; omega)).mono ?_
  rintro e v0 ⟨rfl, hr, hO⟩
  have hn := HD.out.got hr hO
  have hrc := HRC.out.keep hO (by simp; omega)
  generalize hx : ((num ((bs.drop 2).take 1) : Nat) : Int) = x0 at *
  have HX0 : Hid (x0 = rd bs 2 1) := Lib.hid hx.symm
  have q0 := hn.box.cell 0 (by simp)
  have z0 := hn.box.frozen 0
  simp only [List.getElem_cons_zero, List.getElem_cons_succ] at q0
  have hm := hn.put 0 (.int .i64 x0)
  simp only [List.set_cons_zero, List.set_cons_succ] at hm
  have HD1 := Lib.hid hm
  have HRC1 := Lib.hid (hrc.far (p := ⟨f, 0, none⟩) (by have := HFF.out; show f ≠ w.heap.size; omega) (.int .i64 x0))
  clear hr hO hx hn hm HD HRC hrc
  have HD := HD1
  have HRC := HRC1
  clear HD1 HRC1
  go_wp2_with fail
  clear q0 z0
  refine (ref_num_any p g 3 bs 4 _ (by exact HD.out.row) (by decide) (by rw [HL.out]; omega)).mono ?_
  rintro e v1 ⟨rfl, hr, hO⟩
  have hn := HD.out.got hr hO
  have hrc := HRC.out.keep hO (by simp; omega)
  generalize hx : ((num ((bs.drop 3).take 4) : Nat) : Int) = x1 at *
  have HX1 : Hid (x1 = rd bs 3 4) := Lib.hid hx.symm
  have q0 := hn.box.cell 1 (by simp)
  have z0 := hn.box.frozen 1
  simp only [List.getElem_cons_zero, List.getElem_cons_succ] at q0
  have hm := hn.put 1 (.int .i64 x1)
  simp only [List.set_cons_zero, List.set_cons_succ] at hm
  have HD1 := Lib.hid hm
  have HRC1 := Lib.hid (hrc.far (p := ⟨f, 1, none⟩) (by have := HFF.out; show f ≠ w.heap.size; omega) (.int .i64 x1))
  clear hr hO hx hn hm HD HRC hrc
  have HD := HD1
  have HRC := HRC1
  clear HD1 HRC1
  go_wp2_with fail
  clear q0 z0
  refine (ref_num_any p g 7 bs 4 _ (by exact HD.out.row) (by decide) (by rw [HL.out]; omega)).mono ?_
  rintro e v2 ⟨rfl, hr, hO⟩
  have hn := HD.out.got hr hO
  have hrc := HRC.out.keep hO (by simp; omega)
  generalize hx : ((num ((bs.drop 7).take 4) : Nat) : Int) = x2 at *
  have HX2 : Hid (x2 = rd bs 7 4) := Lib.hid hx.symm
  have q0 := hn.box.cell 2 (by simp)
  have z0 := hn.box.frozen 2
  simp only [List.getElem_cons_zero, List.getElem_cons_succ] at q0
  have hm := hn.put 2 (.int .i64 x2)
  simp only [List.set_cons_zero, List.set_cons_succ] at hm
  have HD1 := Lib.hid hm
  have HRC1 := Lib.hid (hrc.far (p := ⟨f, 2, none⟩) (by have := HFF.out; show f ≠ w.heap.size; omega) (.int .i64 x2))
  clear hr hO hx hn hm HD HRC hrc
  have HD := HD1
  have HRC := HRC1
  clear HD1 HRC1
  go_wp2_with fail
  clear q0 z0
  refine (ref_num_any p g 11 bs 1 _ (by exact HD.out.row) (by decide) (by rw [HL.out]; omega)).mono ?_
  rintro e v3 ⟨rfl, hr, hO⟩
  have hn := HD.out.got hr hO
  have hrc := HRC.out.keep hO (by simp; omega)
  generalize hx : ((num ((bs.drop 11).take 1) : Nat) : Int) = x3 at *
  have HX3 : Hid (x3 = rd bs 11 1) := Lib.hid hx.symm
  have q0 := hn.box.cell 3 (by simp)
  have z0 := hn.box.frozen 3
  simp only [List.getElem_cons_zero, List.getElem_cons_succ] at q0
  have hm := hn.put 3 (.int .i64 x3)
  simp only [List.set_cons_zero, List.set_cons_succ] at hm
  have HD1 := Lib.hid hm
  have HRC1 := Lib.hid (hrc.far (p := ⟨f, 3, none⟩) (by have := HFF.out; show f ≠ w.heap.size; omega) (.int .i64 x3))
  clear hr hO hx hn hm HD HRC hrc
  have HD := HD1
  have HRC := HRC1
  clear HD1 HRC1
  go_wp2_with fail
  clear q0 z0
  refine (ref_num_any p g 12 bs 1 _ (by exact HD.out.row) (by decide) (by rw [HL.out]; omega)).mono ?_
  rintro e v4 ⟨rfl, hr, hO⟩
  have hn := HD.out.got hr hO
  have hrc := HRC.out.keep hO (by simp; omega)
  generalize hx : ((num ((bs.drop 12).take 1) : Nat) : Int) = x4 at *
  have HX4 : Hid (x4 = rd bs 12 1) := Lib.hid hx.symm
  have q0 := hn.box.cell 4 (by simp)
  have z0 := hn.box.frozen 4
  simp only [List.getElem_cons_zero, List.getElem_cons_succ] at q0
  have hm := hn.put 4 (.int .i64 x4)
  simp only [List.set_cons_zero, List.set_cons_succ] at hm
  have HD1 := Lib.hid hm
  have HRC1 := Lib.hid (hrc.far (p := ⟨f, 4, none⟩) (by have := HFF.out; show f ≠ w.heap.size; omega) (.int .i64 x4))
  clear hr hO hx hn hm HD HRC hrc
  have HD := HD1
  have HRC := HRC1
  clear HD1 HRC1
  go_wp2_with fail
  clear q0 z0
  refine (ref_num_any p g 13 bs 4 _ (by exact HD.out.row) (by decide) (by rw [HL.out]; omega)).mono ?_
  rintro e v5 ⟨rfl, hr, hO⟩
  have hn := HD.out.got hr hO
  have hrc := HRC.out.keep hO (by simp; omega)
  generalize hx : ((num ((bs.drop 13).take 4) : Nat) : Int) = x5 at *
  have HX5 : Hid (x5 = rd bs 13 4) := Lib.hid hx.symm
  have q0 := hn.box.cell 5 (by simp)
  have z0 := hn.box.frozen 5
  simp only [List.getElem_cons_zero, List.getElem_cons_succ] at q0
  have hm := hn.put 5 (.int .i64 x5)
  simp only [List.set_cons_zero, List.set_cons_succ] at hm
  have HD1 := Lib.hid hm
  have HRC1 := Lib.hid (hrc.far (p := ⟨f, 5, none⟩) (by have := HFF.out; show f ≠ w.heap.size; omega) (.int .i64 x5))
  clear hr hO hx hn hm HD HRC hrc
  have HD := HD1
  have HRC := HRC1
  clear HD1 HRC1
  go_wp2_with fail
  clear q0 z0
  refine (ref_num_any p g 17 bs 4 _ (by exact HD.out.row) (by decide) (by rw [HL.out]; omega)).mono ?_
  rintro e v6 ⟨rfl, hr, hO⟩
  have hn := HD.out.got hr hO
  have hrc := HRC.out.keep hO (by simp; omega)
  generalize hx : ((num ((bs.drop 17).take 4) : Nat) : Int) = x6 at *
  have HX6 : Hid (x6 = rd bs 17 4) := Lib.hid hx.symm
  have q0 := hn.box.cell 6 (by simp)
  have z0 := hn.box.frozen 6
  simp only [List.getElem_cons_zero, List.getElem_cons_succ] at q0
  have hm := hn.put 6 (.int .i64 x6)
  simp only [List.set_cons_zero, List.set_cons_succ] at hm
  have HD1 := Lib.hid hm
  have HRC1 := Lib.hid (hrc.far (p := ⟨f, 6, none⟩) (by have := HFF.out; show f ≠ w.heap.size; omega) (.int .i64 x6))
  clear hr hO hx hn hm HD HRC hrc
  have HD := HD1
  have HRC := HRC1
  clear HD1 HRC1
  generalize hwm : v6.setCell ⟨f, 6, none⟩ (.int .i64 x6) = wm at *
  have HBY : Hid (Bys wm none 0 0 []) := Lib.hid (Row1.nil wm)
  have y0 := HD.out.box.cell 0 (by simp)
  have y1 := HD.out.box.cell 1 (by simp)
  have y2 := HD.out.box.cell 2 (by simp)
  have y3 := HD.out.box.cell 3 (by simp)
  have y4 := HD.out.box.cell 4 (by simp)
  have y5 := HD.out.box.cell 5 (by simp)
  have y6 := HD.out.box.cell 6 (by simp)
  have y7 := HD.out.box.cell 7 (by simp)
  simp only [List.getElem_cons_zero, List.getElem_cons_succ] at y0 y1 y2 y3 y4 y5 y6 y7
  go_wp2_with fail
  clear hwm
  have HDS : Hid ((if encFr ⟨x0, x1, x2, x3, x4, x5, x6, []⟩ = some bs then some ⟨x0, x1, x2, x3, x4, x5, x6, []⟩ else none) = decFr bs) := Lib.hid (fr_same (fun h => by
    have dy : [] = (bs.drop 21).take (bs.length - 25) := by
      rw [HL.out, show 25 - 25 = 0 from rfl, List.take_zero]
    unfold frOf
    rw [HX0.out, HX1.out, HX2.out, HX3.out, HX4.out, HX5.out, HX6.out, ← dy]))
  clear q0 z0 HX0 HX1 HX2 HX3 HX4 HX5 HX6
  refine (ref_frame_enc_any x0 x1 x2 x3 x4 x5 x6 none 0 0 [] _ (by exact HBY.out)).mono ?_
  rintro e w8 ⟨A3, c3, rfl, hb3, _, hO3⟩
  have HB := Lib.hid (HI.out.keep0 (HD.out.only.trans' hO3))
  have HD3 := Lib.hid (HD.out.keep hO3)
  have HRC3 := Lib.hid (HRC.out.keep0 hO3)
  have HBY3 := Lib.hid (HBY.out.keep0 hO3)
  have HSB : Hid (w.heap.size ≤ w.heap.size) := Lib.hid (Nat.le_refl _)
  clear hO3 HD HRC y0 y1 y2 y3 y4 y5 y6 y7
  cases hen : encFr ⟨x0, x1, x2, x3, x4, x5, x6, []⟩ with
  | none =>
    have HNO : Hid (decFr bs = none) := Lib.hid (by rw [← HDS.out, hen]; rfl)
    rw [hen] at hb3
    clear hb3 hen HDS
    have y0 := HD3.out.box.cell 0 (by simp)
    have y1 := HD3.out.box.cell 1 (by simp)
    have y2 := HD3.out.box.cell 2 (by simp)
    have y3 := HD3.out.box.cell 3 (by simp)
    have y4 := HD3.out.box.cell 4 (by simp)
    have y5 := HD3.out.box.cell 5 (by simp)
    have y6 := HD3.out.box.cell 6 (by simp)
    have y7 := HD3.out.box.cell 7 (by simp)
    have r0 := HRC3.out.cell 0 (by simp)
    have r1 := HRC3.out.cell 1 (by simp)
    have r2 := HRC3.out.cell 2 (by simp)
    have r3 := HRC3.out.cell 3 (by simp)
    have r4 := HRC3.out.cell 4 (by simp)
    have r5 := HRC3.out.cell 5 (by simp)
    have r6 := HRC3.out.cell 6 (by simp)
    have r7 := HRC3.out.cell 7 (by simp)
    simp only [List.getElem_cons_zero, List.getElem_cons_succ] at y0 y1 y2 y3 y4 y5 y6 y7 r0 r1 r2 r3 r4 r5 r6 r7
    have z0 := HRC3.out.frozen 0
    have z1 := HRC3.out.frozen 1
    have z2 := HRC3.out.frozen 2
    have z3 := HRC3.out.frozen 3
    have z4 := HRC3.out.frozen 4
    have z5 := HRC3.out.frozen 5
    have z6 := HRC3.out.frozen 6
    have z7 := HRC3.out.frozen 7
    simp only [Option.getD_none, Option.isSome_none, List.length_nil]
    go_wp2
    (try simp only [Exit.inBlock, Exit.then])
    refine bodyPost_ret (v := .tuple #[.agg #[.int .i64 0, .int .i64 0, .int .i64 0, .int .i64 0, .int .i64 0, .int .i64 0, .int .i64 0, .slice none 0 0], .int .i64 2]) ?_ rfl ?_
    · simp only [results, HRES.out]
      go_simp
    · exact FrSays.no HNO.out ((((((((HD3.out.only.set (.inr HSB.out) _).set (.inr HSB.out) _).set (.inr HSB.out) _).set (.inr HSB.out) _).set (.inr HSB.out) _).set (.inr HSB.out) _).set (.inr HSB.out) _).set (.inr HSB.out) _)
  | some zs =>
    rw [hen] at hb3
    simp only [Option.getD_some] at hb3
    have HB3 := Lib.hid hb3
    have HEN := Lib.hid hen
    clear hb3 hen
    simp only [Option.getD_some, Option.isSome_some, if_true]
    go_wp2_with fail
    refine (equal_any A3 zs.length c3 zs A 25 c bs _ (by exact HB3.out) (by exact HB.out)).mono ?_
    rintro e w9 ⟨rfl, k9, rfl⟩
    have HD4 := Lib.hid (HD3.out.keep ((Only.refl _ _).drewN k9))
    have HRC4 := Lib.hid (HRC3.out.drewN k9)
    have HBY4 := Lib.hid (HBY3.out.drewN k9)
    generalize w8.drewN k9 = w10 at *
    clear HD3 HRC3 HBY3
    have HD3 := HD4
    have HRC3 := HRC4
    have HBY3 := HBY4
    clear HD4 HRC4 HBY4
    by_cases hyb : zs = bs
    · have hd : decide (zs = bs) = true := by simp [hyb]
      have HYES : Hid (decFr bs = some ⟨x0, x1, x2, x3, x4, x5, x6, []⟩) := Lib.hid (by rw [← HDS.out, HEN.out, hyb, if_pos rfl])
      rw [hd]
      clear hd hyb HEN HDS
      have y0 := HD3.out.box.cell 0 (by simp)
      have y1 := HD3.out.box.cell 1 (by simp)
      have y2 := HD3.out.box.cell 2 (by simp)
      have y3 := HD3.out.box.cell 3 (by simp)
      have y4 := HD3.out.box.cell 4 (by simp)
      have y5 := HD3.out.box.cell 5 (by simp)
      have y6 := HD3.out.box.cell 6 (by simp)
      have y7 := HD3.out.box.cell 7 (by simp)
      have r0 := HRC3.out.cell 0 (by simp)
      have r1 := HRC3.out.cell 1 (by simp)
      have r2 := HRC3.out.cell 2 (by simp)
      have r3 := HRC3.out.cell 3 (by simp)
      have r4 := HRC3.out.cell 4 (by simp)
      have r5 := HRC3.out.cell 5 (by simp)
      have r6 := HRC3.out.cell 6 (by simp)
      have r7 := HRC3.out.cell 7 (by simp)
      simp only [List.getElem_cons_zero, List.getElem_cons_succ] at y0 y1 y2 y3 y4 y5 y6 y7 r0 r1 r2 r3 r4 r5 r6 r7
      have z0 := HRC3.out.frozen 0
      have z1 := HRC3.out.frozen 1
      have z2 := HRC3.out.frozen 2
      have z3 := HRC3.out.frozen 3
      have z4 := HRC3.out.frozen 4
      have z5 := HRC3.out.frozen 5
      have z6 := HRC3.out.frozen 6
      have z7 := HRC3.out.frozen 7
      go_wp2
      (try simp only [Exit.inBlock, Exit.then])
      refine bodyPost_ret (v := .tuple #[.agg #[.int .i64 x0, .int .i64 x1, .int .i64 x2, .int .i64 x3, .int .i64 x4, .int .i64 x5, .int .i64 x6, .slice none 0 0], .int .i64 0]) ?_ rfl ?_
      · simp only [results, HRES.out]
        go_simp
      · rw [HYES.out]
        exact ⟨none, 0, 0, rfl, HBY3.out.keepP (S := [w.heap.size]) (((((((((Only.refl [w.heap.size] _).set (by simp) _).set (by simp) _).set (by simp) _).set (by simp) _).set (by simp) _).set (by simp) _).set (by simp) _).set (by simp) _) (fun h0 => absurd h0 (by decide)), ((((((((HD3.out.only.set (.inr HSB.out) _).set (.inr HSB.out) _).set (.inr HSB.out) _).set (.inr HSB.out) _).set (.inr HSB.out) _).set (.inr HSB.out) _).set (.inr HSB.out) _).set (.inr HSB.out) _)⟩
    · have hd : decide (zs = bs) = false := by simp [hyb]
      have HNO : Hid (decFr bs = none) := Lib.hid (by rw [← HDS.out, HEN.out, if_neg (by intro h; injection h with h; exact hyb h)])
      rw [hd]
      clear hd hyb HEN HDS
      have y0 := HD3.out.box.cell 0 (by simp)
      have y1 := HD3.out.box.cell 1 (by simp)
      have y2 := HD3.out.box.cell 2 (by simp)
      have y3 := HD3.out.box.cell 3 (by simp)
      have y4 := HD3.out.box.cell 4 (by simp)
      have y5 := HD3.out.box.cell 5 (by simp)
      have y6 := HD3.out.box.cell 6 (by simp)
      have y7 := HD3.out.box.cell 7 (by simp)
      have r0 := HRC3.out.cell 0 (by simp)
      have r1 := HRC3.out.cell 1 (by simp)
      have r2 := HRC3.out.cell 2 (by simp)
      have r3 := HRC3.out.cell 3 (by simp)
      have r4 := HRC3.out.cell 4 (by simp)
      have r5 := HRC3.out.cell 5 (by simp)
      have r6 := HRC3.out.cell 6 (by simp)
      have r7 := HRC3.out.cell 7 (by simp)
      simp only [List.getElem_cons_zero, List.getElem_cons_succ] at y0 y1 y2 y3 y4 y5 y6 y7 r0 r1 r2 r3 r4 r5 r6 r7
      have z0 := HRC3.out.frozen 0
      have z1 := HRC3.out.frozen 1
      have z2 := HRC3.out.frozen 2
      have z3 := HRC3.out.frozen 3
      have z4 := HRC3.out.frozen 4
      have z5 := HRC3.out.frozen 5
      have z6 := HRC3.out.frozen 6
      have z7 := HRC3.out.frozen 7
      go_wp2
      (try simp only [Exit.inBlock, Exit.then])
      refine bodyPost_ret (v := .tuple #[.agg #[.int .i64 0, .int .i64 0, .int .i64 0, .int .i64 0, .int .i64 0, .int .i64 0, .int .i64 0, .slice none 0 0], .int .i64 2]) ?_ rfl ?_
      · simp only [results, HRES.out]
        go_simp
      · exact FrSays.no HNO.out ((((((((HD3.out.only.set (.inr HSB.out) _).set (.inr HSB.out) _).set (.inr HSB.out) _).set (.inr HSB.out) _).set (.inr HSB.out) _).set (.inr HSB.out) _).set (.inr HSB.out) _).set (.inr HSB.out) _)

theorem ref_frame_dec_any (A : Option Addr) (n c : Nat) (bs : List UInt8) (w : World) (hi : Bys w A n c bs) (hn : n ≤ 65536) :
    Calls Try.prog 46 #[.slice A n c] w (FrSays w (decFr bs) 2) := by
  by_cases h : n < 25 ∨ 89 < n
  · exact ref_frame_dec_bad A n c bs w hi h hn
  · by_cases h25 : n = 25
    · exact ref_frame_dec_bare A n c bs w hi h25
    · exact ref_frame_dec_full A n c bs w hi (by omega) (by omega)
end Go.Proofs.Ytjmbhknokobnpaa
