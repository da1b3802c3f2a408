/- Contract of super.Decode. Printed by mkcodec.py. -/
import Derived.Test.YtjmbhknokobnpaaBytesEq
import Derived.Test.YtjmbhknokobnpaaSuperE
set_option linter.unusedVariables false
set_option linter.unusedSimpArgs false
namespace Go.Proofs.Ytjmbhknokobnpaa
open Go Go.RowKit Go.Kn

set_option maxRecDepth 100000 in
set_option maxHeartbeats 4000000 in
theorem super_dec_any (A : Option Addr) (n c : Nat) (bs : List UInt8) (w : World) (hi : Bys w A n c bs) (hn : n ≤ 65536) :
    Calls Try.prog 26 #[.slice A n c] w (SuperSays w (decSuper bs) 2) := by
  have hlen := hi.len
  rw [bvs_length] at hlen
  have HI := Lib.hid hi
  have HL := Lib.hid hlen
  clear hi hlen
  have hres : Try.f26.results = #[.cell 2 31, .tmp 3] := by kernel_rfl
  have HRES := Lib.hid hres
  clear hres
  go_enter Try.func26, Try.ntmps26
  go_wp2_with fail
  have HF0 := Lib.hid (Own.new w #[.int .i64 0, .int .i64 0, .int .i64 0, .int .i64 0, .int .i64 0] 31)
  have HO0 := Lib.hid ((Only.refl [] w).alloc (.cells #[.int .i64 0, .int .i64 0, .int .i64 0, .int .i64 0, .int .i64 0] 31))
  have HI0 := Lib.hid (HI.out.alloc (.cells #[.int .i64 0, .int .i64 0, .int .i64 0, .int .i64 0, .int .i64 0] 31))
  have HSZ : Hid (w.heap.size ≤ w.heap.size) := Lib.hid (Nat.le_refl _)
  generalize w.alloc (.cells #[.int .i64 0, .int .i64 0, .int .i64 0, .int .i64 0, .int .i64 0] 31) = w0 at *
  generalize hf : w.heap.size = f at HF0 HSZ ⊢
  have HFF := Lib.hid hf
  clear hf
  refine (from_any A n c bs _ HI0.out hn).mono ?_
  rintro e w1 ⟨p, g, rfl, hp, hg, hr, hO⟩
  have HD := Lib.hid (Decs.start HF0.out (by rw [HFF.out]; exact Nat.le_refl _) HO0.out hp hg hr hO)
  have hfg : f < w0.heap.size := HF0.out.lt
  clear hr hO HF0
  go_wp2_with fail
  refine (take_all p g 0 bs 2 _ (by exact HD.out.row)).mono ?_
  rintro e w2 ⟨A2, c2, rfl, _, _, hr, hO⟩
  have HD1 := Lib.hid (HD.out.got hr hO)
  generalize hk : takeK bs 0 2 = k0 at *
  generalize takeOk bs 0 2 = o0 at *
  generalize takeB bs 0 2 = b0 at *
  have HK0 := Lib.hid hk
  clear hr hO hk HD
  have HD := HD1
  clear HD1
  go_wp2_with fail
  refine (get_all p g k0 bs 1 _ (by exact HD.out.row)).mono ?_
  rintro e v0 ⟨rfl, hr, hO⟩
  have hn := HD.out.got hr hO
  generalize hx : ((getN bs k0 1 : Nat) : Int) = x0 at *
  have HX0 := Lib.hid hx
  generalize hk : getK bs k0 1 = k1 at *
  have HK1 := Lib.hid hk
  generalize getOk bs k0 1 = o1 at *
  have q0 := hn.box.cell 0 (by simp)
  have z0 := hn.box.frozen 0
  simp only [List.getElem_cons_zero, List.getElem_cons_succ] at q0
  have hm := hn.put 0 (.int .i64 x0)
  simp only [List.set_cons_zero, List.set_cons_succ] at hm
  have HD1 := Lib.hid hm
  clear hr hO hx hk hn hm HD
  have HD := HD1
  clear HD1
  go_wp2_with fail
  clear q0 z0
  refine (get_all p g k1 bs 1 _ (by exact HD.out.row)).mono ?_
  rintro e v1 ⟨rfl, hr, hO⟩
  have hn := HD.out.got hr hO
  generalize hx : ((getN bs k1 1 : Nat) : Int) = x1 at *
  have HX1 := Lib.hid hx
  generalize hk : getK bs k1 1 = k2 at *
  have HK2 := Lib.hid hk
  generalize getOk bs k1 1 = o2 at *
  have q0 := hn.box.cell 1 (by simp)
  have z0 := hn.box.frozen 1
  simp only [List.getElem_cons_zero, List.getElem_cons_succ] at q0
  have hm := hn.put 1 (.int .i64 x1)
  simp only [List.set_cons_zero, List.set_cons_succ] at hm
  have HD1 := Lib.hid hm
  clear hr hO hx hk hn hm HD
  have HD := HD1
  clear HD1
  go_wp2_with fail
  clear q0 z0
  refine (get_all p g k2 bs 1 _ (by exact HD.out.row)).mono ?_
  rintro e v2 ⟨rfl, hr, hO⟩
  have hn := HD.out.got hr hO
  generalize hx : ((getN bs k2 1 : Nat) : Int) = x2 at *
  have HX2 := Lib.hid hx
  generalize hk : getK bs k2 1 = k3 at *
  have HK3 := Lib.hid hk
  generalize getOk bs k2 1 = o3 at *
  have q0 := hn.box.cell 2 (by simp)
  have z0 := hn.box.frozen 2
  simp only [List.getElem_cons_zero, List.getElem_cons_succ] at q0
  have hm := hn.put 2 (.int .i64 x2)
  simp only [List.set_cons_zero, List.set_cons_succ] at hm
  have HD1 := Lib.hid hm
  clear hr hO hx hk hn hm HD
  have HD := HD1
  clear HD1
  go_wp2_with fail
  clear q0 z0
  refine (get_all p g k3 bs 4 _ (by exact HD.out.row)).mono ?_
  rintro e v3 ⟨rfl, hr, hO⟩
  have hn := HD.out.got hr hO
  generalize hx : ((getN bs k3 4 : Nat) : Int) = x3 at *
  have HX3 := Lib.hid hx
  generalize hk : getK bs k3 4 = k4 at *
  have HK4 := Lib.hid hk
  generalize getOk bs k3 4 = o4 at *
  have q0 := hn.box.cell 3 (by simp)
  have z0 := hn.box.frozen 3
  simp only [List.getElem_cons_zero, List.getElem_cons_succ] at q0
  have hm := hn.put 3 (.int .i64 x3)
  simp only [List.set_cons_zero, List.set_cons_succ] at hm
  have HD1 := Lib.hid hm
  clear hr hO hx hk hn hm HD
  have HD := HD1
  clear HD1
  go_wp2_with fail
  clear q0 z0
  refine (get_all p g k4 bs 4 _ (by exact HD.out.row)).mono ?_
  rintro e v4 ⟨rfl, hr, hO⟩
  have hn := HD.out.got hr hO
  generalize hx : ((getN bs k4 4 : Nat) : Int) = x4 at *
  have HX4 := Lib.hid hx
  generalize hk : getK bs k4 4 = k5 at *
  have HK5 := Lib.hid hk
  generalize getOk bs k4 4 = o5 at *
  have q0 := hn.box.cell 4 (by simp)
  have z0 := hn.box.frozen 4
  simp only [List.getElem_cons_zero, List.getElem_cons_succ] at q0
  have hm := hn.put 4 (.int .i64 x4)
  simp only [List.set_cons_zero, List.set_cons_succ] at hm
  have HD1 := Lib.hid hm
  clear hr hO hx hk hn hm HD
  have HD := HD1
  clear HD1
  generalize hwl : v4.setCell ⟨f, 4, none⟩ (.int .i64 x4) = wl at *
  have y0 := HD.out.box.cell 0 (by simp)
  have y1 := HD.out.box.cell 1 (by simp)
  have y2 := HD.out.box.cell 2 (by simp)
  have y3 := HD.out.box.cell 3 (by simp)
  have y4 := HD.out.box.cell 4 (by simp)
  simp only [List.getElem_cons_zero, List.getElem_cons_succ] at y0 y1 y2 y3 y4
  go_wp2_with fail
  clear hwl
  have HDS : Hid ((if encSuper ⟨x0, x1, x2, x3, x4⟩ = some bs then some ⟨x0, x1, x2, x3, x4⟩ else none) = decSuper bs) := Lib.hid (decBy_same (enc := encSuper) (of := superOf) (bs := bs) (x := ⟨x0, x1, x2, x3, x4⟩) (N := 64) (fun _ _ h => encSuper_len h) (fun h => by
    have e0 := (took_at (bs := bs) (k := 0) (n := 2) (by omega)).2
    have a0 : k0 = 2 := by rw [← HK0.out]; exact e0
    have g0 := got_at (bs := bs) (k := 2) (n := 1) (by omega) (by omega)
    have a1 : k1 = 3 := by rw [← HK1.out, a0]; exact g0.2
    have d0 : x0 = rd bs 2 1 := by rw [← HX0.out, a0]; exact g0.1
    have g1 := got_at (bs := bs) (k := 3) (n := 1) (by omega) (by omega)
    have a2 : k2 = 4 := by rw [← HK2.out, a1]; exact g1.2
    have d1 : x1 = rd bs 3 1 := by rw [← HX1.out, a1]; exact g1.1
    have g2 := got_at (bs := bs) (k := 4) (n := 1) (by omega) (by omega)
    have a3 : k3 = 5 := by rw [← HK3.out, a2]; exact g2.2
    have d2 : x2 = rd bs 4 1 := by rw [← HX2.out, a2]; exact g2.1
    have g3 := got_at (bs := bs) (k := 5) (n := 4) (by omega) (by omega)
    have a4 : k4 = 9 := by rw [← HK4.out, a3]; exact g3.2
    have d3 : x3 = rd bs 5 4 := by rw [← HX3.out, a3]; exact g3.1
    have g4 := got_at (bs := bs) (k := 9) (n := 4) (by omega) (by omega)
    have a5 : k5 = 13 := by rw [← HK5.out, a4]; exact g4.2
    have d4 : x4 = rd bs 9 4 := by rw [← HX4.out, a4]; exact g4.1
    unfold superOf
    rw [d0, d1, d2, d3, d4]))
  clear q0 z0 HX0 HX1 HX2 HX3 HX4 HK0 HK1 HK2 HK3 HK4 HK5
  refine (super_enc_any x0 x1 x2 x3 x4 _).mono ?_
  rintro e w8 ⟨A3, c3, rfl, hb3, _, hO3⟩
  have HB := Lib.hid (HI.out.keep0 (HD.out.only.trans' hO3))
  have HD3 := Lib.hid (HD.out.keep hO3)
  clear hO3 HD y0 y1 y2 y3 y4
  have HSB : Hid (w.heap.size ≤ f) := Lib.hid HD3.out.hf
  cases hen : encSuper ⟨x0, x1, x2, x3, x4⟩ with
  | none =>
    have HNO : Hid (decSuper bs = none) := Lib.hid (by rw [← HDS.out, hen]; rfl)
    rw [hen] at hb3
    clear hb3 hen HDS
    have y0 := HD3.out.box.cell 0 (by simp)
    have y1 := HD3.out.box.cell 1 (by simp)
    have y2 := HD3.out.box.cell 2 (by simp)
    have y3 := HD3.out.box.cell 3 (by simp)
    have y4 := HD3.out.box.cell 4 (by simp)
    simp only [List.getElem_cons_zero, List.getElem_cons_succ] at y0 y1 y2 y3 y4
    have z0 := HD3.out.box.frozen 0
    have z1 := HD3.out.box.frozen 1
    have z2 := HD3.out.box.frozen 2
    have z3 := HD3.out.box.frozen 3
    have z4 := HD3.out.box.frozen 4
    simp only [Option.getD_none, Option.isSome_none, List.length_nil]
    go_wp2
    (try simp only [Exit.inBlock, Exit.then])
    refine bodyPost_ret (v := .tuple #[.agg #[.int .i64 0, .int .i64 0, .int .i64 0, .int .i64 0, .int .i64 0], .int .i64 2]) ?_ rfl ?_
    · simp only [results, HRES.out]
      go_simp
    · rw [HNO.out]
      exact ⟨rfl, (((((HD3.out.only.set (.inr HSB.out) _).set (.inr HSB.out) _).set (.inr HSB.out) _).set (.inr HSB.out) _).set (.inr HSB.out) _)⟩
  | some ys =>
    rw [hen] at hb3
    simp only [Option.getD_some] at hb3
    have HB3 := Lib.hid hb3
    have HEN := Lib.hid hen
    clear hb3 hen
    simp only [Option.getD_some, Option.isSome_some, if_true]
    go_wp2_with fail
    refine (bytes_equal_any A3 ys.length c3 ys A n c bs _ (by exact HB3.out) (by exact HB.out)).mono ?_
    rintro e w9 ⟨rfl, rfl⟩
    by_cases hyb : ys = bs
    · have hd : decide (ys = bs) = true := by simp [hyb]
      have HYES : Hid (decSuper bs = some ⟨x0, x1, x2, x3, x4⟩) := Lib.hid (by rw [← HDS.out, HEN.out, hyb, if_pos rfl])
      rw [hd]
      clear hd hyb HEN HDS
      have y0 := HD3.out.box.cell 0 (by simp)
      have y1 := HD3.out.box.cell 1 (by simp)
      have y2 := HD3.out.box.cell 2 (by simp)
      have y3 := HD3.out.box.cell 3 (by simp)
      have y4 := HD3.out.box.cell 4 (by simp)
      simp only [List.getElem_cons_zero, List.getElem_cons_succ] at y0 y1 y2 y3 y4
      have z0 := HD3.out.box.frozen 0
      have z1 := HD3.out.box.frozen 1
      have z2 := HD3.out.box.frozen 2
      have z3 := HD3.out.box.frozen 3
      have z4 := HD3.out.box.frozen 4
      go_wp2
      (try simp only [Exit.inBlock, Exit.then])
      refine bodyPost_ret (v := .tuple #[.agg #[.int .i64 x0, .int .i64 x1, .int .i64 x2, .int .i64 x3, .int .i64 x4], .int .i64 0]) ?_ rfl ?_
      · simp only [results, HRES.out]
        go_simp
      · rw [HYES.out]
        exact ⟨rfl, (((((HD3.out.only.set (.inr HSB.out) _).set (.inr HSB.out) _).set (.inr HSB.out) _).set (.inr HSB.out) _).set (.inr HSB.out) _)⟩
    · have hd : decide (ys = bs) = false := by simp [hyb]
      have HYES : Hid (decSuper bs = none) := Lib.hid (by rw [← HDS.out, HEN.out, if_neg (by intro h; injection h with h; exact hyb h)])
      rw [hd]
      clear hd hyb HEN HDS
      have y0 := HD3.out.box.cell 0 (by simp)
      have y1 := HD3.out.box.cell 1 (by simp)
      have y2 := HD3.out.box.cell 2 (by simp)
      have y3 := HD3.out.box.cell 3 (by simp)
      have y4 := HD3.out.box.cell 4 (by simp)
      simp only [List.getElem_cons_zero, List.getElem_cons_succ] at y0 y1 y2 y3 y4
      have z0 := HD3.out.box.frozen 0
      have z1 := HD3.out.box.frozen 1
      have z2 := HD3.out.box.frozen 2
      have z3 := HD3.out.box.frozen 3
      have z4 := HD3.out.box.frozen 4
      go_wp2
      (try simp only [Exit.inBlock, Exit.then])
      refine bodyPost_ret (v := .tuple #[.agg #[.int .i64 0, .int .i64 0, .int .i64 0, .int .i64 0, .int .i64 0], .int .i64 2]) ?_ rfl ?_
      · simp only [results, HRES.out]
        go_simp
      · rw [HYES.out]
        exact ⟨rfl, (((((HD3.out.only.set (.inr HSB.out) _).set (.inr HSB.out) _).set (.inr HSB.out) _).set (.inr HSB.out) _).set (.inr HSB.out) _)⟩

end Go.Proofs.Ytjmbhknokobnpaa
