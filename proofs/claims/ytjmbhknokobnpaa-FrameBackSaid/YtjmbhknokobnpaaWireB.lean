/- Contract of frame.Decode. Printed by mkwire3.py. -/
import Derived.Test.YtjmbhknokobnpaaWireE
set_option linter.unusedVariables false
set_option linter.unusedSimpArgs false
namespace Go.Kn
open Go Go.RowKit
def frZero : Fr := ⟨0, 0, 0, 0, 0, 0, 0, []⟩
/-- what a reader of frames answers -/
def FrSays (w : World) (o : Option Fr) (err : Int) (e : Ending) (w' : World) : Prop :=
  ∃ A n c, e = .returned (.tuple #[.agg #[.int .i64 (o.getD frZero).k, .int .i64 (o.getD frZero).v, .int .i64 (o.getD frZero).s, .int .i64 (o.getD frZero).b, .int .i64 (o.getD frZero).c, .int .i64 (o.getD frZero).e, .int .i64 (o.getD frZero).d, .slice A n c], .int .i64 (if o.isSome then 0 else err)]) ∧ Bys w' A n c (o.getD frZero).data ∧ Only [] w w'
theorem FrSays.no {w w' : World} {o : Option Fr} {err : Int} (h : o = none) (hO : Only [] w w') : FrSays w o err (.returned (.tuple #[.agg #[.int .i64 0, .int .i64 0, .int .i64 0, .int .i64 0, .int .i64 0, .int .i64 0, .int .i64 0, .slice none 0 0], .int .i64 err])) w' := by
  subst h
  exact ⟨none, 0, 0, rfl, Row1.nil _, hO⟩
end Go.Kn
namespace Go.Proofs.Ytjmbhknokobnpaa
open Go Go.RowKit Go.Kn

set_option maxRecDepth 100000 in
set_option maxHeartbeats 8000000 in
theorem frame_dec_any (A : Option Addr) (n c : Nat) (bs : List UInt8) (w : World) (hi : Bys w A n c bs) (hn : n ≤ 65536) :
    Calls Try.prog 45 #[.slice A n c] w (FrSays w (decFr bs) 2) := by
  have hlen := hi.len
  rw [bvs_length] at hlen
  have HI := Lib.hid hi
  have HL := Lib.hid hlen
  clear hi hlen
  have hres : Try.f45.results = #[.cell 2 64, .tmp 3] := by kernel_rfl
  have HRES := Lib.hid hres
  clear hres
  go_enter Try.func45, Try.ntmps45
  go_wp2_with fail
  have HF0 := Lib.hid (Own.new w #[.int .i64 0, .int .i64 0, .int .i64 0, .int .i64 0, .int .i64 0, .int .i64 0, .int .i64 0, .slice none 0 0] 64)
  have HO0 := Lib.hid ((Only.refl [] w).alloc (.cells #[.int .i64 0, .int .i64 0, .int .i64 0, .int .i64 0, .int .i64 0, .int .i64 0, .int .i64 0, .slice none 0 0] 64))
  have HI0 := Lib.hid (HI.out.alloc (.cells #[.int .i64 0, .int .i64 0, .int .i64 0, .int .i64 0, .int .i64 0, .int .i64 0, .int .i64 0, .slice none 0 0] 64))
  generalize w.alloc (.cells #[.int .i64 0, .int .i64 0, .int .i64 0, .int .i64 0, .int .i64 0, .int .i64 0, .int .i64 0, .slice none 0 0] 64) = w0 at *
  generalize hf : w.heap.size = f at HF0 ⊢
  have HFF := Lib.hid hf
  clear hf
  refine (from_any A n c bs _ HI0.out hn).mono ?_
  rintro e w1 ⟨p, g, rfl, hp, hg, hr, hO⟩
  have HD := Lib.hid (Decs.start HF0.out (by rw [HFF.out]; exact Nat.le_refl _) HO0.out hp hg hr hO)
  have hfg : f < w0.heap.size := HF0.out.lt
  clear hr hO HF0
  go_wp2_with fail
  refine (take_all p g 0 bs 2 _ (by exact HD.out.row)).mono ?_
  rintro e w2 ⟨A2, c2, rfl, _, _, hr, hO⟩
  have HD1 := Lib.hid (HD.out.got hr hO)
  generalize hk : takeK bs 0 2 = k0 at *
  generalize takeOk bs 0 2 = o0 at *
  generalize takeB bs 0 2 = b0 at *
  have HK0 := Lib.hid hk
  clear hr hO hk HD
  have HD := HD1
  clear HD1
  go_wp2_with fail
  refine (get_all p g k0 bs 1 _ (by exact HD.out.row)).mono ?_
  rintro e v0 ⟨rfl, hr, hO⟩
  have hn := HD.out.got hr hO
  generalize hx : ((getN bs k0 1 : Nat) : Int) = x0 at *
  have HX0 := Lib.hid hx
  generalize hk : getK bs k0 1 = k1 at *
  have HK1 := Lib.hid hk
  generalize getOk bs k0 1 = o1 at *
  have q0 := hn.box.cell 0 (by simp)
  have z0 := hn.box.frozen 0
  simp only [List.getElem_cons_zero, List.getElem_cons_succ] at q0
  have hm := hn.put 0 (.int .i64 x0)
  simp only [List.set_cons_zero, List.set_cons_succ] at hm
  have HD1 := Lib.hid hm
  clear hr hO hx hk hn hm HD
  have HD := HD1
  clear HD1
  go_wp2_with fail
  clear q0 z0
  refine (get_all p g k1 bs 4 _ (by exact HD.out.row)).mono ?_
  rintro e v1 ⟨rfl, hr, hO⟩
  have hn := HD.out.got hr hO
  generalize hx : ((getN bs k1 4 : Nat) : Int) = x1 at *
  have HX1 := Lib.hid hx
  generalize hk : getK bs k1 4 = k2 at *
  have HK2 := Lib.hid hk
  generalize getOk bs k1 4 = o2 at *
  have q0 := hn.box.cell 1 (by simp)
  have z0 := hn.box.frozen 1
  simp only [List.getElem_cons_zero, List.getElem_cons_succ] at q0
  have hm := hn.put 1 (.int .i64 x1)
  simp only [List.set_cons_zero, List.set_cons_succ] at hm
  have HD1 := Lib.hid hm
  clear hr hO hx hk hn hm HD
  have HD := HD1
  clear HD1
  go_wp2_with fail
  clear q0 z0
  refine (get_all p g k2 bs 4 _ (by exact HD.out.row)).mono ?_
  rintro e v2 ⟨rfl, hr, hO⟩
  have hn := HD.out.got hr hO
  generalize hx : ((getN bs k2 4 : Nat) : Int) = x2 at *
  have HX2 := Lib.hid hx
  generalize hk : getK bs k2 4 = k3 at *
  have HK3 := Lib.hid hk
  generalize getOk bs k2 4 = o3 at *
  have q0 := hn.box.cell 2 (by simp)
  have z0 := hn.box.frozen 2
  simp only [List.getElem_cons_zero, List.getElem_cons_succ] at q0
  have hm := hn.put 2 (.int .i64 x2)
  simp only [List.set_cons_zero, List.set_cons_succ] at hm
  have HD1 := Lib.hid hm
  clear hr hO hx hk hn hm HD
  have HD := HD1
  clear HD1
  go_wp2_with fail
  clear q0 z0
  refine (get_all p g k3 bs 1 _ (by exact HD.out.row)).mono ?_
  rintro e v3 ⟨rfl, hr, hO⟩
  have hn := HD.out.got hr hO
  generalize hx : ((getN bs k3 1 : Nat) : Int) = x3 at *
  have HX3 := Lib.hid hx
  generalize hk : getK bs k3 1 = k4 at *
  have HK4 := Lib.hid hk
  generalize getOk bs k3 1 = o4 at *
  have q0 := hn.box.cell 3 (by simp)
  have z0 := hn.box.frozen 3
  simp only [List.getElem_cons_zero, List.getElem_cons_succ] at q0
  have hm := hn.put 3 (.int .i64 x3)
  simp only [List.set_cons_zero, List.set_cons_succ] at hm
  have HD1 := Lib.hid hm
  clear hr hO hx hk hn hm HD
  have HD := HD1
  clear HD1
  go_wp2_with fail
  clear q0 z0
  refine (get_all p g k4 bs 1 _ (by exact HD.out.row)).mono ?_
  rintro e v4 ⟨rfl, hr, hO⟩
  have hn := HD.out.got hr hO
  generalize hx : ((getN bs k4 1 : Nat) : Int) = x4 at *
  have HX4 := Lib.hid hx
  generalize hk : getK bs k4 1 = k5 at *
  have HK5 := Lib.hid hk
  generalize getOk bs k4 1 = o5 at *
  have q0 := hn.box.cell 4 (by simp)
  have z0 := hn.box.frozen 4
  simp only [List.getElem_cons_zero, List.getElem_cons_succ] at q0
  have hm := hn.put 4 (.int .i64 x4)
  simp only [List.set_cons_zero, List.set_cons_succ] at hm
  have HD1 := Lib.hid hm
  clear hr hO hx hk hn hm HD
  have HD := HD1
  clear HD1
  go_wp2_with fail
  clear q0 z0
  refine (get_all p g k5 bs 4 _ (by exact HD.out.row)).mono ?_
  rintro e v5 ⟨rfl, hr, hO⟩
  have hn := HD.out.got hr hO
  generalize hx : ((getN bs k5 4 : Nat) : Int) = x5 at *
  have HX5 := Lib.hid hx
  generalize hk : getK bs k5 4 = k6 at *
  have HK6 := Lib.hid hk
  generalize getOk bs k5 4 = o6 at *
  have q0 := hn.box.cell 5 (by simp)
  have z0 := hn.box.frozen 5
  simp only [List.getElem_cons_zero, List.getElem_cons_succ] at q0
  have hm := hn.put 5 (.int .i64 x5)
  simp only [List.set_cons_zero, List.set_cons_succ] at hm
  have HD1 := Lib.hid hm
  clear hr hO hx hk hn hm HD
  have HD := HD1
  clear HD1
  go_wp2_with fail
  clear q0 z0
  refine (get_all p g k6 bs 4 _ (by exact HD.out.row)).mono ?_
  rintro e v6 ⟨rfl, hr, hO⟩
  have hn := HD.out.got hr hO
  generalize hx : ((getN bs k6 4 : Nat) : Int) = x6 at *
  have HX6 := Lib.hid hx
  generalize hk : getK bs k6 4 = k7 at *
  have HK7 := Lib.hid hk
  generalize getOk bs k6 4 = o7 at *
  have q0 := hn.box.cell 6 (by simp)
  have z0 := hn.box.frozen 6
  simp only [List.getElem_cons_zero, List.getElem_cons_succ] at q0
  have hm := hn.put 6 (.int .i64 x6)
  simp only [List.set_cons_zero, List.set_cons_succ] at hm
  have HD1 := Lib.hid hm
  clear hr hO hx hk hn hm HD
  have HD := HD1
  clear HD1
  go_wp2_with fail
  clear q0 z0
  generalize hwl : v6.setCell ⟨f, 6, none⟩ (.int .i64 x6) = wl at *
  clear hwl
  have hkle : k7 ≤ bs.length := HD.out.row.le
  refine (left_any p g k7 bs _ (by exact HD.out.row)).mono ?_
  rintro e w3 ⟨rfl, n3, rfl⟩
  have HD1 := Lib.hid (HD.out.keep ((Only.refl _ _).drewN n3))
  clear HD
  have HD := HD1
  clear HD1
  have hb65 : bs.length ≤ 65536 := by rw [HL.out]; exact hn
  go_wp2_with fail
  obtain ⟨tk, htk⟩ : ∃ t : Int, t = ((bs.length - k7 : Nat) : Int) - 4 := ⟨_, rfl⟩
  rw [← htk]
  have HTK := Lib.hid htk
  clear htk
  refine (take_all p g k7 bs tk _ (by exact HD.out.row)).mono ?_
  rintro e w4 ⟨A7, c7, rfl, hb7, hfr7, hr, hO⟩
  have hn7 := HD.out.got hr hO
  generalize hys : takeB bs k7 tk = ys at *
  have HYS := Lib.hid hys
  generalize takeK bs k7 tk = k8 at *
  generalize takeOk bs k7 tk = o8 at *
  have q0 := hn7.box.cell 7 (by simp)
  have z0 := hn7.box.frozen 7
  simp only [List.getElem_cons_zero, List.getElem_cons_succ] at q0
  have hnf : 0 < ys.length → ∀ a, A7 = some a → a.block ≠ f := by
    intro h0 a ha
    have h1 := hfr7 h0 a ha
    have h2 := HD.out.box.lt
    omega
  have hby := hb7.keepP (S := [f]) ((Only.refl _ _).set (p := ⟨f, 7, none⟩) (by simp) (.slice A7 ys.length c7)) (fun h0 a ha => by simpa using hnf h0 a ha)
  have HBY := Lib.hid hby
  have HNF := Lib.hid hnf
  have hm := hn7.put 7 (.slice A7 ys.length c7)
  simp only [List.set_cons_zero, List.set_cons_succ] at hm
  have HD1 := Lib.hid hm
  clear hr hO hys hn7 hm HD hb7 hfr7 hby hnf
  have HD := HD1
  clear HD1
  generalize hwm : w4.setCell ⟨f, 7, none⟩ (.slice A7 ys.length c7) = wm at *
  have y0 := HD.out.box.cell 0 (by simp)
  have y1 := HD.out.box.cell 1 (by simp)
  have y2 := HD.out.box.cell 2 (by simp)
  have y3 := HD.out.box.cell 3 (by simp)
  have y4 := HD.out.box.cell 4 (by simp)
  have y5 := HD.out.box.cell 5 (by simp)
  have y6 := HD.out.box.cell 6 (by simp)
  have y7 := HD.out.box.cell 7 (by simp)
  simp only [List.getElem_cons_zero, List.getElem_cons_succ] at y0 y1 y2 y3 y4 y5 y6 y7
  go_wp2_with fail
  clear hwm
  have HDS : Hid ((if encFr ⟨x0, x1, x2, x3, x4, x5, x6, ys⟩ = some bs then some ⟨x0, x1, x2, x3, x4, x5, x6, ys⟩ else none) = decFr bs) := Lib.hid (fr_same (fun h => by
    have e0 := (took_at (bs := bs) (k := 0) (n := 2) (by omega)).2
    have a0 : k0 = 2 := by rw [← HK0.out]; exact e0
    have g0 := got_at (bs := bs) (k := 2) (n := 1) (by omega) (by omega)
    have a1 : k1 = 3 := by rw [← HK1.out, a0]; exact g0.2
    have d0 : x0 = rd bs 2 1 := by rw [← HX0.out, a0]; exact g0.1
    have g1 := got_at (bs := bs) (k := 3) (n := 4) (by omega) (by omega)
    have a2 : k2 = 7 := by rw [← HK2.out, a1]; exact g1.2
    have d1 : x1 = rd bs 3 4 := by rw [← HX1.out, a1]; exact g1.1
    have g2 := got_at (bs := bs) (k := 7) (n := 4) (by omega) (by omega)
    have a3 : k3 = 11 := by rw [← HK3.out, a2]; exact g2.2
    have d2 : x2 = rd bs 7 4 := by rw [← HX2.out, a2]; exact g2.1
    have g3 := got_at (bs := bs) (k := 11) (n := 1) (by omega) (by omega)
    have a4 : k4 = 12 := by rw [← HK4.out, a3]; exact g3.2
    have d3 : x3 = rd bs 11 1 := by rw [← HX3.out, a3]; exact g3.1
    have g4 := got_at (bs := bs) (k := 12) (n := 1) (by omega) (by omega)
    have a5 : k5 = 13 := by rw [← HK5.out, a4]; exact g4.2
    have d4 : x4 = rd bs 12 1 := by rw [← HX4.out, a4]; exact g4.1
    have g5 := got_at (bs := bs) (k := 13) (n := 4) (by omega) (by omega)
    have a6 : k6 = 17 := by rw [← HK6.out, a5]; exact g5.2
    have d5 : x5 = rd bs 13 4 := by rw [← HX5.out, a5]; exact g5.1
    have g6 := got_at (bs := bs) (k := 17) (n := 4) (by omega) (by omega)
    have a7 : k7 = 21 := by rw [← HK7.out, a6]; exact g6.2
    have d6 : x6 = rd bs 17 4 := by rw [← HX6.out, a6]; exact g6.1
    have dy : ys = (bs.drop 21).take (bs.length - 25) := by
      have ht : tk = ((bs.length - 25 : Nat) : Int) := by rw [HTK.out, a7]; omega
      have h1 := (took_at (bs := bs) (k := 21) (n := bs.length - 25) (by omega)).1
      rw [← HYS.out, ht, a7]
      exact h1
    unfold frOf
    rw [d0, d1, d2, d3, d4, d5, d6, dy]))
  clear q0 z0 HX0 HX1 HX2 HX3 HX4 HX5 HX6 HK0 HK1 HK2 HK3 HK4 HK5 HK6 HK7
  refine (frame_enc_any x0 x1 x2 x3 x4 x5 x6 A7 ys.length c7 ys _ (by exact HBY.out)).mono ?_
  rintro e w8 ⟨A3, c3, rfl, hb3, _, hO3⟩
  have HB := Lib.hid (HI.out.keep0 (HD.out.only.trans' hO3))
  have HD3 := Lib.hid (HD.out.keep hO3)
  have HBY3 := Lib.hid (HBY.out.keep0 hO3)
  have HSB : Hid (w.heap.size ≤ f) := Lib.hid HD3.out.hf
  clear hO3 HD y0 y1 y2 y3 y4 y5 y6 y7
  cases hen : encFr ⟨x0, x1, x2, x3, x4, x5, x6, ys⟩ with
  | none =>
    have HNO : Hid (decFr bs = none) := Lib.hid (by rw [← HDS.out, hen]; rfl)
    rw [hen] at hb3
    clear hb3 hen HDS
    have y0 := HD3.out.box.cell 0 (by simp)
    have y1 := HD3.out.box.cell 1 (by simp)
    have y2 := HD3.out.box.cell 2 (by simp)
    have y3 := HD3.out.box.cell 3 (by simp)
    have y4 := HD3.out.box.cell 4 (by simp)
    have y5 := HD3.out.box.cell 5 (by simp)
    have y6 := HD3.out.box.cell 6 (by simp)
    have y7 := HD3.out.box.cell 7 (by simp)
    simp only [List.getElem_cons_zero, List.getElem_cons_succ] at y0 y1 y2 y3 y4 y5 y6 y7
    have z0 := HD3.out.box.frozen 0
    have z1 := HD3.out.box.frozen 1
    have z2 := HD3.out.box.frozen 2
    have z3 := HD3.out.box.frozen 3
    have z4 := HD3.out.box.frozen 4
    have z5 := HD3.out.box.frozen 5
    have z6 := HD3.out.box.frozen 6
    have z7 := HD3.out.box.frozen 7
    simp only [Option.getD_none, Option.isSome_none, List.length_nil]
    go_wp2
    (try simp only [Exit.inBlock, Exit.then])
    refine bodyPost_ret (v := .tuple #[.agg #[.int .i64 0, .int .i64 0, .int .i64 0, .int .i64 0, .int .i64 0, .int .i64 0, .int .i64 0, .slice none 0 0], .int .i64 2]) ?_ rfl ?_
    · simp only [results, HRES.out]
      go_simp
    · exact FrSays.no HNO.out ((((((((HD3.out.only.set (.inr HSB.out) _).set (.inr HSB.out) _).set (.inr HSB.out) _).set (.inr HSB.out) _).set (.inr HSB.out) _).set (.inr HSB.out) _).set (.inr HSB.out) _).set (.inr HSB.out) _)
  | some zs =>
    rw [hen] at hb3
    simp only [Option.getD_some] at hb3
    have HB3 := Lib.hid hb3
    have HEN := Lib.hid hen
    clear hb3 hen
    simp only [Option.getD_some, Option.isSome_some, if_true]
    go_wp2_with fail
    refine (bytes_equal_any A3 zs.length c3 zs A n c bs _ (by exact HB3.out) (by exact HB.out)).mono ?_
    rintro e w9 ⟨rfl, rfl⟩
    by_cases hyb : zs = bs
    · have hd : decide (zs = bs) = true := by simp [hyb]
      have HYES : Hid (decFr bs = some ⟨x0, x1, x2, x3, x4, x5, x6, ys⟩) := Lib.hid (by rw [← HDS.out, HEN.out, hyb, if_pos rfl])
      rw [hd]
      clear hd hyb HEN HDS
      have y0 := HD3.out.box.cell 0 (by simp)
      have y1 := HD3.out.box.cell 1 (by simp)
      have y2 := HD3.out.box.cell 2 (by simp)
      have y3 := HD3.out.box.cell 3 (by simp)
      have y4 := HD3.out.box.cell 4 (by simp)
      have y5 := HD3.out.box.cell 5 (by simp)
      have y6 := HD3.out.box.cell 6 (by simp)
      have y7 := HD3.out.box.cell 7 (by simp)
      simp only [List.getElem_cons_zero, List.getElem_cons_succ] at y0 y1 y2 y3 y4 y5 y6 y7
      have z0 := HD3.out.box.frozen 0
      have z1 := HD3.out.box.frozen 1
      have z2 := HD3.out.box.frozen 2
      have z3 := HD3.out.box.frozen 3
      have z4 := HD3.out.box.frozen 4
      have z5 := HD3.out.box.frozen 5
      have z6 := HD3.out.box.frozen 6
      have z7 := HD3.out.box.frozen 7
      go_wp2
      (try simp only [Exit.inBlock, Exit.then])
      refine bodyPost_ret (v := .tuple #[.agg #[.int .i64 x0, .int .i64 x1, .int .i64 x2, .int .i64 x3, .int .i64 x4, .int .i64 x5, .int .i64 x6, .slice A7 ys.length c7], .int .i64 0]) ?_ rfl ?_
      · simp only [results, HRES.out]
        go_simp
      · rw [HYES.out]
        exact ⟨A7, ys.length, c7, rfl, HBY3.out.keepP (S := [f]) (((((((((Only.refl [f] _).set (by simp) _).set (by simp) _).set (by simp) _).set (by simp) _).set (by simp) _).set (by simp) _).set (by simp) _).set (by simp) _) (fun h0 a ha => by simpa using HNF.out h0 a ha), ((((((((HD3.out.only.set (.inr HSB.out) _).set (.inr HSB.out) _).set (.inr HSB.out) _).set (.inr HSB.out) _).set (.inr HSB.out) _).set (.inr HSB.out) _).set (.inr HSB.out) _).set (.inr HSB.out) _)⟩
    · have hd : decide (zs = bs) = false := by simp [hyb]
      have HNO : Hid (decFr bs = none) := Lib.hid (by rw [← HDS.out, HEN.out, if_neg (by intro h; injection h with h; exact hyb h)])
      rw [hd]
      clear hd hyb HEN HDS
      have y0 := HD3.out.box.cell 0 (by simp)
      have y1 := HD3.out.box.cell 1 (by simp)
      have y2 := HD3.out.box.cell 2 (by simp)
      have y3 := HD3.out.box.cell 3 (by simp)
      have y4 := HD3.out.box.cell 4 (by simp)
      have y5 := HD3.out.box.cell 5 (by simp)
      have y6 := HD3.out.box.cell 6 (by simp)
      have y7 := HD3.out.box.cell 7 (by simp)
      simp only [List.getElem_cons_zero, List.getElem_cons_succ] at y0 y1 y2 y3 y4 y5 y6 y7
      have z0 := HD3.out.box.frozen 0
      have z1 := HD3.out.box.frozen 1
      have z2 := HD3.out.box.frozen 2
      have z3 := HD3.out.box.frozen 3
      have z4 := HD3.out.box.frozen 4
      have z5 := HD3.out.box.frozen 5
      have z6 := HD3.out.box.frozen 6
      have z7 := HD3.out.box.frozen 7
      go_wp2
      (try simp only [Exit.inBlock, Exit.then])
      refine bodyPost_ret (v := .tuple #[.agg #[.int .i64 0, .int .i64 0, .int .i64 0, .int .i64 0, .int .i64 0, .int .i64 0, .int .i64 0, .slice none 0 0], .int .i64 2]) ?_ rfl ?_
      · simp only [results, HRES.out]
        go_simp
      · exact FrSays.no HNO.out ((((((((HD3.out.only.set (.inr HSB.out) _).set (.inr HSB.out) _).set (.inr HSB.out) _).set (.inr HSB.out) _).set (.inr HSB.out) _).set (.inr HSB.out) _).set (.inr HSB.out) _).set (.inr HSB.out) _)
end Go.Proofs.Ytjmbhknokobnpaa
