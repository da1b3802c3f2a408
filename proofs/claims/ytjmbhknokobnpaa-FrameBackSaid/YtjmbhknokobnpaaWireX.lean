/- Contract of frame.Of. Printed by mkwire7.py. -/
import Derived.Test.YtjmbhknokobnpaaWireV
import Derived.Test.YtjmbhknokobnpaaWireN
import Derived.Test.YtjmbhknokobnpaaItemB
import Derived.Deep.RegionHeld3
import Derived.Deep.DeepCutAuto
set_option linter.unusedVariables false
set_option linter.unusedSimpArgs false
namespace Go.Kn
open Go Go.RowKit
/-- a frame of an op in a box of the call's own, its bytes cloned -/
def FrBox (w W : World) (r : Nat) (Z : List Value) (k v s b c e : Int) (xs : List UInt8) (t : Value) (wx : World) : Prop :=
  ∃ g A n cp, t = .pointer (some ⟨g, 0, none⟩) ∧ w.heap.size ≤ g ∧ g ≠ r ∧ Own wx g [.int .i64 k, .int .i64 v, .int .i64 s, .int .i64 b, .int .i64 c, .int .i64 e, .int .i64 0, .slice A n cp] ∧ Bys wx A n cp xs ∧ (0 < n → ∀ a, A = some a → a.block ≠ r) ∧ Own wx r Z ∧ Only [] w wx
end Go.Kn
namespace Go.Proofs.Ytjmbhknokobnpaa
open Go Go.RowKit Go.Kn

set_option maxRecDepth 100000 in
set_option maxHeartbeats 8000000 in
theorem frame_for_any (v s k b c e : Int) (A : Option Addr) (n cp : Nat) (xs : List UInt8) (w : World) (hi : Bys w A n cp xs) (hn : n ≤ 1000000) :
    Calls Try.prog 51 #[.int .i64 v, .int .i64 s, .agg #[.int .i64 k, .int .i64 b, .int .i64 c, .int .i64 e, .slice A n cp]] w (FrSaysB w (frFor v s ⟨k, b, c, e, xs⟩)) := by
  have hlen := hi.len
  rw [bvs_length] at hlen
  have hres : Try.f51.results = #[.cell 6 64, .tmp 7] := by kernel_rfl
  have HRES := Lib.hid hres
  obtain ⟨mm, hmm⟩ : ∃ mm, frMay ⟨k, v, s, b, c, e, 0, xs⟩ = mm := ⟨_, rfl⟩
  have hop : frFor v s ⟨k, b, c, e, xs⟩ = if mm = true ∧ k ≠ 8 ∧ k ≠ 9 then some ⟨k, v, s, b, c, e, 0, xs⟩ else none := by
    unfold frFor
    dsimp only
    rw [hmm]
  obtain ⟨oo, hoo⟩ : ∃ oo, frFor v s ⟨k, b, c, e, xs⟩ = oo := ⟨_, rfl⟩
  rw [hoo] at hop ⊢
  have HOP := Lib.hid hop
  have HMM := Lib.hid hmm
  have HLEN := Lib.hid hlen
  have hs1 : (w.alloc (.cells #[.int .i64 k, .int .i64 b, .int .i64 c, .int .i64 e, .slice A n cp] 78)).heap.size = w.heap.size + 1 := by simp
  have HBX := ((Boxes.nil w).new #[.int .i64 k, .int .i64 b, .int .i64 c, .int .i64 e, .slice A n cp] 78).new #[.int .i64 0, .int .i64 0, .int .i64 0, .int .i64 0, .int .i64 0, .int .i64 0, .int .i64 0, .slice none 0 0] 64
  rw [hs1] at HBX
  have HB0 := Lib.hid HBX
  have HI0 := Lib.hid ((hi.alloc (.cells #[.int .i64 k, .int .i64 b, .int .i64 c, .int .i64 e, .slice A n cp] 78)).alloc (.cells #[.int .i64 0, .int .i64 0, .int .i64 0, .int .i64 0, .int .i64 0, .int .i64 0, .int .i64 0, .slice none 0 0] 64))
  have HO0 := Lib.hid (((Only.refl [] w).alloc (.cells #[.int .i64 k, .int .i64 b, .int .i64 c, .int .i64 e, .slice A n cp] 78)).alloc (.cells #[.int .i64 0, .int .i64 0, .int .i64 0, .int .i64 0, .int .i64 0, .int .i64 0, .int .i64 0, .slice none 0 0] 64))
  clear hres hi hmm hop hoo hlen HBX hs1
  have key : mm = false ∨ (mm = true ∧ k = 8) ∨ (mm = true ∧ k = 9) ∨ (mm = true ∧ k ≠ 8 ∧ k ≠ 9) := by
    by_cases h8 : k = 8
    · cases mm <;> simp [h8]
    · by_cases h9 : k = 9
      · cases mm <;> simp [h9]
      · cases mm <;> simp [h8, h9]
  go_enter Try.func51, Try.ntmps51
  go_upto_region 1 with (fail)
  refine opaqueW (F := Code.wp _ _ _ _) ?_
  intro wx hwx
  have hB : Boxes wx _ := hwx ▸ HB0.out
  have hI : Bys wx A n cp xs := hwx ▸ HI0.out
  have hO : Only [] w wx := hwx ▸ HO0.out
  clear hwx HB0 HI0 HO0
  have HB := Lib.hid hB
  have HI := Lib.hid hI
  have HO := Lib.hid hO
  have hszx : w.heap.size + 1 < wx.heap.size := (hB (w.heap.size + 1, [.int .i64 0, .int .i64 0, .int .i64 0, .int .i64 0, .int .i64 0, .int .i64 0, .int .i64 0, .slice none 0 0]) (by simp)).lt
  clear hB hI hO
  go_cut [8] (fun s8 wz => FrBox w wx (w.heap.size + 1) [.int .i64 0, .int .i64 0, .int .i64 0, .int .i64 0, .int .i64 0, .int .i64 0, .int .i64 0, .slice none 0 0] k v s b c e xs s8 wz)
  case first =>
    have Bx := HB.out (w.heap.size, [.int .i64 k, .int .i64 b, .int .i64 c, .int .i64 e, .slice A n cp]) (by simp)
    have x0 := Bx.cell 0 (by simp)
    have x1 := Bx.cell 1 (by simp)
    have x2 := Bx.cell 2 (by simp)
    have x3 := Bx.cell 3 (by simp)
    have x4 := Bx.cell 4 (by simp)
    simp only [List.getElem_cons_zero, List.getElem_cons_succ] at x0 x1 x2 x3 x4
    clear Bx
    have hn1 : ¬ (w.heap.size = wx.heap.size) := by omega
    have hn2 : ¬ (wx.heap.size = w.heap.size) := by omega
    have XX : Hid (wx.cell? ⟨w.heap.size, 0, none⟩ = some (.int .i64 k) ∧ wx.cell? ⟨w.heap.size, 1, none⟩ = some (.int .i64 b) ∧ wx.cell? ⟨w.heap.size, 2, none⟩ = some (.int .i64 c) ∧ wx.cell? ⟨w.heap.size, 3, none⟩ = some (.int .i64 e) ∧ wx.cell? ⟨w.heap.size, 4, none⟩ = some (.slice A n cp)) := Lib.hid ⟨x0, x1, x2, x3, x4⟩
    have XD : Hid (wx.drew.cell? ⟨w.heap.size, 0, none⟩ = some (.int .i64 k) ∧ wx.drew.cell? ⟨w.heap.size, 1, none⟩ = some (.int .i64 b) ∧ wx.drew.cell? ⟨w.heap.size, 2, none⟩ = some (.int .i64 c) ∧ wx.drew.cell? ⟨w.heap.size, 3, none⟩ = some (.int .i64 e) ∧ wx.drew.cell? ⟨w.heap.size, 4, none⟩ = some (.slice A n cp)) := Lib.hid ⟨x0, x1, x2, x3, x4⟩
    go_region_held3 (fun w' => w'.cell? ⟨w.heap.size, 0, none⟩ = some (.int .i64 k) ∧ w'.cell? ⟨w.heap.size, 1, none⟩ = some (.int .i64 b) ∧ w'.cell? ⟨w.heap.size, 2, none⟩ = some (.int .i64 c) ∧ w'.cell? ⟨w.heap.size, 3, none⟩ = some (.int .i64 e) ∧ w'.cell? ⟨w.heap.size, 4, none⟩ = some (.slice A n cp))
      (first | with_reducible exact XX.out | with_reducible exact XD.out | with_reducible exact ⟨g0, g1, g2, g3, g4⟩ | go_keep)
      (first
      | (go_at_call 114; refine (clone_any A n cp xs _ (by first | exact HI.out | exact HI.out.drew | exact HI.out.alloc _ | exact HI.out.drew.alloc _ | exact (HI.out.alloc _).drew) hn).mono ?_
         rintro en w2 ⟨A2, c2, rfl, hc2, hm2, hpos2, hO2⟩
         have hO2' : Only [] wx w2 := by
           first
             | exact ((Only.refl [] wx).drew).trans' hO2
             | exact (((Only.refl [] wx).drew).alloc _).trans' hO2
             | exact (((Only.refl [] wx).alloc _).drew).trans' hO2
             | exact (Only.refl [] wx).trans' hO2
         have g0 := hO2'.cell x0 (by simp)
         have g1 := hO2'.cell x1 (by simp)
         have g2 := hO2'.cell x2 (by simp)
         have g3 := hO2'.cell x3 (by simp)
         have g4 := hO2'.cell x4 (by simp)
         have HO2 := Lib.hid hO2'
         have HB2 := Lib.hid (HB.out.keep0 hO2')
         first
           | (have hq : Only [] wx.drew w2 := by with_reducible exact hO2
              clear hq)
           | (have hnew0 := (Own.new wx.drew #[.int .i64 0, .int .i64 0, .int .i64 0, .int .i64 0, .int .i64 0, .int .i64 0, .int .i64 0, .slice none 0 0] 64).keep0 hO2
              have hnew : Own w2 wx.heap.size [.int .i64 0, .int .i64 0, .int .i64 0, .int .i64 0, .int .i64 0, .int .i64 0, .int .i64 0, .slice none 0 0] := hnew0
              have HNEW := Lib.hid hnew
              have hne0 := hO2'.size
              have ltn := hnew.lt
              have p0 := hnew.cell 0 (by simp)
              have q0 := hnew.frozen 0
              have p1 := hnew.cell 1 (by simp)
              have q1 := hnew.frozen 1
              have p2 := hnew.cell 2 (by simp)
              have q2 := hnew.frozen 2
              have p3 := hnew.cell 3 (by simp)
              have q3 := hnew.frozen 3
              have p4 := hnew.cell 4 (by simp)
              have q4 := hnew.frozen 4
              have p5 := hnew.cell 5 (by simp)
              have q5 := hnew.frozen 5
              have p6 := hnew.cell 6 (by simp)
              have q6 := hnew.frozen 6
              have p7 := hnew.cell 7 (by simp)
              have q7 := hnew.frozen 7
              simp only [List.getElem_cons_zero, List.getElem_cons_succ] at p0 p1 p2 p3 p4 p5 p6 p7
              clear hnew hnew0)
         have HBY := Lib.hid (made_row hc2 hm2 hpos2)
         have HPOS := Lib.hid hpos2
         clear hO2 hO2' hc2 hm2 hpos2))
    · have hs1 := HO.out.size
      have hs2 := HO2.out.size
      go_wp2
      go_meet
      case rel =>
        refine ⟨w2.heap.size, A2, xs.length, c2, rfl, by omega, by omega, Own.new w2 #[.int .i64 k, .int .i64 v, .int .i64 s, .int .i64 b, .int .i64 c, .int .i64 e, .int .i64 0, .slice A2 xs.length c2] 64, HBY.out.alloc _, fun h0 a ha => ?_, (HB2.out (w.heap.size + 1, [.int .i64 0, .int .i64 0, .int .i64 0, .int .i64 0, .int .i64 0, .int .i64 0, .int .i64 0, .slice none 0 0]) (by simp)).alloc _, (HO.out.trans' HO2.out).alloc _⟩
        obtain ⟨g', e', hg', _⟩ := HPOS.out h0
        rw [e'] at ha
        injection ha with ha
        subst ha
        have : wx.drew.heap.size = wx.heap.size := rfl
        dsimp only
        omega
    · have hs1 := HO.out.size
      have hs2 := HO2.out.size
      go_wp2
      go_meet
      case rel =>
        have hfar : 0 < xs.length → ∀ a, A2 = some a → wx.heap.size < a.block := fun h0 a ha => by
          obtain ⟨g', e', hg', _⟩ := HPOS.out h0
          rw [e'] at ha
          injection ha with ha
          subst ha
          simp at hg'
          dsimp only
          omega
        refine ⟨wx.heap.size, A2, xs.length, c2, rfl, by omega, by omega, (((((((HNEW.out.set 0 _).set 1 _).set 2 _).set 3 _).set 4 _).set 5 _).set 6 _).set 7 _, HBY.out.keepP (S := [wx.heap.size]) (by (repeat' refine Only.set ?_ (.inl (by simp)) _); exact Only.refl _ _) (fun h0 a ha => by have := hfar h0 a ha; simp; omega), fun h0 a ha => by have := hfar h0 a ha; omega, (HB2.out (w.heap.size + 1, [.int .i64 0, .int .i64 0, .int .i64 0, .int .i64 0, .int .i64 0, .int .i64 0, .int .i64 0, .slice none 0 0]) (by simp)).keep (S := [wx.heap.size]) (by (repeat' refine Only.set ?_ (.inl (by simp)) _); exact Only.refl _ _) (by simp; omega), ?_⟩
        (repeat' refine Only.set ?_ (.inr (by first | (simp; done) | (simp; omega) | omega)) _)
        exact HO.out.trans' HO2.out
  case rest =>
    obtain ⟨g, A2, n2, c2, rfl, hg, hgr, hF, hY, hfar, hR, hO2⟩ := hcut
    have HY := Lib.hid hY
    have HFAR := Lib.hid hfar
    have HB2 := Lib.hid (Boxes.cons hF (Boxes.cons hR (Boxes.nil _)))
    have HO2 := Lib.hid hO2
    clear hY hfar hO2 HB HO HI
    have hgr2 : ¬ (w.heap.size + 1 = g) := fun h => hgr h.symm
    have f0 := hF.cell 0 (by simp)
    have f1 := hF.cell 1 (by simp)
    have f2 := hF.cell 2 (by simp)
    have f3 := hF.cell 3 (by simp)
    have f4 := hF.cell 4 (by simp)
    have f5 := hF.cell 5 (by simp)
    have f6 := hF.cell 6 (by simp)
    have f7 := hF.cell 7 (by simp)
    simp only [List.getElem_cons_zero, List.getElem_cons_succ] at f0 f1 f2 f3 f4 f5 f6 f7
    clear hF hR
    have tail : ∀ (b1 : Bool), mm = b1 → True := fun _ _ => trivial
    clear tail
    go_wp2_with fail
    refine (frame_may_any k v s b c e 0 A2 n2 c2 xs _ (by exact HY.out)).mono ?_
    rintro en w5 ⟨rfl, hO5⟩
    rw [HMM.out]
    have HB5 := Lib.hid (HB2.out.keep0 hO5)
    have HY5 := Lib.hid (HY.out.keep0 hO5)
    have HO5 := Lib.hid (HO2.out.trans' hO5)
    clear hO5 HB2 HY HO2 f0 f1 f2 f3 f4 f5 f6 f7
    have Bf := HB5.out (g, [.int .i64 k, .int .i64 v, .int .i64 s, .int .i64 b, .int .i64 c, .int .i64 e, .int .i64 0, .slice A2 n2 c2]) (by simp)
    have f0 := Bf.cell 0 (by simp)
    have f1 := Bf.cell 1 (by simp)
    have f2 := Bf.cell 2 (by simp)
    have f3 := Bf.cell 3 (by simp)
    have f4 := Bf.cell 4 (by simp)
    have f5 := Bf.cell 5 (by simp)
    have f6 := Bf.cell 6 (by simp)
    have f7 := Bf.cell 7 (by simp)
    simp only [List.getElem_cons_zero, List.getElem_cons_succ] at f0 f1 f2 f3 f4 f5 f6 f7
    have Bt := HB5.out (w.heap.size + 1, [.int .i64 0, .int .i64 0, .int .i64 0, .int .i64 0, .int .i64 0, .int .i64 0, .int .i64 0, .slice none 0 0]) (by simp)
    have t0 := Bt.cell 0 (by simp)
    have t1 := Bt.cell 1 (by simp)
    have t2 := Bt.cell 2 (by simp)
    have t3 := Bt.cell 3 (by simp)
    have t4 := Bt.cell 4 (by simp)
    have t5 := Bt.cell 5 (by simp)
    have t6 := Bt.cell 6 (by simp)
    have t7 := Bt.cell 7 (by simp)
    simp only [List.getElem_cons_zero, List.getElem_cons_succ] at t0 t1 t2 t3 t4 t5 t6 t7
    have u0 := Bt.frozen 0
    have u1 := Bt.frozen 1
    have u2 := Bt.frozen 2
    have u3 := Bt.frozen 3
    have u4 := Bt.frozen 4
    have u5 := Bt.frozen 5
    have u6 := Bt.frozen 6
    have u7 := Bt.frozen 7
    have ltg := Bf.lt
    have ltr := Bt.lt
    clear Bf Bt
    rcases key with rfl | ⟨rfl, rfl⟩ | ⟨rfl, rfl⟩ | ⟨rfl, h8, h9⟩
    · go_wp2
      (try simp only [Exit.inBlock, Exit.then])
      refine bodyPost_ret (v := .tuple #[.agg #[.int .i64 0, .int .i64 0, .int .i64 0, .int .i64 0, .int .i64 0, .int .i64 0, .int .i64 0, .slice none 0 0], .bool false]) ?_ rfl ?_
      · simp only [results, HRES.out]
        go_simp
      · refine FrSaysB.no (by rw [HOP.out]; simp) ?_
        (repeat' refine Only.set ?_ (.inr (by first | (simp; done) | (simp; omega) | omega)) _)
        exact HO5.out
    · go_wp2
      (try simp only [Exit.inBlock, Exit.then])
      refine bodyPost_ret (v := .tuple #[.agg #[.int .i64 0, .int .i64 0, .int .i64 0, .int .i64 0, .int .i64 0, .int .i64 0, .int .i64 0, .slice none 0 0], .bool false]) ?_ rfl ?_
      · simp only [results, HRES.out]
        go_simp
      · refine FrSaysB.no (by rw [HOP.out]; simp) ?_
        (repeat' refine Only.set ?_ (.inr (by first | (simp; done) | (simp; omega) | omega)) _)
        exact HO5.out
    · go_wp2
      (try simp only [Exit.inBlock, Exit.then])
      refine bodyPost_ret (v := .tuple #[.agg #[.int .i64 0, .int .i64 0, .int .i64 0, .int .i64 0, .int .i64 0, .int .i64 0, .int .i64 0, .slice none 0 0], .bool false]) ?_ rfl ?_
      · simp only [results, HRES.out]
        go_simp
      · refine FrSaysB.no (by rw [HOP.out]; simp) ?_
        (repeat' refine Only.set ?_ (.inr (by first | (simp; done) | (simp; omega) | omega)) _)
        exact HO5.out
    · have q8 : (k == 8) = false := by simpa using h8
      have q9 : (k == 9) = false := by simpa using h9
      have HK := Lib.hid (And.intro h8 h9)
      clear h8 h9
      go_wp2
      (try simp only [Exit.inBlock, Exit.then])
      refine bodyPost_ret (v := .tuple #[.agg #[.int .i64 k, .int .i64 v, .int .i64 s, .int .i64 b, .int .i64 c, .int .i64 e, .int .i64 0, .slice A2 n2 c2], .bool true]) ?_ rfl ?_
      · simp only [results, HRES.out]
        go_simp
      · have eo := HOP.out
        rw [if_pos ⟨by trivial, HK.out⟩] at eo
        subst eo
        refine ⟨A2, n2, c2, rfl, HY5.out.keepP (S := [w.heap.size + 1]) (by (repeat' refine Only.set ?_ (.inl (by simp)) _); exact Only.refl _ _) (fun h0 a ha => by have := HFAR.out h0 a ha; simpa using this), ?_⟩
        (repeat' refine Only.set ?_ (.inr (by first | (simp; done) | (simp; omega) | omega)) _)
        exact HO5.out
end Go.Proofs.Ytjmbhknokobnpaa
