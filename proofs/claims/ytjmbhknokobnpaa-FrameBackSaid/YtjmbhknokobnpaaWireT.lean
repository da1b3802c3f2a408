/- Contract of frame.Op. Printed by mkwire6.py. -/
import Derived.Test.YtjmbhknokobnpaaWireN
import Derived.Test.YtjmbhknokobnpaaItemB
import Derived.Deep.RegionHeld3
set_option linter.unusedVariables false
set_option linter.unusedSimpArgs false
namespace Go.Kn
open Go Go.RowKit
/-- an op -/
structure Op5 where
  k : Int
  b : Int
  c : Int
  e : Int
  data : List UInt8
def opZero : Op5 := ⟨0, 0, 0, 0, []⟩
def opOf (f : Fr) : Option Op5 := if frMay f = true ∧ f.k ≠ 8 ∧ f.k ≠ 9 then some ⟨f.k, f.b, f.c, f.e, f.data⟩ else none
/-- what a call answers that gives an op, or none -/
def OpSays (w : World) (o : Option Op5) (e : Ending) (w' : World) : Prop :=
  ∃ A n c, e = .returned (.tuple #[.agg #[.int .i64 (o.getD opZero).k, .int .i64 (o.getD opZero).b, .int .i64 (o.getD opZero).c, .int .i64 (o.getD opZero).e, .slice A n c], .bool o.isSome]) ∧ Bys w' A n c (o.getD opZero).data ∧ Only [] w w'
theorem OpSays.no {w w' : World} {o : Option Op5} (h : o = none) (hO : Only [] w w') : OpSays w o (.returned (.tuple #[.agg #[.int .i64 0, .int .i64 0, .int .i64 0, .int .i64 0, .slice none 0 0], .bool false])) w' := by
  subst h
  exact ⟨none, 0, 0, rfl, Row1.nil _, hO⟩
end Go.Kn
namespace Go.Proofs.Ytjmbhknokobnpaa
open Go Go.RowKit Go.Kn

set_option maxRecDepth 100000 in
set_option maxHeartbeats 8000000 in
theorem frame_op_any (k v s b c e d : Int) (A : Option Addr) (n cp : Nat) (xs : List UInt8) (w : World) (hi : Bys w A n cp xs) :
    Calls Try.prog 53 #[.agg #[.int .i64 k, .int .i64 v, .int .i64 s, .int .i64 b, .int .i64 c, .int .i64 e, .int .i64 d, .slice A n cp]] w (OpSays w (opOf ⟨k, v, s, b, c, e, d, xs⟩)) := by
  have hlen := hi.len
  rw [bvs_length] at hlen
  have hres : Try.f53.results = #[.cell 2 78, .tmp 3] := by kernel_rfl
  have HRES := Lib.hid hres
  have HI := Lib.hid hi
  clear hres hi
  by_cases hok : frMay ⟨k, v, s, b, c, e, d, xs⟩ = true ∧ k ≠ 8 ∧ k ≠ 9
  · obtain ⟨hm, h8, h9⟩ := hok
    have HOP : Hid (opOf ⟨k, v, s, b, c, e, d, xs⟩ = some ⟨k, b, c, e, xs⟩) := Lib.hid (by unfold opOf; rw [if_pos ⟨hm, h8, h9⟩])
    have hbd := (frMay_bounds hm).2.2.2.2.2.2.2
    dsimp only at hbd
    have hnb : n ≤ 1000000 := by omega
    have q8 : (k == 8) = false := by simpa using h8
    have q9 : (k == 9) = false := by simpa using h9
    have HM := Lib.hid hm
    have HL := Lib.hid hlen
    clear hm h8 h9 hbd hlen
    go_enter Try.func53, Try.ntmps53
    go_wp2_with fail
    refine (frame_may_any k v s b c e d A n cp xs _ (by exact (HI.out.alloc _).alloc _)).mono ?_
    rintro en w1 ⟨rfl, hO1⟩
    rw [HM.out]
    have hs1 : (w.alloc (.cells #[.int .i64 k, .int .i64 v, .int .i64 s, .int .i64 b, .int .i64 c, .int .i64 e, .int .i64 d, .slice A n cp] 64)).heap.size = w.heap.size + 1 := by simp
    have HBX := ((Boxes.nil w).new #[.int .i64 k, .int .i64 v, .int .i64 s, .int .i64 b, .int .i64 c, .int .i64 e, .int .i64 d, .slice A n cp] 64).new #[.int .i64 0, .int .i64 0, .int .i64 0, .int .i64 0, .slice none 0 0] 78
    rw [hs1] at HBX
    have hbx := HBX.keep0 hO1
    have b1 := hbx (w.heap.size, [.int .i64 k, .int .i64 v, .int .i64 s, .int .i64 b, .int .i64 c, .int .i64 e, .int .i64 d, .slice A n cp]) (by simp)
    have b2 := hbx (w.heap.size + 1, [.int .i64 0, .int .i64 0, .int .i64 0, .int .i64 0, .slice none 0 0]) (by simp)
    have HB2 := Lib.hid b2
    have x0 : w1.cell? ⟨w.heap.size, 0, none⟩ = some (.int .i64 k) := b1.cell 0 (by simp)
    have x3 : w1.cell? ⟨w.heap.size, 3, none⟩ = some (.int .i64 b) := b1.cell 3 (by simp)
    have x4 : w1.cell? ⟨w.heap.size, 4, none⟩ = some (.int .i64 c) := b1.cell 4 (by simp)
    have x5 : w1.cell? ⟨w.heap.size, 5, none⟩ = some (.int .i64 e) := b1.cell 5 (by simp)
    have x7 : w1.cell? ⟨w.heap.size, 7, none⟩ = some (.slice A n cp) := b1.cell 7 (by simp)
    have HO1 := Lib.hid ((((Only.refl [] w).alloc (.cells #[.int .i64 k, .int .i64 v, .int .i64 s, .int .i64 b, .int .i64 c, .int .i64 e, .int .i64 d, .slice A n cp] 64)).alloc (.cells #[.int .i64 0, .int .i64 0, .int .i64 0, .int .i64 0, .slice none 0 0] 78)).trans' hO1)
    have HI1 := Lib.hid (((HI.out.alloc (.cells #[.int .i64 k, .int .i64 v, .int .i64 s, .int .i64 b, .int .i64 c, .int .i64 e, .int .i64 d, .slice A n cp] 64)).alloc (.cells #[.int .i64 0, .int .i64 0, .int .i64 0, .int .i64 0, .slice none 0 0] 78)).keep0 hO1)
    clear HBX hbx b1 b2 hO1 hs1
    have XD : Hid (w1.drew.cell? ⟨w.heap.size, 0, none⟩ = some (.int .i64 k) ∧ w1.drew.cell? ⟨w.heap.size, 3, none⟩ = some (.int .i64 b) ∧ w1.drew.cell? ⟨w.heap.size, 4, none⟩ = some (.int .i64 c) ∧ w1.drew.cell? ⟨w.heap.size, 5, none⟩ = some (.int .i64 e) ∧ w1.drew.cell? ⟨w.heap.size, 7, none⟩ = some (.slice A n cp)) := Lib.hid ⟨x0, x3, x4, x5, x7⟩
    have hne1 : ¬ (w.heap.size + 1 = w.heap.size) := by omega
    have hne2 : ¬ (w.heap.size = w.heap.size + 1) := by omega
    go_wp2_with fail
    go_region_held3 (fun w' => w'.cell? ⟨w.heap.size, 0, none⟩ = some (.int .i64 k) ∧ w'.cell? ⟨w.heap.size, 3, none⟩ = some (.int .i64 b) ∧ w'.cell? ⟨w.heap.size, 4, none⟩ = some (.int .i64 c) ∧ w'.cell? ⟨w.heap.size, 5, none⟩ = some (.int .i64 e) ∧ w'.cell? ⟨w.heap.size, 7, none⟩ = some (.slice A n cp))
      (first | with_reducible exact XD.out | with_reducible exact ⟨g0, g3, g4, g5, g7⟩ | go_keep)
      (first
      | (go_at_call 114; refine (clone_any A n cp xs _ (by exact HI1.out.drew) hnb).mono ?_
         rintro en w2 ⟨A2, c2, rfl, hc2, hm2, hpos2, hO2⟩
         have hO2' := ((Only.refl [] w1).drew).trans' hO2
         have g0 := hO2'.cell x0 (by simp)
         have g3 := hO2'.cell x3 (by simp)
         have g4 := hO2'.cell x4 (by simp)
         have g5 := hO2'.cell x5 (by simp)
         have g7 := hO2'.cell x7 (by simp)
         have HB3 := Lib.hid (HB2.out.keep0 hO2')
         have t0 : w2.cell? ⟨w.heap.size + 1, 0, none⟩ = some (.int .i64 0) := HB3.out.cell 0 (by simp)
         have t1 : w2.cell? ⟨w.heap.size + 1, 1, none⟩ = some (.int .i64 0) := HB3.out.cell 1 (by simp)
         have t2 : w2.cell? ⟨w.heap.size + 1, 2, none⟩ = some (.int .i64 0) := HB3.out.cell 2 (by simp)
         have t3 : w2.cell? ⟨w.heap.size + 1, 3, none⟩ = some (.int .i64 0) := HB3.out.cell 3 (by simp)
         have t4 : w2.cell? ⟨w.heap.size + 1, 4, none⟩ = some (.slice none 0 0) := HB3.out.cell 4 (by simp)
         have u0 := HB3.out.frozen 0
         have u1 := HB3.out.frozen 1
         have u2 := HB3.out.frozen 2
         have u3 := HB3.out.frozen 3
         have u4 := HB3.out.frozen 4
         have HBY := Lib.hid (made_row hc2 hm2 hpos2)
         have HPOS := Lib.hid hpos2
         have HO2 := Lib.hid (HO1.out.trans' hO2')
         have HLT := Lib.hid HB2.out.lt
         clear hO2 hO2' hc2 hm2 hpos2))
    go_wp2
    (try simp only [Exit.inBlock, Exit.then])
    refine bodyPost_ret (v := .tuple #[.agg #[.int .i64 k, .int .i64 b, .int .i64 c, .int .i64 e, .slice A2 xs.length c2], .bool true]) ?_ rfl ?_
    · simp only [results, HRES.out]
      go_simp
    · rw [HOP.out]
      refine ⟨A2, xs.length, c2, rfl, HBY.out.keepP (S := [w.heap.size + 1]) (((((Only.refl _ _).set (by simp) _).set (by simp) _).set (by simp) _).set (by simp) _ |>.set (by simp) _) ?_, ((((HO2.out.set (.inr (by simp)) _).set (.inr (by simp)) _).set (.inr (by simp)) _).set (.inr (by simp)) _).set (.inr (by simp)) _⟩
      intro h0 a ha
      obtain ⟨b9, rfl, hb9, _⟩ := HPOS.out h0
      injection ha with ha
      subst ha
      have := HLT.out
      have h1 : w1.drew.heap.size = w1.heap.size := rfl
      simp
      omega
  · have HOP : Hid (opOf ⟨k, v, s, b, c, e, d, xs⟩ = none) := Lib.hid (by unfold opOf; rw [if_neg hok])
    obtain ⟨mm, hmm⟩ : ∃ mm, frMay ⟨k, v, s, b, c, e, d, xs⟩ = mm := ⟨_, rfl⟩
    rw [hmm] at hok
    have HMM := Lib.hid hmm
    have HOK := Lib.hid hok
    clear hmm hok hlen
    have tail : ∀ (w1 : World), Only [] ((w.alloc (.cells #[.int .i64 k, .int .i64 v, .int .i64 s, .int .i64 b, .int .i64 c, .int .i64 e, .int .i64 d, .slice A n cp] 64)).alloc (.cells #[.int .i64 0, .int .i64 0, .int .i64 0, .int .i64 0, .slice none 0 0] 78)) w1 → True := fun _ _ => trivial
    have key : mm = false ∨ (mm = true ∧ k = 8) ∨ (mm = true ∧ k = 9) := by
      have := HOK.out
      cases mm
      · exact .inl rfl
      · by_cases h8 : k = 8
        · exact .inr (.inl ⟨rfl, h8⟩)
        · by_cases h9 : k = 9
          · exact .inr (.inr ⟨rfl, h9⟩)
          · exact absurd ⟨rfl, h8, h9⟩ this
    clear HOK tail
    rcases key with rfl | ⟨rfl, rfl⟩ | ⟨rfl, rfl⟩
    all_goals
      go_enter Try.func53, Try.ntmps53
      go_wp2_with fail
      refine (frame_may_any _ v s b c e d A n cp xs _ (by exact (HI.out.alloc _).alloc _)).mono ?_
      rintro en w1 ⟨rfl, hO1⟩
      rw [HMM.out]
      have hb0 := fun K => (((Boxes.nil w).new #[.int .i64 K, .int .i64 v, .int .i64 s, .int .i64 b, .int .i64 c, .int .i64 e, .int .i64 d, .slice A n cp] 64).new #[.int .i64 0, .int .i64 0, .int .i64 0, .int .i64 0, .slice none 0 0] 78)
      have hbx := (hb0 _).keep0 hO1
      have b1 := (hbx _ (List.mem_cons_of_mem _ (List.mem_cons_self ..)))
      have b2 := (hbx _ (List.mem_cons_self ..))
      have hs1 : ∀ K, (w.alloc (.cells #[.int .i64 K, .int .i64 v, .int .i64 s, .int .i64 b, .int .i64 c, .int .i64 e, .int .i64 d, .slice A n cp] 64)).heap.size = w.heap.size + 1 := by simp
      simp only [hs1] at b2
      have x0 := b1.cell 0 (by simp)
      have t0 := b2.cell 0 (by simp)
      have t1 := b2.cell 1 (by simp)
      have t2 := b2.cell 2 (by simp)
      have t3 := b2.cell 3 (by simp)
      have t4 := b2.cell 4 (by simp)
      simp only [List.getElem_cons_zero, List.getElem_cons_succ] at x0 t0 t1 t2 t3 t4
      have u0 := b2.frozen 0
      have u1 := b2.frozen 1
      have u2 := b2.frozen 2
      have u3 := b2.frozen 3
      have u4 := b2.frozen 4
      have HO1 := Lib.hid ((((Only.refl [] w).alloc _).alloc _).trans' hO1)
      clear hb0 hbx b1 b2 hs1 hO1
      go_wp2
      (try simp only [Exit.inBlock, Exit.then])
      refine bodyPost_ret (v := .tuple #[.agg #[.int .i64 0, .int .i64 0, .int .i64 0, .int .i64 0, .slice none 0 0], .bool false]) ?_ rfl ?_
      · simp only [results, HRES.out]
        go_simp
      · exact OpSays.no HOP.out (((((HO1.out.set (.inr (by simp)) _).set (.inr (by simp)) _).set (.inr (by simp)) _).set (.inr (by simp)) _).set (.inr (by simp)) _)
end Go.Proofs.Ytjmbhknokobnpaa
